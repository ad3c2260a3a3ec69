import Derived.Test.YtbflmeomkfjikaaM3
set_option linter.unusedVariables false
set_option linter.unusedSimpArgs false
set_option maxRecDepth 100000
namespace Go.Proofs.Ytbflmeomkfjikaa.A
open Go Go.RowKit Go.Shelf

abbrev num (n : Int) : PV := .s (.int .i64 n)
abbrev tru (b : Bool) : PV := .s (.bool b)
abbrev nt (n : Int) : TV := .v (.s (.int .i64 n))
abbrev jk : TV := .v .junk

theorem wrapped {x : Int} (h1 : -9223372036854775808 ≤ x) (h2 : x ≤ 9223372036854775807) : IntKind.wrap .i64 x = x := by
  simp [IntKind.wrap, IntKind.bits, IntKind.signed]
  omega

theorem ok50 : Ok Try.prog 50 [] (.agg [num 0, num 0, tru true]) := by
  refine ok_fn mixed Try.func50 (code := ?_) (h := h50) ?_ k50 ?_
  rotate_left
  · exact rfl
  unfold h50 initS
  simp -implicitDefEqProofs only [rkA, stepA, valA, storeA, ldA, fieldAddrA, fieldA, idxAddrA, idxA, idxArr, lenA, unA, binA, num2, binV, eqA, rowOf, PV.cells, PV.cell, bndA, appA, reduceIte, reduceCtorEq, Nat.reduceAdd, Nat.reduceSub, Nat.reduceEqDiff, Nat.reduceLeDiff, Nat.reduceLT, Nat.reduceMul, Nat.reduceBEq, Nat.reduceBNe, Int.reduceToNat, Int.reduceLE, Int.reduceLT, allocX, setPs, extremeA, ints, resAll, rinfOk, packR, Try.ntmps50, Try.results50]

theorem ok55 (n : Int) : Ok Try.prog 55 [num n] (tru (decide (1 ≤ n ∧ n ≤ 16))) := by
  refine ok_fn mixed Try.func55 (code := ?_) (h := h55) ?_ k55 ?_
  rotate_left
  · exact rfl
  unfold h55 initS
  simp -implicitDefEqProofs only [rkA, stepA, valA, storeA, ldA, fieldAddrA, fieldA, idxAddrA, idxA, idxArr, lenA, unA, binA, num2, binV, eqA, rowOf, PV.cells, PV.cell, bndA, appA, reduceIte, reduceCtorEq, Nat.reduceAdd, Nat.reduceSub, Nat.reduceEqDiff, Nat.reduceLeDiff, Nat.reduceLT, Nat.reduceMul, Nat.reduceBEq, Nat.reduceBNe, Int.reduceToNat, Int.reduceLE, Int.reduceLT, allocX, setPs, extremeA, ints, resAll, rinfOk, packR, Try.ntmps55, Try.results55]
  repeat' (refine gB_dec ?_ ?_ <;> intro hc <;> first | (exfalso; omega) | simp -implicitDefEqProofs only [hc, rkA, stepA, valA, storeA, ldA, fieldAddrA, fieldA, idxAddrA, idxA, idxArr, lenA, unA, binA, num2, binV, eqA, rowOf, PV.cells, PV.cell, bndA, appA, reduceIte, reduceCtorEq, Nat.reduceAdd, Nat.reduceSub, Nat.reduceEqDiff, Nat.reduceLeDiff, Nat.reduceLT, Nat.reduceMul, Nat.reduceBEq, Nat.reduceBNe, Int.reduceToNat, Int.reduceLE, Int.reduceLT, allocX, setPs, extremeA, ints, resAll, rinfOk, packR])

theorem ok51 (a b : Int) (ha : -9223372036854775807 ≤ a ∧ a ≤ 9223372036854775807) (hb : -9223372036854775807 ≤ b ∧ b ≤ 9223372036854775807) : Ok Try.prog 51 [num a, num b] (num (Int.gcd a b)) := by
  refine ok_fn mixed Try.func51 (code := ?_) (h := h51) ?_ k51 ?_
  rotate_left
  · exact rfl
  unfold h51 initS
  simp -implicitDefEqProofs only [rkA, stepA, valA, storeA, ldA, fieldAddrA, fieldA, idxAddrA, idxA, idxArr, lenA, unA, binA, num2, binV, eqA, rowOf, PV.cells, PV.cell, bndA, appA, reduceIte, reduceCtorEq, Nat.reduceAdd, Nat.reduceSub, Nat.reduceEqDiff, Nat.reduceLeDiff, Nat.reduceLT, Nat.reduceMul, Nat.reduceBEq, Nat.reduceBNe, Int.reduceToNat, Int.reduceLE, Int.reduceLT, allocX, setPs, extremeA, ints, resAll, rinfOk, packR, Try.ntmps51, Try.results51]
  simp -implicitDefEqProofs only [wrapped (x := 0 - a) (by omega) (by omega), wrapped (x := 0 - b) (by omega) (by omega), rkA, stepA, valA, storeA, ldA, fieldAddrA, fieldA, idxAddrA, idxA, idxArr, lenA, unA, binA, num2, binV, eqA, rowOf, PV.cells, PV.cell, bndA, appA, reduceIte, reduceCtorEq, Nat.reduceAdd, Nat.reduceSub, Nat.reduceEqDiff, Nat.reduceLeDiff, Nat.reduceLT, Nat.reduceMul, Nat.reduceBEq, Nat.reduceBNe, Int.reduceToNat, Int.reduceLE, Int.reduceLT, allocX, setPs, extremeA, ints, resAll, rinfOk, packR]
  have ea : (if a < 0 - a then 0 - a else a) = (a.natAbs : Int) := by split <;> omega
  have eb : (if b < 0 - b then 0 - b else b) = (b.natAbs : Int) := by split <;> omega
  simp only [ea, eb]
  refine wp_loop (fun m s => ∃ x y : Nat, y = m ∧ Nat.gcd x y = Int.gcd a b ∧ s = ⟨[nt x, nt y, jk, jk, jk, jk, jk, jk, jk, jk, jk, jk, jk, jk, jk, jk, jk, jk, jk, jk], [], [], [], [], 0, nomem⟩) b.natAbs ?_ ?_
  · simp -implicitDefEqProofs only [rkA, stepA, valA, storeA, ldA, fieldAddrA, fieldA, idxAddrA, idxA, idxArr, lenA, unA, binA, num2, binV, eqA, rowOf, PV.cells, PV.cell, bndA, appA, reduceIte, reduceCtorEq, Nat.reduceAdd, Nat.reduceSub, Nat.reduceEqDiff, Nat.reduceLeDiff, Nat.reduceLT, Nat.reduceMul, Nat.reduceBEq, Nat.reduceBNe, Int.reduceToNat, Int.reduceLE, Int.reduceLT, allocX, setPs, extremeA, ints, resAll, rinfOk, packR]
    exact ⟨a.natAbs, b.natAbs, rfl, rfl, rfl⟩
  rintro m s ⟨x, y, rfl, hg, rfl⟩
  simp -implicitDefEqProofs only [rkA, stepA, valA, storeA, ldA, fieldAddrA, fieldA, idxAddrA, idxA, idxArr, lenA, unA, binA, num2, binV, eqA, rowOf, PV.cells, PV.cell, bndA, appA, reduceIte, reduceCtorEq, Nat.reduceAdd, Nat.reduceSub, Nat.reduceEqDiff, Nat.reduceLeDiff, Nat.reduceLT, Nat.reduceMul, Nat.reduceBEq, Nat.reduceBNe, Int.reduceToNat, Int.reduceLE, Int.reduceLT, allocX, setPs, extremeA, ints, resAll, rinfOk, packR]
  refine gB_dec ?_ ?_ <;> intro hy <;> simp -implicitDefEqProofs only [hy, rkA, stepA, valA, storeA, ldA, fieldAddrA, fieldA, idxAddrA, idxA, idxArr, lenA, unA, binA, num2, binV, eqA, rowOf, PV.cells, PV.cell, bndA, appA, reduceIte, reduceCtorEq, Nat.reduceAdd, Nat.reduceSub, Nat.reduceEqDiff, Nat.reduceLeDiff, Nat.reduceLT, Nat.reduceMul, Nat.reduceBEq, Nat.reduceBNe, Int.reduceToNat, Int.reduceLE, Int.reduceLT, allocX, setPs, extremeA, ints, resAll, rinfOk, packR]
  · have hy0 : (y : Int) ≠ 0 := by omega
    simp -implicitDefEqProofs only [hy0, rkA, stepA, valA, storeA, ldA, fieldAddrA, fieldA, idxAddrA, idxA, idxArr, lenA, unA, binA, num2, binV, eqA, rowOf, PV.cells, PV.cell, bndA, appA, reduceIte, reduceCtorEq, Nat.reduceAdd, Nat.reduceSub, Nat.reduceEqDiff, Nat.reduceLeDiff, Nat.reduceLT, Nat.reduceMul, Nat.reduceBEq, Nat.reduceBNe, Int.reduceToNat, Int.reduceLE, Int.reduceLT, allocX, setPs, extremeA, ints, resAll, rinfOk, packR]
    refine loopK_of (m' := x % y) (Nat.mod_lt _ (by omega)) ?_
    simp -implicitDefEqProofs only [rkA, stepA, valA, storeA, ldA, fieldAddrA, fieldA, idxAddrA, idxA, idxArr, lenA, unA, binA, num2, binV, eqA, rowOf, PV.cells, PV.cell, bndA, appA, reduceIte, reduceCtorEq, Nat.reduceAdd, Nat.reduceSub, Nat.reduceEqDiff, Nat.reduceLeDiff, Nat.reduceLT, Nat.reduceMul, Nat.reduceBEq, Nat.reduceBNe, Int.reduceToNat, Int.reduceLE, Int.reduceLT, allocX, setPs, extremeA, ints, resAll, rinfOk, packR]
    refine ⟨y, x % y, rfl, ?_, ?_⟩
    · rw [← hg, Nat.gcd_comm y, ← Nat.gcd_rec, Nat.gcd_comm]
    · simp [nt, jk, Int.tmod_eq_emod_of_nonneg]
  · have : y = 0 := by omega
    subst this
    simp at hg
    simp [hg]

/-! ### Fractions -/
structure Fr where
  n : Int
  d : Int
  bad : Bool
  deriving DecidableEq

abbrev frV (x : Fr) : PV := .agg [num x.n, num x.d, tru x.bad]
abbrev Fr.wrong : Fr := ⟨0, 0, true⟩
def newF (n d : Int) : Fr :=
  if n > 1152921504606846976 ∨ n < -1152921504606846976 ∨ d > 1152921504606846976 ∨ d < -1152921504606846976 ∨ d = 0 then .wrong else
    let m : Int := if d < 0 then -n else n
    let e : Int := if d < 0 then -d else d
    let k : Int := Int.gcd m e
    if m.tdiv k > 1073741824 ∨ m.tdiv k < -1073741824 ∨ e.tdiv k > 1073741824 then .wrong else ⟨m.tdiv k, e.tdiv k, false⟩

theorem tdiv_small {m k : Int} (h1 : -1152921504606846976 ≤ m) (h2 : m ≤ 1152921504606846976) (hk : 0 < k) : -1152921504606846976 ≤ m.tdiv k ∧ m.tdiv k ≤ 1152921504606846976 := by
  have e : (m.tdiv k).natAbs = m.natAbs / k.natAbs := Int.natAbs_tdiv m k
  have h3 : m.natAbs / k.natAbs ≤ m.natAbs := Nat.div_le_self _ _
  omega

theorem ok27 (n d : Int) : Ok Try.prog 27 [num n, num d] (frV (newF n d)) := by
  by_cases hbad : n > 1152921504606846976 ∨ n < -1152921504606846976 ∨ d > 1152921504606846976 ∨ d < -1152921504606846976 ∨ d = 0
  · have e : newF n d = .wrong := by unfold newF; rw [if_pos hbad]
    rw [e]
    refine ok_fn mixed Try.func27 (code := ?_) (h := h27) ?_ k27 ?_
    rotate_left
    · exact rfl
    unfold h27 initS
    simp -implicitDefEqProofs only [rkA, stepA, valA, storeA, ldA, fieldAddrA, fieldA, idxAddrA, idxA, idxArr, lenA, unA, binA, num2, binV, eqA, rowOf, PV.cells, PV.cell, bndA, appA, reduceIte, reduceCtorEq, Nat.reduceAdd, Nat.reduceSub, Nat.reduceEqDiff, Nat.reduceLeDiff, Nat.reduceLT, Nat.reduceMul, Nat.reduceBEq, Nat.reduceBNe, Int.reduceToNat, Int.reduceLE, Int.reduceLT, allocX, setPs, extremeA, ints, resAll, rinfOk, packR, Try.ntmps27, Try.results27]
    repeat' (refine gB_dec ?_ ?_ <;> intro hc <;> first | (exfalso; omega) | simp -implicitDefEqProofs only [hc, rkA, stepA, valA, storeA, ldA, fieldAddrA, fieldA, idxAddrA, idxA, idxArr, lenA, unA, binA, num2, binV, eqA, rowOf, PV.cells, PV.cell, bndA, appA, reduceIte, reduceCtorEq, Nat.reduceAdd, Nat.reduceSub, Nat.reduceEqDiff, Nat.reduceLeDiff, Nat.reduceLT, Nat.reduceMul, Nat.reduceBEq, Nat.reduceBNe, Int.reduceToNat, Int.reduceLE, Int.reduceLT, allocX, setPs, extremeA, ints, resAll, rinfOk, packR])
    all_goals (refine call_fn rfl rfl rfl (ok50) ?_; simp -implicitDefEqProofs only [rkA, stepA, valA, storeA, ldA, fieldAddrA, fieldA, idxAddrA, idxA, idxArr, lenA, unA, binA, num2, binV, eqA, rowOf, PV.cells, PV.cell, bndA, appA, reduceIte, reduceCtorEq, Nat.reduceAdd, Nat.reduceSub, Nat.reduceEqDiff, Nat.reduceLeDiff, Nat.reduceLT, Nat.reduceMul, Nat.reduceBEq, Nat.reduceBNe, Int.reduceToNat, Int.reduceLE, Int.reduceLT, allocX, setPs, extremeA, ints, resAll, rinfOk, packR])
  · have e1 : ¬ n > 1152921504606846976 := fun h => hbad (.inl h)
    have e2 : ¬ n < -1152921504606846976 := fun h => hbad (.inr (.inl h))
    have e3 : ¬ d > 1152921504606846976 := fun h => hbad (.inr (.inr (.inl h)))
    have e4 : ¬ d < -1152921504606846976 := fun h => hbad (.inr (.inr (.inr (.inl h))))
    have e5 : ¬ d = 0 := fun h => hbad (.inr (.inr (.inr (.inr h))))
    have e6 : (d == 0) = false := by simpa using e5
    have key : ∀ m e : Int, (-1152921504606846976 ≤ m ∧ m ≤ 1152921504606846976) → (0 < e ∧ e ≤ 1152921504606846976) → (if d < 0 then -n else n) = m → (if d < 0 then -d else d) = e → Ok Try.prog 27 [num n, num d] (frV (newF n d)) := by
      intro m e hm he em ee
      have hk : 0 < (Int.gcd m e : Int) := by
        have : 0 < Int.gcd m e := Int.gcd_pos_of_ne_zero_right _ (by omega)
        omega
      have hk0 : ((Int.gcd m e : Int) = 0) = False := by simp; omega
      have hq : newF n d = if m.tdiv (Int.gcd m e) > 1073741824 ∨ m.tdiv (Int.gcd m e) < -1073741824 ∨ e.tdiv (Int.gcd m e) > 1073741824 then .wrong else ⟨m.tdiv (Int.gcd m e), e.tdiv (Int.gcd m e), false⟩ := by
        unfold newF
        rw [if_neg hbad]
        simp only [em, ee]
      have w1 := tdiv_small (m := m) (k := Int.gcd m e) hm.1 hm.2 hk
      have w2 := tdiv_small (m := e) (k := Int.gcd m e) (by omega) he.2 hk
      have v1 := wrapped (x := m.tdiv (Int.gcd m e)) (by omega) (by omega)
      have v2 := wrapped (x := e.tdiv (Int.gcd m e)) (by omega) (by omega)
      have h40 := ok51 m e (by omega) (by omega)
      refine ok_fn mixed Try.func27 (code := ?_) (h := h27) ?_ k27 ?_
      rotate_left
      · exact rfl
      unfold h27 initS
      simp -implicitDefEqProofs only [rkA, stepA, valA, storeA, ldA, fieldAddrA, fieldA, idxAddrA, idxA, idxArr, lenA, unA, binA, num2, binV, eqA, rowOf, PV.cells, PV.cell, bndA, appA, reduceIte, reduceCtorEq, Nat.reduceAdd, Nat.reduceSub, Nat.reduceEqDiff, Nat.reduceLeDiff, Nat.reduceLT, Nat.reduceMul, Nat.reduceBEq, Nat.reduceBNe, Int.reduceToNat, Int.reduceLE, Int.reduceLT, allocX, setPs, extremeA, ints, resAll, rinfOk, packR, Try.ntmps27, Try.results27]
      simp -implicitDefEqProofs only [e1, e2, e3, e4, e6, rkA, stepA, valA, storeA, ldA, fieldAddrA, fieldA, idxAddrA, idxA, idxArr, lenA, unA, binA, num2, binV, eqA, rowOf, PV.cells, PV.cell, bndA, appA, reduceIte, reduceCtorEq, Nat.reduceAdd, Nat.reduceSub, Nat.reduceEqDiff, Nat.reduceLeDiff, Nat.reduceLT, Nat.reduceMul, Nat.reduceBEq, Nat.reduceBNe, Int.reduceToNat, Int.reduceLE, Int.reduceLT, allocX, setPs, extremeA, ints, resAll, rinfOk, packR]
      refine gB_dec ?_ ?_ <;> intro hd
      · rw [if_pos hd] at em ee
        have wn : IntKind.wrap .i64 (0 - n) = m := by rw [wrapped (by omega) (by omega)]; omega
        have wd : IntKind.wrap .i64 (0 - d) = e := by rw [wrapped (by omega) (by omega)]; omega
        simp -implicitDefEqProofs only [hd, wn, wd, rkA, stepA, valA, storeA, ldA, fieldAddrA, fieldA, idxAddrA, idxA, idxArr, lenA, unA, binA, num2, binV, eqA, rowOf, PV.cells, PV.cell, bndA, appA, reduceIte, reduceCtorEq, Nat.reduceAdd, Nat.reduceSub, Nat.reduceEqDiff, Nat.reduceLeDiff, Nat.reduceLT, Nat.reduceMul, Nat.reduceBEq, Nat.reduceBNe, Int.reduceToNat, Int.reduceLE, Int.reduceLT, allocX, setPs, extremeA, ints, resAll, rinfOk, packR]
        refine call_fn rfl rfl rfl (h40) ?_
        simp -implicitDefEqProofs only [hk0, v1, v2, rkA, stepA, valA, storeA, ldA, fieldAddrA, fieldA, idxAddrA, idxA, idxArr, lenA, unA, binA, num2, binV, eqA, rowOf, PV.cells, PV.cell, bndA, appA, reduceIte, reduceCtorEq, Nat.reduceAdd, Nat.reduceSub, Nat.reduceEqDiff, Nat.reduceLeDiff, Nat.reduceLT, Nat.reduceMul, Nat.reduceBEq, Nat.reduceBNe, Int.reduceToNat, Int.reduceLE, Int.reduceLT, allocX, setPs, extremeA, ints, resAll, rinfOk, packR]
        repeat' (refine gB_dec ?_ ?_ <;> intro hc <;> first | (exfalso; omega) | simp -implicitDefEqProofs only [hc, rkA, stepA, valA, storeA, ldA, fieldAddrA, fieldA, idxAddrA, idxA, idxArr, lenA, unA, binA, num2, binV, eqA, rowOf, PV.cells, PV.cell, bndA, appA, reduceIte, reduceCtorEq, Nat.reduceAdd, Nat.reduceSub, Nat.reduceEqDiff, Nat.reduceLeDiff, Nat.reduceLT, Nat.reduceMul, Nat.reduceBEq, Nat.reduceBNe, Int.reduceToNat, Int.reduceLE, Int.reduceLT, allocX, setPs, extremeA, ints, resAll, rinfOk, packR])
        all_goals first
          | (have hr : newF n d = .wrong := by rw [hq]; exact if_pos (by omega)
             rw [hr]; refine call_fn rfl rfl rfl (ok50) ?_; simp -implicitDefEqProofs only [rkA, stepA, valA, storeA, ldA, fieldAddrA, fieldA, idxAddrA, idxA, idxArr, lenA, unA, binA, num2, binV, eqA, rowOf, PV.cells, PV.cell, bndA, appA, reduceIte, reduceCtorEq, Nat.reduceAdd, Nat.reduceSub, Nat.reduceEqDiff, Nat.reduceLeDiff, Nat.reduceLT, Nat.reduceMul, Nat.reduceBEq, Nat.reduceBNe, Int.reduceToNat, Int.reduceLE, Int.reduceLT, allocX, setPs, extremeA, ints, resAll, rinfOk, packR])
          | (have hr := hq; rw [if_neg (by omega)] at hr; rw [hr])
      · rw [if_neg hd] at em ee
        subst em ee
        simp -implicitDefEqProofs only [hd, rkA, stepA, valA, storeA, ldA, fieldAddrA, fieldA, idxAddrA, idxA, idxArr, lenA, unA, binA, num2, binV, eqA, rowOf, PV.cells, PV.cell, bndA, appA, reduceIte, reduceCtorEq, Nat.reduceAdd, Nat.reduceSub, Nat.reduceEqDiff, Nat.reduceLeDiff, Nat.reduceLT, Nat.reduceMul, Nat.reduceBEq, Nat.reduceBNe, Int.reduceToNat, Int.reduceLE, Int.reduceLT, allocX, setPs, extremeA, ints, resAll, rinfOk, packR]
        refine call_fn rfl rfl rfl (h40) ?_
        simp -implicitDefEqProofs only [hk0, v1, v2, rkA, stepA, valA, storeA, ldA, fieldAddrA, fieldA, idxAddrA, idxA, idxArr, lenA, unA, binA, num2, binV, eqA, rowOf, PV.cells, PV.cell, bndA, appA, reduceIte, reduceCtorEq, Nat.reduceAdd, Nat.reduceSub, Nat.reduceEqDiff, Nat.reduceLeDiff, Nat.reduceLT, Nat.reduceMul, Nat.reduceBEq, Nat.reduceBNe, Int.reduceToNat, Int.reduceLE, Int.reduceLT, allocX, setPs, extremeA, ints, resAll, rinfOk, packR]
        repeat' (refine gB_dec ?_ ?_ <;> intro hc <;> first | (exfalso; omega) | simp -implicitDefEqProofs only [hc, rkA, stepA, valA, storeA, ldA, fieldAddrA, fieldA, idxAddrA, idxA, idxArr, lenA, unA, binA, num2, binV, eqA, rowOf, PV.cells, PV.cell, bndA, appA, reduceIte, reduceCtorEq, Nat.reduceAdd, Nat.reduceSub, Nat.reduceEqDiff, Nat.reduceLeDiff, Nat.reduceLT, Nat.reduceMul, Nat.reduceBEq, Nat.reduceBNe, Int.reduceToNat, Int.reduceLE, Int.reduceLT, allocX, setPs, extremeA, ints, resAll, rinfOk, packR])
        all_goals first
          | (have hr : newF n d = .wrong := by rw [hq]; exact if_pos (by omega)
             rw [hr]; refine call_fn rfl rfl rfl (ok50) ?_; simp -implicitDefEqProofs only [rkA, stepA, valA, storeA, ldA, fieldAddrA, fieldA, idxAddrA, idxA, idxArr, lenA, unA, binA, num2, binV, eqA, rowOf, PV.cells, PV.cell, bndA, appA, reduceIte, reduceCtorEq, Nat.reduceAdd, Nat.reduceSub, Nat.reduceEqDiff, Nat.reduceLeDiff, Nat.reduceLT, Nat.reduceMul, Nat.reduceBEq, Nat.reduceBNe, Int.reduceToNat, Int.reduceLE, Int.reduceLT, allocX, setPs, extremeA, ints, resAll, rinfOk, packR])
          | (have hr := hq; rw [if_neg (by omega)] at hr; rw [hr])
    by_cases hd : d < 0
    · exact key (-n) (-d) (by omega) (by omega) (if_pos hd) (if_pos hd)
    · exact key n d (by omega) (by omega) (if_neg hd) (if_neg hd)
end Go.Proofs.Ytbflmeomkfjikaa.A

set_option linter.unusedVariables false
set_option linter.unusedSimpArgs false
set_option maxRecDepth 100000
namespace Go.Proofs.Ytbflmeomkfjikaa.A
open Go Go.RowKit Go.Shelf

def Fr.fine (x : Fr) : Bool := !x.bad && decide (x.d ≥ 1) && decide (x.d ≤ 1073741824) && decide (x.n ≤ 1073741824) && decide (x.n ≥ -1073741824) && (((newF x.n x.d).n == x.n) && (((newF x.n x.d).d == x.d) && (((newF x.n x.d).bad == x.bad) && true)))

theorem ok49 (x : Fr) : Ok Try.prog 49 [frV x] (tru x.fine) := by
  obtain ⟨n, d, b⟩ := x
  cases b with
  | true =>
    refine ok_fn mixed Try.func49 (code := ?_) (h := h49) ?_ k49 ?_
    rotate_left
    · exact rfl
    unfold h49 initS
    simp -implicitDefEqProofs only [rkA, stepA, valA, storeA, ldA, fieldAddrA, fieldA, idxAddrA, idxA, idxArr, lenA, unA, binA, num2, binV, eqA, rowOf, PV.cells, PV.cell, bndA, appA, reduceIte, reduceCtorEq, Nat.reduceAdd, Nat.reduceSub, Nat.reduceEqDiff, Nat.reduceLeDiff, Nat.reduceLT, Nat.reduceMul, Nat.reduceBEq, Nat.reduceBNe, Int.reduceToNat, Int.reduceLE, Int.reduceLT, allocX, setPs, extremeA, ints, resAll, rinfOk, packR, Try.ntmps49, Try.results49]
    simp [Fr.fine]
  | false =>
    refine ok_fn mixed Try.func49 (code := ?_) (h := h49) ?_ k49 ?_
    rotate_left
    · exact rfl
    unfold h49 initS
    simp -implicitDefEqProofs only [rkA, stepA, valA, storeA, ldA, fieldAddrA, fieldA, idxAddrA, idxA, idxArr, lenA, unA, binA, num2, binV, eqA, rowOf, PV.cells, PV.cell, bndA, appA, reduceIte, reduceCtorEq, Nat.reduceAdd, Nat.reduceSub, Nat.reduceEqDiff, Nat.reduceLeDiff, Nat.reduceLT, Nat.reduceMul, Nat.reduceBEq, Nat.reduceBNe, Int.reduceToNat, Int.reduceLE, Int.reduceLT, allocX, setPs, extremeA, ints, resAll, rinfOk, packR, Try.ntmps49, Try.results49]
    repeat' (refine gB_dec ?_ ?_ <;> intro hc <;> first | (exfalso; omega) | simp -implicitDefEqProofs only [hc, rkA, stepA, valA, storeA, ldA, fieldAddrA, fieldA, idxAddrA, idxA, idxArr, lenA, unA, binA, num2, binV, eqA, rowOf, PV.cells, PV.cell, bndA, appA, reduceIte, reduceCtorEq, Nat.reduceAdd, Nat.reduceSub, Nat.reduceEqDiff, Nat.reduceLeDiff, Nat.reduceLT, Nat.reduceMul, Nat.reduceBEq, Nat.reduceBNe, Int.reduceToNat, Int.reduceLE, Int.reduceLT, allocX, setPs, extremeA, ints, resAll, rinfOk, packR])
    · refine call_fn rfl rfl rfl (ok27 n d) ?_
      simp -implicitDefEqProofs only [cellsEq, rkA, stepA, valA, storeA, ldA, fieldAddrA, fieldA, idxAddrA, idxA, idxArr, lenA, unA, binA, num2, binV, eqA, rowOf, PV.cells, PV.cell, bndA, appA, reduceIte, reduceCtorEq, Nat.reduceAdd, Nat.reduceSub, Nat.reduceEqDiff, Nat.reduceLeDiff, Nat.reduceLT, Nat.reduceMul, Nat.reduceBEq, Nat.reduceBNe, Int.reduceToNat, Int.reduceLE, Int.reduceLT, allocX, setPs, extremeA, ints, resAll, rinfOk, packR]
      simp [Fr.fine, *]
    all_goals simp [Fr.fine, *]

theorem prod_le {x y : Int} (hx : -1073741824 ≤ x ∧ x ≤ 1073741824) (hy : -1073741824 ≤ y ∧ y ≤ 1073741824) : -1152921504606846976 ≤ x * y ∧ x * y ≤ 1152921504606846976 := by
  have e : (x * y).natAbs = x.natAbs * y.natAbs := Int.natAbs_mul x y
  have h : x.natAbs * y.natAbs ≤ 1073741824 * 1073741824 := Nat.mul_le_mul (by omega) (by omega)
  omega

theorem Fr.fine_spec {x : Fr} (h : x.fine = true) : x.bad = false ∧ 1 ≤ x.d ∧ x.d ≤ 1073741824 ∧ x.n ≤ 1073741824 ∧ -1073741824 ≤ x.n := by
  simp only [Fr.fine, Bool.and_eq_true, Bool.not_eq_true', decide_eq_true_eq] at h
  exact ⟨h.1.1.1.1.1, by omega, by omega, by omega, by omega⟩

theorem tdiv_le {m k : Int} (hk : 0 < k) : (m.tdiv k).natAbs ≤ m.natAbs := by
  have e : (m.tdiv k).natAbs = m.natAbs / k.natAbs := Int.natAbs_tdiv m k
  rw [e]
  exact Nat.div_le_self _ _

def addF (a b : Fr) : Fr :=
  if a.fine = false ∨ b.fine = false then .wrong else
    newF ((a.n * b.d + b.n * a.d).tdiv (Int.gcd (a.n * b.d + b.n * a.d) (a.d * b.d))) ((a.d * b.d).tdiv (Int.gcd (a.n * b.d + b.n * a.d) (a.d * b.d)))

theorem ok81 (a b : Fr) : Ok Try.prog 81 [frV a, frV b] (frV (addF a b)) := by
  have ha := ok49 a
  have hb := ok49 b
  refine ok_fn mixed Try.func81 (code := ?_) (h := h81) ?_ k81 ?_
  rotate_left
  · exact rfl
  unfold h81 initS
  simp -implicitDefEqProofs only [rkA, stepA, valA, storeA, ldA, fieldAddrA, fieldA, idxAddrA, idxA, idxArr, lenA, unA, binA, num2, binV, eqA, rowOf, PV.cells, PV.cell, bndA, appA, reduceIte, reduceCtorEq, Nat.reduceAdd, Nat.reduceSub, Nat.reduceEqDiff, Nat.reduceLeDiff, Nat.reduceLT, Nat.reduceMul, Nat.reduceBEq, Nat.reduceBNe, Int.reduceToNat, Int.reduceLE, Int.reduceLT, allocX, setPs, extremeA, ints, resAll, rinfOk, packR, Try.ntmps81, Try.results81]
  refine call_fn rfl rfl rfl (ha) ?_
  cases hfa : a.fine with
  | false =>
    simp -implicitDefEqProofs only [rkA, stepA, valA, storeA, ldA, fieldAddrA, fieldA, idxAddrA, idxA, idxArr, lenA, unA, binA, num2, binV, eqA, rowOf, PV.cells, PV.cell, bndA, appA, reduceIte, reduceCtorEq, Nat.reduceAdd, Nat.reduceSub, Nat.reduceEqDiff, Nat.reduceLeDiff, Nat.reduceLT, Nat.reduceMul, Nat.reduceBEq, Nat.reduceBNe, Int.reduceToNat, Int.reduceLE, Int.reduceLT, allocX, setPs, extremeA, ints, resAll, rinfOk, packR]
    refine call_fn rfl rfl rfl (ok50) ?_
    have e : addF a b = .wrong := by simp [addF, hfa]
    simp -implicitDefEqProofs only [e, rkA, stepA, valA, storeA, ldA, fieldAddrA, fieldA, idxAddrA, idxA, idxArr, lenA, unA, binA, num2, binV, eqA, rowOf, PV.cells, PV.cell, bndA, appA, reduceIte, reduceCtorEq, Nat.reduceAdd, Nat.reduceSub, Nat.reduceEqDiff, Nat.reduceLeDiff, Nat.reduceLT, Nat.reduceMul, Nat.reduceBEq, Nat.reduceBNe, Int.reduceToNat, Int.reduceLE, Int.reduceLT, allocX, setPs, extremeA, ints, resAll, rinfOk, packR]
  | true =>
    simp -implicitDefEqProofs only [rkA, stepA, valA, storeA, ldA, fieldAddrA, fieldA, idxAddrA, idxA, idxArr, lenA, unA, binA, num2, binV, eqA, rowOf, PV.cells, PV.cell, bndA, appA, reduceIte, reduceCtorEq, Nat.reduceAdd, Nat.reduceSub, Nat.reduceEqDiff, Nat.reduceLeDiff, Nat.reduceLT, Nat.reduceMul, Nat.reduceBEq, Nat.reduceBNe, Int.reduceToNat, Int.reduceLE, Int.reduceLT, allocX, setPs, extremeA, ints, resAll, rinfOk, packR]
    refine call_fn rfl rfl rfl (hb) ?_
    cases hfb : b.fine with
    | false =>
      simp -implicitDefEqProofs only [rkA, stepA, valA, storeA, ldA, fieldAddrA, fieldA, idxAddrA, idxA, idxArr, lenA, unA, binA, num2, binV, eqA, rowOf, PV.cells, PV.cell, bndA, appA, reduceIte, reduceCtorEq, Nat.reduceAdd, Nat.reduceSub, Nat.reduceEqDiff, Nat.reduceLeDiff, Nat.reduceLT, Nat.reduceMul, Nat.reduceBEq, Nat.reduceBNe, Int.reduceToNat, Int.reduceLE, Int.reduceLT, allocX, setPs, extremeA, ints, resAll, rinfOk, packR]
      refine call_fn rfl rfl rfl (ok50) ?_
      have e : addF a b = .wrong := by simp [addF, hfb]
      simp -implicitDefEqProofs only [e, rkA, stepA, valA, storeA, ldA, fieldAddrA, fieldA, idxAddrA, idxA, idxArr, lenA, unA, binA, num2, binV, eqA, rowOf, PV.cells, PV.cell, bndA, appA, reduceIte, reduceCtorEq, Nat.reduceAdd, Nat.reduceSub, Nat.reduceEqDiff, Nat.reduceLeDiff, Nat.reduceLT, Nat.reduceMul, Nat.reduceBEq, Nat.reduceBNe, Int.reduceToNat, Int.reduceLE, Int.reduceLT, allocX, setPs, extremeA, ints, resAll, rinfOk, packR]
    | true =>
      simp -implicitDefEqProofs only [rkA, stepA, valA, storeA, ldA, fieldAddrA, fieldA, idxAddrA, idxA, idxArr, lenA, unA, binA, num2, binV, eqA, rowOf, PV.cells, PV.cell, bndA, appA, reduceIte, reduceCtorEq, Nat.reduceAdd, Nat.reduceSub, Nat.reduceEqDiff, Nat.reduceLeDiff, Nat.reduceLT, Nat.reduceMul, Nat.reduceBEq, Nat.reduceBNe, Int.reduceToNat, Int.reduceLE, Int.reduceLT, allocX, setPs, extremeA, ints, resAll, rinfOk, packR]
      obtain ⟨a1, a2, a3, a4, a5⟩ := Fr.fine_spec hfa
      obtain ⟨b1, b2, b3, b4, b5⟩ := Fr.fine_spec hfb
      have p1 := prod_le (x := a.n) (y := b.d) ⟨a5, a4⟩ (by omega)
      have p2 := prod_le (x := b.n) (y := a.d) ⟨b5, b4⟩ (by omega)
      have p3 := prod_le (x := a.d) (y := b.d) (by omega) (by omega)
      have p4 : 0 < a.d * b.d := Int.mul_pos (by omega) (by omega)
      have w1 := wrapped (x := a.n * b.d) (by omega) (by omega)
      have w2 := wrapped (x := b.n * a.d) (by omega) (by omega)
      have w3 := wrapped (x := a.d * b.d) (by omega) (by omega)
      have w4 := wrapped (x := a.n * b.d + b.n * a.d) (by omega) (by omega)
      simp -implicitDefEqProofs only [w1, w2, w3, w4, rkA, stepA, valA, storeA, ldA, fieldAddrA, fieldA, idxAddrA, idxA, idxArr, lenA, unA, binA, num2, binV, eqA, rowOf, PV.cells, PV.cell, bndA, appA, reduceIte, reduceCtorEq, Nat.reduceAdd, Nat.reduceSub, Nat.reduceEqDiff, Nat.reduceLeDiff, Nat.reduceLT, Nat.reduceMul, Nat.reduceBEq, Nat.reduceBNe, Int.reduceToNat, Int.reduceLE, Int.reduceLT, allocX, setPs, extremeA, ints, resAll, rinfOk, packR]
      have e : addF a b = newF ((a.n * b.d + b.n * a.d).tdiv (Int.gcd (a.n * b.d + b.n * a.d) (a.d * b.d))) ((a.d * b.d).tdiv (Int.gcd (a.n * b.d + b.n * a.d) (a.d * b.d))) := by simp [addF, hfa, hfb]
      rw [e]
      have p5 : -2305843009213693952 ≤ a.n * b.d + b.n * a.d ∧ a.n * b.d + b.n * a.d ≤ 2305843009213693952 := by omega
      generalize a.n * b.d + b.n * a.d = m at *
      generalize a.d * b.d = q at *
      refine call_fn rfl rfl rfl (ok51 m q (by omega) (by omega)) ?_
      have hk : 0 < (Int.gcd m q : Int) := by
        have : 0 < Int.gcd m q := Int.gcd_pos_of_ne_zero_right _ (by omega)
        omega
      have hk0 : ((Int.gcd m q : Int) = 0) = False := by simp; omega
      have t1 := tdiv_le (m := m) (k := Int.gcd m q) hk
      have t2 := tdiv_le (m := q) (k := Int.gcd m q) hk
      have v1 := wrapped (x := m.tdiv (Int.gcd m q)) (by omega) (by omega)
      have v2 := wrapped (x := q.tdiv (Int.gcd m q)) (by omega) (by omega)
      simp -implicitDefEqProofs only [hk0, v1, v2, rkA, stepA, valA, storeA, ldA, fieldAddrA, fieldA, idxAddrA, idxA, idxArr, lenA, unA, binA, num2, binV, eqA, rowOf, PV.cells, PV.cell, bndA, appA, reduceIte, reduceCtorEq, Nat.reduceAdd, Nat.reduceSub, Nat.reduceEqDiff, Nat.reduceLeDiff, Nat.reduceLT, Nat.reduceMul, Nat.reduceBEq, Nat.reduceBNe, Int.reduceToNat, Int.reduceLE, Int.reduceLT, allocX, setPs, extremeA, ints, resAll, rinfOk, packR]
      refine call_fn rfl rfl rfl (ok27 _ _) ?_
      simp -implicitDefEqProofs only [rkA, stepA, valA, storeA, ldA, fieldAddrA, fieldA, idxAddrA, idxA, idxArr, lenA, unA, binA, num2, binV, eqA, rowOf, PV.cells, PV.cell, bndA, appA, reduceIte, reduceCtorEq, Nat.reduceAdd, Nat.reduceSub, Nat.reduceEqDiff, Nat.reduceLeDiff, Nat.reduceLT, Nat.reduceMul, Nat.reduceBEq, Nat.reduceBNe, Int.reduceToNat, Int.reduceLE, Int.reduceLT, allocX, setPs, extremeA, ints, resAll, rinfOk, packR]

def mulF (a b : Fr) : Fr := if a.fine = false ∨ b.fine = false then .wrong else newF (a.n * b.n) (a.d * b.d)
def negF (a : Fr) : Fr := if a.fine = false then .wrong else newF (-a.n) a.d
def subF (a b : Fr) : Fr := addF a (negF b)

theorem ok90 (a b : Fr) (ha : a.fine = true) (hb : b.fine = true) : Ok Try.prog 90 [.vp [num a.n, num a.d, tru a.bad], .vp [num b.n, num b.d, tru b.bad]] (.tup [num (a.n * b.n), num (a.d * b.d)]) := by
  obtain ⟨a1, a2, a3, a4, a5⟩ := Fr.fine_spec ha
  obtain ⟨b1, b2, b3, b4, b5⟩ := Fr.fine_spec hb
  have p1 := prod_le (x := a.n) (y := b.n) ⟨a5, a4⟩ (by omega)
  have p3 := prod_le (x := a.d) (y := b.d) (by omega) (by omega)
  have w1 := wrapped (x := a.n * b.n) (by omega) (by omega)
  have w3 := wrapped (x := a.d * b.d) (by omega) (by omega)
  refine ok_fn mixed Try.func90 (code := ?_) (h := h90) ?_ k90 ?_
  rotate_left
  · exact rfl
  unfold h90 initS
  simp -implicitDefEqProofs only [rkA, stepA, valA, storeA, ldA, fieldAddrA, fieldA, idxAddrA, idxA, idxArr, lenA, unA, binA, num2, binV, eqA, rowOf, PV.cells, PV.cell, bndA, appA, reduceIte, reduceCtorEq, Nat.reduceAdd, Nat.reduceSub, Nat.reduceEqDiff, Nat.reduceLeDiff, Nat.reduceLT, Nat.reduceMul, Nat.reduceBEq, Nat.reduceBNe, Int.reduceToNat, Int.reduceLE, Int.reduceLT, allocX, setPs, extremeA, ints, resAll, rinfOk, packR, Try.ntmps90, Try.results90]
  simp -implicitDefEqProofs only [w1, w3, rkA, stepA, valA, storeA, ldA, fieldAddrA, fieldA, idxAddrA, idxA, idxArr, lenA, unA, binA, num2, binV, eqA, rowOf, PV.cells, PV.cell, bndA, appA, reduceIte, reduceCtorEq, Nat.reduceAdd, Nat.reduceSub, Nat.reduceEqDiff, Nat.reduceLeDiff, Nat.reduceLT, Nat.reduceMul, Nat.reduceBEq, Nat.reduceBNe, Int.reduceToNat, Int.reduceLE, Int.reduceLT, allocX, setPs, extremeA, ints, resAll, rinfOk, packR]

theorem ok88 (a b : Fr) (k : Nat) (caps : List PV) (n d : Int) (h : a.fine = true → b.fine = true → Ok Try.prog k caps (.tup [num n, num d])) :
    Ok Try.prog 88 [frV a, frV b, .fn (.func k) caps] (frV (if a.fine = false ∨ b.fine = false then .wrong else newF n d)) := by
  refine ok_fn mixed Try.func88 (code := ?_) (h := h88) ?_ k88 ?_
  rotate_left
  · exact rfl
  unfold h88 initS
  simp -implicitDefEqProofs only [rkA, stepA, valA, storeA, ldA, fieldAddrA, fieldA, idxAddrA, idxA, idxArr, lenA, unA, binA, num2, binV, eqA, rowOf, PV.cells, PV.cell, bndA, appA, reduceIte, reduceCtorEq, Nat.reduceAdd, Nat.reduceSub, Nat.reduceEqDiff, Nat.reduceLeDiff, Nat.reduceLT, Nat.reduceMul, Nat.reduceBEq, Nat.reduceBNe, Int.reduceToNat, Int.reduceLE, Int.reduceLT, allocX, setPs, extremeA, ints, resAll, rinfOk, packR, Try.ntmps88, Try.results88]
  refine call_fn rfl rfl rfl (ok49 a) ?_
  cases hfa : a.fine with
  | false =>
    simp -implicitDefEqProofs only [rkA, stepA, valA, storeA, ldA, fieldAddrA, fieldA, idxAddrA, idxA, idxArr, lenA, unA, binA, num2, binV, eqA, rowOf, PV.cells, PV.cell, bndA, appA, reduceIte, reduceCtorEq, Nat.reduceAdd, Nat.reduceSub, Nat.reduceEqDiff, Nat.reduceLeDiff, Nat.reduceLT, Nat.reduceMul, Nat.reduceBEq, Nat.reduceBNe, Int.reduceToNat, Int.reduceLE, Int.reduceLT, allocX, setPs, extremeA, ints, resAll, rinfOk, packR]
    refine call_fn rfl rfl rfl (ok50) ?_
    simp -implicitDefEqProofs only [rkA, stepA, valA, storeA, ldA, fieldAddrA, fieldA, idxAddrA, idxA, idxArr, lenA, unA, binA, num2, binV, eqA, rowOf, PV.cells, PV.cell, bndA, appA, reduceIte, reduceCtorEq, Nat.reduceAdd, Nat.reduceSub, Nat.reduceEqDiff, Nat.reduceLeDiff, Nat.reduceLT, Nat.reduceMul, Nat.reduceBEq, Nat.reduceBNe, Int.reduceToNat, Int.reduceLE, Int.reduceLT, allocX, setPs, extremeA, ints, resAll, rinfOk, packR]
    simp
  | true =>
    simp -implicitDefEqProofs only [rkA, stepA, valA, storeA, ldA, fieldAddrA, fieldA, idxAddrA, idxA, idxArr, lenA, unA, binA, num2, binV, eqA, rowOf, PV.cells, PV.cell, bndA, appA, reduceIte, reduceCtorEq, Nat.reduceAdd, Nat.reduceSub, Nat.reduceEqDiff, Nat.reduceLeDiff, Nat.reduceLT, Nat.reduceMul, Nat.reduceBEq, Nat.reduceBNe, Int.reduceToNat, Int.reduceLE, Int.reduceLT, allocX, setPs, extremeA, ints, resAll, rinfOk, packR]
    refine call_fn rfl rfl rfl (ok49 b) ?_
    cases hfb : b.fine with
    | false =>
      simp -implicitDefEqProofs only [rkA, stepA, valA, storeA, ldA, fieldAddrA, fieldA, idxAddrA, idxA, idxArr, lenA, unA, binA, num2, binV, eqA, rowOf, PV.cells, PV.cell, bndA, appA, reduceIte, reduceCtorEq, Nat.reduceAdd, Nat.reduceSub, Nat.reduceEqDiff, Nat.reduceLeDiff, Nat.reduceLT, Nat.reduceMul, Nat.reduceBEq, Nat.reduceBNe, Int.reduceToNat, Int.reduceLE, Int.reduceLT, allocX, setPs, extremeA, ints, resAll, rinfOk, packR]
      refine call_fn rfl rfl rfl (ok50) ?_
      simp -implicitDefEqProofs only [rkA, stepA, valA, storeA, ldA, fieldAddrA, fieldA, idxAddrA, idxA, idxArr, lenA, unA, binA, num2, binV, eqA, rowOf, PV.cells, PV.cell, bndA, appA, reduceIte, reduceCtorEq, Nat.reduceAdd, Nat.reduceSub, Nat.reduceEqDiff, Nat.reduceLeDiff, Nat.reduceLT, Nat.reduceMul, Nat.reduceBEq, Nat.reduceBNe, Int.reduceToNat, Int.reduceLE, Int.reduceLT, allocX, setPs, extremeA, ints, resAll, rinfOk, packR]
      simp
    | true =>
      simp -implicitDefEqProofs only [rkA, stepA, valA, storeA, ldA, fieldAddrA, fieldA, idxAddrA, idxA, idxArr, lenA, unA, binA, num2, binV, eqA, rowOf, PV.cells, PV.cell, bndA, appA, reduceIte, reduceCtorEq, Nat.reduceAdd, Nat.reduceSub, Nat.reduceEqDiff, Nat.reduceLeDiff, Nat.reduceLT, Nat.reduceMul, Nat.reduceBEq, Nat.reduceBNe, Int.reduceToNat, Int.reduceLE, Int.reduceLT, allocX, setPs, extremeA, ints, resAll, rinfOk, packR]
      refine call_fn rfl rfl rfl (h hfa hfb) ?_
      simp -implicitDefEqProofs only [rkA, stepA, valA, storeA, ldA, fieldAddrA, fieldA, idxAddrA, idxA, idxArr, lenA, unA, binA, num2, binV, eqA, rowOf, PV.cells, PV.cell, bndA, appA, reduceIte, reduceCtorEq, Nat.reduceAdd, Nat.reduceSub, Nat.reduceEqDiff, Nat.reduceLeDiff, Nat.reduceLT, Nat.reduceMul, Nat.reduceBEq, Nat.reduceBNe, Int.reduceToNat, Int.reduceLE, Int.reduceLT, allocX, setPs, extremeA, ints, resAll, rinfOk, packR]
      refine call_fn rfl rfl rfl (ok27 n d) ?_
      simp -implicitDefEqProofs only [rkA, stepA, valA, storeA, ldA, fieldAddrA, fieldA, idxAddrA, idxA, idxArr, lenA, unA, binA, num2, binV, eqA, rowOf, PV.cells, PV.cell, bndA, appA, reduceIte, reduceCtorEq, Nat.reduceAdd, Nat.reduceSub, Nat.reduceEqDiff, Nat.reduceLeDiff, Nat.reduceLT, Nat.reduceMul, Nat.reduceBEq, Nat.reduceBNe, Int.reduceToNat, Int.reduceLE, Int.reduceLT, allocX, setPs, extremeA, ints, resAll, rinfOk, packR]
      simp

theorem ok83 (a b : Fr) : Ok Try.prog 83 [frV a, frV b] (frV (mulF a b)) := by
  refine ok_fn mixed Try.func83 (code := ?_) (h := h83) ?_ k83 ?_
  rotate_left
  · exact rfl
  unfold h83 initS
  simp -implicitDefEqProofs only [rkA, stepA, valA, storeA, ldA, fieldAddrA, fieldA, idxAddrA, idxA, idxArr, lenA, unA, binA, num2, binV, eqA, rowOf, PV.cells, PV.cell, bndA, appA, reduceIte, reduceCtorEq, Nat.reduceAdd, Nat.reduceSub, Nat.reduceEqDiff, Nat.reduceLeDiff, Nat.reduceLT, Nat.reduceMul, Nat.reduceBEq, Nat.reduceBNe, Int.reduceToNat, Int.reduceLE, Int.reduceLT, allocX, setPs, extremeA, ints, resAll, rinfOk, packR, Try.ntmps83, Try.results83]
  refine call_fn rfl rfl rfl (ok88 a b 90 _ _ _ (fun ha hb => ok90 a b ha hb)) ?_
  simp -implicitDefEqProofs only [rkA, stepA, valA, storeA, ldA, fieldAddrA, fieldA, idxAddrA, idxA, idxArr, lenA, unA, binA, num2, binV, eqA, rowOf, PV.cells, PV.cell, bndA, appA, reduceIte, reduceCtorEq, Nat.reduceAdd, Nat.reduceSub, Nat.reduceEqDiff, Nat.reduceLeDiff, Nat.reduceLT, Nat.reduceMul, Nat.reduceBEq, Nat.reduceBNe, Int.reduceToNat, Int.reduceLE, Int.reduceLT, allocX, setPs, extremeA, ints, resAll, rinfOk, packR]
  simp [mulF]

theorem ok91 (a : Fr) (ha : a.fine = true) : Ok Try.prog 91 [.vp [num a.n, num a.d, tru a.bad]] (.tup [num (-a.n), num a.d]) := by
  obtain ⟨a1, a2, a3, a4, a5⟩ := Fr.fine_spec ha
  have w1 : IntKind.wrap .i64 (0 - a.n) = -a.n := by rw [wrapped (by omega) (by omega)]; omega
  refine ok_fn mixed Try.func91 (code := ?_) (h := h91) ?_ k91 ?_
  rotate_left
  · exact rfl
  unfold h91 initS
  simp -implicitDefEqProofs only [rkA, stepA, valA, storeA, ldA, fieldAddrA, fieldA, idxAddrA, idxA, idxArr, lenA, unA, binA, num2, binV, eqA, rowOf, PV.cells, PV.cell, bndA, appA, reduceIte, reduceCtorEq, Nat.reduceAdd, Nat.reduceSub, Nat.reduceEqDiff, Nat.reduceLeDiff, Nat.reduceLT, Nat.reduceMul, Nat.reduceBEq, Nat.reduceBNe, Int.reduceToNat, Int.reduceLE, Int.reduceLT, allocX, setPs, extremeA, ints, resAll, rinfOk, packR, Try.ntmps91, Try.results91]
  simp -implicitDefEqProofs only [w1, rkA, stepA, valA, storeA, ldA, fieldAddrA, fieldA, idxAddrA, idxA, idxArr, lenA, unA, binA, num2, binV, eqA, rowOf, PV.cells, PV.cell, bndA, appA, reduceIte, reduceCtorEq, Nat.reduceAdd, Nat.reduceSub, Nat.reduceEqDiff, Nat.reduceLeDiff, Nat.reduceLT, Nat.reduceMul, Nat.reduceBEq, Nat.reduceBNe, Int.reduceToNat, Int.reduceLE, Int.reduceLT, allocX, setPs, extremeA, ints, resAll, rinfOk, packR]

theorem ok84 (a : Fr) : Ok Try.prog 84 [frV a] (frV (negF a)) := by
  refine ok_fn mixed Try.func84 (code := ?_) (h := h84) ?_ k84 ?_
  rotate_left
  · exact rfl
  unfold h84 initS
  simp -implicitDefEqProofs only [rkA, stepA, valA, storeA, ldA, fieldAddrA, fieldA, idxAddrA, idxA, idxArr, lenA, unA, binA, num2, binV, eqA, rowOf, PV.cells, PV.cell, bndA, appA, reduceIte, reduceCtorEq, Nat.reduceAdd, Nat.reduceSub, Nat.reduceEqDiff, Nat.reduceLeDiff, Nat.reduceLT, Nat.reduceMul, Nat.reduceBEq, Nat.reduceBNe, Int.reduceToNat, Int.reduceLE, Int.reduceLT, allocX, setPs, extremeA, ints, resAll, rinfOk, packR, Try.ntmps84, Try.results84]
  refine call_fn rfl rfl rfl (ok88 a a 91 _ _ _ (fun ha hb => ok91 a ha)) ?_
  simp -implicitDefEqProofs only [rkA, stepA, valA, storeA, ldA, fieldAddrA, fieldA, idxAddrA, idxA, idxArr, lenA, unA, binA, num2, binV, eqA, rowOf, PV.cells, PV.cell, bndA, appA, reduceIte, reduceCtorEq, Nat.reduceAdd, Nat.reduceSub, Nat.reduceEqDiff, Nat.reduceLeDiff, Nat.reduceLT, Nat.reduceMul, Nat.reduceBEq, Nat.reduceBNe, Int.reduceToNat, Int.reduceLE, Int.reduceLT, allocX, setPs, extremeA, ints, resAll, rinfOk, packR]
  simp [negF]

theorem ok87 (a b : Fr) : Ok Try.prog 87 [frV a, frV b] (frV (subF a b)) := by
  refine ok_fn mixed Try.func87 (code := ?_) (h := h87) ?_ k87 ?_
  rotate_left
  · exact rfl
  unfold h87 initS
  simp -implicitDefEqProofs only [rkA, stepA, valA, storeA, ldA, fieldAddrA, fieldA, idxAddrA, idxA, idxArr, lenA, unA, binA, num2, binV, eqA, rowOf, PV.cells, PV.cell, bndA, appA, reduceIte, reduceCtorEq, Nat.reduceAdd, Nat.reduceSub, Nat.reduceEqDiff, Nat.reduceLeDiff, Nat.reduceLT, Nat.reduceMul, Nat.reduceBEq, Nat.reduceBNe, Int.reduceToNat, Int.reduceLE, Int.reduceLT, allocX, setPs, extremeA, ints, resAll, rinfOk, packR, Try.ntmps87, Try.results87]
  refine call_fn rfl rfl rfl (ok84 b) ?_
  simp -implicitDefEqProofs only [rkA, stepA, valA, storeA, ldA, fieldAddrA, fieldA, idxAddrA, idxA, idxArr, lenA, unA, binA, num2, binV, eqA, rowOf, PV.cells, PV.cell, bndA, appA, reduceIte, reduceCtorEq, Nat.reduceAdd, Nat.reduceSub, Nat.reduceEqDiff, Nat.reduceLeDiff, Nat.reduceLT, Nat.reduceMul, Nat.reduceBEq, Nat.reduceBNe, Int.reduceToNat, Int.reduceLE, Int.reduceLT, allocX, setPs, extremeA, ints, resAll, rinfOk, packR]
  refine call_fn rfl rfl rfl (ok81 a (negF b)) ?_
  simp -implicitDefEqProofs only [rkA, stepA, valA, storeA, ldA, fieldAddrA, fieldA, idxAddrA, idxA, idxArr, lenA, unA, binA, num2, binV, eqA, rowOf, PV.cells, PV.cell, bndA, appA, reduceIte, reduceCtorEq, Nat.reduceAdd, Nat.reduceSub, Nat.reduceEqDiff, Nat.reduceLeDiff, Nat.reduceLT, Nat.reduceMul, Nat.reduceBEq, Nat.reduceBNe, Int.reduceToNat, Int.reduceLE, Int.reduceLT, allocX, setPs, extremeA, ints, resAll, rinfOk, packR]
  simp [subF]

theorem ok85 (a : Fr) (n : Int) : Ok Try.prog 85 [frV a, num n] (frV (newF n 1)) := by
  refine ok_fn mixed Try.func85 (code := ?_) (h := h85) ?_ k85 ?_
  rotate_left
  · exact rfl
  unfold h85 initS
  simp -implicitDefEqProofs only [rkA, stepA, valA, storeA, ldA, fieldAddrA, fieldA, idxAddrA, idxA, idxArr, lenA, unA, binA, num2, binV, eqA, rowOf, PV.cells, PV.cell, bndA, appA, reduceIte, reduceCtorEq, Nat.reduceAdd, Nat.reduceSub, Nat.reduceEqDiff, Nat.reduceLeDiff, Nat.reduceLT, Nat.reduceMul, Nat.reduceBEq, Nat.reduceBNe, Int.reduceToNat, Int.reduceLE, Int.reduceLT, allocX, setPs, extremeA, ints, resAll, rinfOk, packR, Try.ntmps85, Try.results85]
  refine call_fn rfl rfl rfl (ok27 n 1) ?_
  simp -implicitDefEqProofs only [rkA, stepA, valA, storeA, ldA, fieldAddrA, fieldA, idxAddrA, idxA, idxArr, lenA, unA, binA, num2, binV, eqA, rowOf, PV.cells, PV.cell, bndA, appA, reduceIte, reduceCtorEq, Nat.reduceAdd, Nat.reduceSub, Nat.reduceEqDiff, Nat.reduceLeDiff, Nat.reduceLT, Nat.reduceMul, Nat.reduceBEq, Nat.reduceBNe, Int.reduceToNat, Int.reduceLE, Int.reduceLT, allocX, setPs, extremeA, ints, resAll, rinfOk, packR]

/-! ### Whole numbers -/
abbrev whole (n : Int) : Fr := ⟨n, 1, false⟩
def few (n : Int) : Prop := -1073741824 ≤ n ∧ n ≤ 1073741824

theorem newF_whole {n : Int} (h : few n) : newF n 1 = whole n := by
  unfold newF few at *
  rw [if_neg (by omega)]
  simp only [Int.reduceLT, if_false, Int.gcd_one]
  rw [if_neg]
  · simp
  · simp; omega
theorem fine_whole {n : Int} (h : few n) : (whole n).fine = true := by
  have := newF_whole h
  simp only [Fr.fine, whole, this]
  unfold few at h
  simp
  omega
theorem addF_whole {a b : Int} (ha : few a) (hb : few b) (hs : few (a + b)) : addF (whole a) (whole b) = whole (a + b) := by
  unfold addF
  rw [fine_whole ha, fine_whole hb]
  simp [newF_whole hs]
theorem mulF_whole {a b : Int} (ha : few a) (hb : few b) (hs : few (a * b)) : mulF (whole a) (whole b) = whole (a * b) := by
  unfold mulF
  rw [fine_whole ha, fine_whole hb]
  simp [newF_whole hs]
theorem negF_whole {a : Int} (ha : few a) : negF (whole a) = whole (-a) := by
  unfold negF
  rw [fine_whole ha]
  have h2 : few (-a) := by unfold few at *; omega
  simp [newF_whole h2]
theorem subF_whole {a b : Int} (ha : few a) (hb : few b) (hs : few (a - b)) : subF (whole a) (whole b) = whole (a - b) := by
  unfold subF
  have h2 : few (-b) := by unfold few at *; omega
  rw [negF_whole hb, addF_whole ha h2 (by rwa [← Int.sub_eq_add_neg]), Int.sub_eq_add_neg]
end Go.Proofs.Ytbflmeomkfjikaa.A

set_option linter.unusedVariables false
set_option linter.unusedSimpArgs false
set_option maxRecDepth 100000
namespace Go.Proofs.Ytbflmeomkfjikaa.A
open Go Go.RowKit Go.Shelf

/-! ### Rows of fractions -/
abbrev frs (l : List Fr) : List PV := l.map frV

theorem fits_frs {k l : List Fr} (h : k.length + l.length ≤ 5864062014805) : fits 3 24 (frs k) (frs l) = true := by
  simp [fits, PV.cells, PV.ok, PV.cell, Value.oneCell']
  omega

theorem ok48 (ex : Bool) (l : List Fr) (h : l.length ≤ 5864062014805) : Ok Try.prog 48 [.sl ex (frs l)] (.sl false (frs l)) := by
  have hfit : fits 3 24 [] (frs l) = true := fits_frs (k := []) (l := l) (by simpa using h)
  refine ok_fn mixed Try.func48 (code := ?_) (h := h48) ?_ k48 ?_
  rotate_left
  · exact rfl
  unfold h48 initS
  simp -implicitDefEqProofs only [rkA, stepA, valA, storeA, ldA, fieldAddrA, fieldA, idxAddrA, idxA, idxArr, lenA, unA, binA, num2, binV, eqA, rowOf, PV.cells, PV.cell, bndA, appA, reduceIte, reduceCtorEq, Nat.reduceAdd, Nat.reduceSub, Nat.reduceEqDiff, Nat.reduceLeDiff, Nat.reduceLT, Nat.reduceMul, Nat.reduceBEq, Nat.reduceBNe, Int.reduceToNat, Int.reduceLE, Int.reduceLT, allocX, setPs, extremeA, ints, resAll, rinfOk, packR, Try.ntmps48, Try.results48]
  refine nilA_sl (some 4) (.tmp 3) rfl ?_
  intro b hb
  cases b with
  | true =>
    simp -implicitDefEqProofs only [rkA, stepA, valA, storeA, ldA, fieldAddrA, fieldA, idxAddrA, idxA, idxArr, lenA, unA, binA, num2, binV, eqA, rowOf, PV.cells, PV.cell, bndA, appA, reduceIte, reduceCtorEq, Nat.reduceAdd, Nat.reduceSub, Nat.reduceEqDiff, Nat.reduceLeDiff, Nat.reduceLT, Nat.reduceMul, Nat.reduceBEq, Nat.reduceBNe, Int.reduceToNat, Int.reduceLE, Int.reduceLT, allocX, setPs, extremeA, ints, resAll, rinfOk, packR]
    have : l = [] := by
      cases l with
      | nil => rfl
      | cons x l => simp at hb
    subst this
    simp
  | false =>
    simp -implicitDefEqProofs only [hfit, rkA, stepA, valA, storeA, ldA, fieldAddrA, fieldA, idxAddrA, idxA, idxArr, lenA, unA, binA, num2, binV, eqA, rowOf, PV.cells, PV.cell, bndA, appA, reduceIte, reduceCtorEq, Nat.reduceAdd, Nat.reduceSub, Nat.reduceEqDiff, Nat.reduceLeDiff, Nat.reduceLT, Nat.reduceMul, Nat.reduceBEq, Nat.reduceBNe, Int.reduceToNat, Int.reduceLE, Int.reduceLT, allocX, setPs, extremeA, ints, resAll, rinfOk, packR]

def right (r c : Int) (n : Nat) : Bool := decide (1 ≤ r ∧ r ≤ 16) && (decide (1 ≤ c ∧ c ≤ 16) && ((n : Int) == r * c))
abbrev matNil : PV := .agg [num 0, num 0, .s (.slice none 0 0)]
abbrev matV (ex : Bool) (r c : Int) (l : List PV) : PV := .agg [num r, num c, .sl ex l]

theorem ok44 (ex : Bool) (r c : Int) (l : List PV) : Ok Try.prog 44 [matV ex r c l] (tru (right r c l.length)) := by
  refine ok_fn mixed Try.func44 (code := ?_) (h := h44) ?_ k44 ?_
  rotate_left
  · exact rfl
  unfold h44 initS
  simp -implicitDefEqProofs only [rkA, stepA, valA, storeA, ldA, fieldAddrA, fieldA, idxAddrA, idxA, idxArr, lenA, unA, binA, num2, binV, eqA, rowOf, PV.cells, PV.cell, bndA, appA, reduceIte, reduceCtorEq, Nat.reduceAdd, Nat.reduceSub, Nat.reduceEqDiff, Nat.reduceLeDiff, Nat.reduceLT, Nat.reduceMul, Nat.reduceBEq, Nat.reduceBNe, Int.reduceToNat, Int.reduceLE, Int.reduceLT, allocX, setPs, extremeA, ints, resAll, rinfOk, packR, Try.ntmps44, Try.results44]
  refine call_fn rfl rfl rfl (ok55 r) ?_
  by_cases hr : 1 ≤ r ∧ r ≤ 16
  · simp -implicitDefEqProofs only [hr, rkA, stepA, valA, storeA, ldA, fieldAddrA, fieldA, idxAddrA, idxA, idxArr, lenA, unA, binA, num2, binV, eqA, rowOf, PV.cells, PV.cell, bndA, appA, reduceIte, reduceCtorEq, Nat.reduceAdd, Nat.reduceSub, Nat.reduceEqDiff, Nat.reduceLeDiff, Nat.reduceLT, Nat.reduceMul, Nat.reduceBEq, Nat.reduceBNe, Int.reduceToNat, Int.reduceLE, Int.reduceLT, allocX, setPs, extremeA, ints, resAll, rinfOk, packR]
    refine call_fn rfl rfl rfl (ok55 c) ?_
    by_cases hc : 1 ≤ c ∧ c ≤ 16
    · have hm : 0 ≤ r * c ∧ r * c ≤ 256 := by
        have h1 : (r * c).natAbs = r.natAbs * c.natAbs := Int.natAbs_mul r c
        have h2 : r.natAbs * c.natAbs ≤ 16 * 16 := Nat.mul_le_mul (by omega) (by omega)
        have h3 : 0 ≤ r * c := Int.mul_nonneg (by omega) (by omega)
        omega
      have w := wrapped (x := r * c) (by omega) (by omega)
      simp -implicitDefEqProofs only [hc, w, rkA, stepA, valA, storeA, ldA, fieldAddrA, fieldA, idxAddrA, idxA, idxArr, lenA, unA, binA, num2, binV, eqA, rowOf, PV.cells, PV.cell, bndA, appA, reduceIte, reduceCtorEq, Nat.reduceAdd, Nat.reduceSub, Nat.reduceEqDiff, Nat.reduceLeDiff, Nat.reduceLT, Nat.reduceMul, Nat.reduceBEq, Nat.reduceBNe, Int.reduceToNat, Int.reduceLE, Int.reduceLT, allocX, setPs, extremeA, ints, resAll, rinfOk, packR]
      simp [right, hr, hc]
    · simp -implicitDefEqProofs only [hc, rkA, stepA, valA, storeA, ldA, fieldAddrA, fieldA, idxAddrA, idxA, idxArr, lenA, unA, binA, num2, binV, eqA, rowOf, PV.cells, PV.cell, bndA, appA, reduceIte, reduceCtorEq, Nat.reduceAdd, Nat.reduceSub, Nat.reduceEqDiff, Nat.reduceLeDiff, Nat.reduceLT, Nat.reduceMul, Nat.reduceBEq, Nat.reduceBNe, Int.reduceToNat, Int.reduceLE, Int.reduceLT, allocX, setPs, extremeA, ints, resAll, rinfOk, packR]
      simp [right, hr, hc]
  · simp -implicitDefEqProofs only [hr, rkA, stepA, valA, storeA, ldA, fieldAddrA, fieldA, idxAddrA, idxA, idxArr, lenA, unA, binA, num2, binV, eqA, rowOf, PV.cells, PV.cell, bndA, appA, reduceIte, reduceCtorEq, Nat.reduceAdd, Nat.reduceSub, Nat.reduceEqDiff, Nat.reduceLeDiff, Nat.reduceLT, Nat.reduceMul, Nat.reduceBEq, Nat.reduceBNe, Int.reduceToNat, Int.reduceLE, Int.reduceLT, allocX, setPs, extremeA, ints, resAll, rinfOk, packR]
    simp [right, hr]

theorem ok35 (r c : Int) (ex : Bool) (l : List Fr) (h : l.length ≤ 5864062014805) :
    Ok Try.prog 35 [num r, num c, .sl ex (frs l)] (if right r c l.length = true then .tup [matV false r c (frs l), tru true] else .tup [matNil, tru false]) := by
  refine ok_fn mixed Try.func35 (code := ?_) (h := h35) ?_ k35 ?_
  rotate_left
  · exact rfl
  unfold h35 initS
  simp -implicitDefEqProofs only [rkA, stepA, valA, storeA, ldA, fieldAddrA, fieldA, idxAddrA, idxA, idxArr, lenA, unA, binA, num2, binV, eqA, rowOf, PV.cells, PV.cell, bndA, appA, reduceIte, reduceCtorEq, Nat.reduceAdd, Nat.reduceSub, Nat.reduceEqDiff, Nat.reduceLeDiff, Nat.reduceLT, Nat.reduceMul, Nat.reduceBEq, Nat.reduceBNe, Int.reduceToNat, Int.reduceLE, Int.reduceLT, allocX, setPs, extremeA, ints, resAll, rinfOk, packR, Try.ntmps35, Try.results35]
  refine call_fn rfl rfl rfl (ok48 ex l h) ?_
  simp -implicitDefEqProofs only [rkA, stepA, valA, storeA, ldA, fieldAddrA, fieldA, idxAddrA, idxA, idxArr, lenA, unA, binA, num2, binV, eqA, rowOf, PV.cells, PV.cell, bndA, appA, reduceIte, reduceCtorEq, Nat.reduceAdd, Nat.reduceSub, Nat.reduceEqDiff, Nat.reduceLeDiff, Nat.reduceLT, Nat.reduceMul, Nat.reduceBEq, Nat.reduceBNe, Int.reduceToNat, Int.reduceLE, Int.reduceLT, allocX, setPs, extremeA, ints, resAll, rinfOk, packR]
  refine call_fn rfl rfl rfl (ok44 false r c (frs l)) ?_
  have e : (frs l).length = l.length := by simp
  rw [e]
  cases hr : right r c l.length with
  | true => simp -implicitDefEqProofs only [rkA, stepA, valA, storeA, ldA, fieldAddrA, fieldA, idxAddrA, idxA, idxArr, lenA, unA, binA, num2, binV, eqA, rowOf, PV.cells, PV.cell, bndA, appA, reduceIte, reduceCtorEq, Nat.reduceAdd, Nat.reduceSub, Nat.reduceEqDiff, Nat.reduceLeDiff, Nat.reduceLT, Nat.reduceMul, Nat.reduceBEq, Nat.reduceBNe, Int.reduceToNat, Int.reduceLE, Int.reduceLT, allocX, setPs, extremeA, ints, resAll, rinfOk, packR]
  | false => simp -implicitDefEqProofs only [rkA, stepA, valA, storeA, ldA, fieldAddrA, fieldA, idxAddrA, idxA, idxArr, lenA, unA, binA, num2, binV, eqA, rowOf, PV.cells, PV.cell, bndA, appA, reduceIte, reduceCtorEq, Nat.reduceAdd, Nat.reduceSub, Nat.reduceEqDiff, Nat.reduceLeDiff, Nat.reduceLT, Nat.reduceMul, Nat.reduceBEq, Nat.reduceBNe, Int.reduceToNat, Int.reduceLE, Int.reduceLT, allocX, setPs, extremeA, ints, resAll, rinfOk, packR]

theorem methOf : Meth Try.prog 31 "Of" 85 := by
  intro v xs w
  rfl

theorem ok36 (ex : Bool) (xs : List Int) (h : xs.length ≤ 5864062014805) : Ok Try.prog 36 [.sl ex (xs.map num)] (.sl false (frs (xs.map (newF · 1)))) := by
  refine ok_fn mixed Try.func36 (code := ?_) (h := h36) ?_ k36 ?_
  rotate_left
  · exact rfl
  unfold h36 initS
  simp -implicitDefEqProofs only [rkA, stepA, valA, storeA, ldA, fieldAddrA, fieldA, idxAddrA, idxA, idxArr, lenA, unA, binA, num2, binV, eqA, rowOf, PV.cells, PV.cell, bndA, appA, reduceIte, reduceCtorEq, Nat.reduceAdd, Nat.reduceSub, Nat.reduceEqDiff, Nat.reduceLeDiff, Nat.reduceLT, Nat.reduceMul, Nat.reduceBEq, Nat.reduceBNe, Int.reduceToNat, Int.reduceLE, Int.reduceLT, allocX, setPs, extremeA, ints, resAll, rinfOk, packR, Try.ntmps36, Try.results36]
  refine wp_loop (fun m s => ∃ i, i + m = xs.length ∧ s = ⟨[jk, jk, jk, .acc 3 (frs ((xs.take i).map (newF · 1))), .ptr 4 0, jk, jk, .v (.sl ex (xs.map num)), nt xs.length, nt i, jk, jk, jk, jk, jk, jk, jk, jk, jk, jk, jk, jk],
    [(4, [nt 0, nt 0, .v (tru false)])], [], [(2, 0), (3, i)], [], 0, nomem⟩) xs.length ?_ ?_
  · simp -implicitDefEqProofs only [rkA, stepA, valA, storeA, ldA, fieldAddrA, fieldA, idxAddrA, idxA, idxArr, lenA, unA, binA, num2, binV, eqA, rowOf, PV.cells, PV.cell, bndA, appA, reduceIte, reduceCtorEq, Nat.reduceAdd, Nat.reduceSub, Nat.reduceEqDiff, Nat.reduceLeDiff, Nat.reduceLT, Nat.reduceMul, Nat.reduceBEq, Nat.reduceBNe, Int.reduceToNat, Int.reduceLE, Int.reduceLT, allocX, setPs, extremeA, ints, resAll, rinfOk, packR]
    refine ⟨0, by simp, ?_⟩
    simp
  rintro m s ⟨i, hi, rfl⟩
  simp -implicitDefEqProofs only [rkA, stepA, valA, storeA, ldA, fieldAddrA, fieldA, idxAddrA, idxA, idxArr, lenA, unA, binA, num2, binV, eqA, rowOf, PV.cells, PV.cell, bndA, appA, reduceIte, reduceCtorEq, Nat.reduceAdd, Nat.reduceSub, Nat.reduceEqDiff, Nat.reduceLeDiff, Nat.reduceLT, Nat.reduceMul, Nat.reduceBEq, Nat.reduceBNe, Int.reduceToNat, Int.reduceLE, Int.reduceLT, allocX, setPs, extremeA, ints, resAll, rinfOk, packR]
  refine gB_dec ?_ ?_ <;> intro hc <;> simp -implicitDefEqProofs only [hc, rkA, stepA, valA, storeA, ldA, fieldAddrA, fieldA, idxAddrA, idxA, idxArr, lenA, unA, binA, num2, binV, eqA, rowOf, PV.cells, PV.cell, bndA, appA, reduceIte, reduceCtorEq, Nat.reduceAdd, Nat.reduceSub, Nat.reduceEqDiff, Nat.reduceLeDiff, Nat.reduceLT, Nat.reduceMul, Nat.reduceBEq, Nat.reduceBNe, Int.reduceToNat, Int.reduceLE, Int.reduceLT, allocX, setPs, extremeA, ints, resAll, rinfOk, packR]
  · have hlt : i < xs.length := by omega
    have h0 : (0 : Int) ≤ (i : Int) := by omega
    have hg : (xs.map num)[i]? = some (num xs[i]) := by simp [hlt]
    simp -implicitDefEqProofs only [h0, Int.toNat_natCast, hg, rkA, stepA, valA, storeA, ldA, fieldAddrA, fieldA, idxAddrA, idxA, idxArr, lenA, unA, binA, num2, binV, eqA, rowOf, PV.cells, PV.cell, bndA, appA, reduceIte, reduceCtorEq, Nat.reduceAdd, Nat.reduceSub, Nat.reduceEqDiff, Nat.reduceLeDiff, Nat.reduceLT, Nat.reduceMul, Nat.reduceBEq, Nat.reduceBNe, Int.reduceToNat, Int.reduceLE, Int.reduceLT, allocX, setPs, extremeA, ints, resAll, rinfOk, packR]
    refine call_meth rfl rfl methOf (ok85 ⟨0, 0, false⟩ xs[i]) ?_
    have hfit : fits 3 24 (frs ((xs.take i).map (newF · 1))) [frV (newF xs[i] 1)] = true := fits_frs (l := [newF xs[i] 1]) (by simp; omega)
    have hw := wrapped (x := (i : Int) + 1) (by omega) (by omega)
    have hl : (frs ((xs.take i).map (newF · 1))).length = i := by simp; omega
    simp -implicitDefEqProofs only [hfit, hl, hw, rkA, stepA, valA, storeA, ldA, fieldAddrA, fieldA, idxAddrA, idxA, idxArr, lenA, unA, binA, num2, binV, eqA, rowOf, PV.cells, PV.cell, bndA, appA, reduceIte, reduceCtorEq, Nat.reduceAdd, Nat.reduceSub, Nat.reduceEqDiff, Nat.reduceLeDiff, Nat.reduceLT, Nat.reduceMul, Nat.reduceBEq, Nat.reduceBNe, Int.reduceToNat, Int.reduceLE, Int.reduceLT, allocX, setPs, extremeA, ints, resAll, rinfOk, packR]
    refine loopK_of (m' := m - 1) (by omega) ?_
    simp -implicitDefEqProofs only [rkA, stepA, valA, storeA, ldA, fieldAddrA, fieldA, idxAddrA, idxA, idxArr, lenA, unA, binA, num2, binV, eqA, rowOf, PV.cells, PV.cell, bndA, appA, reduceIte, reduceCtorEq, Nat.reduceAdd, Nat.reduceSub, Nat.reduceEqDiff, Nat.reduceLeDiff, Nat.reduceLT, Nat.reduceMul, Nat.reduceBEq, Nat.reduceBNe, Int.reduceToNat, Int.reduceLE, Int.reduceLT, allocX, setPs, extremeA, ints, resAll, rinfOk, packR]
    refine ⟨i + 1, by omega, ?_⟩
    rw [List.take_succ_eq_append_getElem hlt]
    simp only [frs, List.map_append, List.map_cons, List.map_nil, Int.natCast_add, Int.natCast_one]
  · have : xs.length ≤ i := by omega
    rw [List.take_of_length_le this]

theorem ok10 (r c : Int) (ex : Bool) (xs : List Int) (h : xs.length ≤ 5864062014805) :
    Ok Try.prog 10 [num r, num c, .sl ex (xs.map num)] (if right r c xs.length = true then .tup [matV false r c (frs (xs.map (newF · 1))), tru true] else .tup [matNil, tru false]) := by
  refine ok_fn mixed Try.func10 (code := ?_) (h := h10) ?_ k10 ?_
  rotate_left
  · exact rfl
  unfold h10 initS
  simp -implicitDefEqProofs only [rkA, stepA, valA, storeA, ldA, fieldAddrA, fieldA, idxAddrA, idxA, idxArr, lenA, unA, binA, num2, binV, eqA, rowOf, PV.cells, PV.cell, bndA, appA, reduceIte, reduceCtorEq, Nat.reduceAdd, Nat.reduceSub, Nat.reduceEqDiff, Nat.reduceLeDiff, Nat.reduceLT, Nat.reduceMul, Nat.reduceBEq, Nat.reduceBNe, Int.reduceToNat, Int.reduceLE, Int.reduceLT, allocX, setPs, extremeA, ints, resAll, rinfOk, packR, Try.ntmps10, Try.results10]
  refine call_fn rfl rfl rfl (ok36 ex xs h) ?_
  simp -implicitDefEqProofs only [rkA, stepA, valA, storeA, ldA, fieldAddrA, fieldA, idxAddrA, idxA, idxArr, lenA, unA, binA, num2, binV, eqA, rowOf, PV.cells, PV.cell, bndA, appA, reduceIte, reduceCtorEq, Nat.reduceAdd, Nat.reduceSub, Nat.reduceEqDiff, Nat.reduceLeDiff, Nat.reduceLT, Nat.reduceMul, Nat.reduceBEq, Nat.reduceBNe, Int.reduceToNat, Int.reduceLE, Int.reduceLT, allocX, setPs, extremeA, ints, resAll, rinfOk, packR]
  refine call_fn rfl rfl rfl (ok35 r c false (xs.map (newF · 1)) (by simpa using h)) ?_
  simp only [List.length_map]
  cases hr : right r c xs.length with
  | true => simp -implicitDefEqProofs only [rkA, stepA, valA, storeA, ldA, fieldAddrA, fieldA, idxAddrA, idxA, idxArr, lenA, unA, binA, num2, binV, eqA, rowOf, PV.cells, PV.cell, bndA, appA, reduceIte, reduceCtorEq, Nat.reduceAdd, Nat.reduceSub, Nat.reduceEqDiff, Nat.reduceLeDiff, Nat.reduceLT, Nat.reduceMul, Nat.reduceBEq, Nat.reduceBNe, Int.reduceToNat, Int.reduceLE, Int.reduceLT, allocX, setPs, extremeA, ints, resAll, rinfOk, packR]
  | false => simp -implicitDefEqProofs only [rkA, stepA, valA, storeA, ldA, fieldAddrA, fieldA, idxAddrA, idxA, idxArr, lenA, unA, binA, num2, binV, eqA, rowOf, PV.cells, PV.cell, bndA, appA, reduceIte, reduceCtorEq, Nat.reduceAdd, Nat.reduceSub, Nat.reduceEqDiff, Nat.reduceLeDiff, Nat.reduceLT, Nat.reduceMul, Nat.reduceBEq, Nat.reduceBNe, Int.reduceToNat, Int.reduceLE, Int.reduceLT, allocX, setPs, extremeA, ints, resAll, rinfOk, packR]

/-- What stands in a row, or 0 fraction. -/
def atF (r c : Int) (l : List Fr) (i k : Int) : Fr := if right r c l.length = true ∧ 0 ≤ i ∧ i < r ∧ 0 ≤ k ∧ k < c then l.getD (i * c + k).toNat ⟨0, 0, false⟩ else ⟨0, 0, false⟩

theorem right_spec {r c : Int} {n : Nat} (h : right r c n = true) : 1 ≤ r ∧ r ≤ 16 ∧ 1 ≤ c ∧ c ≤ 16 ∧ (n : Int) = r * c := by
  simp only [right, Bool.and_eq_true, decide_eq_true_eq, beq_iff_eq] at h
  omega

theorem at_bound {r c i k : Int} (hr : r ≤ 16) (hc : 1 ≤ c ∧ c ≤ 16) (hi : 0 ≤ i ∧ i < r) (hk : 0 ≤ k ∧ k < c) : 0 ≤ i * c ∧ 0 ≤ i * c + k ∧ i * c + k < r * c ∧ i * c ≤ 256 ∧ r * c ≤ 256 := by
  have h1 : 0 ≤ i * c := Int.mul_nonneg hi.1 (by omega)
  have h2 : (i + 1) * c ≤ r * c := Int.mul_le_mul_of_nonneg_right (by omega) (by omega)
  have h3 : (i + 1) * c = i * c + c := by rw [Int.add_mul, Int.one_mul]
  have h4 : r * c ≤ 16 * c := Int.mul_le_mul_of_nonneg_right hr (by omega)
  omega

theorem ok40 (ex : Bool) (r c i k : Int) (l : List Fr) : Ok Try.prog 40 [matV ex r c (frs l), num i, num k] (frV (atF r c l i k)) := by
  refine ok_fn mixed Try.func40 (code := ?_) (h := h40) ?_ k40 ?_
  rotate_left
  · exact rfl
  unfold h40 initS
  simp -implicitDefEqProofs only [rkA, stepA, valA, storeA, ldA, fieldAddrA, fieldA, idxAddrA, idxA, idxArr, lenA, unA, binA, num2, binV, eqA, rowOf, PV.cells, PV.cell, bndA, appA, reduceIte, reduceCtorEq, Nat.reduceAdd, Nat.reduceSub, Nat.reduceEqDiff, Nat.reduceLeDiff, Nat.reduceLT, Nat.reduceMul, Nat.reduceBEq, Nat.reduceBNe, Int.reduceToNat, Int.reduceLE, Int.reduceLT, allocX, setPs, extremeA, ints, resAll, rinfOk, packR, Try.ntmps40, Try.results40]
  refine call_fn rfl rfl rfl (ok44 ex r c (frs l)) ?_
  have e : (frs l).length = l.length := by simp
  rw [e]
  cases hr : right r c l.length with
  | false =>
    simp -implicitDefEqProofs only [rkA, stepA, valA, storeA, ldA, fieldAddrA, fieldA, idxAddrA, idxA, idxArr, lenA, unA, binA, num2, binV, eqA, rowOf, PV.cells, PV.cell, bndA, appA, reduceIte, reduceCtorEq, Nat.reduceAdd, Nat.reduceSub, Nat.reduceEqDiff, Nat.reduceLeDiff, Nat.reduceLT, Nat.reduceMul, Nat.reduceBEq, Nat.reduceBNe, Int.reduceToNat, Int.reduceLE, Int.reduceLT, allocX, setPs, extremeA, ints, resAll, rinfOk, packR]
    simp [atF, hr]
  | true =>
    obtain ⟨r1, r2, c1, c2, hn⟩ := right_spec hr
    simp -implicitDefEqProofs only [rkA, stepA, valA, storeA, ldA, fieldAddrA, fieldA, idxAddrA, idxA, idxArr, lenA, unA, binA, num2, binV, eqA, rowOf, PV.cells, PV.cell, bndA, appA, reduceIte, reduceCtorEq, Nat.reduceAdd, Nat.reduceSub, Nat.reduceEqDiff, Nat.reduceLeDiff, Nat.reduceLT, Nat.reduceMul, Nat.reduceBEq, Nat.reduceBNe, Int.reduceToNat, Int.reduceLE, Int.reduceLT, allocX, setPs, extremeA, ints, resAll, rinfOk, packR]
    repeat' (refine gB_dec ?_ ?_ <;> intro hc <;> first | (exfalso; omega) | simp -implicitDefEqProofs only [hc, rkA, stepA, valA, storeA, ldA, fieldAddrA, fieldA, idxAddrA, idxA, idxArr, lenA, unA, binA, num2, binV, eqA, rowOf, PV.cells, PV.cell, bndA, appA, reduceIte, reduceCtorEq, Nat.reduceAdd, Nat.reduceSub, Nat.reduceEqDiff, Nat.reduceLeDiff, Nat.reduceLT, Nat.reduceMul, Nat.reduceBEq, Nat.reduceBNe, Int.reduceToNat, Int.reduceLE, Int.reduceLT, allocX, setPs, extremeA, ints, resAll, rinfOk, packR])
    · rw [show atF r c l i k = ⟨0, 0, false⟩ from if_neg (fun ⟨_, _, _, _, _⟩ => by omega)]
    · rw [show atF r c l i k = ⟨0, 0, false⟩ from if_neg (fun ⟨_, _, _, _, _⟩ => by omega)]
    · rw [show atF r c l i k = ⟨0, 0, false⟩ from if_neg (fun ⟨_, _, _, _, _⟩ => by omega)]
    · rw [show atF r c l i k = ⟨0, 0, false⟩ from if_neg (fun ⟨_, _, _, _, _⟩ => by omega)]
    · obtain ⟨b1, b2, b3, b4, b5⟩ := at_bound (i := i) (k := k) r2 ⟨c1, c2⟩ (by omega) (by omega)
      have w1 := wrapped (x := i * c) (by omega) (by omega)
      have w2 := wrapped (x := i * c + k) (by omega) (by omega)
      have hlt : (i * c + k).toNat < l.length := by omega
      have hg : (frs l)[(i * c + k).toNat]? = some (frV l[(i * c + k).toNat]) := by simp [hlt]
      have ha : atF r c l i k = l[(i * c + k).toNat] := by
        unfold atF
        rw [if_pos ⟨hr, by omega, by omega, by omega, by omega⟩, List.getD_eq_getElem?_getD, List.getElem?_eq_getElem hlt]
        rfl
      simp -implicitDefEqProofs only [w1, w2, b2, hg, ha, rkA, stepA, valA, storeA, ldA, fieldAddrA, fieldA, idxAddrA, idxA, idxArr, lenA, unA, binA, num2, binV, eqA, rowOf, PV.cells, PV.cell, bndA, appA, reduceIte, reduceCtorEq, Nat.reduceAdd, Nat.reduceSub, Nat.reduceEqDiff, Nat.reduceLeDiff, Nat.reduceLT, Nat.reduceMul, Nat.reduceBEq, Nat.reduceBNe, Int.reduceToNat, Int.reduceLE, Int.reduceLT, allocX, setPs, extremeA, ints, resAll, rinfOk, packR]
end Go.Proofs.Ytbflmeomkfjikaa.A

set_option linter.unusedVariables false
set_option linter.unusedSimpArgs false
set_option maxRecDepth 100000
namespace Go.Proofs.Ytbflmeomkfjikaa.A
open Go Go.RowKit Go.Shelf

theorem methAdd : Meth Try.prog 31 "Add" 81 := by
  intro v xs w
  rfl
theorem methMul : Meth Try.prog 31 "Mul" 83 := by
  intro v xs w
  rfl

def sumF (l : List Fr) : Fr := l.foldl addF (newF 0 1)

theorem ok45 (ex : Bool) (l : List Fr) (h : l.length ≤ 5864062014805) : Ok Try.prog 45 [.sl ex (frs l)] (frV (sumF l)) := by
  refine ok_fn mixed Try.func45 (code := ?_) (h := h45) ?_ k45 ?_
  rotate_left
  · exact rfl
  unfold h45 initS
  simp -implicitDefEqProofs only [rkA, stepA, valA, storeA, ldA, fieldAddrA, fieldA, idxAddrA, idxA, idxArr, lenA, unA, binA, num2, binV, eqA, rowOf, PV.cells, PV.cell, bndA, appA, reduceIte, reduceCtorEq, Nat.reduceAdd, Nat.reduceSub, Nat.reduceEqDiff, Nat.reduceLeDiff, Nat.reduceLT, Nat.reduceMul, Nat.reduceBEq, Nat.reduceBNe, Int.reduceToNat, Int.reduceLE, Int.reduceLT, allocX, setPs, extremeA, ints, resAll, rinfOk, packR, Try.ntmps45, Try.results45]
  refine call_meth rfl rfl methOf (ok85 ⟨0, 0, false⟩ 0) ?_
  simp -implicitDefEqProofs only [rkA, stepA, valA, storeA, ldA, fieldAddrA, fieldA, idxAddrA, idxA, idxArr, lenA, unA, binA, num2, binV, eqA, rowOf, PV.cells, PV.cell, bndA, appA, reduceIte, reduceCtorEq, Nat.reduceAdd, Nat.reduceSub, Nat.reduceEqDiff, Nat.reduceLeDiff, Nat.reduceLT, Nat.reduceMul, Nat.reduceBEq, Nat.reduceBNe, Int.reduceToNat, Int.reduceLE, Int.reduceLT, allocX, setPs, extremeA, ints, resAll, rinfOk, packR]
  refine wp_loop (fun m s => ∃ i, i + m = l.length ∧ s = ⟨[jk, jk, .ptr 2 0, jk, .ptr 4 0, jk, jk, jk, jk, jk, .v (.sl ex (frs l)), nt l.length, nt i, jk, jk, jk, jk, jk, jk, jk, jk, jk],
    [(2, [nt 0, nt 0, .v (tru false)]), (3, [nt 0, nt 0, .v (tru false)]), (4, [nt (sumF (l.take i)).n, nt (sumF (l.take i)).d, .v (tru (sumF (l.take i)).bad)])], [], [], [], 0, nomem⟩) l.length ?_ ?_
  · simp -implicitDefEqProofs only [rkA, stepA, valA, storeA, ldA, fieldAddrA, fieldA, idxAddrA, idxA, idxArr, lenA, unA, binA, num2, binV, eqA, rowOf, PV.cells, PV.cell, bndA, appA, reduceIte, reduceCtorEq, Nat.reduceAdd, Nat.reduceSub, Nat.reduceEqDiff, Nat.reduceLeDiff, Nat.reduceLT, Nat.reduceMul, Nat.reduceBEq, Nat.reduceBNe, Int.reduceToNat, Int.reduceLE, Int.reduceLT, allocX, setPs, extremeA, ints, resAll, rinfOk, packR]
    refine ⟨0, by simp, ?_⟩
    simp [sumF]
  rintro m s ⟨i, hi, rfl⟩
  simp -implicitDefEqProofs only [rkA, stepA, valA, storeA, ldA, fieldAddrA, fieldA, idxAddrA, idxA, idxArr, lenA, unA, binA, num2, binV, eqA, rowOf, PV.cells, PV.cell, bndA, appA, reduceIte, reduceCtorEq, Nat.reduceAdd, Nat.reduceSub, Nat.reduceEqDiff, Nat.reduceLeDiff, Nat.reduceLT, Nat.reduceMul, Nat.reduceBEq, Nat.reduceBNe, Int.reduceToNat, Int.reduceLE, Int.reduceLT, allocX, setPs, extremeA, ints, resAll, rinfOk, packR]
  refine gB_dec ?_ ?_ <;> intro hc <;> simp -implicitDefEqProofs only [hc, rkA, stepA, valA, storeA, ldA, fieldAddrA, fieldA, idxAddrA, idxA, idxArr, lenA, unA, binA, num2, binV, eqA, rowOf, PV.cells, PV.cell, bndA, appA, reduceIte, reduceCtorEq, Nat.reduceAdd, Nat.reduceSub, Nat.reduceEqDiff, Nat.reduceLeDiff, Nat.reduceLT, Nat.reduceMul, Nat.reduceBEq, Nat.reduceBNe, Int.reduceToNat, Int.reduceLE, Int.reduceLT, allocX, setPs, extremeA, ints, resAll, rinfOk, packR]
  · have hlt : i < l.length := by omega
    have h0 : (0 : Int) ≤ (i : Int) := by omega
    have hg : (frs l)[i]? = some (frV l[i]) := by simp [hlt]
    simp -implicitDefEqProofs only [h0, Int.toNat_natCast, hg, rkA, stepA, valA, storeA, ldA, fieldAddrA, fieldA, idxAddrA, idxA, idxArr, lenA, unA, binA, num2, binV, eqA, rowOf, PV.cells, PV.cell, bndA, appA, reduceIte, reduceCtorEq, Nat.reduceAdd, Nat.reduceSub, Nat.reduceEqDiff, Nat.reduceLeDiff, Nat.reduceLT, Nat.reduceMul, Nat.reduceBEq, Nat.reduceBNe, Int.reduceToNat, Int.reduceLE, Int.reduceLT, allocX, setPs, extremeA, ints, resAll, rinfOk, packR]
    refine call_meth rfl rfl methAdd (ok81 (sumF (l.take i)) l[i]) ?_
    have hw := wrapped (x := (i : Int) + 1) (by omega) (by omega)
    simp -implicitDefEqProofs only [hw, rkA, stepA, valA, storeA, ldA, fieldAddrA, fieldA, idxAddrA, idxA, idxArr, lenA, unA, binA, num2, binV, eqA, rowOf, PV.cells, PV.cell, bndA, appA, reduceIte, reduceCtorEq, Nat.reduceAdd, Nat.reduceSub, Nat.reduceEqDiff, Nat.reduceLeDiff, Nat.reduceLT, Nat.reduceMul, Nat.reduceBEq, Nat.reduceBNe, Int.reduceToNat, Int.reduceLE, Int.reduceLT, allocX, setPs, extremeA, ints, resAll, rinfOk, packR]
    refine loopK_of (m' := m - 1) (by omega) ?_
    simp -implicitDefEqProofs only [rkA, stepA, valA, storeA, ldA, fieldAddrA, fieldA, idxAddrA, idxA, idxArr, lenA, unA, binA, num2, binV, eqA, rowOf, PV.cells, PV.cell, bndA, appA, reduceIte, reduceCtorEq, Nat.reduceAdd, Nat.reduceSub, Nat.reduceEqDiff, Nat.reduceLeDiff, Nat.reduceLT, Nat.reduceMul, Nat.reduceBEq, Nat.reduceBNe, Int.reduceToNat, Int.reduceLE, Int.reduceLT, allocX, setPs, extremeA, ints, resAll, rinfOk, packR]
    refine ⟨i + 1, by omega, ?_⟩
    have e : sumF (l.take (i + 1)) = addF (sumF (l.take i)) l[i] := by
      unfold sumF
      rw [List.take_succ_eq_append_getElem hlt, List.foldl_append]
      rfl
    rw [e]
    simp only [Int.natCast_add, Int.natCast_one]
  · have : l.length ≤ i := by omega
    rw [List.take_of_length_le this]

theorem ok47 (a b : Fr) : Ok Try.prog 47 [frV a, frV b] (frV (mulF a b)) := by
  refine ok_fn mixed Try.func47 (code := ?_) (h := h47) ?_ k47 ?_
  rotate_left
  · exact rfl
  unfold h47 initS
  simp -implicitDefEqProofs only [rkA, stepA, valA, storeA, ldA, fieldAddrA, fieldA, idxAddrA, idxA, idxArr, lenA, unA, binA, num2, binV, eqA, rowOf, PV.cells, PV.cell, bndA, appA, reduceIte, reduceCtorEq, Nat.reduceAdd, Nat.reduceSub, Nat.reduceEqDiff, Nat.reduceLeDiff, Nat.reduceLT, Nat.reduceMul, Nat.reduceBEq, Nat.reduceBNe, Int.reduceToNat, Int.reduceLE, Int.reduceLT, allocX, setPs, extremeA, ints, resAll, rinfOk, packR, Try.ntmps47, Try.results47]
  refine call_meth rfl rfl methMul (ok83 a b) ?_
  simp -implicitDefEqProofs only [rkA, stepA, valA, storeA, ldA, fieldAddrA, fieldA, idxAddrA, idxA, idxArr, lenA, unA, binA, num2, binV, eqA, rowOf, PV.cells, PV.cell, bndA, appA, reduceIte, reduceCtorEq, Nat.reduceAdd, Nat.reduceSub, Nat.reduceEqDiff, Nat.reduceLeDiff, Nat.reduceLT, Nat.reduceMul, Nat.reduceBEq, Nat.reduceBNe, Int.reduceToNat, Int.reduceLE, Int.reduceLT, allocX, setPs, extremeA, ints, resAll, rinfOk, packR]

theorem sl_frs {ex : Bool} {l : List Fr} {a b : Nat} (h1 : a ≤ b) (h2 : b ≤ l.length) : sliceA 3 (frs l) ex (some a) (some b) none = some (.sl (exA none ex b (frs l).length) (frs ((l.take b).drop a))) := by
  unfold sliceA
  simp only [Option.getD_some]
  rw [if_pos ⟨h1, by simpa using h2, by simp, by simp [PV.cells]⟩]
  simp

/-- A row. -/
def rowF (r c : Int) (l : List Fr) (i : Int) : List Fr := if right r c l.length = true ∧ 0 ≤ i ∧ i < r then (l.take ((i + 1) * c).toNat).drop (i * c).toNat else []

theorem ok18 (ex : Bool) (r c i : Int) (l : List Fr) : Ok Try.prog 18 [matV ex r c (frs l), num i] (.sl false (frs (rowF r c l i))) := by
  refine ok_fn mixed Try.func18 (code := ?_) (h := h18) ?_ k18 ?_
  rotate_left
  · exact rfl
  unfold h18 initS
  simp -implicitDefEqProofs only [rkA, stepA, valA, storeA, ldA, fieldAddrA, fieldA, idxAddrA, idxA, idxArr, lenA, unA, binA, num2, binV, eqA, rowOf, PV.cells, PV.cell, bndA, appA, reduceIte, reduceCtorEq, Nat.reduceAdd, Nat.reduceSub, Nat.reduceEqDiff, Nat.reduceLeDiff, Nat.reduceLT, Nat.reduceMul, Nat.reduceBEq, Nat.reduceBNe, Int.reduceToNat, Int.reduceLE, Int.reduceLT, allocX, setPs, extremeA, ints, resAll, rinfOk, packR, Try.ntmps18, Try.results18]
  refine call_fn rfl rfl rfl (ok44 ex r c (frs l)) ?_
  have e : (frs l).length = l.length := by simp
  rw [e]
  cases hr : right r c l.length with
  | false =>
    simp -implicitDefEqProofs only [rkA, stepA, valA, storeA, ldA, fieldAddrA, fieldA, idxAddrA, idxA, idxArr, lenA, unA, binA, num2, binV, eqA, rowOf, PV.cells, PV.cell, bndA, appA, reduceIte, reduceCtorEq, Nat.reduceAdd, Nat.reduceSub, Nat.reduceEqDiff, Nat.reduceLeDiff, Nat.reduceLT, Nat.reduceMul, Nat.reduceBEq, Nat.reduceBNe, Int.reduceToNat, Int.reduceLE, Int.reduceLT, allocX, setPs, extremeA, ints, resAll, rinfOk, packR]
    simp [rowF, hr]
  | true =>
    obtain ⟨r1, r2, c1, c2, hn⟩ := right_spec hr
    simp -implicitDefEqProofs only [rkA, stepA, valA, storeA, ldA, fieldAddrA, fieldA, idxAddrA, idxA, idxArr, lenA, unA, binA, num2, binV, eqA, rowOf, PV.cells, PV.cell, bndA, appA, reduceIte, reduceCtorEq, Nat.reduceAdd, Nat.reduceSub, Nat.reduceEqDiff, Nat.reduceLeDiff, Nat.reduceLT, Nat.reduceMul, Nat.reduceBEq, Nat.reduceBNe, Int.reduceToNat, Int.reduceLE, Int.reduceLT, allocX, setPs, extremeA, ints, resAll, rinfOk, packR]
    repeat' (refine gB_dec ?_ ?_ <;> intro hc <;> first | (exfalso; omega) | simp -implicitDefEqProofs only [hc, rkA, stepA, valA, storeA, ldA, fieldAddrA, fieldA, idxAddrA, idxA, idxArr, lenA, unA, binA, num2, binV, eqA, rowOf, PV.cells, PV.cell, bndA, appA, reduceIte, reduceCtorEq, Nat.reduceAdd, Nat.reduceSub, Nat.reduceEqDiff, Nat.reduceLeDiff, Nat.reduceLT, Nat.reduceMul, Nat.reduceBEq, Nat.reduceBNe, Int.reduceToNat, Int.reduceLE, Int.reduceLT, allocX, setPs, extremeA, ints, resAll, rinfOk, packR])
    · rw [show rowF r c l i = [] from if_neg (fun ⟨_, _, _⟩ => by omega)]; rfl
    · rw [show rowF r c l i = [] from if_neg (fun ⟨_, _, _⟩ => by omega)]; rfl
    · obtain ⟨b1, b2, b3, b4, b5⟩ := at_bound (i := i) (k := 0) r2 ⟨c1, c2⟩ (by omega) (by omega)
      have b6 : (i + 1) * c = i * c + c := by rw [Int.add_mul, Int.one_mul]
      have b7 : (i + 1) * c ≤ r * c := Int.mul_le_mul_of_nonneg_right (by omega) (by omega)
      have w1 := wrapped (x := i * c) (by omega) (by omega)
      have w2 := wrapped (x := i + 1) (by omega) (by omega)
      have w3 := wrapped (x := (i + 1) * c) (by omega) (by omega)
      have h3 : 0 ≤ (i + 1) * c := by omega
      have hs := sl_frs (ex := ex) (l := l) (a := (i * c).toNat) (b := ((i + 1) * c).toNat) (by omega) (by omega)
      have hrow : rowF r c l i = (l.take ((i + 1) * c).toNat).drop (i * c).toNat := if_pos ⟨hr, by omega, by omega⟩
      rw [hrow]
      simp -implicitDefEqProofs only [w1, w2, w3, b1, h3, hs, rkA, stepA, valA, storeA, ldA, fieldAddrA, fieldA, idxAddrA, idxA, idxArr, lenA, unA, binA, num2, binV, eqA, rowOf, PV.cells, PV.cell, bndA, appA, reduceIte, reduceCtorEq, Nat.reduceAdd, Nat.reduceSub, Nat.reduceEqDiff, Nat.reduceLeDiff, Nat.reduceLT, Nat.reduceMul, Nat.reduceBEq, Nat.reduceBNe, Int.reduceToNat, Int.reduceLE, Int.reduceLT, allocX, setPs, extremeA, ints, resAll, rinfOk, packR]
      refine call_fn rfl rfl rfl (ok48 _ _ (by simp; omega)) ?_
      simp -implicitDefEqProofs only [rkA, stepA, valA, storeA, ldA, fieldAddrA, fieldA, idxAddrA, idxA, idxArr, lenA, unA, binA, num2, binV, eqA, rowOf, PV.cells, PV.cell, bndA, appA, reduceIte, reduceCtorEq, Nat.reduceAdd, Nat.reduceSub, Nat.reduceEqDiff, Nat.reduceLeDiff, Nat.reduceLT, Nat.reduceMul, Nat.reduceBEq, Nat.reduceBNe, Int.reduceToNat, Int.reduceLE, Int.reduceLT, allocX, setPs, extremeA, ints, resAll, rinfOk, packR]
end Go.Proofs.Ytbflmeomkfjikaa.A

set_option linter.unusedVariables false
set_option linter.unusedSimpArgs false
set_option maxRecDepth 100000
namespace Go.Proofs.Ytbflmeomkfjikaa.A
open Go Go.RowKit Go.Shelf

def rowsF (r c : Int) (l : List Fr) : List (List PV) := if right r c l.length = true then (List.range r.toNat).map fun (i : Nat) => [num (i : Int), .sl false (frs (rowF r c l (i : Int)))] else []

theorem it54 (ex : Bool) (r c : Int) (l : List Fr) : IterOk Try.prog (.fn (.func 54) [.vp [num r, num c, .sl ex (frs l)]]) (rowsF r c l) := by
  refine iter_fn mixed Try.func54 (code := ?_) (h := h54) ?_ k54 ?_ ?_
  rotate_left
  · exact rfl
  · exact rfl
  intro yl
  unfold h54 initS
  simp -implicitDefEqProofs only [rkA, stepA, valA, storeA, ldA, fieldAddrA, fieldA, idxAddrA, idxA, idxArr, lenA, unA, binA, num2, binV, eqA, rowOf, PV.cells, PV.cell, bndA, appA, reduceIte, reduceCtorEq, Nat.reduceAdd, Nat.reduceSub, Nat.reduceEqDiff, Nat.reduceLeDiff, Nat.reduceLT, Nat.reduceMul, Nat.reduceBEq, Nat.reduceBNe, Int.reduceToNat, Int.reduceLE, Int.reduceLT, allocX, setPs, extremeA, ints, resAll, rinfOk, packR, Try.ntmps54]
  refine wp_loop (fun m s => ∃ i : Nat, i + m = (rowsF r c l).length ∧ s = ⟨[.v (.fn (.yield yl) []), .v (.vp [num r, num c, .sl ex (frs l)]), jk, nt i, jk, jk, jk, jk, jk, jk, jk, jk, jk, jk, jk, jk, jk, jk, jk, jk, jk], [], [], [], [], i, nomem⟩) (rowsF r c l).length ?_ ?_
  · simp -implicitDefEqProofs only [rkA, stepA, valA, storeA, ldA, fieldAddrA, fieldA, idxAddrA, idxA, idxArr, lenA, unA, binA, num2, binV, eqA, rowOf, PV.cells, PV.cell, bndA, appA, reduceIte, reduceCtorEq, Nat.reduceAdd, Nat.reduceSub, Nat.reduceEqDiff, Nat.reduceLeDiff, Nat.reduceLT, Nat.reduceMul, Nat.reduceBEq, Nat.reduceBNe, Int.reduceToNat, Int.reduceLE, Int.reduceLT, allocX, setPs, extremeA, ints, resAll, rinfOk, packR]
    exact ⟨0, by simp, rfl⟩
  rintro m s ⟨i, hi, rfl⟩
  simp -implicitDefEqProofs only [rkA, stepA, valA, storeA, ldA, fieldAddrA, fieldA, idxAddrA, idxA, idxArr, lenA, unA, binA, num2, binV, eqA, rowOf, PV.cells, PV.cell, bndA, appA, reduceIte, reduceCtorEq, Nat.reduceAdd, Nat.reduceSub, Nat.reduceEqDiff, Nat.reduceLeDiff, Nat.reduceLT, Nat.reduceMul, Nat.reduceBEq, Nat.reduceBNe, Int.reduceToNat, Int.reduceLE, Int.reduceLT, allocX, setPs, extremeA, ints, resAll, rinfOk, packR]
  refine call_fn rfl rfl rfl (ok44 ex r c (frs l)) ?_
  have e : (frs l).length = l.length := by simp
  rw [e]
  cases hr : right r c l.length with
  | false =>
    simp -implicitDefEqProofs only [rkA, stepA, valA, storeA, ldA, fieldAddrA, fieldA, idxAddrA, idxA, idxArr, lenA, unA, binA, num2, binV, eqA, rowOf, PV.cells, PV.cell, bndA, appA, reduceIte, reduceCtorEq, Nat.reduceAdd, Nat.reduceSub, Nat.reduceEqDiff, Nat.reduceLeDiff, Nat.reduceLT, Nat.reduceMul, Nat.reduceBEq, Nat.reduceBNe, Int.reduceToNat, Int.reduceLE, Int.reduceLT, allocX, setPs, extremeA, ints, resAll, rinfOk, packR]
    have hl : (rowsF r c l).length = 0 := by simp [rowsF, hr]
    omega
  | true =>
    obtain ⟨r1, r2, c1, c2, hn⟩ := right_spec hr
    have hl : (rowsF r c l).length = r.toNat := by simp [rowsF, hr]
    simp -implicitDefEqProofs only [rkA, stepA, valA, storeA, ldA, fieldAddrA, fieldA, idxAddrA, idxA, idxArr, lenA, unA, binA, num2, binV, eqA, rowOf, PV.cells, PV.cell, bndA, appA, reduceIte, reduceCtorEq, Nat.reduceAdd, Nat.reduceSub, Nat.reduceEqDiff, Nat.reduceLeDiff, Nat.reduceLT, Nat.reduceMul, Nat.reduceBEq, Nat.reduceBNe, Int.reduceToNat, Int.reduceLE, Int.reduceLT, allocX, setPs, extremeA, ints, resAll, rinfOk, packR]
    refine gB_dec ?_ ?_ <;> intro hc <;> simp -implicitDefEqProofs only [hc, rkA, stepA, valA, storeA, ldA, fieldAddrA, fieldA, idxAddrA, idxA, idxArr, lenA, unA, binA, num2, binV, eqA, rowOf, PV.cells, PV.cell, bndA, appA, reduceIte, reduceCtorEq, Nat.reduceAdd, Nat.reduceSub, Nat.reduceEqDiff, Nat.reduceLeDiff, Nat.reduceLT, Nat.reduceMul, Nat.reduceBEq, Nat.reduceBNe, Int.reduceToNat, Int.reduceLE, Int.reduceLT, allocX, setPs, extremeA, ints, resAll, rinfOk, packR]
    · refine call_fn rfl rfl rfl (ok18 ex r c i l) ?_
      simp -implicitDefEqProofs only [rkA, stepA, valA, storeA, ldA, fieldAddrA, fieldA, idxAddrA, idxA, idxArr, lenA, unA, binA, num2, binV, eqA, rowOf, PV.cells, PV.cell, bndA, appA, reduceIte, reduceCtorEq, Nat.reduceAdd, Nat.reduceSub, Nat.reduceEqDiff, Nat.reduceLeDiff, Nat.reduceLT, Nat.reduceMul, Nat.reduceBEq, Nat.reduceBNe, Int.reduceToNat, Int.reduceLE, Int.reduceLT, allocX, setPs, extremeA, ints, resAll, rinfOk, packR]
      have hx : (rowsF r c l)[i]? = some [num (i : Int), .sl false (frs (rowF r c l i))] := by
        have : i < r.toNat := by omega
        simp [rowsF, hr, this]
      have hw := wrapped (x := (i : Int) + 1) (by omega) (by omega)
      refine call_yield rfl rfl rfl rfl rfl hx ?_ ?_
      · simp -implicitDefEqProofs only [hw, rkA, stepA, valA, storeA, ldA, fieldAddrA, fieldA, idxAddrA, idxA, idxArr, lenA, unA, binA, num2, binV, eqA, rowOf, PV.cells, PV.cell, bndA, appA, reduceIte, reduceCtorEq, Nat.reduceAdd, Nat.reduceSub, Nat.reduceEqDiff, Nat.reduceLeDiff, Nat.reduceLT, Nat.reduceMul, Nat.reduceBEq, Nat.reduceBNe, Int.reduceToNat, Int.reduceLE, Int.reduceLT, allocX, setPs, extremeA, ints, resAll, rinfOk, packR]
        refine loopK_of (m' := m - 1) (by omega) ?_
        simp -implicitDefEqProofs only [rkA, stepA, valA, storeA, ldA, fieldAddrA, fieldA, idxAddrA, idxA, idxArr, lenA, unA, binA, num2, binV, eqA, rowOf, PV.cells, PV.cell, bndA, appA, reduceIte, reduceCtorEq, Nat.reduceAdd, Nat.reduceSub, Nat.reduceEqDiff, Nat.reduceLeDiff, Nat.reduceLT, Nat.reduceMul, Nat.reduceBEq, Nat.reduceBNe, Int.reduceToNat, Int.reduceLE, Int.reduceLT, allocX, setPs, extremeA, ints, resAll, rinfOk, packR]
        exact ⟨i + 1, by omega, by simp only [Int.natCast_add, Int.natCast_one]⟩
      · simp -implicitDefEqProofs only [rkA, stepA, valA, storeA, ldA, fieldAddrA, fieldA, idxAddrA, idxA, idxArr, lenA, unA, binA, num2, binV, eqA, rowOf, PV.cells, PV.cell, bndA, appA, reduceIte, reduceCtorEq, Nat.reduceAdd, Nat.reduceSub, Nat.reduceEqDiff, Nat.reduceLeDiff, Nat.reduceLT, Nat.reduceMul, Nat.reduceBEq, Nat.reduceBNe, Int.reduceToNat, Int.reduceLE, Int.reduceLT, allocX, setPs, extremeA, ints, resAll, rinfOk, packR]
        exact .inr trivial
    · omega

theorem ok41 (ex : Bool) (r c : Int) (l : List Fr) : Ok Try.prog 41 [matV ex r c (frs l)] (.fn (.func 54) [.vp [num r, num c, .sl ex (frs l)]]) := by
  refine ok_fn mixed Try.func41 (code := ?_) (h := h41) ?_ k41 ?_
  rotate_left
  · exact rfl
  unfold h41 initS
  simp -implicitDefEqProofs only [rkA, stepA, valA, storeA, ldA, fieldAddrA, fieldA, idxAddrA, idxA, idxArr, lenA, unA, binA, num2, binV, eqA, rowOf, PV.cells, PV.cell, bndA, appA, reduceIte, reduceCtorEq, Nat.reduceAdd, Nat.reduceSub, Nat.reduceEqDiff, Nat.reduceLeDiff, Nat.reduceLT, Nat.reduceMul, Nat.reduceBEq, Nat.reduceBNe, Int.reduceToNat, Int.reduceLE, Int.reduceLT, allocX, setPs, extremeA, ints, resAll, rinfOk, packR, Try.ntmps41, Try.results41]

/-! ### Pairs -/
def pairsF (a b : List Fr) : List (List PV) := (List.zip a b).map fun p => [frV p.1, frV p.2]

theorem it59 (ea eb : Bool) (a b : List Fr) (ha : a.length ≤ 5864062014805) (hb : b.length ≤ 5864062014805) : IterOk Try.prog (.fn (.func 59) [.vp [.sl ea (frs a)], .vp [.sl eb (frs b)]]) (pairsF a b) := by
  refine iter_fn mixed Try.func59 (code := ?_) (h := h59) ?_ k59 ?_ ?_
  rotate_left
  · exact rfl
  · exact rfl
  intro yl
  unfold h59 initS
  simp -implicitDefEqProofs only [rkA, stepA, valA, storeA, ldA, fieldAddrA, fieldA, idxAddrA, idxA, idxArr, lenA, unA, binA, num2, binV, eqA, rowOf, PV.cells, PV.cell, bndA, appA, reduceIte, reduceCtorEq, Nat.reduceAdd, Nat.reduceSub, Nat.reduceEqDiff, Nat.reduceLeDiff, Nat.reduceLT, Nat.reduceMul, Nat.reduceBEq, Nat.reduceBNe, Int.reduceToNat, Int.reduceLE, Int.reduceLT, allocX, setPs, extremeA, ints, resAll, rinfOk, packR, Try.ntmps59]
  have hl : (pairsF a b).length = min a.length b.length := by simp [pairsF]
  have hx0 : ∀ (i : Nat) (ha : i < a.length) (hb : i < b.length), (pairsF a b)[i]? = some [frV a[i], frV b[i]] := fun i h1 h2 => by
    rw [pairsF, List.getElem?_map, List.getElem?_eq_getElem (by simp; omega), Option.map_some, List.getElem_zip]
  have hmin : (if ((frs b).length : Int) < ((frs a).length : Int) then ((frs b).length : Int) else ((frs a).length : Int)) = ((min a.length b.length : Nat) : Int) := by
    simp only [List.length_map]
    split <;> omega
  simp only [hmin]
  refine wp_loop (fun m s => ∃ i : Nat, i + m = (pairsF a b).length ∧ s = ⟨[.v (.fn (.yield yl) []), .v (.vp [.sl ea (frs a)]), .v (.vp [.sl eb (frs b)]), jk, jk, jk, jk, jk, jk, nt ((min a.length b.length : Nat) : Int), nt i, jk, jk, jk, jk, jk, jk, jk, jk, jk, jk, jk, jk, jk, jk], [], [], [], [], i, nomem⟩) (pairsF a b).length ?_ ?_
  · simp -implicitDefEqProofs only [rkA, stepA, valA, storeA, ldA, fieldAddrA, fieldA, idxAddrA, idxA, idxArr, lenA, unA, binA, num2, binV, eqA, rowOf, PV.cells, PV.cell, bndA, appA, reduceIte, reduceCtorEq, Nat.reduceAdd, Nat.reduceSub, Nat.reduceEqDiff, Nat.reduceLeDiff, Nat.reduceLT, Nat.reduceMul, Nat.reduceBEq, Nat.reduceBNe, Int.reduceToNat, Int.reduceLE, Int.reduceLT, allocX, setPs, extremeA, ints, resAll, rinfOk, packR]
    exact ⟨0, by simp, rfl⟩
  rintro m s ⟨i, hi, rfl⟩
  simp -implicitDefEqProofs only [rkA, stepA, valA, storeA, ldA, fieldAddrA, fieldA, idxAddrA, idxA, idxArr, lenA, unA, binA, num2, binV, eqA, rowOf, PV.cells, PV.cell, bndA, appA, reduceIte, reduceCtorEq, Nat.reduceAdd, Nat.reduceSub, Nat.reduceEqDiff, Nat.reduceLeDiff, Nat.reduceLT, Nat.reduceMul, Nat.reduceBEq, Nat.reduceBNe, Int.reduceToNat, Int.reduceLE, Int.reduceLT, allocX, setPs, extremeA, ints, resAll, rinfOk, packR]
  refine gB_dec ?_ ?_ <;> intro hc <;> simp -implicitDefEqProofs only [hc, rkA, stepA, valA, storeA, ldA, fieldAddrA, fieldA, idxAddrA, idxA, idxArr, lenA, unA, binA, num2, binV, eqA, rowOf, PV.cells, PV.cell, bndA, appA, reduceIte, reduceCtorEq, Nat.reduceAdd, Nat.reduceSub, Nat.reduceEqDiff, Nat.reduceLeDiff, Nat.reduceLT, Nat.reduceMul, Nat.reduceBEq, Nat.reduceBNe, Int.reduceToNat, Int.reduceLE, Int.reduceLT, allocX, setPs, extremeA, ints, resAll, rinfOk, packR]
  · have h1 : i < a.length := by omega
    have h2 : i < b.length := by omega
    have h0 : (0 : Int) ≤ (i : Int) := by omega
    have g1 : (frs a)[i]? = some (frV a[i]) := by simp [h1]
    have g2 : (frs b)[i]? = some (frV b[i]) := by simp [h2]
    simp -implicitDefEqProofs only [h0, Int.toNat_natCast, g1, g2, rkA, stepA, valA, storeA, ldA, fieldAddrA, fieldA, idxAddrA, idxA, idxArr, lenA, unA, binA, num2, binV, eqA, rowOf, PV.cells, PV.cell, bndA, appA, reduceIte, reduceCtorEq, Nat.reduceAdd, Nat.reduceSub, Nat.reduceEqDiff, Nat.reduceLeDiff, Nat.reduceLT, Nat.reduceMul, Nat.reduceBEq, Nat.reduceBNe, Int.reduceToNat, Int.reduceLE, Int.reduceLT, allocX, setPs, extremeA, ints, resAll, rinfOk, packR]
    have hw := wrapped (x := (i : Int) + 1) (by omega) (by omega)
    refine call_yield rfl rfl rfl rfl rfl (hx0 i h1 h2) ?_ ?_
    · simp -implicitDefEqProofs only [hw, rkA, stepA, valA, storeA, ldA, fieldAddrA, fieldA, idxAddrA, idxA, idxArr, lenA, unA, binA, num2, binV, eqA, rowOf, PV.cells, PV.cell, bndA, appA, reduceIte, reduceCtorEq, Nat.reduceAdd, Nat.reduceSub, Nat.reduceEqDiff, Nat.reduceLeDiff, Nat.reduceLT, Nat.reduceMul, Nat.reduceBEq, Nat.reduceBNe, Int.reduceToNat, Int.reduceLE, Int.reduceLT, allocX, setPs, extremeA, ints, resAll, rinfOk, packR]
      refine loopK_of (m' := m - 1) (by omega) ?_
      simp -implicitDefEqProofs only [rkA, stepA, valA, storeA, ldA, fieldAddrA, fieldA, idxAddrA, idxA, idxArr, lenA, unA, binA, num2, binV, eqA, rowOf, PV.cells, PV.cell, bndA, appA, reduceIte, reduceCtorEq, Nat.reduceAdd, Nat.reduceSub, Nat.reduceEqDiff, Nat.reduceLeDiff, Nat.reduceLT, Nat.reduceMul, Nat.reduceBEq, Nat.reduceBNe, Int.reduceToNat, Int.reduceLE, Int.reduceLT, allocX, setPs, extremeA, ints, resAll, rinfOk, packR]
      exact ⟨i + 1, by omega, by simp only [Int.natCast_add, Int.natCast_one]⟩
    · simp -implicitDefEqProofs only [rkA, stepA, valA, storeA, ldA, fieldAddrA, fieldA, idxAddrA, idxA, idxArr, lenA, unA, binA, num2, binV, eqA, rowOf, PV.cells, PV.cell, bndA, appA, reduceIte, reduceCtorEq, Nat.reduceAdd, Nat.reduceSub, Nat.reduceEqDiff, Nat.reduceLeDiff, Nat.reduceLT, Nat.reduceMul, Nat.reduceBEq, Nat.reduceBNe, Int.reduceToNat, Int.reduceLE, Int.reduceLT, allocX, setPs, extremeA, ints, resAll, rinfOk, packR]
      exact .inr trivial
  · omega

theorem ok56 (ea eb : Bool) (a b : List Fr) : Ok Try.prog 56 [.sl ea (frs a), .sl eb (frs b)] (.fn (.func 59) [.vp [.sl ea (frs a)], .vp [.sl eb (frs b)]]) := by
  refine ok_fn mixed Try.func56 (code := ?_) (h := h56) ?_ k56 ?_
  rotate_left
  · exact rfl
  unfold h56 initS
  simp -implicitDefEqProofs only [rkA, stepA, valA, storeA, ldA, fieldAddrA, fieldA, idxAddrA, idxA, idxArr, lenA, unA, binA, num2, binV, eqA, rowOf, PV.cells, PV.cell, bndA, appA, reduceIte, reduceCtorEq, Nat.reduceAdd, Nat.reduceSub, Nat.reduceEqDiff, Nat.reduceLeDiff, Nat.reduceLT, Nat.reduceMul, Nat.reduceBEq, Nat.reduceBNe, Int.reduceToNat, Int.reduceLE, Int.reduceLT, allocX, setPs, extremeA, ints, resAll, rinfOk, packR, Try.ntmps56, Try.results56]
end Go.Proofs.Ytbflmeomkfjikaa.A

set_option linter.unusedVariables false
set_option linter.unusedSimpArgs false
set_option maxRecDepth 100000
namespace Go.Proofs.Ytbflmeomkfjikaa.A
open Go Go.RowKit Go.Shelf

theorem ok46 (k : Nat) (F : Fr → Fr → Fr) (hF : ∀ x y, Ok Try.prog k [frV x, frV y] (frV (F x y))) (ea eb : Bool) (a b : List Fr) (ha : a.length ≤ 5864062014805) (hb : b.length ≤ 5864062014805) :
    Ok Try.prog 46 [.sl ea (frs a), .sl eb (frs b), .fn (.func k) []] (.sl false (frs (List.zipWith F a b))) := by
  refine ok_fn mixed Try.func46 (code := ?_) (h := h46) ?_ k46 ?_
  rotate_left
  · exact rfl
  unfold h46 initS
  simp -implicitDefEqProofs only [rkA, stepA, valA, storeA, ldA, fieldAddrA, fieldA, idxAddrA, idxA, idxArr, lenA, unA, binA, num2, binV, eqA, rowOf, PV.cells, PV.cell, bndA, appA, reduceIte, reduceCtorEq, Nat.reduceAdd, Nat.reduceSub, Nat.reduceEqDiff, Nat.reduceLeDiff, Nat.reduceLT, Nat.reduceMul, Nat.reduceBEq, Nat.reduceBNe, Int.reduceToNat, Int.reduceLE, Int.reduceLT, allocX, setPs, extremeA, ints, resAll, rinfOk, packR, Try.ntmps46, Try.results46]
  refine call_fn rfl rfl rfl (ok56 ea eb a b) ?_
  simp -implicitDefEqProofs only [rkA, stepA, valA, storeA, ldA, fieldAddrA, fieldA, idxAddrA, idxA, idxArr, lenA, unA, binA, num2, binV, eqA, rowOf, PV.cells, PV.cell, bndA, appA, reduceIte, reduceCtorEq, Nat.reduceAdd, Nat.reduceSub, Nat.reduceEqDiff, Nat.reduceLeDiff, Nat.reduceLT, Nat.reduceMul, Nat.reduceBEq, Nat.reduceBNe, Int.reduceToNat, Int.reduceLE, Int.reduceLT, allocX, setPs, extremeA, ints, resAll, rinfOk, packR]
  have hlz : (List.zipWith F a b).length = min a.length b.length := by simp
  have hpl : (pairsF a b).length = min a.length b.length := by simp [pairsF]
  refine wp_rf (items := pairsF a b) rfl (it59 ea eb a b ha hb) (fun i s => i ≤ (pairsF a b).length ∧ s = ⟨[], [(5, [.v (.fn (.func k) [])]), (7, [.acc 1007 (frs ((List.zipWith F a b).take i))])], [], [(6, 0), (1007, i)],
    [[.v (.sl ea (frs a)), .v (.sl eb (frs b)), .v (.fn (.func k) []), jk, jk, .ptr 5 0, .acc 6 [], .ptr 7 0, jk, jk, .v (.sl ea (frs a)), .v (.sl eb (frs b)), .v (.fn (.func 59) [.vp [.sl ea (frs a)], .vp [.sl eb (frs b)]]), jk, jk, jk, jk, jk, jk, jk, jk, jk, jk]], 0, nomem⟩) ?_ ?_ ?_
  · simp -implicitDefEqProofs only [rkA, stepA, valA, storeA, ldA, fieldAddrA, fieldA, idxAddrA, idxA, idxArr, lenA, unA, binA, num2, binV, eqA, rowOf, PV.cells, PV.cell, bndA, appA, reduceIte, reduceCtorEq, Nat.reduceAdd, Nat.reduceSub, Nat.reduceEqDiff, Nat.reduceLeDiff, Nat.reduceLT, Nat.reduceMul, Nat.reduceBEq, Nat.reduceBNe, Int.reduceToNat, Int.reduceLE, Int.reduceLT, allocX, setPs, extremeA, ints, resAll, rinfOk, packR]
    exact Nat.zero_le _
  · rintro i x' s' R hx ⟨hi, rfl⟩ hR
    have hlt : i < (pairsF a b).length := (List.getElem?_eq_some_iff.1 hx).1
    have h1 : i < a.length := by omega
    have h2 : i < b.length := by omega
    have hx' : x' = [frV a[i], frV b[i]] := by
      rw [pairsF, List.getElem?_map, List.getElem?_eq_getElem (by simp; omega), Option.map_some, List.getElem_zip] at hx
      exact (Option.some.inj hx).symm
    subst hx'
    refine ⟨rfl, ?_⟩
    simp -implicitDefEqProofs only [rkA, stepA, valA, storeA, ldA, fieldAddrA, fieldA, idxAddrA, idxA, idxArr, lenA, unA, binA, num2, binV, eqA, rowOf, PV.cells, PV.cell, bndA, appA, reduceIte, reduceCtorEq, Nat.reduceAdd, Nat.reduceSub, Nat.reduceEqDiff, Nat.reduceLeDiff, Nat.reduceLT, Nat.reduceMul, Nat.reduceBEq, Nat.reduceBNe, Int.reduceToNat, Int.reduceLE, Int.reduceLT, allocX, setPs, extremeA, ints, resAll, rinfOk, packR]
    refine call_fn rfl rfl rfl (hF a[i] b[i]) ?_
    have hfit : fits 3 24 (frs ((List.zipWith F a b).take i)) [frV (F a[i] b[i])] = true := fits_frs (l := [F a[i] b[i]]) (by simp; omega)
    have hl : (frs ((List.zipWith F a b).take i)).length = i := by simp; omega
    simp -implicitDefEqProofs only [hfit, hl, rkA, stepA, valA, storeA, ldA, fieldAddrA, fieldA, idxAddrA, idxA, idxArr, lenA, unA, binA, num2, binV, eqA, rowOf, PV.cells, PV.cell, bndA, appA, reduceIte, reduceCtorEq, Nat.reduceAdd, Nat.reduceSub, Nat.reduceEqDiff, Nat.reduceLeDiff, Nat.reduceLT, Nat.reduceMul, Nat.reduceBEq, Nat.reduceBNe, Int.reduceToNat, Int.reduceLE, Int.reduceLT, allocX, setPs, extremeA, ints, resAll, rinfOk, packR]
    refine hR _ ⟨by omega, ?_⟩
    rw [List.take_succ_eq_append_getElem (by simp; omega)]
    simp only [frs, List.map_append, List.map_cons, List.map_nil, List.getElem_zipWith]
  · rintro s' ⟨hi, rfl⟩
    simp -implicitDefEqProofs only [rkA, stepA, valA, storeA, ldA, fieldAddrA, fieldA, idxAddrA, idxA, idxArr, lenA, unA, binA, num2, binV, eqA, rowOf, PV.cells, PV.cell, bndA, appA, reduceIte, reduceCtorEq, Nat.reduceAdd, Nat.reduceSub, Nat.reduceEqDiff, Nat.reduceLeDiff, Nat.reduceLT, Nat.reduceMul, Nat.reduceBEq, Nat.reduceBNe, Int.reduceToNat, Int.reduceLE, Int.reduceLT, allocX, setPs, extremeA, ints, resAll, rinfOk, packR]
    rw [List.take_of_length_le (by simp; omega)]

def dotF (a b : List Fr) : Fr := sumF (List.zipWith mulF a b)

theorem ok17 (ea eb : Bool) (a b : List Fr) (ha : a.length ≤ 5864062014805) (hb : b.length ≤ 5864062014805) : Ok Try.prog 17 [.sl ea (frs a), .sl eb (frs b)] (frV (dotF a b)) := by
  refine ok_fn mixed Try.func17 (code := ?_) (h := h17) ?_ k17 ?_
  rotate_left
  · exact rfl
  unfold h17 initS
  simp -implicitDefEqProofs only [rkA, stepA, valA, storeA, ldA, fieldAddrA, fieldA, idxAddrA, idxA, idxArr, lenA, unA, binA, num2, binV, eqA, rowOf, PV.cells, PV.cell, bndA, appA, reduceIte, reduceCtorEq, Nat.reduceAdd, Nat.reduceSub, Nat.reduceEqDiff, Nat.reduceLeDiff, Nat.reduceLT, Nat.reduceMul, Nat.reduceBEq, Nat.reduceBNe, Int.reduceToNat, Int.reduceLE, Int.reduceLT, allocX, setPs, extremeA, ints, resAll, rinfOk, packR, Try.ntmps17, Try.results17]
  refine call_fn rfl rfl rfl (ok46 47 mulF ok47 ea eb a b ha hb) ?_
  simp -implicitDefEqProofs only [rkA, stepA, valA, storeA, ldA, fieldAddrA, fieldA, idxAddrA, idxA, idxArr, lenA, unA, binA, num2, binV, eqA, rowOf, PV.cells, PV.cell, bndA, appA, reduceIte, reduceCtorEq, Nat.reduceAdd, Nat.reduceSub, Nat.reduceEqDiff, Nat.reduceLeDiff, Nat.reduceLT, Nat.reduceMul, Nat.reduceBEq, Nat.reduceBNe, Int.reduceToNat, Int.reduceLE, Int.reduceLT, allocX, setPs, extremeA, ints, resAll, rinfOk, packR]
  refine call_fn rfl rfl rfl (ok45 false (List.zipWith mulF a b) (by simp; omega)) ?_
  simp -implicitDefEqProofs only [rkA, stepA, valA, storeA, ldA, fieldAddrA, fieldA, idxAddrA, idxA, idxArr, lenA, unA, binA, num2, binV, eqA, rowOf, PV.cells, PV.cell, bndA, appA, reduceIte, reduceCtorEq, Nat.reduceAdd, Nat.reduceSub, Nat.reduceEqDiff, Nat.reduceLeDiff, Nat.reduceLT, Nat.reduceMul, Nat.reduceBEq, Nat.reduceBNe, Int.reduceToNat, Int.reduceLE, Int.reduceLT, allocX, setPs, extremeA, ints, resAll, rinfOk, packR, dotF]

/-- A matrix, turned. -/
def turnF (r c : Int) (l : List Fr) : List Fr := if right r c l.length = true then (List.range c.toNat).flatMap fun (k : Nat) => (List.range r.toNat).map fun (i : Nat) => atF r c l i k else []

/-- Of a turned matrix, what is told so far. -/
def turnP (r c : Int) (l : List Fr) (k i : Nat) : List Fr := (List.range k).flatMap (fun (k : Nat) => (List.range r.toNat).map fun (i : Nat) => atF r c l i k) ++ (List.range i).map fun (i : Nat) => atF r c l i k
theorem turnP_succ (r c : Int) (l : List Fr) (k i : Nat) : turnP r c l k (i + 1) = turnP r c l k i ++ [atF r c l i k] := by
  simp [turnP, List.range_succ]
theorem turnP_next (r c : Int) (l : List Fr) (k : Nat) : turnP r c l k r.toNat = turnP r c l (k + 1) 0 := by
  simp [turnP, List.range_succ]
theorem turnP_length (r c : Int) (l : List Fr) (k i : Nat) : (turnP r c l k i).length = k * r.toNat + i := by
  simp [turnP, List.length_flatMap, List.map_const', List.sum_replicate_nat]

theorem ok20 (ex : Bool) (r c : Int) (l : List Fr) : Ok Try.prog 20 [matV ex r c (frs l)] (if right r c l.length = true then matV false c r (frs (turnF r c l)) else matNil) := by
  refine ok_fn mixed Try.func20 (code := ?_) (h := h20) ?_ k20 ?_
  rotate_left
  · exact rfl
  unfold h20 initS
  simp -implicitDefEqProofs only [rkA, stepA, valA, storeA, ldA, fieldAddrA, fieldA, idxAddrA, idxA, idxArr, lenA, unA, binA, num2, binV, eqA, rowOf, PV.cells, PV.cell, bndA, appA, reduceIte, reduceCtorEq, Nat.reduceAdd, Nat.reduceSub, Nat.reduceEqDiff, Nat.reduceLeDiff, Nat.reduceLT, Nat.reduceMul, Nat.reduceBEq, Nat.reduceBNe, Int.reduceToNat, Int.reduceLE, Int.reduceLT, allocX, setPs, extremeA, ints, resAll, rinfOk, packR, Try.ntmps20, Try.results20]
  refine call_fn rfl rfl rfl (ok44 ex r c (frs l)) ?_
  have e : (frs l).length = l.length := by simp
  rw [e]
  cases hr : right r c l.length with
  | false => simp -implicitDefEqProofs only [rkA, stepA, valA, storeA, ldA, fieldAddrA, fieldA, idxAddrA, idxA, idxArr, lenA, unA, binA, num2, binV, eqA, rowOf, PV.cells, PV.cell, bndA, appA, reduceIte, reduceCtorEq, Nat.reduceAdd, Nat.reduceSub, Nat.reduceEqDiff, Nat.reduceLeDiff, Nat.reduceLT, Nat.reduceMul, Nat.reduceBEq, Nat.reduceBNe, Int.reduceToNat, Int.reduceLE, Int.reduceLT, allocX, setPs, extremeA, ints, resAll, rinfOk, packR]
  | true =>
    obtain ⟨r1, r2, c1, c2, hn⟩ := right_spec hr
    simp -implicitDefEqProofs only [rkA, stepA, valA, storeA, ldA, fieldAddrA, fieldA, idxAddrA, idxA, idxArr, lenA, unA, binA, num2, binV, eqA, rowOf, PV.cells, PV.cell, bndA, appA, reduceIte, reduceCtorEq, Nat.reduceAdd, Nat.reduceSub, Nat.reduceEqDiff, Nat.reduceLeDiff, Nat.reduceLT, Nat.reduceMul, Nat.reduceBEq, Nat.reduceBNe, Int.reduceToNat, Int.reduceLE, Int.reduceLT, allocX, setPs, extremeA, ints, resAll, rinfOk, packR]
    refine wp_loop (fun m s => ∃ k : Nat, k + m = c.toNat ∧ s = ⟨[jk, .ptr 1 0, .ptr 2 0, .ptr 3 0, jk, jk, jk, jk, jk, jk, jk, jk, jk, jk, jk, jk, .v (num c), nt k, jk, jk, jk, jk, jk, jk, jk, jk, jk, jk, jk, jk, jk, jk, jk, jk, jk, jk, jk], [(1, [.v (num r), .v (num c), .v (.sl ex (frs l))]), (2, [nt 0, nt 0, .acc 3002 []]), (3, [nt c, nt r, .acc 15003 (frs (turnP r c l k 0))])], [],
      [(3002, 0), (3003, 0), (15003, (turnP r c l k 0).length)], [], 0, nomem⟩) c.toNat ?_ ?_
    · simp -implicitDefEqProofs only [rkA, stepA, valA, storeA, ldA, fieldAddrA, fieldA, idxAddrA, idxA, idxArr, lenA, unA, binA, num2, binV, eqA, rowOf, PV.cells, PV.cell, bndA, appA, reduceIte, reduceCtorEq, Nat.reduceAdd, Nat.reduceSub, Nat.reduceEqDiff, Nat.reduceLeDiff, Nat.reduceLT, Nat.reduceMul, Nat.reduceBEq, Nat.reduceBNe, Int.reduceToNat, Int.reduceLE, Int.reduceLT, allocX, setPs, extremeA, ints, resAll, rinfOk, packR]
      exact ⟨0, by simp, rfl⟩
    rintro m s ⟨k, hk, rfl⟩
    simp -implicitDefEqProofs only [rkA, stepA, valA, storeA, ldA, fieldAddrA, fieldA, idxAddrA, idxA, idxArr, lenA, unA, binA, num2, binV, eqA, rowOf, PV.cells, PV.cell, bndA, appA, reduceIte, reduceCtorEq, Nat.reduceAdd, Nat.reduceSub, Nat.reduceEqDiff, Nat.reduceLeDiff, Nat.reduceLT, Nat.reduceMul, Nat.reduceBEq, Nat.reduceBNe, Int.reduceToNat, Int.reduceLE, Int.reduceLT, allocX, setPs, extremeA, ints, resAll, rinfOk, packR]
    refine gB_dec ?_ ?_ <;> intro hc <;> simp -implicitDefEqProofs only [hc, rkA, stepA, valA, storeA, ldA, fieldAddrA, fieldA, idxAddrA, idxA, idxArr, lenA, unA, binA, num2, binV, eqA, rowOf, PV.cells, PV.cell, bndA, appA, reduceIte, reduceCtorEq, Nat.reduceAdd, Nat.reduceSub, Nat.reduceEqDiff, Nat.reduceLeDiff, Nat.reduceLT, Nat.reduceMul, Nat.reduceBEq, Nat.reduceBNe, Int.reduceToNat, Int.reduceLE, Int.reduceLT, allocX, setPs, extremeA, ints, resAll, rinfOk, packR]
    · refine wp_loop (fun m s => ∃ i : Nat, i + m = r.toNat ∧ s = ⟨[jk, .ptr 1 0, .ptr 2 0, .ptr 3 0, nt k, jk, jk, jk, jk, jk, jk, jk, jk, jk, jk, jk, .v (num c), nt k, jk, jk, jk, nt r, nt i, jk, jk, jk, jk, jk, jk, jk, jk, jk, jk, jk, jk, jk, jk], [(1, [.v (num r), .v (num c), .v (.sl ex (frs l))]), (2, [nt 0, nt 0, .acc 3002 []]), (3, [nt c, nt r, .acc 15003 (frs (turnP r c l k i))])], [],
        [(3002, 0), (3003, 0), (15003, (turnP r c l k i).length)], [], 0, nomem⟩) r.toNat ?_ ?_
      · simp -implicitDefEqProofs only [rkA, stepA, valA, storeA, ldA, fieldAddrA, fieldA, idxAddrA, idxA, idxArr, lenA, unA, binA, num2, binV, eqA, rowOf, PV.cells, PV.cell, bndA, appA, reduceIte, reduceCtorEq, Nat.reduceAdd, Nat.reduceSub, Nat.reduceEqDiff, Nat.reduceLeDiff, Nat.reduceLT, Nat.reduceMul, Nat.reduceBEq, Nat.reduceBNe, Int.reduceToNat, Int.reduceLE, Int.reduceLT, allocX, setPs, extremeA, ints, resAll, rinfOk, packR]
        exact ⟨0, by simp, rfl⟩
      rintro m' s ⟨i, hi, rfl⟩
      simp -implicitDefEqProofs only [rkA, stepA, valA, storeA, ldA, fieldAddrA, fieldA, idxAddrA, idxA, idxArr, lenA, unA, binA, num2, binV, eqA, rowOf, PV.cells, PV.cell, bndA, appA, reduceIte, reduceCtorEq, Nat.reduceAdd, Nat.reduceSub, Nat.reduceEqDiff, Nat.reduceLeDiff, Nat.reduceLT, Nat.reduceMul, Nat.reduceBEq, Nat.reduceBNe, Int.reduceToNat, Int.reduceLE, Int.reduceLT, allocX, setPs, extremeA, ints, resAll, rinfOk, packR]
      have hlen := turnP_length r c l k i
      have hb : k * r.toNat + i ≤ 256 := by
        have : (k + 1) * r.toNat ≤ 16 * 16 := Nat.mul_le_mul (by omega) (by omega)
        rw [Nat.add_mul] at this
        omega
      refine gB_dec ?_ ?_ <;> intro hc2 <;> simp -implicitDefEqProofs only [hc2, rkA, stepA, valA, storeA, ldA, fieldAddrA, fieldA, idxAddrA, idxA, idxArr, lenA, unA, binA, num2, binV, eqA, rowOf, PV.cells, PV.cell, bndA, appA, reduceIte, reduceCtorEq, Nat.reduceAdd, Nat.reduceSub, Nat.reduceEqDiff, Nat.reduceLeDiff, Nat.reduceLT, Nat.reduceMul, Nat.reduceBEq, Nat.reduceBNe, Int.reduceToNat, Int.reduceLE, Int.reduceLT, allocX, setPs, extremeA, ints, resAll, rinfOk, packR]
      · refine call_fn rfl rfl rfl (ok40 ex r c i k l) ?_
        have hfit : fits 3 24 (frs (turnP r c l k i)) [frV (atF r c l i k)] = true := fits_frs (l := [atF r c l i k]) (by simp only [List.length_cons, List.length_nil]; omega)
        have hl : (frs (turnP r c l k i)).length = (turnP r c l k i).length := by simp
        have hw := wrapped (x := (i : Int) + 1) (by omega) (by omega)
        simp -implicitDefEqProofs only [hfit, hl, hw, rkA, stepA, valA, storeA, ldA, fieldAddrA, fieldA, idxAddrA, idxA, idxArr, lenA, unA, binA, num2, binV, eqA, rowOf, PV.cells, PV.cell, bndA, appA, reduceIte, reduceCtorEq, Nat.reduceAdd, Nat.reduceSub, Nat.reduceEqDiff, Nat.reduceLeDiff, Nat.reduceLT, Nat.reduceMul, Nat.reduceBEq, Nat.reduceBNe, Int.reduceToNat, Int.reduceLE, Int.reduceLT, allocX, setPs, extremeA, ints, resAll, rinfOk, packR]
        refine loopK_of (m' := m' - 1) (by omega) ?_
        simp -implicitDefEqProofs only [rkA, stepA, valA, storeA, ldA, fieldAddrA, fieldA, idxAddrA, idxA, idxArr, lenA, unA, binA, num2, binV, eqA, rowOf, PV.cells, PV.cell, bndA, appA, reduceIte, reduceCtorEq, Nat.reduceAdd, Nat.reduceSub, Nat.reduceEqDiff, Nat.reduceLeDiff, Nat.reduceLT, Nat.reduceMul, Nat.reduceBEq, Nat.reduceBNe, Int.reduceToNat, Int.reduceLE, Int.reduceLT, allocX, setPs, extremeA, ints, resAll, rinfOk, packR]
        refine ⟨i + 1, by omega, ?_⟩
        rw [turnP_succ]
        simp only [frs, List.map_append, List.map_cons, List.map_nil, List.length_append, List.length_cons, List.length_nil, Int.natCast_add, Int.natCast_one]
      · have hw := wrapped (x := (k : Int) + 1) (by omega) (by omega)
        simp -implicitDefEqProofs only [hw, rkA, stepA, valA, storeA, ldA, fieldAddrA, fieldA, idxAddrA, idxA, idxArr, lenA, unA, binA, num2, binV, eqA, rowOf, PV.cells, PV.cell, bndA, appA, reduceIte, reduceCtorEq, Nat.reduceAdd, Nat.reduceSub, Nat.reduceEqDiff, Nat.reduceLeDiff, Nat.reduceLT, Nat.reduceMul, Nat.reduceBEq, Nat.reduceBNe, Int.reduceToNat, Int.reduceLE, Int.reduceLT, allocX, setPs, extremeA, ints, resAll, rinfOk, packR]
        refine loopK_of (m' := m - 1) (by omega) ?_
        simp -implicitDefEqProofs only [rkA, stepA, valA, storeA, ldA, fieldAddrA, fieldA, idxAddrA, idxA, idxArr, lenA, unA, binA, num2, binV, eqA, rowOf, PV.cells, PV.cell, bndA, appA, reduceIte, reduceCtorEq, Nat.reduceAdd, Nat.reduceSub, Nat.reduceEqDiff, Nat.reduceLeDiff, Nat.reduceLT, Nat.reduceMul, Nat.reduceBEq, Nat.reduceBNe, Int.reduceToNat, Int.reduceLE, Int.reduceLT, allocX, setPs, extremeA, ints, resAll, rinfOk, packR]
        refine ⟨k + 1, by omega, ?_⟩
        have hi2 : i = r.toNat := by omega
        rw [hi2, turnP_next]
        simp only [Int.natCast_add, Int.natCast_one]
    · have hk2 : k = c.toNat := by omega
      have : turnF r c l = turnP r c l k 0 := by
        rw [hk2]
        simp [turnF, hr, turnP]
      rw [this]
end Go.Proofs.Ytbflmeomkfjikaa.A

set_option linter.unusedVariables false
set_option linter.unusedSimpArgs false
set_option maxRecDepth 100000
namespace Go.Proofs.Ytbflmeomkfjikaa.A
open Go Go.RowKit Go.Shelf

theorem turnF_length {r c : Int} {l : List Fr} (h : right r c l.length = true) : (turnF r c l).length = c.toNat * r.toNat := by
  have : turnF r c l = turnP r c l c.toNat 0 := by simp [turnF, h, turnP]
  rw [this, turnP_length, Nat.add_zero]

theorem right_turn {r c : Int} {l : List Fr} (h : right r c l.length = true) : right c r (turnF r c l).length = true := by
  obtain ⟨r1, r2, c1, c2, hn⟩ := right_spec h
  rw [turnF_length h]
  simp only [right, Bool.and_eq_true, decide_eq_true_eq, beq_iff_eq]
  refine ⟨by omega, by omega, ?_⟩
  rw [Int.natCast_mul, Int.toNat_of_nonneg (by omega), Int.toNat_of_nonneg (by omega)]

section
variable {α β : Type} (f : α → α → β)
/-- A product, the rows given: what stands so far. -/
def prodP (xs ys : List α) (i k : Nat) : List β := (xs.take i).flatMap (fun x => ys.map (f x)) ++ (match xs[i]? with | some x => (ys.take k).map (f x) | none => [])
theorem prodP_succ {xs ys : List α} {i k : Nat} {x y : α} (hx : xs[i]? = some x) (hy : ys[k]? = some y) : prodP f xs ys i (k + 1) = prodP f xs ys i k ++ [f x y] := by
  obtain ⟨hk, rfl⟩ := List.getElem?_eq_some_iff.1 hy
  simp only [prodP, hx, List.take_succ_eq_append_getElem hk, List.map_append, List.map_cons, List.map_nil, List.append_assoc]
theorem prodP_zero (xs ys : List α) (i : Nat) : prodP f xs ys i 0 = (xs.take i).flatMap (fun x => ys.map (f x)) := by
  unfold prodP
  cases xs[i]? <;> simp
theorem prodP_next {xs ys : List α} {i : Nat} (hi : i < xs.length) : prodP f xs ys i ys.length = prodP f xs ys (i + 1) 0 := by
  rw [prodP_zero, List.take_succ_eq_append_getElem hi, prodP, List.getElem?_eq_getElem hi]
  simp only [List.take_length, List.flatMap_append, List.flatMap_cons, List.flatMap_nil, List.append_nil]
theorem prodP_length {xs ys : List α} {i k : Nat} (hi : i < xs.length) (hk : k ≤ ys.length) : (prodP f xs ys i k).length = i * ys.length + k := by
  rw [prodP, List.getElem?_eq_getElem hi]
  simp [List.length_flatMap, List.map_const', List.sum_replicate_nat, Nat.min_eq_left (Nat.le_of_lt hi), Nat.min_eq_left hk]
end

/-- All rows. -/
def allF (r c : Int) (l : List Fr) : List (List Fr) := (List.range r.toNat).map fun (i : Nat) => rowF r c l (i : Int)
def prodF (r m c : Int) (a b : List Fr) : List Fr := (allF r m a).flatMap fun x => (allF c m (turnF m c b)).map (dotF x)

theorem allF_length (r c : Int) (l : List Fr) : (allF r c l).length = r.toNat := by simp [allF]
theorem rowsF_all {r c : Int} {l : List Fr} (h : right r c l.length = true) {i : Nat} {x : List PV} (hx : (rowsF r c l)[i]? = some x) : i < r.toNat ∧ x = [num i, .sl false (frs (rowF r c l i))] ∧ (allF r c l)[i]? = some (rowF r c l i) := by
  obtain ⟨hi, rfl⟩ := List.getElem?_eq_some_iff.1 hx
  have hi' : i < r.toNat := by simpa [rowsF, h] using hi
  refine ⟨hi', by simp [rowsF, h], by simp [allF, hi']⟩
theorem rowsF_length {r c : Int} {l : List Fr} (h : right r c l.length = true) : (rowsF r c l).length = r.toNat := by simp [rowsF, h]
theorem rowF_length {r c : Int} {l : List Fr} (i : Int) : (rowF r c l i).length ≤ l.length := by
  unfold rowF
  split <;> simp <;> omega

theorem ok33 (ea eb : Bool) (r m m2 c : Int) (a b : List Fr) : Ok Try.prog 33 [matV ea r m (frs a), matV eb m2 c (frs b)]
    (if right r m a.length = true ∧ right m2 c b.length = true ∧ m = m2 then .tup [matV false r c (frs (prodF r m c a b)), tru true] else .tup [matNil, tru false]) := by
  refine ok_fn mixed Try.func33 (code := ?_) (h := h33) ?_ k33 ?_
  rotate_left
  · exact rfl
  unfold h33 initS
  simp -implicitDefEqProofs only [rkA, stepA, valA, storeA, ldA, fieldAddrA, fieldA, idxAddrA, idxA, idxArr, lenA, unA, binA, num2, binV, eqA, rowOf, PV.cells, PV.cell, bndA, appA, reduceIte, reduceCtorEq, Nat.reduceAdd, Nat.reduceSub, Nat.reduceEqDiff, Nat.reduceLeDiff, Nat.reduceLT, Nat.reduceMul, Nat.reduceBEq, Nat.reduceBNe, Int.reduceToNat, Int.reduceLE, Int.reduceLT, allocX, setPs, extremeA, ints, resAll, rinfOk, packR, Try.ntmps33, Try.results33]
  refine call_fn rfl rfl rfl (ok44 ea r m (frs a)) ?_
  have e : (frs a).length = a.length := by simp
  have e' : (frs b).length = b.length := by simp
  rw [e]
  cases hr : right r m a.length with
  | false =>
    simp -implicitDefEqProofs only [rkA, stepA, valA, storeA, ldA, fieldAddrA, fieldA, idxAddrA, idxA, idxArr, lenA, unA, binA, num2, binV, eqA, rowOf, PV.cells, PV.cell, bndA, appA, reduceIte, reduceCtorEq, Nat.reduceAdd, Nat.reduceSub, Nat.reduceEqDiff, Nat.reduceLeDiff, Nat.reduceLT, Nat.reduceMul, Nat.reduceBEq, Nat.reduceBNe, Int.reduceToNat, Int.reduceLE, Int.reduceLT, allocX, setPs, extremeA, ints, resAll, rinfOk, packR]
  | true =>
    simp -implicitDefEqProofs only [rkA, stepA, valA, storeA, ldA, fieldAddrA, fieldA, idxAddrA, idxA, idxArr, lenA, unA, binA, num2, binV, eqA, rowOf, PV.cells, PV.cell, bndA, appA, reduceIte, reduceCtorEq, Nat.reduceAdd, Nat.reduceSub, Nat.reduceEqDiff, Nat.reduceLeDiff, Nat.reduceLT, Nat.reduceMul, Nat.reduceBEq, Nat.reduceBNe, Int.reduceToNat, Int.reduceLE, Int.reduceLT, allocX, setPs, extremeA, ints, resAll, rinfOk, packR]
    refine call_fn rfl rfl rfl (ok44 eb m2 c (frs b)) ?_
    rw [e']
    cases hr2 : right m2 c b.length with
    | false => simp -implicitDefEqProofs only [rkA, stepA, valA, storeA, ldA, fieldAddrA, fieldA, idxAddrA, idxA, idxArr, lenA, unA, binA, num2, binV, eqA, rowOf, PV.cells, PV.cell, bndA, appA, reduceIte, reduceCtorEq, Nat.reduceAdd, Nat.reduceSub, Nat.reduceEqDiff, Nat.reduceLeDiff, Nat.reduceLT, Nat.reduceMul, Nat.reduceBEq, Nat.reduceBNe, Int.reduceToNat, Int.reduceLE, Int.reduceLT, allocX, setPs, extremeA, ints, resAll, rinfOk, packR]
    | true =>
      obtain ⟨r1, r2, c1, c2, hn⟩ := right_spec hr
      obtain ⟨m1, m3, d1, d2, hn2⟩ := right_spec hr2
      simp -implicitDefEqProofs only [rkA, stepA, valA, storeA, ldA, fieldAddrA, fieldA, idxAddrA, idxA, idxArr, lenA, unA, binA, num2, binV, eqA, rowOf, PV.cells, PV.cell, bndA, appA, reduceIte, reduceCtorEq, Nat.reduceAdd, Nat.reduceSub, Nat.reduceEqDiff, Nat.reduceLeDiff, Nat.reduceLT, Nat.reduceMul, Nat.reduceBEq, Nat.reduceBNe, Int.reduceToNat, Int.reduceLE, Int.reduceLT, allocX, setPs, extremeA, ints, resAll, rinfOk, packR]
      refine gB_bool ?_ ?_ <;> intro hb
      · have hm : m ≠ m2 := by simpa using hb
        simp -implicitDefEqProofs only [hm, rkA, stepA, valA, storeA, ldA, fieldAddrA, fieldA, idxAddrA, idxA, idxArr, lenA, unA, binA, num2, binV, eqA, rowOf, PV.cells, PV.cell, bndA, appA, reduceIte, reduceCtorEq, Nat.reduceAdd, Nat.reduceSub, Nat.reduceEqDiff, Nat.reduceLeDiff, Nat.reduceLT, Nat.reduceMul, Nat.reduceBEq, Nat.reduceBNe, Int.reduceToNat, Int.reduceLE, Int.reduceLT, allocX, setPs, extremeA, ints, resAll, rinfOk, packR]
      · have hm : m = m2 := by simpa using hb
        clear hb
        subst hm
        simp -implicitDefEqProofs only [rkA, stepA, valA, storeA, ldA, fieldAddrA, fieldA, idxAddrA, idxA, idxArr, lenA, unA, binA, num2, binV, eqA, rowOf, PV.cells, PV.cell, bndA, appA, reduceIte, reduceCtorEq, Nat.reduceAdd, Nat.reduceSub, Nat.reduceEqDiff, Nat.reduceLeDiff, Nat.reduceLT, Nat.reduceMul, Nat.reduceBEq, Nat.reduceBNe, Int.reduceToNat, Int.reduceLE, Int.reduceLT, allocX, setPs, extremeA, ints, resAll, rinfOk, packR]
        have h25 := ok20 eb m c b
        rw [if_pos hr2] at h25
        refine call_fn rfl rfl rfl (h25) ?_
        simp -implicitDefEqProofs only [rkA, stepA, valA, storeA, ldA, fieldAddrA, fieldA, idxAddrA, idxA, idxArr, lenA, unA, binA, num2, binV, eqA, rowOf, PV.cells, PV.cell, bndA, appA, reduceIte, reduceCtorEq, Nat.reduceAdd, Nat.reduceSub, Nat.reduceEqDiff, Nat.reduceLeDiff, Nat.reduceLT, Nat.reduceMul, Nat.reduceBEq, Nat.reduceBNe, Int.reduceToNat, Int.reduceLE, Int.reduceLT, allocX, setPs, extremeA, ints, resAll, rinfOk, packR]
        refine call_fn rfl rfl rfl (ok41 ea r m a) ?_
        simp -implicitDefEqProofs only [rkA, stepA, valA, storeA, ldA, fieldAddrA, fieldA, idxAddrA, idxA, idxArr, lenA, unA, binA, num2, binV, eqA, rowOf, PV.cells, PV.cell, bndA, appA, reduceIte, reduceCtorEq, Nat.reduceAdd, Nat.reduceSub, Nat.reduceEqDiff, Nat.reduceLeDiff, Nat.reduceLT, Nat.reduceMul, Nat.reduceBEq, Nat.reduceBNe, Int.reduceToNat, Int.reduceLE, Int.reduceLT, allocX, setPs, extremeA, ints, resAll, rinfOk, packR]
        have hrt := right_turn hr2
        have hpl : ∀ i k, i < r.toNat → k ≤ c.toNat → (prodP dotF (allF r m a) (allF c m (turnF m c b)) i k).length = i * c.toNat + k := fun i k hi hk => by
          rw [prodP_length dotF (by rw [allF_length]; exact hi) (by rw [allF_length]; exact hk), allF_length]
        have hbig : ∀ i k, i < r.toNat → k ≤ c.toNat → i * c.toNat + k ≤ 256 := fun i k hi hk => by
          have : (i + 1) * c.toNat ≤ 16 * 16 := Nat.mul_le_mul (by omega) (by omega)
          rw [Nat.add_mul] at this
          omega
        have hal : a.length ≤ 256 := by
          have : r * m ≤ 16 * 16 := Int.mul_le_mul r2 c2 (by omega) (by omega)
          omega
        have hbl : (turnF m c b).length ≤ 256 := by
          have h1 := turnF_length hr2
          have : c.toNat * m.toNat ≤ 16 * 16 := Nat.mul_le_mul (by omega) (by omega)
          omega
        refine wp_rf' (items := rowsF r m a) rfl (it54 ea r m a) (fun sv i s => i ≤ r.toNat ∧ s = ⟨[], [(2, [nt r, nt m, .v (.sl ea (frs a))]), (3, [nt m, nt c, .v (.sl eb (frs b))]), (4, [nt 0, nt 0, .acc 3004 []]), (6, [nt r, nt c, .acc 15006 (frs (prodP dotF (allF r m a) (allF c m (turnF m c b)) i 0))]),
          (7, [nt c, nt m, .v (.sl false (frs (turnF m c b)))])], [], [(1009, 0), (3004, 0), (3006, 0), (3007, 0), (15006, (prodP dotF (allF r m a) (allF c m (turnF m c b)) i 0).length)], sv, 0, nomem⟩) ?_ ?_ ?_
        · simp -implicitDefEqProofs only [rkA, stepA, valA, storeA, ldA, fieldAddrA, fieldA, idxAddrA, idxA, idxArr, lenA, unA, binA, num2, binV, eqA, rowOf, PV.cells, PV.cell, bndA, appA, reduceIte, reduceCtorEq, Nat.reduceAdd, Nat.reduceSub, Nat.reduceEqDiff, Nat.reduceLeDiff, Nat.reduceLT, Nat.reduceMul, Nat.reduceBEq, Nat.reduceBNe, Int.reduceToNat, Int.reduceLE, Int.reduceLT, allocX, setPs, extremeA, ints, resAll, rinfOk, packR]
          exact ⟨Nat.zero_le _, by rw [prodP_zero]; exact rfl⟩
        · rintro i x' s' R hx ⟨hi, rfl⟩ hR
          obtain ⟨hlt, rfl, hxi⟩ := rowsF_all hr hx
          refine ⟨rfl, ?_⟩
          simp -implicitDefEqProofs only [rkA, stepA, valA, storeA, ldA, fieldAddrA, fieldA, idxAddrA, idxA, idxArr, lenA, unA, binA, num2, binV, eqA, rowOf, PV.cells, PV.cell, bndA, appA, reduceIte, reduceCtorEq, Nat.reduceAdd, Nat.reduceSub, Nat.reduceEqDiff, Nat.reduceLeDiff, Nat.reduceLT, Nat.reduceMul, Nat.reduceBEq, Nat.reduceBNe, Int.reduceToNat, Int.reduceLE, Int.reduceLT, allocX, setPs, extremeA, ints, resAll, rinfOk, packR]
          refine call_fn rfl rfl rfl (ok41 false c m (turnF m c b)) ?_
          simp -implicitDefEqProofs only [rkA, stepA, valA, storeA, ldA, fieldAddrA, fieldA, idxAddrA, idxA, idxArr, lenA, unA, binA, num2, binV, eqA, rowOf, PV.cells, PV.cell, bndA, appA, reduceIte, reduceCtorEq, Nat.reduceAdd, Nat.reduceSub, Nat.reduceEqDiff, Nat.reduceLeDiff, Nat.reduceLT, Nat.reduceMul, Nat.reduceBEq, Nat.reduceBNe, Int.reduceToNat, Int.reduceLE, Int.reduceLT, allocX, setPs, extremeA, ints, resAll, rinfOk, packR]
          refine wp_rf' (items := rowsF c m (turnF m c b)) rfl (it54 false c m (turnF m c b)) (fun sv k s => k ≤ c.toNat ∧ s = ⟨[], [(2, [nt r, nt m, .v (.sl ea (frs a))]), (3, [nt m, nt c, .v (.sl eb (frs b))]), (4, [nt 0, nt 0, .acc 3004 []]), (6, [nt r, nt c, .acc 15006 (frs (prodP dotF (allF r m a) (allF c m (turnF m c b)) i k))]),
            (7, [nt c, nt m, .v (.sl false (frs (turnF m c b)))]), (9, [.v (.sl false (frs (rowF r m a i)))])], [], [(1009, 0), (3004, 0), (3006, 0), (3007, 0), (15006, (prodP dotF (allF r m a) (allF c m (turnF m c b)) i k).length)], sv, 0, nomem⟩) ?_ ?_ ?_
          · simp -implicitDefEqProofs only [rkA, stepA, valA, storeA, ldA, fieldAddrA, fieldA, idxAddrA, idxA, idxArr, lenA, unA, binA, num2, binV, eqA, rowOf, PV.cells, PV.cell, bndA, appA, reduceIte, reduceCtorEq, Nat.reduceAdd, Nat.reduceSub, Nat.reduceEqDiff, Nat.reduceLeDiff, Nat.reduceLT, Nat.reduceMul, Nat.reduceBEq, Nat.reduceBNe, Int.reduceToNat, Int.reduceLE, Int.reduceLT, allocX, setPs, extremeA, ints, resAll, rinfOk, packR]
            exact Nat.zero_le _
          · rintro k x' s' R2 hx2 ⟨hk, rfl⟩ hR2
            obtain ⟨hlt2, rfl, hyk⟩ := rowsF_all hrt hx2
            refine ⟨rfl, ?_⟩
            simp -implicitDefEqProofs only [rkA, stepA, valA, storeA, ldA, fieldAddrA, fieldA, idxAddrA, idxA, idxArr, lenA, unA, binA, num2, binV, eqA, rowOf, PV.cells, PV.cell, bndA, appA, reduceIte, reduceCtorEq, Nat.reduceAdd, Nat.reduceSub, Nat.reduceEqDiff, Nat.reduceLeDiff, Nat.reduceLT, Nat.reduceMul, Nat.reduceBEq, Nat.reduceBNe, Int.reduceToNat, Int.reduceLE, Int.reduceLT, allocX, setPs, extremeA, ints, resAll, rinfOk, packR]
            have hra := rowF_length (r := r) (c := m) (l := a) i
            have hrb := rowF_length (r := c) (c := m) (l := turnF m c b) k
            refine call_fn rfl rfl rfl (ok17 false false (rowF r m a i) (rowF c m (turnF m c b) k) (by omega) (by omega)) ?_
            have h1 := hpl i k hlt (by omega)
            have h2 := hbig i k hlt (by omega)
            have hfit : fits 3 24 (frs (prodP dotF (allF r m a) (allF c m (turnF m c b)) i k)) [frV (dotF (rowF r m a i) (rowF c m (turnF m c b) k))] = true := fits_frs (l := [dotF (rowF r m a i) (rowF c m (turnF m c b) k)]) (by simp only [List.length_cons, List.length_nil]; omega)
            have hl : (frs (prodP dotF (allF r m a) (allF c m (turnF m c b)) i k)).length = (prodP dotF (allF r m a) (allF c m (turnF m c b)) i k).length := by simp
            simp -implicitDefEqProofs only [hfit, hl, rkA, stepA, valA, storeA, ldA, fieldAddrA, fieldA, idxAddrA, idxA, idxArr, lenA, unA, binA, num2, binV, eqA, rowOf, PV.cells, PV.cell, bndA, appA, reduceIte, reduceCtorEq, Nat.reduceAdd, Nat.reduceSub, Nat.reduceEqDiff, Nat.reduceLeDiff, Nat.reduceLT, Nat.reduceMul, Nat.reduceBEq, Nat.reduceBNe, Int.reduceToNat, Int.reduceLE, Int.reduceLT, allocX, setPs, extremeA, ints, resAll, rinfOk, packR]
            refine hR2 _ ⟨by omega, ?_⟩
            rw [prodP_succ dotF hxi hyk]
            simp only [frs, List.map_append, List.map_cons, List.map_nil, List.length_append, List.length_cons, List.length_nil]
          · rintro s' ⟨hk, rfl⟩
            simp -implicitDefEqProofs only [rkA, stepA, valA, storeA, ldA, fieldAddrA, fieldA, idxAddrA, idxA, idxArr, lenA, unA, binA, num2, binV, eqA, rowOf, PV.cells, PV.cell, bndA, appA, reduceIte, reduceCtorEq, Nat.reduceAdd, Nat.reduceSub, Nat.reduceEqDiff, Nat.reduceLeDiff, Nat.reduceLT, Nat.reduceMul, Nat.reduceBEq, Nat.reduceBNe, Int.reduceToNat, Int.reduceLE, Int.reduceLT, allocX, setPs, extremeA, ints, resAll, rinfOk, packR]
            refine hR _ ⟨by omega, ?_⟩
            have hnx := prodP_next dotF (xs := allF r m a) (ys := allF c m (turnF m c b)) (i := i) (by rw [allF_length]; exact hlt)
            rw [allF_length] at hnx
            rw [rowsF_length hrt, hnx]
        · rintro s' ⟨hi, rfl⟩
          simp -implicitDefEqProofs only [rkA, stepA, valA, storeA, ldA, fieldAddrA, fieldA, idxAddrA, idxA, idxArr, lenA, unA, binA, num2, binV, eqA, rowOf, PV.cells, PV.cell, bndA, appA, reduceIte, reduceCtorEq, Nat.reduceAdd, Nat.reduceSub, Nat.reduceEqDiff, Nat.reduceLeDiff, Nat.reduceLT, Nat.reduceMul, Nat.reduceBEq, Nat.reduceBNe, Int.reduceToNat, Int.reduceLE, Int.reduceLT, allocX, setPs, extremeA, ints, resAll, rinfOk, packR]
          have : prodF r m c a b = prodP dotF (allF r m a) (allF c m (turnF m c b)) (rowsF r m a).length 0 := by
            rw [prodP_zero, rowsF_length hr, ← allF_length r m a, List.take_length]
            rfl
          rw [this]
end Go.Proofs.Ytbflmeomkfjikaa.A

set_option linter.unusedVariables false
set_option linter.unusedSimpArgs false
set_option maxRecDepth 100000
namespace Go.Proofs.Ytbflmeomkfjikaa.A
open Go Go.RowKit Go.Shelf

/-- A contract for what is known better. -/
theorem Ok.args {P : Program} {f : FuncId} {xs ys : List PV} {r : PV} (k : Ok P f xs r) (h : ∀ I vs, Cs I ys vs → Cs I xs vs) : Ok P f ys r :=
  ⟨k.1, fun I w vs hg hc => k.2 I w vs hg (h I vs hc)⟩
theorem Cs.nil_of {I : Imm} {xs ys : List PV} {vs : List Value} {ex : Bool} (h : Cs I (.s (.slice none 0 0) :: xs) vs) (k : ∀ us, Cs I xs us → Cs I ys us) : Cs I (.sl ex [] :: ys) vs := by
  cases h with | cons h1 h2 => cases h1; exact .cons .sl0 (k _ h2)

def fewB (xs : List Int) : Bool := decide (xs.length ≤ 256 ∧ ∀ x ∈ xs, -100 ≤ x ∧ x ≤ 100)

theorem ok24 (ex : Bool) (xs : List Int) : Ok Try.prog 24 [.sl ex (xs.map num)] (tru (fewB xs)) := by
  refine ok_fn mixed Try.func24 (code := ?_) (h := h24) ?_ k24 ?_
  rotate_left
  · exact rfl
  unfold h24 initS
  simp -implicitDefEqProofs only [rkA, stepA, valA, storeA, ldA, fieldAddrA, fieldA, idxAddrA, idxA, idxArr, lenA, unA, binA, num2, binV, eqA, rowOf, PV.cells, PV.cell, bndA, appA, reduceIte, reduceCtorEq, Nat.reduceAdd, Nat.reduceSub, Nat.reduceEqDiff, Nat.reduceLeDiff, Nat.reduceLT, Nat.reduceMul, Nat.reduceBEq, Nat.reduceBNe, Int.reduceToNat, Int.reduceLE, Int.reduceLT, allocX, setPs, extremeA, ints, resAll, rinfOk, packR, Try.ntmps24, Try.results24]
  refine wp_loop (fun m s => ∃ i : Nat, i + m = xs.length ∧ i ≤ 257 ∧ (∀ x ∈ xs.take i, -100 ≤ x ∧ x ≤ 100) ∧ s = ⟨[.v (.sl ex (xs.map num)), jk, jk, nt i, jk, jk, jk, jk, jk, jk, jk, jk, jk, jk, jk, jk, jk, jk, jk, jk, jk, jk, jk, jk, jk, jk, jk, jk, jk], [], [], [], [], 0, nomem⟩) xs.length ?_ ?_
  · simp -implicitDefEqProofs only [rkA, stepA, valA, storeA, ldA, fieldAddrA, fieldA, idxAddrA, idxA, idxArr, lenA, unA, binA, num2, binV, eqA, rowOf, PV.cells, PV.cell, bndA, appA, reduceIte, reduceCtorEq, Nat.reduceAdd, Nat.reduceSub, Nat.reduceEqDiff, Nat.reduceLeDiff, Nat.reduceLT, Nat.reduceMul, Nat.reduceBEq, Nat.reduceBNe, Int.reduceToNat, Int.reduceLE, Int.reduceLT, allocX, setPs, extremeA, ints, resAll, rinfOk, packR]
    exact ⟨0, by simp, by omega, by simp, rfl⟩
  rintro m s ⟨i, hi, hi7, hall, rfl⟩
  simp -implicitDefEqProofs only [rkA, stepA, valA, storeA, ldA, fieldAddrA, fieldA, idxAddrA, idxA, idxArr, lenA, unA, binA, num2, binV, eqA, rowOf, PV.cells, PV.cell, bndA, appA, reduceIte, reduceCtorEq, Nat.reduceAdd, Nat.reduceSub, Nat.reduceEqDiff, Nat.reduceLeDiff, Nat.reduceLT, Nat.reduceMul, Nat.reduceBEq, Nat.reduceBNe, Int.reduceToNat, Int.reduceLE, Int.reduceLT, allocX, setPs, extremeA, ints, resAll, rinfOk, packR]
  have hend : ¬ ((i : Int) < (xs.length : Int) ∧ (i : Int) ≤ 256) → decide (((xs.map num).length : Int) ≤ 256) = fewB xs := by
    intro hn
    have : (xs.length ≤ 256 ↔ (xs.length ≤ 256 ∧ ∀ x ∈ xs, -100 ≤ x ∧ x ≤ 100)) := by
      constructor
      · intro h1
        refine ⟨h1, ?_⟩
        rw [List.take_of_length_le (by omega)] at hall
        exact hall
      · exact fun h1 => h1.1
    simp only [fewB, List.length_map, decide_eq_decide, ← this]
    omega
  have hbad : ∀ hl : i < xs.length, ¬ (-100 ≤ xs[i] ∧ xs[i] ≤ 100) → fewB xs = false := fun hl hn => by
    simp only [fewB, decide_eq_false_iff_not]
    exact fun hk => hn (hk.2 _ (List.getElem_mem hl))
  refine gB_dec ?_ ?_ <;> intro hc <;> simp -implicitDefEqProofs only [hc, rkA, stepA, valA, storeA, ldA, fieldAddrA, fieldA, idxAddrA, idxA, idxArr, lenA, unA, binA, num2, binV, eqA, rowOf, PV.cells, PV.cell, bndA, appA, reduceIte, reduceCtorEq, Nat.reduceAdd, Nat.reduceSub, Nat.reduceEqDiff, Nat.reduceLeDiff, Nat.reduceLT, Nat.reduceMul, Nat.reduceBEq, Nat.reduceBNe, Int.reduceToNat, Int.reduceLE, Int.reduceLT, allocX, setPs, extremeA, ints, resAll, rinfOk, packR]
  · refine gB_dec ?_ ?_ <;> intro hc2 <;> simp -implicitDefEqProofs only [hc2, rkA, stepA, valA, storeA, ldA, fieldAddrA, fieldA, idxAddrA, idxA, idxArr, lenA, unA, binA, num2, binV, eqA, rowOf, PV.cells, PV.cell, bndA, appA, reduceIte, reduceCtorEq, Nat.reduceAdd, Nat.reduceSub, Nat.reduceEqDiff, Nat.reduceLeDiff, Nat.reduceLT, Nat.reduceMul, Nat.reduceBEq, Nat.reduceBNe, Int.reduceToNat, Int.reduceLE, Int.reduceLT, allocX, setPs, extremeA, ints, resAll, rinfOk, packR]
    · have hlt : i < xs.length := by simpa using hc
      have h0 : (0 : Int) ≤ (i : Int) := by omega
      have hg : (xs.map num)[i]? = some (num xs[i]) := by simp [hlt]
      simp -implicitDefEqProofs only [h0, Int.toNat_natCast, hg, rkA, stepA, valA, storeA, ldA, fieldAddrA, fieldA, idxAddrA, idxA, idxArr, lenA, unA, binA, num2, binV, eqA, rowOf, PV.cells, PV.cell, bndA, appA, reduceIte, reduceCtorEq, Nat.reduceAdd, Nat.reduceSub, Nat.reduceEqDiff, Nat.reduceLeDiff, Nat.reduceLT, Nat.reduceMul, Nat.reduceBEq, Nat.reduceBNe, Int.reduceToNat, Int.reduceLE, Int.reduceLT, allocX, setPs, extremeA, ints, resAll, rinfOk, packR]
      refine gB_dec ?_ ?_ <;> intro hc3 <;> simp -implicitDefEqProofs only [hc3, rkA, stepA, valA, storeA, ldA, fieldAddrA, fieldA, idxAddrA, idxA, idxArr, lenA, unA, binA, num2, binV, eqA, rowOf, PV.cells, PV.cell, bndA, appA, reduceIte, reduceCtorEq, Nat.reduceAdd, Nat.reduceSub, Nat.reduceEqDiff, Nat.reduceLeDiff, Nat.reduceLT, Nat.reduceMul, Nat.reduceBEq, Nat.reduceBNe, Int.reduceToNat, Int.reduceLE, Int.reduceLT, allocX, setPs, extremeA, ints, resAll, rinfOk, packR]
      · rw [hbad hlt (by omega)]
      · simp -implicitDefEqProofs only [h0, Int.toNat_natCast, hg, rkA, stepA, valA, storeA, ldA, fieldAddrA, fieldA, idxAddrA, idxA, idxArr, lenA, unA, binA, num2, binV, eqA, rowOf, PV.cells, PV.cell, bndA, appA, reduceIte, reduceCtorEq, Nat.reduceAdd, Nat.reduceSub, Nat.reduceEqDiff, Nat.reduceLeDiff, Nat.reduceLT, Nat.reduceMul, Nat.reduceBEq, Nat.reduceBNe, Int.reduceToNat, Int.reduceLE, Int.reduceLT, allocX, setPs, extremeA, ints, resAll, rinfOk, packR]
        refine gB_dec ?_ ?_ <;> intro hc4 <;> simp -implicitDefEqProofs only [hc4, rkA, stepA, valA, storeA, ldA, fieldAddrA, fieldA, idxAddrA, idxA, idxArr, lenA, unA, binA, num2, binV, eqA, rowOf, PV.cells, PV.cell, bndA, appA, reduceIte, reduceCtorEq, Nat.reduceAdd, Nat.reduceSub, Nat.reduceEqDiff, Nat.reduceLeDiff, Nat.reduceLT, Nat.reduceMul, Nat.reduceBEq, Nat.reduceBNe, Int.reduceToNat, Int.reduceLE, Int.reduceLT, allocX, setPs, extremeA, ints, resAll, rinfOk, packR]
        · rw [hbad hlt (by omega)]
        · have hw := wrapped (x := (i : Int) + 1) (by omega) (by omega)
          simp -implicitDefEqProofs only [hw, rkA, stepA, valA, storeA, ldA, fieldAddrA, fieldA, idxAddrA, idxA, idxArr, lenA, unA, binA, num2, binV, eqA, rowOf, PV.cells, PV.cell, bndA, appA, reduceIte, reduceCtorEq, Nat.reduceAdd, Nat.reduceSub, Nat.reduceEqDiff, Nat.reduceLeDiff, Nat.reduceLT, Nat.reduceMul, Nat.reduceBEq, Nat.reduceBNe, Int.reduceToNat, Int.reduceLE, Int.reduceLT, allocX, setPs, extremeA, ints, resAll, rinfOk, packR]
          refine loopK_of (m' := m - 1) (by omega) ?_
          simp -implicitDefEqProofs only [rkA, stepA, valA, storeA, ldA, fieldAddrA, fieldA, idxAddrA, idxA, idxArr, lenA, unA, binA, num2, binV, eqA, rowOf, PV.cells, PV.cell, bndA, appA, reduceIte, reduceCtorEq, Nat.reduceAdd, Nat.reduceSub, Nat.reduceEqDiff, Nat.reduceLeDiff, Nat.reduceLT, Nat.reduceMul, Nat.reduceBEq, Nat.reduceBNe, Int.reduceToNat, Int.reduceLE, Int.reduceLT, allocX, setPs, extremeA, ints, resAll, rinfOk, packR]
          refine ⟨i + 1, by omega, by omega, ?_, by simp only [Int.natCast_add, Int.natCast_one]⟩
          rw [List.take_succ_eq_append_getElem hlt]
          intro x hx
          rcases List.mem_append.1 hx with hx | hx
          · exact hall x hx
          · simp at hx; omega
    · rw [hend (by omega)]
  · rw [hend (by simp only [List.length_map] at hc; omega)]

theorem eq_fr (x y : Fr) : cellsEq [some .i64, some .i64, none] [num x.n, num x.d, tru x.bad] [num y.n, num y.d, tru y.bad] = some (decide (x = y)) := by
  obtain ⟨n, d, b⟩ := x
  obtain ⟨n', d', b'⟩ := y
  simp only [cellsEq, Fr.mk.injEq]
  cases b <;> cases b' <;> simp <;> rfl

theorem ok21 (ex ex' : Bool) (r c : Int) (l : List Fr) (xs : List Int) (h : xs.length ≤ 5864062014805) (hl : l = xs.map (newF · 1)) : Ok Try.prog 21 [matV ex r c (frs l), num r, num c, .sl ex' (xs.map num)] (tru true) := by
  refine ok_fn mixed Try.func21 (code := ?_) (h := h21) ?_ k21 ?_
  rotate_left
  · exact rfl
  unfold h21 initS
  simp -implicitDefEqProofs only [rkA, stepA, valA, storeA, ldA, fieldAddrA, fieldA, idxAddrA, idxA, idxArr, lenA, unA, binA, num2, binV, eqA, rowOf, PV.cells, PV.cell, bndA, appA, reduceIte, reduceCtorEq, Nat.reduceAdd, Nat.reduceSub, Nat.reduceEqDiff, Nat.reduceLeDiff, Nat.reduceLT, Nat.reduceMul, Nat.reduceBEq, Nat.reduceBNe, Int.reduceToNat, Int.reduceLE, Int.reduceLT, allocX, setPs, extremeA, ints, resAll, rinfOk, packR, Try.ntmps21, Try.results21]
  have e : (frs l).length = xs.length := by simp [hl]
  have hb : ∀ (b : Int), (b != b) = false := by simp
  simp only [hb]
  simp -implicitDefEqProofs only [rkA, stepA, valA, storeA, ldA, fieldAddrA, fieldA, idxAddrA, idxA, idxArr, lenA, unA, binA, num2, binV, eqA, rowOf, PV.cells, PV.cell, bndA, appA, reduceIte, reduceCtorEq, Nat.reduceAdd, Nat.reduceSub, Nat.reduceEqDiff, Nat.reduceLeDiff, Nat.reduceLT, Nat.reduceMul, Nat.reduceBEq, Nat.reduceBNe, Int.reduceToNat, Int.reduceLE, Int.reduceLT, allocX, setPs, extremeA, ints, resAll, rinfOk, packR]
  simp only [hb]
  simp -implicitDefEqProofs only [rkA, stepA, valA, storeA, ldA, fieldAddrA, fieldA, idxAddrA, idxA, idxArr, lenA, unA, binA, num2, binV, eqA, rowOf, PV.cells, PV.cell, bndA, appA, reduceIte, reduceCtorEq, Nat.reduceAdd, Nat.reduceSub, Nat.reduceEqDiff, Nat.reduceLeDiff, Nat.reduceLT, Nat.reduceMul, Nat.reduceBEq, Nat.reduceBNe, Int.reduceToNat, Int.reduceLE, Int.reduceLT, allocX, setPs, extremeA, ints, resAll, rinfOk, packR]
  have e1 : (((frs l).length : Int) != ((xs.map num).length : Int)) = false := by simp [hl]
  simp only [e1]
  simp -implicitDefEqProofs only [rkA, stepA, valA, storeA, ldA, fieldAddrA, fieldA, idxAddrA, idxA, idxArr, lenA, unA, binA, num2, binV, eqA, rowOf, PV.cells, PV.cell, bndA, appA, reduceIte, reduceCtorEq, Nat.reduceAdd, Nat.reduceSub, Nat.reduceEqDiff, Nat.reduceLeDiff, Nat.reduceLT, Nat.reduceMul, Nat.reduceBEq, Nat.reduceBNe, Int.reduceToNat, Int.reduceLE, Int.reduceLT, allocX, setPs, extremeA, ints, resAll, rinfOk, packR]
  refine wp_loop (fun m s => ∃ i : Nat, i + m = l.length ∧ s = ⟨[jk, jk, jk, .v (.sl ex' (xs.map num)), jk, jk, jk, jk, jk, jk, jk, jk, jk, jk, jk, jk, jk, jk, jk, jk, jk, jk, jk, jk, jk, jk, jk, jk, jk, jk, .v (.sl ex (frs l)), nt (frs l).length, nt i, jk, jk, jk, jk, jk, jk, jk, jk, jk, jk, jk, jk], [(4, [nt r, nt c, .v (.sl ex (frs l))])], [], [], [], 0, nomem⟩) l.length ?_ ?_
  · simp -implicitDefEqProofs only [rkA, stepA, valA, storeA, ldA, fieldAddrA, fieldA, idxAddrA, idxA, idxArr, lenA, unA, binA, num2, binV, eqA, rowOf, PV.cells, PV.cell, bndA, appA, reduceIte, reduceCtorEq, Nat.reduceAdd, Nat.reduceSub, Nat.reduceEqDiff, Nat.reduceLeDiff, Nat.reduceLT, Nat.reduceMul, Nat.reduceBEq, Nat.reduceBNe, Int.reduceToNat, Int.reduceLE, Int.reduceLT, allocX, setPs, extremeA, ints, resAll, rinfOk, packR]
    exact ⟨0, by simp, rfl⟩
  rintro m s ⟨i, hi, rfl⟩
  simp -implicitDefEqProofs only [rkA, stepA, valA, storeA, ldA, fieldAddrA, fieldA, idxAddrA, idxA, idxArr, lenA, unA, binA, num2, binV, eqA, rowOf, PV.cells, PV.cell, bndA, appA, reduceIte, reduceCtorEq, Nat.reduceAdd, Nat.reduceSub, Nat.reduceEqDiff, Nat.reduceLeDiff, Nat.reduceLT, Nat.reduceMul, Nat.reduceBEq, Nat.reduceBNe, Int.reduceToNat, Int.reduceLE, Int.reduceLT, allocX, setPs, extremeA, ints, resAll, rinfOk, packR]
  refine gB_dec ?_ ?_ <;> intro hc <;> simp -implicitDefEqProofs only [hc, rkA, stepA, valA, storeA, ldA, fieldAddrA, fieldA, idxAddrA, idxA, idxArr, lenA, unA, binA, num2, binV, eqA, rowOf, PV.cells, PV.cell, bndA, appA, reduceIte, reduceCtorEq, Nat.reduceAdd, Nat.reduceSub, Nat.reduceEqDiff, Nat.reduceLeDiff, Nat.reduceLT, Nat.reduceMul, Nat.reduceBEq, Nat.reduceBNe, Int.reduceToNat, Int.reduceLE, Int.reduceLT, allocX, setPs, extremeA, ints, resAll, rinfOk, packR]
  · have hlt : i < l.length := by simpa using hc
    have hlx : i < xs.length := by simpa [hl] using hlt
    have h0 : (0 : Int) ≤ (i : Int) := by omega
    have hg : (frs l)[i]? = some (frV l[i]) := by simp [hlt]
    have hg2 : (xs.map num)[i]? = some (num xs[i]) := by simp [hlx]
    simp -implicitDefEqProofs only [h0, Int.toNat_natCast, hg, hg2, rkA, stepA, valA, storeA, ldA, fieldAddrA, fieldA, idxAddrA, idxA, idxArr, lenA, unA, binA, num2, binV, eqA, rowOf, PV.cells, PV.cell, bndA, appA, reduceIte, reduceCtorEq, Nat.reduceAdd, Nat.reduceSub, Nat.reduceEqDiff, Nat.reduceLeDiff, Nat.reduceLT, Nat.reduceMul, Nat.reduceBEq, Nat.reduceBNe, Int.reduceToNat, Int.reduceLE, Int.reduceLT, allocX, setPs, extremeA, ints, resAll, rinfOk, packR]
    refine call_fn rfl rfl rfl (ok27 xs[i] 1) ?_
    have hli : l[i] = newF xs[i] 1 := by simp [hl]
    have hw := wrapped (x := (i : Int) + 1) (by omega) (by omega)
    simp -implicitDefEqProofs only [hli, eq_fr, hw, rkA, stepA, valA, storeA, ldA, fieldAddrA, fieldA, idxAddrA, idxA, idxArr, lenA, unA, binA, num2, binV, eqA, rowOf, PV.cells, PV.cell, bndA, appA, reduceIte, reduceCtorEq, Nat.reduceAdd, Nat.reduceSub, Nat.reduceEqDiff, Nat.reduceLeDiff, Nat.reduceLT, Nat.reduceMul, Nat.reduceBEq, Nat.reduceBNe, Int.reduceToNat, Int.reduceLE, Int.reduceLT, allocX, setPs, extremeA, ints, resAll, rinfOk, packR]
    refine loopK_of (m' := m - 1) (by omega) ?_
    simp -implicitDefEqProofs only [rkA, stepA, valA, storeA, ldA, fieldAddrA, fieldA, idxAddrA, idxA, idxArr, lenA, unA, binA, num2, binV, eqA, rowOf, PV.cells, PV.cell, bndA, appA, reduceIte, reduceCtorEq, Nat.reduceAdd, Nat.reduceSub, Nat.reduceEqDiff, Nat.reduceLeDiff, Nat.reduceLT, Nat.reduceMul, Nat.reduceBEq, Nat.reduceBNe, Int.reduceToNat, Int.reduceLE, Int.reduceLT, allocX, setPs, extremeA, ints, resAll, rinfOk, packR]
    exact ⟨i + 1, by omega, by simp only [Int.natCast_add, Int.natCast_one]⟩

end Go.Proofs.Ytbflmeomkfjikaa.A

set_option linter.unusedVariables false
set_option linter.unusedSimpArgs false
set_option maxRecDepth 100000
namespace Go.Proofs.Ytbflmeomkfjikaa.A
open Go Go.RowKit Go.Shelf

section
variable {α : Type} (g : Nat → Nat → α) (n : Nat)
/-- A table gone through row by row: what stands so far. -/
def gridP (i k : Nat) : List α := (List.range i).flatMap (fun i => (List.range n).map (g i)) ++ (List.range k).map (g i)
theorem gridP_succ (i k : Nat) : gridP g n i (k + 1) = gridP g n i k ++ [g i k] := by simp [gridP, List.range_succ]
theorem gridP_next (i : Nat) : gridP g n i n = gridP g n (i + 1) 0 := by simp [gridP, List.range_succ]
theorem gridP_length (i k : Nat) : (gridP g n i k).length = i * n + k := by simp [gridP, List.length_flatMap, List.map_const', List.sum_replicate_nat]
theorem gridP_zero (i : Nat) : gridP g n i 0 = (List.range i).flatMap (fun i => (List.range n).map (g i)) := by simp [gridP]
end

/-- The document's sum of products. -/
def dotI (a b : List Int) (many cols i k : Nat) : Nat → Int
  | 0 => 0
  | j + 1 => dotI a b many cols i k j + a.getD (i * many + j) 0 * b.getD (j * cols + k) 0
def small (a : List Int) : Prop := ∀ x ∈ a, -100 ≤ x ∧ x ≤ 100
theorem small_get {a : List Int} (h : small a) (i : Nat) : -100 ≤ a.getD i 0 ∧ a.getD i 0 ≤ 100 := by
  rw [List.getD_eq_getElem?_getD]
  cases hi : a[i]? with
  | none => simp
  | some x => exact h x (List.mem_of_getElem? hi)
theorem prod_small {x y : Int} (hx : -100 ≤ x ∧ x ≤ 100) (hy : -100 ≤ y ∧ y ≤ 100) : -10000 ≤ x * y ∧ x * y ≤ 10000 := by
  have h1 : (x * y).natAbs = x.natAbs * y.natAbs := Int.natAbs_mul x y
  have h2 : x.natAbs * y.natAbs ≤ 100 * 100 := Nat.mul_le_mul (by omega) (by omega)
  omega
theorem dotI_le {a b : List Int} (ha : small a) (hb : small b) (many cols i k : Nat) : ∀ j : Nat, -10000 * (j : Int) ≤ dotI a b many cols i k j ∧ dotI a b many cols i k j ≤ 10000 * (j : Int)
  | 0 => by simp [dotI]
  | j + 1 => by
    have h1 := dotI_le ha hb many cols i k j
    have h2 := prod_small (small_get ha (i * many + j)) (small_get hb (j * cols + k))
    simp only [dotI, Int.natCast_add, Int.natCast_one]
    omega
/-- The document's product. -/
def mulI (a b : List Int) (rows many cols : Nat) : List Int := gridP (fun i k => dotI a b many cols i k many) cols rows 0

theorem fits_num {k l : List Int} (h : k.length + l.length ≤ 5864062014805) : fits 1 8 (k.map num) (l.map num) = true := by
  simp [fits, PV.cells, PV.ok, PV.cell, Value.oneCell']
  omega
theorem at_num {a : List Int} {i : Nat} (h : i < a.length) : (a.map num)[i]? = some (num (a.getD i 0)) := by
  simp [h]
theorem at_table {i j n m : Nat} (hi : i < n) (hj : j < m) : i * m + j < n * m ∧ i * m ≤ n * m := by
  have : (i + 1) * m ≤ n * m := Nat.mul_le_mul_right _ (by omega)
  rw [Nat.add_mul] at this
  omega
theorem side16 {n m : Nat} (hn : n ≤ 16) (hm : m ≤ 16) : n * m ≤ 256 := Nat.mul_le_mul hn hm

theorem ok22 (ea eb : Bool) (a b : List Int) (rows many cols : Nat) (hr : rows ≤ 16) (hm : many ≤ 16) (hc : cols ≤ 16) (hla : a.length = rows * many) (hlb : b.length = many * cols) (ha : small a) (hb : small b) :
    Ok Try.prog 22 [.sl ea (a.map num), num rows, num many, .sl eb (b.map num), num cols] (.sl false ((mulI a b rows many cols).map num)) := by
  refine ok_fn mixed Try.func22 (code := ?_) (h := h22) ?_ k22 ?_
  rotate_left
  · exact rfl
  unfold h22 initS
  simp -implicitDefEqProofs only [rkA, stepA, valA, storeA, ldA, fieldAddrA, fieldA, idxAddrA, idxA, idxArr, lenA, unA, binA, num2, binV, eqA, rowOf, PV.cells, PV.cell, bndA, appA, reduceIte, reduceCtorEq, Nat.reduceAdd, Nat.reduceSub, Nat.reduceEqDiff, Nat.reduceLeDiff, Nat.reduceLT, Nat.reduceMul, Nat.reduceBEq, Nat.reduceBNe, Int.reduceToNat, Int.reduceLE, Int.reduceLT, allocX, setPs, extremeA, ints, resAll, rinfOk, packR, Try.ntmps22, Try.results22]
  refine wp_loop (fun m s => ∃ i : Nat, i + m = rows ∧ s = ⟨[.v (.sl ea (a.map num)), nt rows, nt many, .v (.sl eb (b.map num)), nt cols, jk, jk, jk, jk, jk, jk, .acc 11 ((gridP (fun i k => dotI a b many cols i k many) cols i 0).map num), nt i, jk, jk, jk, jk, jk, jk, jk, jk, jk, jk, jk, jk, jk, jk, jk, jk, jk, jk, jk, jk, jk, jk, jk, jk, jk, jk, jk, jk, jk, jk, jk, jk, jk, jk, jk, jk, jk, jk, jk, jk, jk, jk], [], [], [(10, 0), (11, (gridP (fun i k => dotI a b many cols i k many) cols i 0).length)], [], 0, nomem⟩) rows ?_ ?_
  · simp -implicitDefEqProofs only [rkA, stepA, valA, storeA, ldA, fieldAddrA, fieldA, idxAddrA, idxA, idxArr, lenA, unA, binA, num2, binV, eqA, rowOf, PV.cells, PV.cell, bndA, appA, reduceIte, reduceCtorEq, Nat.reduceAdd, Nat.reduceSub, Nat.reduceEqDiff, Nat.reduceLeDiff, Nat.reduceLT, Nat.reduceMul, Nat.reduceBEq, Nat.reduceBNe, Int.reduceToNat, Int.reduceLE, Int.reduceLT, allocX, setPs, extremeA, ints, resAll, rinfOk, packR]
    exact ⟨0, by simp, rfl⟩
  rintro m1 s ⟨i, hi, rfl⟩
  simp -implicitDefEqProofs only [rkA, stepA, valA, storeA, ldA, fieldAddrA, fieldA, idxAddrA, idxA, idxArr, lenA, unA, binA, num2, binV, eqA, rowOf, PV.cells, PV.cell, bndA, appA, reduceIte, reduceCtorEq, Nat.reduceAdd, Nat.reduceSub, Nat.reduceEqDiff, Nat.reduceLeDiff, Nat.reduceLT, Nat.reduceMul, Nat.reduceBEq, Nat.reduceBNe, Int.reduceToNat, Int.reduceLE, Int.reduceLT, allocX, setPs, extremeA, ints, resAll, rinfOk, packR]
  refine gB_dec ?_ ?_ <;> intro hc1 <;> simp -implicitDefEqProofs only [hc1, rkA, stepA, valA, storeA, ldA, fieldAddrA, fieldA, idxAddrA, idxA, idxArr, lenA, unA, binA, num2, binV, eqA, rowOf, PV.cells, PV.cell, bndA, appA, reduceIte, reduceCtorEq, Nat.reduceAdd, Nat.reduceSub, Nat.reduceEqDiff, Nat.reduceLeDiff, Nat.reduceLT, Nat.reduceMul, Nat.reduceBEq, Nat.reduceBNe, Int.reduceToNat, Int.reduceLE, Int.reduceLT, allocX, setPs, extremeA, ints, resAll, rinfOk, packR]
  · refine wp_loop (fun m s => ∃ k : Nat, k + m = cols ∧ s = ⟨[.v (.sl ea (a.map num)), nt rows, nt many, .v (.sl eb (b.map num)), nt cols, jk, jk, jk, jk, jk, jk, .acc 11 ((gridP (fun i k => dotI a b many cols i k many) cols i k).map num), nt i, nt k, jk, jk, jk, jk, jk, jk, jk, jk, jk, jk, jk, jk, jk, jk, jk, jk, jk, jk, jk, jk, jk, jk, jk, jk, jk, jk, jk, jk, jk, jk, jk, jk, jk, jk, jk, jk, jk, jk, jk, jk, jk], [], [], [(10, 0), (11, (gridP (fun i k => dotI a b many cols i k many) cols i k).length)], [], 0, nomem⟩) cols ?_ ?_
    · simp -implicitDefEqProofs only [rkA, stepA, valA, storeA, ldA, fieldAddrA, fieldA, idxAddrA, idxA, idxArr, lenA, unA, binA, num2, binV, eqA, rowOf, PV.cells, PV.cell, bndA, appA, reduceIte, reduceCtorEq, Nat.reduceAdd, Nat.reduceSub, Nat.reduceEqDiff, Nat.reduceLeDiff, Nat.reduceLT, Nat.reduceMul, Nat.reduceBEq, Nat.reduceBNe, Int.reduceToNat, Int.reduceLE, Int.reduceLT, allocX, setPs, extremeA, ints, resAll, rinfOk, packR]
      exact ⟨0, by simp, rfl⟩
    rintro m2 s ⟨k, hk, rfl⟩
    simp -implicitDefEqProofs only [rkA, stepA, valA, storeA, ldA, fieldAddrA, fieldA, idxAddrA, idxA, idxArr, lenA, unA, binA, num2, binV, eqA, rowOf, PV.cells, PV.cell, bndA, appA, reduceIte, reduceCtorEq, Nat.reduceAdd, Nat.reduceSub, Nat.reduceEqDiff, Nat.reduceLeDiff, Nat.reduceLT, Nat.reduceMul, Nat.reduceBEq, Nat.reduceBNe, Int.reduceToNat, Int.reduceLE, Int.reduceLT, allocX, setPs, extremeA, ints, resAll, rinfOk, packR]
    refine gB_dec ?_ ?_ <;> intro hc2 <;> simp -implicitDefEqProofs only [hc2, rkA, stepA, valA, storeA, ldA, fieldAddrA, fieldA, idxAddrA, idxA, idxArr, lenA, unA, binA, num2, binV, eqA, rowOf, PV.cells, PV.cell, bndA, appA, reduceIte, reduceCtorEq, Nat.reduceAdd, Nat.reduceSub, Nat.reduceEqDiff, Nat.reduceLeDiff, Nat.reduceLT, Nat.reduceMul, Nat.reduceBEq, Nat.reduceBNe, Int.reduceToNat, Int.reduceLE, Int.reduceLT, allocX, setPs, extremeA, ints, resAll, rinfOk, packR]
    · refine wp_loop (fun m s => ∃ j : Nat, j + m = many ∧ s = ⟨[.v (.sl ea (a.map num)), nt rows, nt many, .v (.sl eb (b.map num)), nt cols, jk, jk, jk, jk, jk, jk, .acc 11 ((gridP (fun i k => dotI a b many cols i k many) cols i k).map num), nt i, nt k, nt (dotI a b many cols i k j), nt j, jk, jk, jk, jk, jk, jk, jk, jk, jk, jk, jk, jk, jk, jk, jk, jk, jk, jk, jk, jk, jk, jk, jk, jk, jk, jk, jk, jk, jk, jk, jk, jk, jk, jk, jk, jk, jk, jk, jk], [], [], [(10, 0), (11, (gridP (fun i k => dotI a b many cols i k many) cols i k).length)], [], 0, nomem⟩) many ?_ ?_
      · simp -implicitDefEqProofs only [rkA, stepA, valA, storeA, ldA, fieldAddrA, fieldA, idxAddrA, idxA, idxArr, lenA, unA, binA, num2, binV, eqA, rowOf, PV.cells, PV.cell, bndA, appA, reduceIte, reduceCtorEq, Nat.reduceAdd, Nat.reduceSub, Nat.reduceEqDiff, Nat.reduceLeDiff, Nat.reduceLT, Nat.reduceMul, Nat.reduceBEq, Nat.reduceBNe, Int.reduceToNat, Int.reduceLE, Int.reduceLT, allocX, setPs, extremeA, ints, resAll, rinfOk, packR]
        exact ⟨0, by simp, rfl⟩
      rintro m3 s ⟨j, hj, rfl⟩
      simp -implicitDefEqProofs only [rkA, stepA, valA, storeA, ldA, fieldAddrA, fieldA, idxAddrA, idxA, idxArr, lenA, unA, binA, num2, binV, eqA, rowOf, PV.cells, PV.cell, bndA, appA, reduceIte, reduceCtorEq, Nat.reduceAdd, Nat.reduceSub, Nat.reduceEqDiff, Nat.reduceLeDiff, Nat.reduceLT, Nat.reduceMul, Nat.reduceBEq, Nat.reduceBNe, Int.reduceToNat, Int.reduceLE, Int.reduceLT, allocX, setPs, extremeA, ints, resAll, rinfOk, packR]
      refine gB_dec ?_ ?_ <;> intro hc3 <;> simp -implicitDefEqProofs only [hc3, rkA, stepA, valA, storeA, ldA, fieldAddrA, fieldA, idxAddrA, idxA, idxArr, lenA, unA, binA, num2, binV, eqA, rowOf, PV.cells, PV.cell, bndA, appA, reduceIte, reduceCtorEq, Nat.reduceAdd, Nat.reduceSub, Nat.reduceEqDiff, Nat.reduceLeDiff, Nat.reduceLT, Nat.reduceMul, Nat.reduceBEq, Nat.reduceBNe, Int.reduceToNat, Int.reduceLE, Int.reduceLT, allocX, setPs, extremeA, ints, resAll, rinfOk, packR]
      · have t1 := at_table (i := i) (j := j) (n := rows) (m := many) (by omega) (by omega)
        have t2 := at_table (i := j) (j := k) (n := many) (m := cols) (by omega) (by omega)
        have s1 := side16 hr hm
        have s2 := side16 hm hc
        have c1 : (i : Int) * (many : Int) = ((i * many : Nat) : Int) := by simp
        have c2 : (j : Int) * (cols : Int) = ((j * cols : Nat) : Int) := by simp
        have c3 : ((i * many : Nat) : Int) + (j : Int) = ((i * many + j : Nat) : Int) := by simp
        have c4 : ((j * cols : Nat) : Int) + (k : Int) = ((j * cols + k : Nat) : Int) := by simp
        have w1 := wrapped (x := ((i * many : Nat) : Int)) (by omega) (by omega)
        have w2 := wrapped (x := ((j * cols : Nat) : Int)) (by omega) (by omega)
        have w3 := wrapped (x := ((i * many + j : Nat) : Int)) (by omega) (by omega)
        have w4 := wrapped (x := ((j * cols + k : Nat) : Int)) (by omega) (by omega)
        have p := prod_small (small_get ha (i * many + j)) (small_get hb (j * cols + k))
        have q := dotI_le ha hb many cols i k j
        have w5 := wrapped (x := a.getD (i * many + j) 0 * b.getD (j * cols + k) 0) (by omega) (by omega)
        have w6 := wrapped (x := dotI a b many cols i k j + a.getD (i * many + j) 0 * b.getD (j * cols + k) 0) (by omega) (by omega)
        have w7 := wrapped (x := (j : Int) + 1) (by omega) (by omega)
        have g1 := at_num (a := a) (i := i * many + j) (by omega)
        have g2 := at_num (a := b) (i := j * cols + k) (by omega)
        have n1 : (0 : Int) ≤ ((i * many + j : Nat) : Int) := by omega
        have n2 : (0 : Int) ≤ ((j * cols + k : Nat) : Int) := by omega
        simp -implicitDefEqProofs only [c1, c2, w1, w2, c3, c4, w3, w4, n1, n2, Int.toNat_natCast, g1, g2, w5, w6, w7, rkA, stepA, valA, storeA, ldA, fieldAddrA, fieldA, idxAddrA, idxA, idxArr, lenA, unA, binA, num2, binV, eqA, rowOf, PV.cells, PV.cell, bndA, appA, reduceIte, reduceCtorEq, Nat.reduceAdd, Nat.reduceSub, Nat.reduceEqDiff, Nat.reduceLeDiff, Nat.reduceLT, Nat.reduceMul, Nat.reduceBEq, Nat.reduceBNe, Int.reduceToNat, Int.reduceLE, Int.reduceLT, allocX, setPs, extremeA, ints, resAll, rinfOk, packR]
        refine loopK_of (m' := m3 - 1) (by omega) ?_
        simp -implicitDefEqProofs only [rkA, stepA, valA, storeA, ldA, fieldAddrA, fieldA, idxAddrA, idxA, idxArr, lenA, unA, binA, num2, binV, eqA, rowOf, PV.cells, PV.cell, bndA, appA, reduceIte, reduceCtorEq, Nat.reduceAdd, Nat.reduceSub, Nat.reduceEqDiff, Nat.reduceLeDiff, Nat.reduceLT, Nat.reduceMul, Nat.reduceBEq, Nat.reduceBNe, Int.reduceToNat, Int.reduceLE, Int.reduceLT, allocX, setPs, extremeA, ints, resAll, rinfOk, packR]
        exact ⟨j + 1, by omega, by simp only [Int.natCast_add, Int.natCast_one, dotI]⟩
      · have hjm : j = many := by omega
        subst hjm
        have hlen := gridP_length (fun i k => dotI a b j cols i k j) cols i k
        have t3 := at_table (i := i) (j := k) (n := rows) (m := cols) (by omega) (by omega)
        have s3 := side16 hr hc
        have hfit : fits 1 8 ((gridP (fun i k => dotI a b j cols i k j) cols i k).map num) [num (dotI a b j cols i k j)] = true := fits_num (l := [dotI a b j cols i k j]) (by simp only [List.length_cons, List.length_nil]; omega)
        have hl : ((gridP (fun i k => dotI a b j cols i k j) cols i k).map num).length = (gridP (fun i k => dotI a b j cols i k j) cols i k).length := by simp
        have w8 := wrapped (x := (k : Int) + 1) (by omega) (by omega)
        simp -implicitDefEqProofs only [hfit, hl, w8, rkA, stepA, valA, storeA, ldA, fieldAddrA, fieldA, idxAddrA, idxA, idxArr, lenA, unA, binA, num2, binV, eqA, rowOf, PV.cells, PV.cell, bndA, appA, reduceIte, reduceCtorEq, Nat.reduceAdd, Nat.reduceSub, Nat.reduceEqDiff, Nat.reduceLeDiff, Nat.reduceLT, Nat.reduceMul, Nat.reduceBEq, Nat.reduceBNe, Int.reduceToNat, Int.reduceLE, Int.reduceLT, allocX, setPs, extremeA, ints, resAll, rinfOk, packR]
        refine loopK_of (m' := m2 - 1) (by omega) ?_
        simp -implicitDefEqProofs only [rkA, stepA, valA, storeA, ldA, fieldAddrA, fieldA, idxAddrA, idxA, idxArr, lenA, unA, binA, num2, binV, eqA, rowOf, PV.cells, PV.cell, bndA, appA, reduceIte, reduceCtorEq, Nat.reduceAdd, Nat.reduceSub, Nat.reduceEqDiff, Nat.reduceLeDiff, Nat.reduceLT, Nat.reduceMul, Nat.reduceBEq, Nat.reduceBNe, Int.reduceToNat, Int.reduceLE, Int.reduceLT, allocX, setPs, extremeA, ints, resAll, rinfOk, packR]
        refine ⟨k + 1, by omega, ?_⟩
        rw [gridP_succ]
        simp only [List.map_append, List.map_cons, List.map_nil, List.length_append, List.length_cons, List.length_nil, Int.natCast_add, Int.natCast_one]
    · have hkc : k = cols := by omega
      subst hkc
      have w9 := wrapped (x := (i : Int) + 1) (by omega) (by omega)
      simp -implicitDefEqProofs only [w9, rkA, stepA, valA, storeA, ldA, fieldAddrA, fieldA, idxAddrA, idxA, idxArr, lenA, unA, binA, num2, binV, eqA, rowOf, PV.cells, PV.cell, bndA, appA, reduceIte, reduceCtorEq, Nat.reduceAdd, Nat.reduceSub, Nat.reduceEqDiff, Nat.reduceLeDiff, Nat.reduceLT, Nat.reduceMul, Nat.reduceBEq, Nat.reduceBNe, Int.reduceToNat, Int.reduceLE, Int.reduceLT, allocX, setPs, extremeA, ints, resAll, rinfOk, packR]
      refine loopK_of (m' := m1 - 1) (by omega) ?_
      simp -implicitDefEqProofs only [rkA, stepA, valA, storeA, ldA, fieldAddrA, fieldA, idxAddrA, idxA, idxArr, lenA, unA, binA, num2, binV, eqA, rowOf, PV.cells, PV.cell, bndA, appA, reduceIte, reduceCtorEq, Nat.reduceAdd, Nat.reduceSub, Nat.reduceEqDiff, Nat.reduceLeDiff, Nat.reduceLT, Nat.reduceMul, Nat.reduceBEq, Nat.reduceBNe, Int.reduceToNat, Int.reduceLE, Int.reduceLT, allocX, setPs, extremeA, ints, resAll, rinfOk, packR]
      refine ⟨i + 1, by omega, ?_⟩
      rw [gridP_next]
      simp only [Int.natCast_add, Int.natCast_one]
  · have : i = rows := by omega
    subst this
    simp only [mulI]
end Go.Proofs.Ytbflmeomkfjikaa.A

set_option linter.unusedVariables false
set_option linter.unusedSimpArgs false
namespace Go.Proofs.Ytbflmeomkfjikaa.A
open Go Go.RowKit Go.Shelf

theorem gridP_get {α : Type} (g : Nat → Nat → α) (n : Nat) : ∀ (N i j : Nat), i < N → j < n → (gridP g n N 0)[i * n + j]? = some (g i j)
  | 0, i, j, h, _ => by omega
  | N + 1, i, j, hi, hj => by
    have e : gridP g n (N + 1) 0 = gridP g n N 0 ++ (List.range n).map (g N) := by
      rw [← gridP_next]
      simp [gridP]
    have hl := gridP_length g n N 0
    rw [e]
    by_cases h : i < N
    · have : (i + 1) * n ≤ N * n := Nat.mul_le_mul_right _ h
      rw [Nat.add_mul] at this
      rw [List.getElem?_append_left (by omega)]
      exact gridP_get g n N i j h hj
    · have : i = N := by omega
      subst this
      rw [List.getElem?_append_right (by omega), hl]
      simp [hj]

theorem flatMap_same {α β : Type} {l : List α} {f g : α → List β} (h : ∀ x ∈ l, f x = g x) : l.flatMap f = l.flatMap g := by
  rw [List.flatMap_def, List.flatMap_def, List.map_congr_left h]

/-- A stretch of a row. -/
theorem stretch {α : Type} (l : List α) (d : α) (i n : Nat) (h : (i + 1) * n ≤ l.length) : (l.take ((i + 1) * n)).drop (i * n) = (List.range n).map fun j => l.getD (i * n + j) d := by
  have hm : (i + 1) * n = i * n + n := by rw [Nat.add_mul, Nat.one_mul]
  apply List.ext_getElem
  · simp; omega
  · intro j h1 h2
    simp at h2
    simp [List.getElem?_eq_getElem (show i * n + j < l.length by omega)]

theorem rowF_eq {r c : Int} {l : List Fr} (d : Fr) (h : right r c l.length = true) {i : Nat} (hi : i < r.toNat) : rowF r c l i = (List.range c.toNat).map fun j => l.getD (i * c.toNat + j) d := by
  obtain ⟨r1, r2, c1, c2, hn⟩ := right_spec h
  obtain ⟨R, rfl⟩ := Int.eq_ofNat_of_zero_le (show 0 ≤ r by omega)
  obtain ⟨K, rfl⟩ := Int.eq_ofNat_of_zero_le (show 0 ≤ c by omega)
  simp only [Int.toNat_natCast] at hi ⊢
  unfold rowF
  rw [if_pos ⟨h, by omega, by omega⟩]
  have e1 : (((i : Int) + 1) * (K : Int)).toNat = (i + 1) * K := by
    have : ((i : Int) + 1) * (K : Int) = (((i + 1) * K : Nat) : Int) := by simp
    rw [this, Int.toNat_natCast]
  have e2 : ((i : Int) * (K : Int)).toNat = i * K := by
    have : (i : Int) * (K : Int) = ((i * K : Nat) : Int) := by simp
    rw [this, Int.toNat_natCast]
  rw [e1, e2]
  refine stretch l d i K ?_
  have h1 : (i + 1) * K ≤ R * K := Nat.mul_le_mul_right _ hi
  have h2 : ((R * K : Nat) : Int) = (l.length : Int) := by rw [hn]; simp
  omega

theorem atF_eq {r c : Int} {l : List Fr} (h : right r c l.length = true) {i k : Nat} (hi : i < r.toNat) (hk : k < c.toNat) : atF r c l i k = l.getD (i * c.toNat + k) ⟨0, 0, false⟩ := by
  obtain ⟨r1, r2, c1, c2, hn⟩ := right_spec h
  unfold atF
  rw [if_pos ⟨h, by omega, by omega, by omega, by omega⟩]
  congr 1
  obtain ⟨K, rfl⟩ := Int.eq_ofNat_of_zero_le (show 0 ≤ c by omega)
  have : (i : Int) * (K : Int) + (k : Int) = ((i * K + k : Nat) : Int) := by simp
  rw [this, Int.toNat_natCast, Int.toNat_natCast]

theorem turnF_eq {r c : Int} {l : List Fr} (h : right r c l.length = true) : turnF r c l = gridP (fun k i => atF r c l (i : Int) (k : Int)) r.toNat c.toNat 0 := by
  rw [gridP_zero]
  simp [turnF, h]

theorem getD_newF {a : List Int} {i : Nat} (h : i < a.length) (d : Fr) : (a.map (newF · 1)).getD i d = newF (a.getD i 0) 1 := by
  simp [h]

theorem sumF_whole (f : Nat → Int) (s : Nat → Int) (h0 : s 0 = 0) (hs : ∀ j, s (j + 1) = s j + f j) (N : Nat) (hf : ∀ j, j < N → few (f j)) (hb : ∀ j, j ≤ N → few (s j)) : ∀ n, n ≤ N → sumF ((List.range n).map fun j => whole (f j)) = whole (s n)
  | 0, _ => by
    have := newF_whole (n := 0) (by unfold few; omega)
    simp [sumF, this, h0]
  | n + 1, hn => by
    have ih := sumF_whole f s h0 hs N hf hb n (by omega)
    have : sumF ((List.range (n + 1)).map fun j => whole (f j)) = addF (sumF ((List.range n).map fun j => whole (f j))) (whole (f n)) := by
      unfold sumF
      rw [List.range_succ, List.map_append, List.foldl_append]
      rfl
    rw [this, ih, addF_whole (hb n (by omega)) (hf n (by omega)) (by rw [← hs]; exact hb _ hn), ← hs]

theorem few_small {x : Int} (h : -100 ≤ x ∧ x ≤ 100) : few x := by unfold few; omega

theorem dotF_whole {a b : List Int} {many cols : Nat} (ha : small a) (hb : small b) (hm : many ≤ 16) (i k : Nat) :
    dotF ((List.range many).map fun j => newF (a.getD (i * many + j) 0) 1) ((List.range many).map fun j => newF (b.getD (j * cols + k) 0) 1) = newF (dotI a b many cols i k many) 1 := by
  have hd : ∀ j, j ≤ many → few (dotI a b many cols i k j) := fun j hj => by
    have := dotI_le ha hb many cols i k j
    unfold few
    omega
  unfold dotF
  rw [newF_whole (hd many (Nat.le_refl _)), List.zipWith_map, List.zipWith_self]
  have e : ∀ j, mulF (newF (a.getD (i * many + j) 0) 1) (newF (b.getD (j * cols + k) 0) 1) = whole (a.getD (i * many + j) 0 * b.getD (j * cols + k) 0) := fun j => by
    have h1 := small_get ha (i * many + j)
    have h2 := small_get hb (j * cols + k)
    have h3 := prod_small h1 h2
    rw [newF_whole (few_small h1), newF_whole (few_small h2), mulF_whole (few_small h1) (few_small h2) (by unfold few; omega)]
  simp only [e]
  refine sumF_whole (fun j => a.getD (i * many + j) 0 * b.getD (j * cols + k) 0) (dotI a b many cols i k) rfl (fun j => rfl) many (fun j _ => ?_) hd many (Nat.le_refl _)
  have h3 := prod_small (small_get ha (i * many + j)) (small_get hb (j * cols + k))
  unfold few
  omega

/-- The product of whole numbers is the document's. -/
theorem prodF_whole {r m c : Int} {a b : List Int} (h1 : right r m a.length = true) (h2 : right m c b.length = true) (ha : small a) (hb : small b) :
    prodF r m c (a.map (newF · 1)) (b.map (newF · 1)) = (mulI a b r.toNat m.toNat c.toNat).map (newF · 1) := by
  obtain ⟨r1, r2, m1, m2, hn⟩ := right_spec h1
  obtain ⟨_, _, c1, c2, hn2⟩ := right_spec h2
  have h1' : right r m (a.map (newF · 1)).length = true := by simpa using h1
  have h2' : right m c (b.map (newF · 1)).length = true := by simpa using h2
  have h3 := right_turn h2'
  have la : a.length = r.toNat * m.toNat := by
    have : ((r.toNat * m.toNat : Nat) : Int) = a.length := by rw [Int.natCast_mul, Int.toNat_of_nonneg (by omega), Int.toNat_of_nonneg (by omega), hn]
    omega
  have lb : b.length = m.toNat * c.toNat := by
    have : ((m.toNat * c.toNat : Nat) : Int) = b.length := by rw [Int.natCast_mul, Int.toNat_of_nonneg (by omega), Int.toNat_of_nonneg (by omega), hn2]
    omega
  unfold prodF mulI allF
  rw [gridP_zero, List.flatMap_map, List.map_flatMap]
  apply flatMap_same
  intro i hi
  rw [List.mem_range] at hi
  rw [List.map_map, List.map_map]
  apply List.map_congr_left
  intro k hk
  rw [List.mem_range] at hk
  simp only [Function.comp]
  have e1 : rowF r m (a.map (newF · 1)) i = (List.range m.toNat).map fun j => newF (a.getD (i * m.toNat + j) 0) 1 := by
    rw [rowF_eq ⟨0, 0, false⟩ h1' hi]
    apply List.map_congr_left
    intro j hj
    rw [List.mem_range] at hj
    have := at_table hi hj
    exact getD_newF (by omega) _
  have e2 : rowF c m (turnF m c (b.map (newF · 1))) k = (List.range m.toNat).map fun j => newF (b.getD (j * c.toNat + k) 0) 1 := by
    rw [rowF_eq ⟨0, 0, false⟩ h3 hk]
    apply List.map_congr_left
    intro j hj
    rw [List.mem_range] at hj
    rw [turnF_eq h2', List.getD_eq_getElem?_getD, gridP_get _ _ _ _ _ hk hj, Option.getD_some, atF_eq h2' hj hk]
    have := at_table hj hk
    exact getD_newF (by omega) _
  rw [e1, e2, dotF_whole ha hb (by omega)]
end Go.Proofs.Ytbflmeomkfjikaa.A

set_option linter.unusedVariables false
set_option linter.unusedSimpArgs false
set_option maxRecDepth 100000
namespace Go.Proofs.Ytbflmeomkfjikaa.A
open Go Go.RowKit Go.Shelf

theorem fewB_spec {a : List Int} (h : fewB a = true) : a.length ≤ 256 ∧ small a :=
  (of_decide_eq_true h : a.length ≤ 256 ∧ ∀ x ∈ a, -100 ≤ x ∧ x ≤ 100)
theorem Cs.keep {I : Imm} {x : PV} {xs ys : List PV} {vs : List Value} (h : Cs I (x :: xs) vs) (k : ∀ us, Cs I xs us → Cs I ys us) : Cs I (x :: ys) vs := by
  cases h with | cons h1 h2 => exact .cons h1 (k _ h2)
theorem Cs.mat_nil {I : Imm} {xs ys : List PV} {vs : List Value} (h : Cs I (matNil :: xs) vs) (k : ∀ us, Cs I xs us → Cs I ys us) : Cs I (matV false 0 0 (frs []) :: ys) vs := by
  have key : ∀ us, Cs I [num 0, num 0, .s (.slice none 0 0)] us → Cs I [num 0, num 0, .sl false []] us := fun us h => Cs.keep h fun us h => Cs.keep h fun us h => Cs.nil_of h fun us h => h
  cases h with | cons h1 h2 => cases h1 with | agg hl => exact .cons (.agg (key _ hl)) (k _ h2)

theorem ok21_nil : Ok Try.prog 21 [matNil, num 0, num 0, .s (.slice none 0 0)] (tru true) :=
  (ok21 false false 0 0 [] [] (by simp) rfl).args fun I vs h => Cs.mat_nil h fun us h => Cs.keep h fun us h => Cs.keep h fun us h => Cs.nil_of h fun us h => h
theorem ok33_nil1 {eb : Bool} {m2 c : Int} {b : List Fr} : Ok Try.prog 33 [matNil, matV eb m2 c (frs b)] (.tup [matNil, tru false]) := by
  have := (ok33 false eb 0 0 m2 c [] b).args fun I vs h => Cs.mat_nil h fun us h => h
  rw [if_neg (by simp [right])] at this
  exact this
theorem ok33_nil2 {ea : Bool} {r m : Int} {a : List Fr} : Ok Try.prog 33 [matV ea r m (frs a), matNil] (.tup [matNil, tru false]) := by
  have := (ok33 ea false r m 0 0 a []).args fun I vs h => Cs.keep h fun us h => Cs.mat_nil h fun us h => h
  rw [if_neg (by simp [right])] at this
  exact this
theorem ok33_nil : Ok Try.prog 33 [matNil, matNil] (.tup [matNil, tru false]) :=
  (ok33_nil1 (eb := false) (m2 := 0) (c := 0) (b := [])).args fun I vs h => Cs.keep h fun us h => Cs.mat_nil h fun us h => h

end Go.Proofs.Ytbflmeomkfjikaa.A

set_option linter.unusedVariables false
set_option linter.unusedSimpArgs false
set_option maxRecDepth 100000
namespace Go.Proofs.Ytbflmeomkfjikaa.A
open Go Go.RowKit Go.Shelf

theorem Cs.mat_nil' {I : Imm} {xs ys : List PV} {vs : List Value} {ex : Bool} (h : Cs I (matNil :: xs) vs) (k : ∀ us, Cs I xs us → Cs I ys us) : Cs I (matV ex 0 0 (frs []) :: ys) vs := by
  have key : ∀ us, Cs I [num 0, num 0, .s (.slice none 0 0)] us → Cs I [num 0, num 0, .sl ex []] us := fun us h => Cs.keep h fun us h => Cs.keep h fun us h => Cs.nil_of h fun us h => h
  cases h with | cons h1 h2 => cases h1 with | agg hl => exact .cons (.agg (key _ hl)) (k _ h2)
theorem ok44_nil : Ok Try.prog 44 [matNil] (tru false) := (ok44 false 0 0 (frs [])).args fun I vs h => Cs.mat_nil h fun us h => h
theorem ok18_nil (i : Int) : Ok Try.prog 18 [matNil, num i] (.sl false []) := by
  have := (ok18 false 0 0 i []).args fun I vs h => Cs.mat_nil h fun us h => h
  have e : rowF 0 0 [] i = [] := if_neg (fun h => by simp [right] at h)
  rw [e] at this
  exact this

def colF (r c : Int) (l : List Fr) (k : Int) : List Fr := if right r c l.length = true then rowF c r (turnF r c l) k else []
theorem rowF_out {r c i : Int} {l : List Fr} (h : i < 0 ∨ r ≤ i) : rowF r c l i = [] := if_neg (fun h' => by omega)
theorem atF_out {r c i k : Int} {l : List Fr} (h : i < 0 ∨ r ≤ i ∨ k < 0 ∨ c ≤ k) : atF r c l i k = ⟨0, 0, false⟩ := if_neg (fun h' => by omega)

theorem eq_zero : cellsEq [some .i64, some .i64, none] [num 0, num 0, tru false] [num 0, num 0, tru false] = some true := rfl
theorem len_zero {l : List Fr} (h : l = []) : (((frs l).length : Int) == 0) = true := by simp [h]
theorem colF_eq {r c : Int} {l : List Fr} (h : right r c l.length = true) {k : Nat} (hk : k < c.toNat) : colF r c l k = (List.range r.toNat).map fun (j : Nat) => atF r c l (j : Int) (k : Int) := by
  unfold colF
  rw [if_pos h, rowF_eq ⟨0, 0, false⟩ (right_turn h) hk]
  apply List.map_congr_left
  intro j hj
  rw [List.mem_range] at hj
  rw [turnF_eq h, List.getD_eq_getElem?_getD, gridP_get _ _ _ _ _ hk hj, Option.getD_some]

end Go.Proofs.Ytbflmeomkfjikaa.A

set_option linter.unusedVariables false
set_option linter.unusedSimpArgs false
set_option maxRecDepth 100000
namespace Go.Proofs.Ytbflmeomkfjikaa.A
open Go Go.RowKit Go.Shelf

theorem methSub : Meth Try.prog 31 "Sub" 87 := by
  intro v xs w
  rfl

theorem ok80 (a b : Fr) : Ok Try.prog 80 [frV a, frV b] (frV (addF a b)) := by
  refine ok_fn mixed Try.func80 (code := ?_) (h := h80) ?_ k80 ?_
  rotate_left
  · exact rfl
  unfold h80 initS
  simp -implicitDefEqProofs only [rkA, stepA, valA, storeA, ldA, fieldAddrA, fieldA, idxAddrA, idxA, idxArr, lenA, unA, binA, num2, binV, eqA, rowOf, PV.cells, PV.cell, bndA, appA, reduceIte, reduceCtorEq, Nat.reduceAdd, Nat.reduceSub, Nat.reduceEqDiff, Nat.reduceLeDiff, Nat.reduceLT, Nat.reduceMul, Nat.reduceBEq, Nat.reduceBNe, Int.reduceToNat, Int.reduceLE, Int.reduceLT, allocX, setPs, extremeA, ints, resAll, rinfOk, packR, Try.ntmps80, Try.results80]
  refine call_meth rfl rfl methAdd (ok81 a b) ?_
  simp -implicitDefEqProofs only [rkA, stepA, valA, storeA, ldA, fieldAddrA, fieldA, idxAddrA, idxA, idxArr, lenA, unA, binA, num2, binV, eqA, rowOf, PV.cells, PV.cell, bndA, appA, reduceIte, reduceCtorEq, Nat.reduceAdd, Nat.reduceSub, Nat.reduceEqDiff, Nat.reduceLeDiff, Nat.reduceLT, Nat.reduceMul, Nat.reduceBEq, Nat.reduceBNe, Int.reduceToNat, Int.reduceLE, Int.reduceLT, allocX, setPs, extremeA, ints, resAll, rinfOk, packR]
theorem ok60 (a b : Fr) : Ok Try.prog 60 [frV a, frV b] (frV (subF a b)) := by
  refine ok_fn mixed Try.func60 (code := ?_) (h := h60) ?_ k60 ?_
  rotate_left
  · exact rfl
  unfold h60 initS
  simp -implicitDefEqProofs only [rkA, stepA, valA, storeA, ldA, fieldAddrA, fieldA, idxAddrA, idxA, idxArr, lenA, unA, binA, num2, binV, eqA, rowOf, PV.cells, PV.cell, bndA, appA, reduceIte, reduceCtorEq, Nat.reduceAdd, Nat.reduceSub, Nat.reduceEqDiff, Nat.reduceLeDiff, Nat.reduceLT, Nat.reduceMul, Nat.reduceBEq, Nat.reduceBNe, Int.reduceToNat, Int.reduceLE, Int.reduceLT, allocX, setPs, extremeA, ints, resAll, rinfOk, packR, Try.ntmps60, Try.results60]
  refine call_meth rfl rfl methSub (ok87 a b) ?_
  simp -implicitDefEqProofs only [rkA, stepA, valA, storeA, ldA, fieldAddrA, fieldA, idxAddrA, idxA, idxArr, lenA, unA, binA, num2, binV, eqA, rowOf, PV.cells, PV.cell, bndA, appA, reduceIte, reduceCtorEq, Nat.reduceAdd, Nat.reduceSub, Nat.reduceEqDiff, Nat.reduceLeDiff, Nat.reduceLT, Nat.reduceMul, Nat.reduceBEq, Nat.reduceBNe, Int.reduceToNat, Int.reduceLE, Int.reduceLT, allocX, setPs, extremeA, ints, resAll, rinfOk, packR]
theorem ok79 (ea eb : Bool) (a b : List Fr) (ha : a.length ≤ 5864062014805) (hb : b.length ≤ 5864062014805) : Ok Try.prog 79 [.sl ea (frs a), .sl eb (frs b)] (.sl false (frs (List.zipWith addF a b))) := by
  refine ok_fn mixed Try.func79 (code := ?_) (h := h79) ?_ k79 ?_
  rotate_left
  · exact rfl
  unfold h79 initS
  simp -implicitDefEqProofs only [rkA, stepA, valA, storeA, ldA, fieldAddrA, fieldA, idxAddrA, idxA, idxArr, lenA, unA, binA, num2, binV, eqA, rowOf, PV.cells, PV.cell, bndA, appA, reduceIte, reduceCtorEq, Nat.reduceAdd, Nat.reduceSub, Nat.reduceEqDiff, Nat.reduceLeDiff, Nat.reduceLT, Nat.reduceMul, Nat.reduceBEq, Nat.reduceBNe, Int.reduceToNat, Int.reduceLE, Int.reduceLT, allocX, setPs, extremeA, ints, resAll, rinfOk, packR, Try.ntmps79, Try.results79]
  refine call_fn rfl rfl rfl (ok46 80 addF ok80 ea eb a b ha hb) ?_
  simp -implicitDefEqProofs only [rkA, stepA, valA, storeA, ldA, fieldAddrA, fieldA, idxAddrA, idxA, idxArr, lenA, unA, binA, num2, binV, eqA, rowOf, PV.cells, PV.cell, bndA, appA, reduceIte, reduceCtorEq, Nat.reduceAdd, Nat.reduceSub, Nat.reduceEqDiff, Nat.reduceLeDiff, Nat.reduceLT, Nat.reduceMul, Nat.reduceBEq, Nat.reduceBNe, Int.reduceToNat, Int.reduceLE, Int.reduceLT, allocX, setPs, extremeA, ints, resAll, rinfOk, packR]
theorem ok57 (ea eb : Bool) (a b : List Fr) (ha : a.length ≤ 5864062014805) (hb : b.length ≤ 5864062014805) : Ok Try.prog 57 [.sl ea (frs a), .sl eb (frs b)] (.sl false (frs (List.zipWith subF a b))) := by
  refine ok_fn mixed Try.func57 (code := ?_) (h := h57) ?_ k57 ?_
  rotate_left
  · exact rfl
  unfold h57 initS
  simp -implicitDefEqProofs only [rkA, stepA, valA, storeA, ldA, fieldAddrA, fieldA, idxAddrA, idxA, idxArr, lenA, unA, binA, num2, binV, eqA, rowOf, PV.cells, PV.cell, bndA, appA, reduceIte, reduceCtorEq, Nat.reduceAdd, Nat.reduceSub, Nat.reduceEqDiff, Nat.reduceLeDiff, Nat.reduceLT, Nat.reduceMul, Nat.reduceBEq, Nat.reduceBNe, Int.reduceToNat, Int.reduceLE, Int.reduceLT, allocX, setPs, extremeA, ints, resAll, rinfOk, packR, Try.ntmps57, Try.results57]
  refine call_fn rfl rfl rfl (ok46 60 subF ok60 ea eb a b ha hb) ?_
  simp -implicitDefEqProofs only [rkA, stepA, valA, storeA, ldA, fieldAddrA, fieldA, idxAddrA, idxA, idxArr, lenA, unA, binA, num2, binV, eqA, rowOf, PV.cells, PV.cell, bndA, appA, reduceIte, reduceCtorEq, Nat.reduceAdd, Nat.reduceSub, Nat.reduceEqDiff, Nat.reduceLeDiff, Nat.reduceLT, Nat.reduceMul, Nat.reduceBEq, Nat.reduceBNe, Int.reduceToNat, Int.reduceLE, Int.reduceLT, allocX, setPs, extremeA, ints, resAll, rinfOk, packR]

theorem right_le {r c : Int} {n : Nat} (h : right r c n = true) : n ≤ 256 := by
  obtain ⟨r1, r2, c1, c2, hn⟩ := right_spec h
  have : r * c ≤ 16 * 16 := Int.mul_le_mul r2 c2 (by omega) (by omega)
  omega

/-- Number by number. -/
theorem ok78 (k : Nat) (F : Fr → Fr → Fr) (hF : ∀ (ea eb : Bool) (a b : List Fr), a.length ≤ 5864062014805 → b.length ≤ 5864062014805 → Ok Try.prog k [.sl ea (frs a), .sl eb (frs b)] (.sl false (frs (List.zipWith F a b)))) (ea eb : Bool) (r c r2 c2 : Int) (a b : List Fr) :
    Ok Try.prog 78 [matV ea r c (frs a), matV eb r2 c2 (frs b), .fn (.func k) []] (if right r c a.length = true ∧ right r2 c2 b.length = true ∧ r = r2 ∧ c = c2 then .tup [matV false r c (frs (List.zipWith F a b)), tru true] else .tup [matNil, tru false]) := by
  refine ok_fn mixed Try.func78 (code := ?_) (h := h78) ?_ k78 ?_
  rotate_left
  · exact rfl
  unfold h78 initS
  simp -implicitDefEqProofs only [rkA, stepA, valA, storeA, ldA, fieldAddrA, fieldA, idxAddrA, idxA, idxArr, lenA, unA, binA, num2, binV, eqA, rowOf, PV.cells, PV.cell, bndA, appA, reduceIte, reduceCtorEq, Nat.reduceAdd, Nat.reduceSub, Nat.reduceEqDiff, Nat.reduceLeDiff, Nat.reduceLT, Nat.reduceMul, Nat.reduceBEq, Nat.reduceBNe, Int.reduceToNat, Int.reduceLE, Int.reduceLT, allocX, setPs, extremeA, ints, resAll, rinfOk, packR, Try.ntmps78, Try.results78]
  refine call_fn rfl rfl rfl (ok44 ea r c (frs a)) ?_
  have e : (frs a).length = a.length := by simp
  have e' : (frs b).length = b.length := by simp
  rw [e]
  cases hr : right r c a.length with
  | false => simp -implicitDefEqProofs only [rkA, stepA, valA, storeA, ldA, fieldAddrA, fieldA, idxAddrA, idxA, idxArr, lenA, unA, binA, num2, binV, eqA, rowOf, PV.cells, PV.cell, bndA, appA, reduceIte, reduceCtorEq, Nat.reduceAdd, Nat.reduceSub, Nat.reduceEqDiff, Nat.reduceLeDiff, Nat.reduceLT, Nat.reduceMul, Nat.reduceBEq, Nat.reduceBNe, Int.reduceToNat, Int.reduceLE, Int.reduceLT, allocX, setPs, extremeA, ints, resAll, rinfOk, packR]
  | true =>
    simp -implicitDefEqProofs only [rkA, stepA, valA, storeA, ldA, fieldAddrA, fieldA, idxAddrA, idxA, idxArr, lenA, unA, binA, num2, binV, eqA, rowOf, PV.cells, PV.cell, bndA, appA, reduceIte, reduceCtorEq, Nat.reduceAdd, Nat.reduceSub, Nat.reduceEqDiff, Nat.reduceLeDiff, Nat.reduceLT, Nat.reduceMul, Nat.reduceBEq, Nat.reduceBNe, Int.reduceToNat, Int.reduceLE, Int.reduceLT, allocX, setPs, extremeA, ints, resAll, rinfOk, packR]
    refine call_fn rfl rfl rfl (ok44 eb r2 c2 (frs b)) ?_
    rw [e']
    cases hr2 : right r2 c2 b.length with
    | false => simp -implicitDefEqProofs only [rkA, stepA, valA, storeA, ldA, fieldAddrA, fieldA, idxAddrA, idxA, idxArr, lenA, unA, binA, num2, binV, eqA, rowOf, PV.cells, PV.cell, bndA, appA, reduceIte, reduceCtorEq, Nat.reduceAdd, Nat.reduceSub, Nat.reduceEqDiff, Nat.reduceLeDiff, Nat.reduceLT, Nat.reduceMul, Nat.reduceBEq, Nat.reduceBNe, Int.reduceToNat, Int.reduceLE, Int.reduceLT, allocX, setPs, extremeA, ints, resAll, rinfOk, packR]
    | true =>
      have l1 := right_le hr
      have l2 := right_le hr2
      simp -implicitDefEqProofs only [rkA, stepA, valA, storeA, ldA, fieldAddrA, fieldA, idxAddrA, idxA, idxArr, lenA, unA, binA, num2, binV, eqA, rowOf, PV.cells, PV.cell, bndA, appA, reduceIte, reduceCtorEq, Nat.reduceAdd, Nat.reduceSub, Nat.reduceEqDiff, Nat.reduceLeDiff, Nat.reduceLT, Nat.reduceMul, Nat.reduceBEq, Nat.reduceBNe, Int.reduceToNat, Int.reduceLE, Int.reduceLT, allocX, setPs, extremeA, ints, resAll, rinfOk, packR]
      by_cases h1 : r = r2
      · subst h1
        simp -implicitDefEqProofs only [bne_self_eq_false, rkA, stepA, valA, storeA, ldA, fieldAddrA, fieldA, idxAddrA, idxA, idxArr, lenA, unA, binA, num2, binV, eqA, rowOf, PV.cells, PV.cell, bndA, appA, reduceIte, reduceCtorEq, Nat.reduceAdd, Nat.reduceSub, Nat.reduceEqDiff, Nat.reduceLeDiff, Nat.reduceLT, Nat.reduceMul, Nat.reduceBEq, Nat.reduceBNe, Int.reduceToNat, Int.reduceLE, Int.reduceLT, allocX, setPs, extremeA, ints, resAll, rinfOk, packR]
        by_cases h2 : c = c2
        · subst h2
          simp -implicitDefEqProofs only [bne_self_eq_false, rkA, stepA, valA, storeA, ldA, fieldAddrA, fieldA, idxAddrA, idxA, idxArr, lenA, unA, binA, num2, binV, eqA, rowOf, PV.cells, PV.cell, bndA, appA, reduceIte, reduceCtorEq, Nat.reduceAdd, Nat.reduceSub, Nat.reduceEqDiff, Nat.reduceLeDiff, Nat.reduceLT, Nat.reduceMul, Nat.reduceBEq, Nat.reduceBNe, Int.reduceToNat, Int.reduceLE, Int.reduceLT, allocX, setPs, extremeA, ints, resAll, rinfOk, packR]
          refine call_fn rfl rfl rfl (hF ea eb a b (by omega) (by omega)) ?_
          simp -implicitDefEqProofs only [rkA, stepA, valA, storeA, ldA, fieldAddrA, fieldA, idxAddrA, idxA, idxArr, lenA, unA, binA, num2, binV, eqA, rowOf, PV.cells, PV.cell, bndA, appA, reduceIte, reduceCtorEq, Nat.reduceAdd, Nat.reduceSub, Nat.reduceEqDiff, Nat.reduceLeDiff, Nat.reduceLT, Nat.reduceMul, Nat.reduceBEq, Nat.reduceBNe, Int.reduceToNat, Int.reduceLE, Int.reduceLT, allocX, setPs, extremeA, ints, resAll, rinfOk, packR]
        · have hne : (c != c2) = true := by simp [h2]
          simp -implicitDefEqProofs only [hne, h2, rkA, stepA, valA, storeA, ldA, fieldAddrA, fieldA, idxAddrA, idxA, idxArr, lenA, unA, binA, num2, binV, eqA, rowOf, PV.cells, PV.cell, bndA, appA, reduceIte, reduceCtorEq, Nat.reduceAdd, Nat.reduceSub, Nat.reduceEqDiff, Nat.reduceLeDiff, Nat.reduceLT, Nat.reduceMul, Nat.reduceBEq, Nat.reduceBNe, Int.reduceToNat, Int.reduceLE, Int.reduceLT, allocX, setPs, extremeA, ints, resAll, rinfOk, packR]
      · have hne : (r != r2) = true := by simp [h1]
        simp -implicitDefEqProofs only [hne, h1, rkA, stepA, valA, storeA, ldA, fieldAddrA, fieldA, idxAddrA, idxA, idxArr, lenA, unA, binA, num2, binV, eqA, rowOf, PV.cells, PV.cell, bndA, appA, reduceIte, reduceCtorEq, Nat.reduceAdd, Nat.reduceSub, Nat.reduceEqDiff, Nat.reduceLeDiff, Nat.reduceLT, Nat.reduceMul, Nat.reduceBEq, Nat.reduceBNe, Int.reduceToNat, Int.reduceLE, Int.reduceLT, allocX, setPs, extremeA, ints, resAll, rinfOk, packR]

theorem ok76 (ea eb : Bool) (r c r2 c2 : Int) (a b : List Fr) : Ok Try.prog 76 [matV ea r c (frs a), matV eb r2 c2 (frs b)]
    (if right r c a.length = true ∧ right r2 c2 b.length = true ∧ r = r2 ∧ c = c2 then .tup [matV false r c (frs (List.zipWith addF a b)), tru true] else .tup [matNil, tru false]) := by
  refine ok_fn mixed Try.func76 (code := ?_) (h := h76) ?_ k76 ?_
  rotate_left
  · exact rfl
  unfold h76 initS
  simp -implicitDefEqProofs only [rkA, stepA, valA, storeA, ldA, fieldAddrA, fieldA, idxAddrA, idxA, idxArr, lenA, unA, binA, num2, binV, eqA, rowOf, PV.cells, PV.cell, bndA, appA, reduceIte, reduceCtorEq, Nat.reduceAdd, Nat.reduceSub, Nat.reduceEqDiff, Nat.reduceLeDiff, Nat.reduceLT, Nat.reduceMul, Nat.reduceBEq, Nat.reduceBNe, Int.reduceToNat, Int.reduceLE, Int.reduceLT, allocX, setPs, extremeA, ints, resAll, rinfOk, packR, Try.ntmps76, Try.results76]
  refine call_fn rfl rfl rfl (ok78 79 addF ok79 ea eb r c r2 c2 a b) ?_
  split <;> simp -implicitDefEqProofs only [rkA, stepA, valA, storeA, ldA, fieldAddrA, fieldA, idxAddrA, idxA, idxArr, lenA, unA, binA, num2, binV, eqA, rowOf, PV.cells, PV.cell, bndA, appA, reduceIte, reduceCtorEq, Nat.reduceAdd, Nat.reduceSub, Nat.reduceEqDiff, Nat.reduceLeDiff, Nat.reduceLT, Nat.reduceMul, Nat.reduceBEq, Nat.reduceBNe, Int.reduceToNat, Int.reduceLE, Int.reduceLT, allocX, setPs, extremeA, ints, resAll, rinfOk, packR]
theorem ok77 (ea eb : Bool) (r c r2 c2 : Int) (a b : List Fr) : Ok Try.prog 77 [matV ea r c (frs a), matV eb r2 c2 (frs b)]
    (if right r c a.length = true ∧ right r2 c2 b.length = true ∧ r = r2 ∧ c = c2 then .tup [matV false r c (frs (List.zipWith subF a b)), tru true] else .tup [matNil, tru false]) := by
  refine ok_fn mixed Try.func77 (code := ?_) (h := h77) ?_ k77 ?_
  rotate_left
  · exact rfl
  unfold h77 initS
  simp -implicitDefEqProofs only [rkA, stepA, valA, storeA, ldA, fieldAddrA, fieldA, idxAddrA, idxA, idxArr, lenA, unA, binA, num2, binV, eqA, rowOf, PV.cells, PV.cell, bndA, appA, reduceIte, reduceCtorEq, Nat.reduceAdd, Nat.reduceSub, Nat.reduceEqDiff, Nat.reduceLeDiff, Nat.reduceLT, Nat.reduceMul, Nat.reduceBEq, Nat.reduceBNe, Int.reduceToNat, Int.reduceLE, Int.reduceLT, allocX, setPs, extremeA, ints, resAll, rinfOk, packR, Try.ntmps77, Try.results77]
  refine call_fn rfl rfl rfl (ok78 57 subF ok57 ea eb r c r2 c2 a b) ?_
  split <;> simp -implicitDefEqProofs only [rkA, stepA, valA, storeA, ldA, fieldAddrA, fieldA, idxAddrA, idxA, idxArr, lenA, unA, binA, num2, binV, eqA, rowOf, PV.cells, PV.cell, bndA, appA, reduceIte, reduceCtorEq, Nat.reduceAdd, Nat.reduceSub, Nat.reduceEqDiff, Nat.reduceLeDiff, Nat.reduceLT, Nat.reduceMul, Nat.reduceBEq, Nat.reduceBNe, Int.reduceToNat, Int.reduceLE, Int.reduceLT, allocX, setPs, extremeA, ints, resAll, rinfOk, packR]

/-! ### Beside -/
def besP (r c c2 : Int) (a b : List Fr) (n : Nat) : List Fr := (List.range n).flatMap fun (i : Nat) => rowF r c a (i : Int) ++ rowF r c2 b (i : Int)
def besF (r c c2 : Int) (a b : List Fr) : List Fr := besP r c c2 a b r.toNat
theorem besP_succ (r c c2 : Int) (a b : List Fr) (n : Nat) : besP r c c2 a b (n + 1) = besP r c c2 a b n ++ rowF r c a (n : Int) ++ rowF r c2 b (n : Int) := by
  simp [besP, List.range_succ]
theorem rowF_len {r c : Int} {l : List Fr} (h : right r c l.length = true) {i : Nat} (hi : i < r.toNat) : (rowF r c l i).length = c.toNat := by
  rw [rowF_eq ⟨0, 0, false⟩ h hi]
  simp
theorem besP_length {r c c2 : Int} {a b : List Fr} (h : right r c a.length = true) (h2 : right r c2 b.length = true) : ∀ n, n ≤ r.toNat → (besP r c c2 a b n).length = n * (c.toNat + c2.toNat)
  | 0, _ => by simp [besP]
  | n + 1, hn => by
    rw [besP_succ, List.length_append, List.length_append, besP_length h h2 n (by omega), rowF_len h (by omega), rowF_len h2 (by omega), Nat.add_mul]
    omega
theorem right_bes {r c c2 : Int} {a b : List Fr} (h : right r c a.length = true) (h2 : right r c2 b.length = true) : right r (c + c2) (besF r c c2 a b).length = decide (c + c2 ≤ 16) := by
  obtain ⟨r1, r2, c1, c3, hn⟩ := right_spec h
  obtain ⟨_, _, d1, d2, hn2⟩ := right_spec h2
  have hl := besP_length h h2 r.toNat (Nat.le_refl _)
  have e1 : ((r.toNat * (c.toNat + c2.toNat) : Nat) : Int) = r * (c + c2) := by
    rw [Int.natCast_mul, Int.natCast_add, Int.toNat_of_nonneg (by omega), Int.toNat_of_nonneg (by omega), Int.toNat_of_nonneg (by omega)]
  have e2 : (((besF r c c2 a b).length : Int) == r * (c + c2)) = true := by
    rw [besF, hl, e1]
    simp
  have e3 : decide (1 ≤ r ∧ r ≤ 16) = true := by simp; omega
  simp only [right, e2, e3, Bool.true_and, Bool.and_true]
  congr 1
  simp only [eq_iff_iff]
  omega

/-! ### Mirrored -/
def mirF (r : Int) (l : List Fr) : List Fr := gridP (fun i k => atF r r l (max i k : Nat) (min i k : Nat)) r.toNat r.toNat 0
theorem ok16 (ex : Bool) (r c : Int) (l : List Fr) : Ok Try.prog 16 [matV ex r c (frs l)] (if right r c l.length = true ∧ r = c then .tup [matV false r c (frs (mirF r l)), tru true] else .tup [matNil, tru false]) := by
  refine ok_fn mixed Try.func16 (code := ?_) (h := h16) ?_ k16 ?_
  rotate_left
  · exact rfl
  unfold h16 initS
  simp -implicitDefEqProofs only [rkA, stepA, valA, storeA, ldA, fieldAddrA, fieldA, idxAddrA, idxA, idxArr, lenA, unA, binA, num2, binV, eqA, rowOf, PV.cells, PV.cell, bndA, appA, reduceIte, reduceCtorEq, Nat.reduceAdd, Nat.reduceSub, Nat.reduceEqDiff, Nat.reduceLeDiff, Nat.reduceLT, Nat.reduceMul, Nat.reduceBEq, Nat.reduceBNe, Int.reduceToNat, Int.reduceLE, Int.reduceLT, allocX, setPs, extremeA, ints, resAll, rinfOk, packR, Try.ntmps16, Try.results16]
  refine call_fn rfl rfl rfl (ok44 ex r c (frs l)) ?_
  have e : (frs l).length = l.length := by simp
  rw [e]
  cases hr : right r c l.length with
  | false => simp -implicitDefEqProofs only [rkA, stepA, valA, storeA, ldA, fieldAddrA, fieldA, idxAddrA, idxA, idxArr, lenA, unA, binA, num2, binV, eqA, rowOf, PV.cells, PV.cell, bndA, appA, reduceIte, reduceCtorEq, Nat.reduceAdd, Nat.reduceSub, Nat.reduceEqDiff, Nat.reduceLeDiff, Nat.reduceLT, Nat.reduceMul, Nat.reduceBEq, Nat.reduceBNe, Int.reduceToNat, Int.reduceLE, Int.reduceLT, allocX, setPs, extremeA, ints, resAll, rinfOk, packR]
  | true =>
    obtain ⟨r1, r2, c1, c2, hn⟩ := right_spec hr
    simp -implicitDefEqProofs only [rkA, stepA, valA, storeA, ldA, fieldAddrA, fieldA, idxAddrA, idxA, idxArr, lenA, unA, binA, num2, binV, eqA, rowOf, PV.cells, PV.cell, bndA, appA, reduceIte, reduceCtorEq, Nat.reduceAdd, Nat.reduceSub, Nat.reduceEqDiff, Nat.reduceLeDiff, Nat.reduceLT, Nat.reduceMul, Nat.reduceBEq, Nat.reduceBNe, Int.reduceToNat, Int.reduceLE, Int.reduceLT, allocX, setPs, extremeA, ints, resAll, rinfOk, packR]
    by_cases h1 : r = c
    · subst h1
      simp -implicitDefEqProofs only [bne_self_eq_false, rkA, stepA, valA, storeA, ldA, fieldAddrA, fieldA, idxAddrA, idxA, idxArr, lenA, unA, binA, num2, binV, eqA, rowOf, PV.cells, PV.cell, bndA, appA, reduceIte, reduceCtorEq, Nat.reduceAdd, Nat.reduceSub, Nat.reduceEqDiff, Nat.reduceLeDiff, Nat.reduceLT, Nat.reduceMul, Nat.reduceBEq, Nat.reduceBNe, Int.reduceToNat, Int.reduceLE, Int.reduceLT, allocX, setPs, extremeA, ints, resAll, rinfOk, packR]
      have hlen := gridP_length (fun i k => atF r r l (max i k : Nat) (min i k : Nat)) r.toNat
      refine wp_loop (fun m s => ∃ i : Nat, i + m = r.toNat ∧ s = ⟨[jk, .ptr 1 0, .ptr 2 0, jk, .ptr 4 0, jk, jk, jk, jk, jk, jk, jk, jk, jk, jk, jk, jk, jk, jk, jk, jk, jk, jk, jk, nt r, nt i, jk, jk, jk, jk, jk, jk, jk, jk, jk, jk, jk, jk, jk, jk, jk, jk, jk, jk, jk, jk, jk, jk, jk], [(1, [nt r, nt r, .v (.sl ex (frs l))]), (2, [nt 0, nt 0, .acc 3002 []]), (4, [nt r, nt r, .acc 15004 (frs (gridP (fun i k => atF r r l (max i k : Nat) (min i k : Nat)) r.toNat i 0))])], [],
        [(3002, 0), (3004, 0), (15004, (gridP (fun i k => atF r r l (max i k : Nat) (min i k : Nat)) r.toNat i 0).length)], [], 0, nomem⟩) r.toNat ?_ ?_
      · simp -implicitDefEqProofs only [rkA, stepA, valA, storeA, ldA, fieldAddrA, fieldA, idxAddrA, idxA, idxArr, lenA, unA, binA, num2, binV, eqA, rowOf, PV.cells, PV.cell, bndA, appA, reduceIte, reduceCtorEq, Nat.reduceAdd, Nat.reduceSub, Nat.reduceEqDiff, Nat.reduceLeDiff, Nat.reduceLT, Nat.reduceMul, Nat.reduceBEq, Nat.reduceBNe, Int.reduceToNat, Int.reduceLE, Int.reduceLT, allocX, setPs, extremeA, ints, resAll, rinfOk, packR]
        exact ⟨0, by simp, rfl⟩
      rintro m s ⟨i, hi, rfl⟩
      simp -implicitDefEqProofs only [rkA, stepA, valA, storeA, ldA, fieldAddrA, fieldA, idxAddrA, idxA, idxArr, lenA, unA, binA, num2, binV, eqA, rowOf, PV.cells, PV.cell, bndA, appA, reduceIte, reduceCtorEq, Nat.reduceAdd, Nat.reduceSub, Nat.reduceEqDiff, Nat.reduceLeDiff, Nat.reduceLT, Nat.reduceMul, Nat.reduceBEq, Nat.reduceBNe, Int.reduceToNat, Int.reduceLE, Int.reduceLT, allocX, setPs, extremeA, ints, resAll, rinfOk, packR]
      refine gB_dec ?_ ?_ <;> intro hc <;> simp -implicitDefEqProofs only [hc, rkA, stepA, valA, storeA, ldA, fieldAddrA, fieldA, idxAddrA, idxA, idxArr, lenA, unA, binA, num2, binV, eqA, rowOf, PV.cells, PV.cell, bndA, appA, reduceIte, reduceCtorEq, Nat.reduceAdd, Nat.reduceSub, Nat.reduceEqDiff, Nat.reduceLeDiff, Nat.reduceLT, Nat.reduceMul, Nat.reduceBEq, Nat.reduceBNe, Int.reduceToNat, Int.reduceLE, Int.reduceLT, allocX, setPs, extremeA, ints, resAll, rinfOk, packR]
      · refine wp_loop (fun m s => ∃ k : Nat, k + m = r.toNat ∧ s = ⟨[jk, .ptr 1 0, .ptr 2 0, jk, .ptr 4 0, nt i, jk, jk, jk, jk, jk, jk, jk, jk, jk, jk, jk, jk, jk, jk, jk, jk, jk, jk, nt r, nt i, jk, jk, jk, nt r, nt k, jk, jk, jk, jk, jk, jk, jk, jk, jk, jk, jk, jk, jk, jk, jk, jk, jk, jk], [(1, [nt r, nt r, .v (.sl ex (frs l))]), (2, [nt 0, nt 0, .acc 3002 []]), (4, [nt r, nt r, .acc 15004 (frs (gridP (fun i k => atF r r l (max i k : Nat) (min i k : Nat)) r.toNat i k))])], [],
          [(3002, 0), (3004, 0), (15004, (gridP (fun i k => atF r r l (max i k : Nat) (min i k : Nat)) r.toNat i k).length)], [], 0, nomem⟩) r.toNat ?_ ?_
        · simp -implicitDefEqProofs only [rkA, stepA, valA, storeA, ldA, fieldAddrA, fieldA, idxAddrA, idxA, idxArr, lenA, unA, binA, num2, binV, eqA, rowOf, PV.cells, PV.cell, bndA, appA, reduceIte, reduceCtorEq, Nat.reduceAdd, Nat.reduceSub, Nat.reduceEqDiff, Nat.reduceLeDiff, Nat.reduceLT, Nat.reduceMul, Nat.reduceBEq, Nat.reduceBNe, Int.reduceToNat, Int.reduceLE, Int.reduceLT, allocX, setPs, extremeA, ints, resAll, rinfOk, packR]
          exact ⟨0, by simp, rfl⟩
        rintro m' s ⟨k, hk, rfl⟩
        simp -implicitDefEqProofs only [rkA, stepA, valA, storeA, ldA, fieldAddrA, fieldA, idxAddrA, idxA, idxArr, lenA, unA, binA, num2, binV, eqA, rowOf, PV.cells, PV.cell, bndA, appA, reduceIte, reduceCtorEq, Nat.reduceAdd, Nat.reduceSub, Nat.reduceEqDiff, Nat.reduceLeDiff, Nat.reduceLT, Nat.reduceMul, Nat.reduceBEq, Nat.reduceBNe, Int.reduceToNat, Int.reduceLE, Int.reduceLT, allocX, setPs, extremeA, ints, resAll, rinfOk, packR]
        refine gB_dec ?_ ?_ <;> intro hc2 <;> simp -implicitDefEqProofs only [hc2, rkA, stepA, valA, storeA, ldA, fieldAddrA, fieldA, idxAddrA, idxA, idxArr, lenA, unA, binA, num2, binV, eqA, rowOf, PV.cells, PV.cell, bndA, appA, reduceIte, reduceCtorEq, Nat.reduceAdd, Nat.reduceSub, Nat.reduceEqDiff, Nat.reduceLeDiff, Nat.reduceLT, Nat.reduceMul, Nat.reduceBEq, Nat.reduceBNe, Int.reduceToNat, Int.reduceLE, Int.reduceLT, allocX, setPs, extremeA, ints, resAll, rinfOk, packR]
        · have hb : i * r.toNat + k ≤ 256 := by
            have : (i + 1) * r.toNat ≤ 16 * 16 := Nat.mul_le_mul (by omega) (by omega)
            rw [Nat.add_mul] at this
            omega
          have m1 : (if (i : Int) < (k : Int) then (k : Int) else (i : Int)) = ((max i k : Nat) : Int) := by split <;> omega
          have m2 : (if (k : Int) < (i : Int) then (k : Int) else (i : Int)) = ((min i k : Nat) : Int) := by split <;> omega
          simp only [m1, m2]
          refine call_fn rfl rfl rfl (ok40 ex r r (max i k : Nat) (min i k : Nat) l) ?_
          have hl1 := hlen i k
          have hfit : fits 3 24 (frs (gridP (fun i k => atF r r l (max i k : Nat) (min i k : Nat)) r.toNat i k)) [frV (atF r r l (max i k : Nat) (min i k : Nat))] = true := fits_frs (l := [atF r r l (max i k : Nat) (min i k : Nat)]) (by simp only [List.length_cons, List.length_nil]; omega)
          have hl : (frs (gridP (fun i k => atF r r l (max i k : Nat) (min i k : Nat)) r.toNat i k)).length = (gridP (fun i k => atF r r l (max i k : Nat) (min i k : Nat)) r.toNat i k).length := by simp
          have hw := wrapped (x := (k : Int) + 1) (by omega) (by omega)
          simp -implicitDefEqProofs only [hfit, hl, hw, rkA, stepA, valA, storeA, ldA, fieldAddrA, fieldA, idxAddrA, idxA, idxArr, lenA, unA, binA, num2, binV, eqA, rowOf, PV.cells, PV.cell, bndA, appA, reduceIte, reduceCtorEq, Nat.reduceAdd, Nat.reduceSub, Nat.reduceEqDiff, Nat.reduceLeDiff, Nat.reduceLT, Nat.reduceMul, Nat.reduceBEq, Nat.reduceBNe, Int.reduceToNat, Int.reduceLE, Int.reduceLT, allocX, setPs, extremeA, ints, resAll, rinfOk, packR]
          refine loopK_of (m' := m' - 1) (by omega) ?_
          simp -implicitDefEqProofs only [rkA, stepA, valA, storeA, ldA, fieldAddrA, fieldA, idxAddrA, idxA, idxArr, lenA, unA, binA, num2, binV, eqA, rowOf, PV.cells, PV.cell, bndA, appA, reduceIte, reduceCtorEq, Nat.reduceAdd, Nat.reduceSub, Nat.reduceEqDiff, Nat.reduceLeDiff, Nat.reduceLT, Nat.reduceMul, Nat.reduceBEq, Nat.reduceBNe, Int.reduceToNat, Int.reduceLE, Int.reduceLT, allocX, setPs, extremeA, ints, resAll, rinfOk, packR]
          refine ⟨k + 1, by omega, ?_⟩
          rw [gridP_succ]
          simp only [frs, List.map_append, List.map_cons, List.map_nil, List.length_append, List.length_cons, List.length_nil, Int.natCast_add, Int.natCast_one]
        · have hkr : k = r.toNat := by omega
          have hw := wrapped (x := (i : Int) + 1) (by omega) (by omega)
          simp -implicitDefEqProofs only [hw, rkA, stepA, valA, storeA, ldA, fieldAddrA, fieldA, idxAddrA, idxA, idxArr, lenA, unA, binA, num2, binV, eqA, rowOf, PV.cells, PV.cell, bndA, appA, reduceIte, reduceCtorEq, Nat.reduceAdd, Nat.reduceSub, Nat.reduceEqDiff, Nat.reduceLeDiff, Nat.reduceLT, Nat.reduceMul, Nat.reduceBEq, Nat.reduceBNe, Int.reduceToNat, Int.reduceLE, Int.reduceLT, allocX, setPs, extremeA, ints, resAll, rinfOk, packR]
          refine loopK_of (m' := m - 1) (by omega) ?_
          simp -implicitDefEqProofs only [rkA, stepA, valA, storeA, ldA, fieldAddrA, fieldA, idxAddrA, idxA, idxArr, lenA, unA, binA, num2, binV, eqA, rowOf, PV.cells, PV.cell, bndA, appA, reduceIte, reduceCtorEq, Nat.reduceAdd, Nat.reduceSub, Nat.reduceEqDiff, Nat.reduceLeDiff, Nat.reduceLT, Nat.reduceMul, Nat.reduceBEq, Nat.reduceBNe, Int.reduceToNat, Int.reduceLE, Int.reduceLT, allocX, setPs, extremeA, ints, resAll, rinfOk, packR]
          refine ⟨i + 1, by omega, ?_⟩
          rw [hkr, gridP_next]
          simp only [Int.natCast_add, Int.natCast_one]
      · have : i = r.toNat := by omega
        subst this
        simp only [mirF]
    · have hne : (r != c) = true := by simp [h1]
      simp -implicitDefEqProofs only [hne, h1, rkA, stepA, valA, storeA, ldA, fieldAddrA, fieldA, idxAddrA, idxA, idxArr, lenA, unA, binA, num2, binV, eqA, rowOf, PV.cells, PV.cell, bndA, appA, reduceIte, reduceCtorEq, Nat.reduceAdd, Nat.reduceSub, Nat.reduceEqDiff, Nat.reduceLeDiff, Nat.reduceLT, Nat.reduceMul, Nat.reduceBEq, Nat.reduceBNe, Int.reduceToNat, Int.reduceLE, Int.reduceLT, allocX, setPs, extremeA, ints, resAll, rinfOk, packR]

/-! ### Alike -/
theorem ok13 (ea eb : Bool) (r c : Int) (l : List Fr) (h : l.length ≤ 5864062014805) : Ok Try.prog 13 [matV ea r c (frs l), matV eb r c (frs l)] (tru true) := by
  refine ok_fn mixed Try.func13 (code := ?_) (h := h13) ?_ k13 ?_
  rotate_left
  · exact rfl
  unfold h13 initS
  simp -implicitDefEqProofs only [rkA, stepA, valA, storeA, ldA, fieldAddrA, fieldA, idxAddrA, idxA, idxArr, lenA, unA, binA, num2, binV, eqA, rowOf, PV.cells, PV.cell, bndA, appA, reduceIte, reduceCtorEq, Nat.reduceAdd, Nat.reduceSub, Nat.reduceEqDiff, Nat.reduceLeDiff, Nat.reduceLT, Nat.reduceMul, Nat.reduceBEq, Nat.reduceBNe, Int.reduceToNat, Int.reduceLE, Int.reduceLT, allocX, setPs, extremeA, ints, resAll, rinfOk, packR, Try.ntmps13, Try.results13]
  simp -implicitDefEqProofs only [bne_self_eq_false, rkA, stepA, valA, storeA, ldA, fieldAddrA, fieldA, idxAddrA, idxA, idxArr, lenA, unA, binA, num2, binV, eqA, rowOf, PV.cells, PV.cell, bndA, appA, reduceIte, reduceCtorEq, Nat.reduceAdd, Nat.reduceSub, Nat.reduceEqDiff, Nat.reduceLeDiff, Nat.reduceLT, Nat.reduceMul, Nat.reduceBEq, Nat.reduceBNe, Int.reduceToNat, Int.reduceLE, Int.reduceLT, allocX, setPs, extremeA, ints, resAll, rinfOk, packR]
  refine wp_loop (fun m s => ∃ i : Nat, i + m = l.length ∧ s = ⟨[jk, jk, .ptr 2 0, .ptr 3 0, jk, jk, jk, jk, jk, jk, jk, jk, jk, jk, jk, jk, jk, jk, jk, jk, jk, jk, jk, jk, jk, jk, jk, jk, jk, nt (frs l).length, nt i, jk, jk, jk, jk, jk, jk, jk, jk, jk, jk, jk, jk, jk, jk], [(2, [nt r, nt c, .v (.sl ea (frs l))]), (3, [nt r, nt c, .v (.sl eb (frs l))])], [], [], [], 0, nomem⟩) l.length ?_ ?_
  · simp -implicitDefEqProofs only [rkA, stepA, valA, storeA, ldA, fieldAddrA, fieldA, idxAddrA, idxA, idxArr, lenA, unA, binA, num2, binV, eqA, rowOf, PV.cells, PV.cell, bndA, appA, reduceIte, reduceCtorEq, Nat.reduceAdd, Nat.reduceSub, Nat.reduceEqDiff, Nat.reduceLeDiff, Nat.reduceLT, Nat.reduceMul, Nat.reduceBEq, Nat.reduceBNe, Int.reduceToNat, Int.reduceLE, Int.reduceLT, allocX, setPs, extremeA, ints, resAll, rinfOk, packR]
    exact ⟨0, by simp, rfl⟩
  rintro m s ⟨i, hi, rfl⟩
  simp -implicitDefEqProofs only [rkA, stepA, valA, storeA, ldA, fieldAddrA, fieldA, idxAddrA, idxA, idxArr, lenA, unA, binA, num2, binV, eqA, rowOf, PV.cells, PV.cell, bndA, appA, reduceIte, reduceCtorEq, Nat.reduceAdd, Nat.reduceSub, Nat.reduceEqDiff, Nat.reduceLeDiff, Nat.reduceLT, Nat.reduceMul, Nat.reduceBEq, Nat.reduceBNe, Int.reduceToNat, Int.reduceLE, Int.reduceLT, allocX, setPs, extremeA, ints, resAll, rinfOk, packR]
  refine gB_dec ?_ ?_ <;> intro hc <;> simp -implicitDefEqProofs only [hc, rkA, stepA, valA, storeA, ldA, fieldAddrA, fieldA, idxAddrA, idxA, idxArr, lenA, unA, binA, num2, binV, eqA, rowOf, PV.cells, PV.cell, bndA, appA, reduceIte, reduceCtorEq, Nat.reduceAdd, Nat.reduceSub, Nat.reduceEqDiff, Nat.reduceLeDiff, Nat.reduceLT, Nat.reduceMul, Nat.reduceBEq, Nat.reduceBNe, Int.reduceToNat, Int.reduceLE, Int.reduceLT, allocX, setPs, extremeA, ints, resAll, rinfOk, packR]
  · have hlt : i < l.length := by simpa using hc
    have h0 : (0 : Int) ≤ (i : Int) := by omega
    have hg : (frs l)[i]? = some (frV l[i]) := by simp [hlt]
    have hw := wrapped (x := (i : Int) + 1) (by omega) (by omega)
    simp -implicitDefEqProofs only [h0, Int.toNat_natCast, hg, eq_fr, hw, rkA, stepA, valA, storeA, ldA, fieldAddrA, fieldA, idxAddrA, idxA, idxArr, lenA, unA, binA, num2, binV, eqA, rowOf, PV.cells, PV.cell, bndA, appA, reduceIte, reduceCtorEq, Nat.reduceAdd, Nat.reduceSub, Nat.reduceEqDiff, Nat.reduceLeDiff, Nat.reduceLT, Nat.reduceMul, Nat.reduceBEq, Nat.reduceBNe, Int.reduceToNat, Int.reduceLE, Int.reduceLT, allocX, setPs, extremeA, ints, resAll, rinfOk, packR]
    refine loopK_of (m' := m - 1) (by omega) ?_
    simp -implicitDefEqProofs only [rkA, stepA, valA, storeA, ldA, fieldAddrA, fieldA, idxAddrA, idxA, idxArr, lenA, unA, binA, num2, binV, eqA, rowOf, PV.cells, PV.cell, bndA, appA, reduceIte, reduceCtorEq, Nat.reduceAdd, Nat.reduceSub, Nat.reduceEqDiff, Nat.reduceLeDiff, Nat.reduceLT, Nat.reduceMul, Nat.reduceBEq, Nat.reduceBNe, Int.reduceToNat, Int.reduceLE, Int.reduceLT, allocX, setPs, extremeA, ints, resAll, rinfOk, packR]
    exact ⟨i + 1, by omega, by simp only [Int.natCast_add, Int.natCast_one]⟩
end Go.Proofs.Ytbflmeomkfjikaa.A

set_option linter.unusedVariables false
set_option linter.unusedSimpArgs false
set_option maxRecDepth 100000
namespace Go.Proofs.Ytbflmeomkfjikaa.A
open Go Go.RowKit Go.Shelf

/-! ### Functions that hand new rows back -/
theorem frs_cells (l : List Fr) : ∀ e ∈ frs l, e.cells.length = 3 := fun e he => by
  obtain ⟨x, _, rfl⟩ := List.mem_map.1 he
  rfl
theorem RFs_frs : ∀ (l : List Fr), RFs (flat (frs l)) = true
  | [] => rfl
  | x :: l => by
    have h := RFs_frs l
    simp only [frs, List.map_cons, flat, List.flatMap_cons, PV.cells, List.cons_append, List.nil_append, RFs, RF, Bool.true_and] at h ⊢
    exact h

theorem okn48 (ex : Bool) (l : List Fr) (hl : l ≠ []) (h : l.length ≤ 5864062014805) : OkN Try.prog 48 [.sl ex (frs l)] (frs l) := by
  have hfit : fits 3 24 [] (frs l) = true := by
    have := fits_frs (k := []) (l := l) (by simpa using h)
    simpa using this
  have he : (frs l).isEmpty = false := by cases l <;> simp_all
  refine okn_fn mixed Try.func48 (code := ?_) (h := hN48) ?_ kN48 rfl (RFs_frs l) ?_
  rotate_left
  · exact rfl
  unfold hN48 initS
  simp -implicitDefEqProofs only [rkA, stepA, valA, storeA, ldA, fieldAddrA, fieldA, idxAddrA, idxA, idxArr, lenA, unA, binA, num2, binV, eqA, rowOf, PV.cells, PV.cell, bndA, appA, reduceIte, reduceCtorEq, Nat.reduceAdd, Nat.reduceSub, Nat.reduceEqDiff, Nat.reduceLeDiff, Nat.reduceLT, Nat.reduceMul, Nat.reduceBEq, Nat.reduceBNe, Int.reduceToNat, Int.reduceLE, Int.reduceLT, allocX, setPs, extremeA, ints, resAll, rinfOk, packR, Try.ntmps48, Try.results48]
  refine nilA_sl _ _ rfl fun b hb => ?_
  have hb' := hb he
  subst hb'
  simp -implicitDefEqProofs only [hfit, he, rkA, stepA, valA, storeA, ldA, fieldAddrA, fieldA, idxAddrA, idxA, idxArr, lenA, unA, binA, num2, binV, eqA, rowOf, PV.cells, PV.cell, bndA, appA, reduceIte, reduceCtorEq, Nat.reduceAdd, Nat.reduceSub, Nat.reduceEqDiff, Nat.reduceLeDiff, Nat.reduceLT, Nat.reduceMul, Nat.reduceBEq, Nat.reduceBNe, Int.reduceToNat, Int.reduceLE, Int.reduceLT, allocX, setPs, extremeA, ints, resAll, rinfOk, packR]
  refine .inl ⟨7, ?_⟩
  simp -implicitDefEqProofs only [rkA, stepA, valA, storeA, ldA, fieldAddrA, fieldA, idxAddrA, idxA, idxArr, lenA, unA, binA, num2, binV, eqA, rowOf, PV.cells, PV.cell, bndA, appA, reduceIte, reduceCtorEq, Nat.reduceAdd, Nat.reduceSub, Nat.reduceEqDiff, Nat.reduceLeDiff, Nat.reduceLT, Nat.reduceMul, Nat.reduceBEq, Nat.reduceBNe, Int.reduceToNat, Int.reduceLE, Int.reduceLT, allocX, setPs, extremeA, ints, resAll, rinfOk, packR]

/-- A new matrix: its numbers lie in memory of their own. -/
def NewMat (r c : Int) (l : List PV) (x : PV) (m : Mem) : Prop := ∃ b cap q, l.length ≤ cap ∧ x = .tup [.agg [num r, num c, .s (.slice (some ⟨b, 0, none⟩) l.length cap)], tru true] ∧ m = nomem.put b (flat l ++ List.replicate q .junk)

theorem tell_row {m : Mem} {b cap q : Nat} {l : List Fr} (hm : m b = some (flat (frs l) ++ List.replicate q .junk)) (hc : (frs l).length ≤ cap) : Tell m (.s (.slice (some ⟨b, 0, none⟩) (frs l).length cap)) (.sl false (frs l)) := by
  refine .row hm (frs_cells l) rfl (by simp) hc (fun h => by cases h) ?_
  rw [List.drop_zero, List.take_left]
  exact Tells.same _ _

theorem okm35 (r c : Int) (ex : Bool) (l : List Fr) (hr : right r c l.length = true) : OkM Try.prog 35 [num r, num c, .sl ex (frs l)] nomem (NewMat r c (frs l)) := by
  have hn := right_le hr
  have hpos := right_spec hr
  have hl : l ≠ [] := by
    intro h
    subst h
    have h1 : r * c = 0 := by have := hpos.2.2.2.2; simpa using this.symm
    rcases Int.mul_eq_zero.1 h1 with h | h <;> omega
  refine okm_fn mixed Try.func35 (code := ?_) (h := hN35) ?_ kN35 ?_
  rotate_left
  · exact rfl
  unfold hN35 initS
  simp -implicitDefEqProofs only [rkA, stepA, valA, storeA, ldA, fieldAddrA, fieldA, idxAddrA, idxA, idxArr, lenA, unA, binA, num2, binV, eqA, rowOf, PV.cells, PV.cell, bndA, appA, reduceIte, reduceCtorEq, Nat.reduceAdd, Nat.reduceSub, Nat.reduceEqDiff, Nat.reduceLeDiff, Nat.reduceLT, Nat.reduceMul, Nat.reduceBEq, Nat.reduceBNe, Int.reduceToNat, Int.reduceLE, Int.reduceLT, allocX, setPs, extremeA, ints, resAll, rinfOk, packR, Try.ntmps35, Try.results35]
  refine newRow_fn rfl rfl (Tells.same _ _) (okn48 ex l hl (by omega)) (RFs_frs l) (by simpa using hl) ?_
  intro b cap q hb hcap
  simp -implicitDefEqProofs only [rkA, stepA, valA, storeA, ldA, fieldAddrA, fieldA, idxAddrA, idxA, idxArr, lenA, unA, binA, num2, binV, eqA, rowOf, PV.cells, PV.cell, bndA, appA, reduceIte, reduceCtorEq, Nat.reduceAdd, Nat.reduceSub, Nat.reduceEqDiff, Nat.reduceLeDiff, Nat.reduceLT, Nat.reduceMul, Nat.reduceBEq, Nat.reduceBNe, Int.reduceToNat, Int.reduceLE, Int.reduceLT, allocX, setPs, extremeA, ints, resAll, rinfOk, packR]
  have e : (frs l).length = l.length := by simp
  have h17 := ok44 false r c (frs l)
  rw [e, hr] at h17
  refine lend_fn rfl rfl (.cons (.agg (.cons (.same _) (.cons (.same _) (.cons (tell_row (Mem.put_same _ _ _) hcap) .nil)))) .nil) (h17) rfl ?_
  simp -implicitDefEqProofs only [rkA, stepA, valA, storeA, ldA, fieldAddrA, fieldA, idxAddrA, idxA, idxArr, lenA, unA, binA, num2, binV, eqA, rowOf, PV.cells, PV.cell, bndA, appA, reduceIte, reduceCtorEq, Nat.reduceAdd, Nat.reduceSub, Nat.reduceEqDiff, Nat.reduceLeDiff, Nat.reduceLT, Nat.reduceMul, Nat.reduceBEq, Nat.reduceBNe, Int.reduceToNat, Int.reduceLE, Int.reduceLT, allocX, setPs, extremeA, ints, resAll, rinfOk, packR]
  exact ⟨_, rfl, b, cap, q, hcap, rfl, rfl⟩
end Go.Proofs.Ytbflmeomkfjikaa.A

set_option linter.unusedVariables false
set_option linter.unusedSimpArgs false
set_option maxRecDepth 100000
namespace Go.Proofs.Ytbflmeomkfjikaa.A
open Go Go.RowKit Go.Shelf

/-- A square matrix, number by number. -/
theorem okm38 (n : Nat) (hn : 1 ≤ n ∧ n ≤ 16) (K : Nat) (caps : List PV) (g : Nat → Nat → Fr) (hg : ∀ i k : Nat, i < n → k < n → Ok Try.prog K (num i :: num k :: caps) (frV (g i k))) :
    OkM Try.prog 38 [num n, .fn (.func K) caps] nomem (NewMat n n (frs (gridP g n n 0))) := by
  have hlen := gridP_length g n
  have hbig : ∀ i k, i ≤ n → k ≤ n → i * n + k ≤ 272 := fun i k h1 h2 => by
    have : i * n ≤ 16 * 16 := Nat.mul_le_mul (by omega) (by omega)
    omega
  refine okm_fn mixed Try.func38 (code := ?_) (h := h38) ?_ k38 ?_
  rotate_left
  · exact rfl
  unfold h38 initS
  simp -implicitDefEqProofs only [rkA, stepA, valA, storeA, ldA, fieldAddrA, fieldA, idxAddrA, idxA, idxArr, lenA, unA, binA, num2, binV, eqA, rowOf, PV.cells, PV.cell, bndA, appA, reduceIte, reduceCtorEq, Nat.reduceAdd, Nat.reduceSub, Nat.reduceEqDiff, Nat.reduceLeDiff, Nat.reduceLT, Nat.reduceMul, Nat.reduceBEq, Nat.reduceBNe, Int.reduceToNat, Int.reduceLE, Int.reduceLT, allocX, setPs, extremeA, ints, resAll, rinfOk, packR, Try.ntmps38, Try.results38]
  refine wp_loop (fun m s => ∃ i : Nat, i + m = n ∧ s = ⟨[.v (num n), .v (.fn (.func K) caps), jk, jk, .ptr 4 0, jk, .acc 6 (frs (gridP g n i 0)), jk, jk, .v (num n), nt i, jk, jk, jk, jk, jk, jk, jk, jk, jk, jk, jk, jk, jk, jk, jk, jk, jk, jk, jk, jk, jk], [(4, [nt 0, nt 0, .acc 3004 []])], [],
    [(6, (gridP g n i 0).length), (3004, 0)], [], 0, nomem⟩) n ?_ ?_
  · simp -implicitDefEqProofs only [rkA, stepA, valA, storeA, ldA, fieldAddrA, fieldA, idxAddrA, idxA, idxArr, lenA, unA, binA, num2, binV, eqA, rowOf, PV.cells, PV.cell, bndA, appA, reduceIte, reduceCtorEq, Nat.reduceAdd, Nat.reduceSub, Nat.reduceEqDiff, Nat.reduceLeDiff, Nat.reduceLT, Nat.reduceMul, Nat.reduceBEq, Nat.reduceBNe, Int.reduceToNat, Int.reduceLE, Int.reduceLT, allocX, setPs, extremeA, ints, resAll, rinfOk, packR]
    exact ⟨0, by simp, rfl⟩
  rintro m s ⟨i, hi, rfl⟩
  simp -implicitDefEqProofs only [rkA, stepA, valA, storeA, ldA, fieldAddrA, fieldA, idxAddrA, idxA, idxArr, lenA, unA, binA, num2, binV, eqA, rowOf, PV.cells, PV.cell, bndA, appA, reduceIte, reduceCtorEq, Nat.reduceAdd, Nat.reduceSub, Nat.reduceEqDiff, Nat.reduceLeDiff, Nat.reduceLT, Nat.reduceMul, Nat.reduceBEq, Nat.reduceBNe, Int.reduceToNat, Int.reduceLE, Int.reduceLT, allocX, setPs, extremeA, ints, resAll, rinfOk, packR]
  refine gB_dec ?_ ?_ <;> intro hc <;> simp -implicitDefEqProofs only [hc, rkA, stepA, valA, storeA, ldA, fieldAddrA, fieldA, idxAddrA, idxA, idxArr, lenA, unA, binA, num2, binV, eqA, rowOf, PV.cells, PV.cell, bndA, appA, reduceIte, reduceCtorEq, Nat.reduceAdd, Nat.reduceSub, Nat.reduceEqDiff, Nat.reduceLeDiff, Nat.reduceLT, Nat.reduceMul, Nat.reduceBEq, Nat.reduceBNe, Int.reduceToNat, Int.reduceLE, Int.reduceLT, allocX, setPs, extremeA, ints, resAll, rinfOk, packR]
  · refine wp_loop (fun m s => ∃ k : Nat, k + m = n ∧ s = ⟨[.v (num n), .v (.fn (.func K) caps), jk, jk, .ptr 4 0, jk, .acc 6 (frs (gridP g n i k)), nt i, jk, .v (num n), nt i, jk, jk, .v (num n), nt k, jk, jk, jk, jk, jk, jk, jk, jk, jk, jk, jk, jk, jk, jk, jk, jk, jk], [(4, [nt 0, nt 0, .acc 3004 []])], [],
      [(6, (gridP g n i k).length), (3004, 0)], [], 0, nomem⟩) n ?_ ?_
    · simp -implicitDefEqProofs only [rkA, stepA, valA, storeA, ldA, fieldAddrA, fieldA, idxAddrA, idxA, idxArr, lenA, unA, binA, num2, binV, eqA, rowOf, PV.cells, PV.cell, bndA, appA, reduceIte, reduceCtorEq, Nat.reduceAdd, Nat.reduceSub, Nat.reduceEqDiff, Nat.reduceLeDiff, Nat.reduceLT, Nat.reduceMul, Nat.reduceBEq, Nat.reduceBNe, Int.reduceToNat, Int.reduceLE, Int.reduceLT, allocX, setPs, extremeA, ints, resAll, rinfOk, packR]
      exact ⟨0, by simp, rfl⟩
    rintro m' s ⟨k, hk, rfl⟩
    simp -implicitDefEqProofs only [rkA, stepA, valA, storeA, ldA, fieldAddrA, fieldA, idxAddrA, idxA, idxArr, lenA, unA, binA, num2, binV, eqA, rowOf, PV.cells, PV.cell, bndA, appA, reduceIte, reduceCtorEq, Nat.reduceAdd, Nat.reduceSub, Nat.reduceEqDiff, Nat.reduceLeDiff, Nat.reduceLT, Nat.reduceMul, Nat.reduceBEq, Nat.reduceBNe, Int.reduceToNat, Int.reduceLE, Int.reduceLT, allocX, setPs, extremeA, ints, resAll, rinfOk, packR]
    refine gB_dec ?_ ?_ <;> intro hc2 <;> simp -implicitDefEqProofs only [hc2, rkA, stepA, valA, storeA, ldA, fieldAddrA, fieldA, idxAddrA, idxA, idxArr, lenA, unA, binA, num2, binV, eqA, rowOf, PV.cells, PV.cell, bndA, appA, reduceIte, reduceCtorEq, Nat.reduceAdd, Nat.reduceSub, Nat.reduceEqDiff, Nat.reduceLeDiff, Nat.reduceLT, Nat.reduceMul, Nat.reduceBEq, Nat.reduceBNe, Int.reduceToNat, Int.reduceLE, Int.reduceLT, allocX, setPs, extremeA, ints, resAll, rinfOk, packR]
    · refine call_fn rfl rfl rfl (hg i k (by omega) (by omega)) ?_
      have hl1 := hlen i k
      have hb := hbig i k (by omega) (by omega)
      have hfit : fits 3 24 (frs (gridP g n i k)) [frV (g i k)] = true := fits_frs (l := [g i k]) (by simp only [List.length_cons, List.length_nil]; omega)
      have hl : (frs (gridP g n i k)).length = (gridP g n i k).length := by simp
      have hw := wrapped (x := (k : Int) + 1) (by omega) (by omega)
      simp -implicitDefEqProofs only [hfit, hl, hw, rkA, stepA, valA, storeA, ldA, fieldAddrA, fieldA, idxAddrA, idxA, idxArr, lenA, unA, binA, num2, binV, eqA, rowOf, PV.cells, PV.cell, bndA, appA, reduceIte, reduceCtorEq, Nat.reduceAdd, Nat.reduceSub, Nat.reduceEqDiff, Nat.reduceLeDiff, Nat.reduceLT, Nat.reduceMul, Nat.reduceBEq, Nat.reduceBNe, Int.reduceToNat, Int.reduceLE, Int.reduceLT, allocX, setPs, extremeA, ints, resAll, rinfOk, packR]
      refine loopK_of (m' := m' - 1) (by omega) ?_
      simp -implicitDefEqProofs only [rkA, stepA, valA, storeA, ldA, fieldAddrA, fieldA, idxAddrA, idxA, idxArr, lenA, unA, binA, num2, binV, eqA, rowOf, PV.cells, PV.cell, bndA, appA, reduceIte, reduceCtorEq, Nat.reduceAdd, Nat.reduceSub, Nat.reduceEqDiff, Nat.reduceLeDiff, Nat.reduceLT, Nat.reduceMul, Nat.reduceBEq, Nat.reduceBNe, Int.reduceToNat, Int.reduceLE, Int.reduceLT, allocX, setPs, extremeA, ints, resAll, rinfOk, packR]
      refine ⟨k + 1, by omega, ?_⟩
      rw [gridP_succ]
      simp only [frs, List.map_append, List.map_cons, List.map_nil, List.length_append, List.length_cons, List.length_nil, Int.natCast_add, Int.natCast_one]
    · have hkr : k = n := by omega
      have hw := wrapped (x := (i : Int) + 1) (by omega) (by omega)
      simp -implicitDefEqProofs only [hw, rkA, stepA, valA, storeA, ldA, fieldAddrA, fieldA, idxAddrA, idxA, idxArr, lenA, unA, binA, num2, binV, eqA, rowOf, PV.cells, PV.cell, bndA, appA, reduceIte, reduceCtorEq, Nat.reduceAdd, Nat.reduceSub, Nat.reduceEqDiff, Nat.reduceLeDiff, Nat.reduceLT, Nat.reduceMul, Nat.reduceBEq, Nat.reduceBNe, Int.reduceToNat, Int.reduceLE, Int.reduceLT, allocX, setPs, extremeA, ints, resAll, rinfOk, packR]
      refine loopK_of (m' := m - 1) (by omega) ?_
      simp -implicitDefEqProofs only [rkA, stepA, valA, storeA, ldA, fieldAddrA, fieldA, idxAddrA, idxA, idxArr, lenA, unA, binA, num2, binV, eqA, rowOf, PV.cells, PV.cell, bndA, appA, reduceIte, reduceCtorEq, Nat.reduceAdd, Nat.reduceSub, Nat.reduceEqDiff, Nat.reduceLeDiff, Nat.reduceLT, Nat.reduceMul, Nat.reduceBEq, Nat.reduceBNe, Int.reduceToNat, Int.reduceLE, Int.reduceLT, allocX, setPs, extremeA, ints, resAll, rinfOk, packR]
      refine ⟨i + 1, by omega, ?_⟩
      rw [hkr, gridP_next]
      simp only [Int.natCast_add, Int.natCast_one]
  · have : i = n := by omega
    subst this
    have hr : right (i : Int) (i : Int) (gridP g i i 0).length = true := by
      rw [hlen, Nat.add_zero]
      simp only [right, Bool.and_eq_true, decide_eq_true_eq, beq_iff_eq]
      exact ⟨⟨by omega, by omega⟩, ⟨by omega, by omega⟩, Int.natCast_mul i i⟩
    refine lendNew_fn rfl rfl (Tells.same _ _) (okm35 i i false (gridP g i i 0) hr) ?_ ?_
    · rintro r m' ⟨b, cap, q, h1, rfl, rfl⟩
      refine ⟨rfl, fun c cells hc => ?_⟩
      by_cases e : c = b
      · subst e
        rw [Mem.put_same] at hc
        cases hc
        exact RFs_append (RFs_frs _) (RFs_junk q)
      · rw [Mem.put_other _ _ e] at hc
        cases hc
    · rintro r m' ⟨b, cap, q, h1, rfl, rfl⟩ hfr
      simp -implicitDefEqProofs only [rkA, stepA, valA, storeA, ldA, fieldAddrA, fieldA, idxAddrA, idxA, idxArr, lenA, unA, binA, num2, binV, eqA, rowOf, PV.cells, PV.cell, bndA, appA, reduceIte, reduceCtorEq, Nat.reduceAdd, Nat.reduceSub, Nat.reduceEqDiff, Nat.reduceLeDiff, Nat.reduceLT, Nat.reduceMul, Nat.reduceBEq, Nat.reduceBNe, Int.reduceToNat, Int.reduceLE, Int.reduceLT, allocX, setPs, extremeA, ints, resAll, rinfOk, packR]
      exact ⟨_, rfl, b, cap, q, h1, rfl, rfl⟩
end Go.Proofs.Ytbflmeomkfjikaa.A

