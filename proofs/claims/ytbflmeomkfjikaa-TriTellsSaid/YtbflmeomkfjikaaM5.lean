import Derived.Test.YtbflmeomkfjikaaM4
set_option linter.unusedVariables false
set_option linter.unusedSimpArgs false
set_option maxRecDepth 100000
namespace Go.Proofs.Ytbflmeomkfjikaa.A
open Go Go.RowKit Go.Shelf

/-! ### Roots of whole numbers, bit by bit -/
def rtB (n K : Nat) : Nat → Nat
  | 0 => 0
  | j + 1 => if (rtB n K j + 2 ^ (K - 1 - j)) * (rtB n K j + 2 ^ (K - 1 - j)) ≤ n then rtB n K j + 2 ^ (K - 1 - j) else rtB n K j

theorem rtB_spec {n K : Nat} (hn : n < 2 ^ K * 2 ^ K) : ∀ j, j ≤ K → rtB n K j * rtB n K j ≤ n ∧ n < (rtB n K j + 2 ^ (K - j)) * (rtB n K j + 2 ^ (K - j)) ∧ (∃ q, rtB n K j = 2 ^ (K - j) * q) ∧ rtB n K j + 2 ^ (K - j) ≤ 2 ^ K
  | 0, _ => ⟨by simp [rtB], by simpa [rtB] using hn, ⟨0, by simp [rtB]⟩, by simp [rtB]⟩
  | j + 1, hj => by
    obtain ⟨h1, h2, ⟨q, hq⟩, h3⟩ := rtB_spec hn j (by omega)
    have e1 : K - j = (K - (j + 1)) + 1 := by omega
    have e2 : K - 1 - j = K - (j + 1) := by omega
    rw [e1, Nat.pow_succ] at h2 hq h3
    simp only [rtB, e2]
    generalize rtB n K j = r at *
    generalize 2 ^ (K - (j + 1)) = t at *
    split
    · rename_i hc
      refine ⟨hc, by rw [Nat.add_assoc, ← Nat.mul_two]; exact h2, ⟨2 * q + 1, ?_⟩, by omega⟩
      rw [hq, Nat.mul_add, Nat.mul_one, Nat.mul_assoc]
    · rename_i hc
      exact ⟨h1, by omega, ⟨2 * q, by rw [hq, Nat.mul_assoc]⟩, by omega⟩

theorem rtB_final {n K : Nat} (hn : n < 2 ^ K * 2 ^ K) : rtB n K K * rtB n K K ≤ n ∧ n < (rtB n K K + 1) * (rtB n K K + 1) ∧ rtB n K K < 2 ^ K := by
  obtain ⟨h1, h2, _, h3⟩ := rtB_spec hn K (Nat.le_refl _)
  rw [Nat.sub_self, Nat.pow_zero] at h2 h3
  exact ⟨h1, h2, by omega⟩

theorem sq_lt {a b : Nat} (h : a * a < b * b) : a < b := by
  rcases Nat.lt_or_ge a b with h1 | h1
  · exact h1
  · have := Nat.mul_le_mul h1 h1
    omega
theorem rtB_sq {s K : Nat} (hs : s < 2 ^ K) : rtB (s * s) K K = s := by
  have hn : s * s < 2 ^ K * 2 ^ K := Nat.mul_lt_mul'' hs hs
  obtain ⟨h1, h2, _⟩ := rtB_final hn
  have h3 : s < rtB (s * s) K K + 1 := sq_lt h2
  rcases Nat.lt_or_ge (rtB (s * s) K K) s with h4 | h4
  · omega
  · have : rtB (s * s) K K = s := by
      rcases Nat.lt_or_ge s (rtB (s * s) K K) with h5 | h5
      · have := Nat.mul_lt_mul'' h5 h5
        omega
      · omega
    exact this

theorem or_bit {r k : Nat} (hr : r < 2 ^ 62) (hk : k < 62) (hd : ∃ q, r = 2 ^ (k + 1) * q) : (BitVec.ofInt 64 (r : Int) ||| BitVec.ofInt 64 ((2 ^ k : Nat) : Int)).toNat = r + 2 ^ k := by
  obtain ⟨q, rfl⟩ := hd
  have h2 : (2 : Nat) ^ k < 2 ^ (k + 1) := Nat.pow_lt_pow_right (by omega) (by omega)
  have h3 : (2 : Nat) ^ k < 2 ^ 62 := Nat.pow_lt_pow_right (by omega) hk
  rw [BitVec.toNat_or, BitVec.ofInt_natCast, BitVec.ofInt_natCast, BitVec.toNat_ofNat, BitVec.toNat_ofNat, Nat.mod_eq_of_lt (by omega), Nat.mod_eq_of_lt (by omega), Nat.two_pow_add_eq_or_of_lt h2]

theorem wrapNat {n : Nat} (h : n < 9223372036854775808) : IntKind.wrap .i64 (n : Int) = (n : Int) := wrapped (by omega) (by omega)
def rootI (n : Int) : Int := if rtB n.toNat 16 16 * rtB n.toNat 16 16 = n.toNat then (rtB n.toNat 16 16 : Int) else -1

theorem ok92 (n : Int) (h0 : 0 ≤ n) (h1 : n ≤ 1073741824) : Ok Try.prog 92 [num n] (num (rootI n)) := by
  obtain ⟨N, rfl⟩ : ∃ N : Nat, n = N := ⟨n.toNat, by omega⟩
  have hN : N < 2 ^ 16 * 2 ^ 16 := by omega
  have hs := rtB_spec hN
  refine ok_fn mixed Try.func92 (code := ?_) (h := h92) ?_ k92 ?_
  rotate_left
  · exact rfl
  unfold h92 initS
  simp -implicitDefEqProofs only [rkA, stepA, valA, storeA, ldA, fieldAddrA, fieldA, idxAddrA, idxA, idxArr, lenA, unA, binA, num2, binV, eqA, rowOf, PV.cells, PV.cell, bndA, appA, reduceIte, reduceCtorEq, Nat.reduceAdd, Nat.reduceSub, Nat.reduceEqDiff, Nat.reduceLeDiff, Nat.reduceLT, Nat.reduceMul, Nat.reduceBEq, Nat.reduceBNe, Int.reduceToNat, Int.reduceLE, Int.reduceLT, allocX, setPs, extremeA, ints, resAll, rinfOk, packR, Try.ntmps92, Try.results92]
  refine wp_loop (fun m s => ∃ j : Nat, j + m = 16 ∧ s = ⟨[nt N, jk, jk, nt (rtB N 16 j), nt (15 - (j : Int)), jk, jk, jk, jk, jk, jk, jk, jk, jk, jk, jk, jk, jk, jk, jk, jk, jk, jk, jk, jk, jk], [], [], [], [], 0, nomem⟩) 16 ?_ ?_
  · simp -implicitDefEqProofs only [rkA, stepA, valA, storeA, ldA, fieldAddrA, fieldA, idxAddrA, idxA, idxArr, lenA, unA, binA, num2, binV, eqA, rowOf, PV.cells, PV.cell, bndA, appA, reduceIte, reduceCtorEq, Nat.reduceAdd, Nat.reduceSub, Nat.reduceEqDiff, Nat.reduceLeDiff, Nat.reduceLT, Nat.reduceMul, Nat.reduceBEq, Nat.reduceBNe, Int.reduceToNat, Int.reduceLE, Int.reduceLT, allocX, setPs, extremeA, ints, resAll, rinfOk, packR]
    exact ⟨0, rfl, by simp [nt, rtB]⟩
  rintro m s ⟨j, hj, rfl⟩
  simp -implicitDefEqProofs only [rkA, stepA, valA, storeA, ldA, fieldAddrA, fieldA, idxAddrA, idxA, idxArr, lenA, unA, binA, num2, binV, eqA, rowOf, PV.cells, PV.cell, bndA, appA, reduceIte, reduceCtorEq, Nat.reduceAdd, Nat.reduceSub, Nat.reduceEqDiff, Nat.reduceLeDiff, Nat.reduceLT, Nat.reduceMul, Nat.reduceBEq, Nat.reduceBNe, Int.reduceToNat, Int.reduceLE, Int.reduceLT, allocX, setPs, extremeA, ints, resAll, rinfOk, packR]
  refine gB_dec ?_ ?_ <;> intro hc <;> simp -implicitDefEqProofs only [hc, rkA, stepA, valA, storeA, ldA, fieldAddrA, fieldA, idxAddrA, idxA, idxArr, lenA, unA, binA, num2, binV, eqA, rowOf, PV.cells, PV.cell, bndA, appA, reduceIte, reduceCtorEq, Nat.reduceAdd, Nat.reduceSub, Nat.reduceEqDiff, Nat.reduceLeDiff, Nat.reduceLT, Nat.reduceMul, Nat.reduceBEq, Nat.reduceBNe, Int.reduceToNat, Int.reduceLE, Int.reduceLT, allocX, setPs, extremeA, ints, resAll, rinfOk, packR]
  · obtain ⟨s1, s2, s3, s4⟩ := hs j (by omega)
    have e1 : 16 - j = (15 - j) + 1 := by omega
    have e2 : (15 - (j : Int)) = ((15 - j : Nat) : Int) := by omega
    have e3 : 16 - 1 - j = 15 - j := by omega
    have h0k : (0 : Int) ≤ ((15 - j : Nat) : Int) := by omega
    have hkb : min ((15 - j : Nat) : Int).toNat (IntKind.bits .i64) = 15 - j := by
      have : IntKind.bits .i64 = 64 := rfl
      rw [this, Int.toNat_natCast]
      omega
    rw [e1] at s3
    have hp : (2 : Nat) ^ (15 - j) ≤ 2 ^ 15 := Nat.pow_le_pow_right (by omega) (by omega)
    have hrl : rtB N 16 j < 2 ^ 16 := by
      have : 0 < 2 ^ (16 - j) := Nat.pow_pos (by omega)
      omega
    have hpI : (1 : Int) * 2 ^ (15 - j) = ((2 ^ (15 - j) : Nat) : Int) := by rw [Int.one_mul, Int.natCast_pow]; rfl
    have hw1 : IntKind.wrap .i64 ((2 ^ (15 - j) : Nat) : Int) = ((2 ^ (15 - j) : Nat) : Int) := wrapNat (by omega)
    have hor := or_bit (r := rtB N 16 j) (k := 15 - j) (by omega) (by omega) s3
    have hbits : IntKind.bits .i64 = 64 := rfl
    have hw2 : IntKind.wrap .i64 ((rtB N 16 j + 2 ^ (15 - j) : Nat) : Int) = ((rtB N 16 j + 2 ^ (15 - j) : Nat) : Int) := wrapNat (by omega)
    have hx : (rtB N 16 j + 2 ^ (15 - j)) * (rtB N 16 j + 2 ^ (15 - j)) ≤ (2 ^ 16 + 2 ^ 15) * (2 ^ 16 + 2 ^ 15) := Nat.mul_le_mul (by omega) (by omega)
    have hw3 : IntKind.wrap .i64 (((rtB N 16 j + 2 ^ (15 - j) : Nat) : Int) * ((rtB N 16 j + 2 ^ (15 - j) : Nat) : Int)) = (((rtB N 16 j + 2 ^ (15 - j)) * (rtB N 16 j + 2 ^ (15 - j)) : Nat) : Int) := by
      rw [← Int.natCast_mul]
      exact wrapNat (by omega)
    have hA : IntKind.wrap .i64 (1 * 2 ^ min ((15 - j : Nat) : Int).toNat (IntKind.bits .i64)) = ((2 ^ (15 - j) : Nat) : Int) := by rw [hkb, hpI, hw1]
    have hB : IntKind.wrap .i64 ((BitVec.ofInt (IntKind.bits .i64) (rtB N 16 j : Int) ||| BitVec.ofInt (IntKind.bits .i64) ((2 ^ (15 - j) : Nat) : Int)).toNat : Int) = ((rtB N 16 j + 2 ^ (15 - j) : Nat) : Int) := by rw [hbits, hor, hw2]
    have hw4 : IntKind.wrap .i64 (((15 - j : Nat) : Int) - 1) = 15 - ((j + 1 : Nat) : Int) := by rw [wrapped (by omega) (by omega)]; omega
    simp -implicitDefEqProofs only [e2, h0k, hA, hB, hw3, rkA, stepA, valA, storeA, ldA, fieldAddrA, fieldA, idxAddrA, idxA, idxArr, lenA, unA, binA, num2, binV, eqA, rowOf, PV.cells, PV.cell, bndA, appA, reduceIte, reduceCtorEq, Nat.reduceAdd, Nat.reduceSub, Nat.reduceEqDiff, Nat.reduceLeDiff, Nat.reduceLT, Nat.reduceMul, Nat.reduceBEq, Nat.reduceBNe, Int.reduceToNat, Int.reduceLE, Int.reduceLT, allocX, setPs, extremeA, ints, resAll, rinfOk, packR]
    refine gB_dec ?_ ?_ <;> intro hq
    · have hr : rtB N 16 (j + 1) = rtB N 16 j + 2 ^ (15 - j) := by simp only [rtB, e3]; rw [if_pos (by omega)]
      simp -implicitDefEqProofs only [hw4, rkA, stepA, valA, storeA, ldA, fieldAddrA, fieldA, idxAddrA, idxA, idxArr, lenA, unA, binA, num2, binV, eqA, rowOf, PV.cells, PV.cell, bndA, appA, reduceIte, reduceCtorEq, Nat.reduceAdd, Nat.reduceSub, Nat.reduceEqDiff, Nat.reduceLeDiff, Nat.reduceLT, Nat.reduceMul, Nat.reduceBEq, Nat.reduceBNe, Int.reduceToNat, Int.reduceLE, Int.reduceLT, allocX, setPs, extremeA, ints, resAll, rinfOk, packR]
      refine loopK_of (m' := m - 1) (by omega) ?_
      simp -implicitDefEqProofs only [rkA, stepA, valA, storeA, ldA, fieldAddrA, fieldA, idxAddrA, idxA, idxArr, lenA, unA, binA, num2, binV, eqA, rowOf, PV.cells, PV.cell, bndA, appA, reduceIte, reduceCtorEq, Nat.reduceAdd, Nat.reduceSub, Nat.reduceEqDiff, Nat.reduceLeDiff, Nat.reduceLT, Nat.reduceMul, Nat.reduceBEq, Nat.reduceBNe, Int.reduceToNat, Int.reduceLE, Int.reduceLT, allocX, setPs, extremeA, ints, resAll, rinfOk, packR]
      exact ⟨j + 1, by omega, by rw [hr]⟩
    · have hr : rtB N 16 (j + 1) = rtB N 16 j := by simp only [rtB, e3]; rw [if_neg (by omega)]
      simp -implicitDefEqProofs only [hw4, rkA, stepA, valA, storeA, ldA, fieldAddrA, fieldA, idxAddrA, idxA, idxArr, lenA, unA, binA, num2, binV, eqA, rowOf, PV.cells, PV.cell, bndA, appA, reduceIte, reduceCtorEq, Nat.reduceAdd, Nat.reduceSub, Nat.reduceEqDiff, Nat.reduceLeDiff, Nat.reduceLT, Nat.reduceMul, Nat.reduceBEq, Nat.reduceBNe, Int.reduceToNat, Int.reduceLE, Int.reduceLT, allocX, setPs, extremeA, ints, resAll, rinfOk, packR]
      refine loopK_of (m' := m - 1) (by omega) ?_
      simp -implicitDefEqProofs only [rkA, stepA, valA, storeA, ldA, fieldAddrA, fieldA, idxAddrA, idxA, idxArr, lenA, unA, binA, num2, binV, eqA, rowOf, PV.cells, PV.cell, bndA, appA, reduceIte, reduceCtorEq, Nat.reduceAdd, Nat.reduceSub, Nat.reduceEqDiff, Nat.reduceLeDiff, Nat.reduceLT, Nat.reduceMul, Nat.reduceBEq, Nat.reduceBNe, Int.reduceToNat, Int.reduceLE, Int.reduceLT, allocX, setPs, extremeA, ints, resAll, rinfOk, packR]
      exact ⟨j + 1, by omega, by rw [hr]⟩
  · have hj16 : j = 16 := by omega
    subst hj16
    obtain ⟨f1, f2, f3⟩ := rtB_final hN
    have hw3 : IntKind.wrap .i64 ((rtB N 16 16 : Int) * (rtB N 16 16 : Int)) = ((rtB N 16 16 * rtB N 16 16 : Nat) : Int) := by
      rw [← Int.natCast_mul]
      exact wrapNat (by omega)
    simp -implicitDefEqProofs only [hw3, rkA, stepA, valA, storeA, ldA, fieldAddrA, fieldA, idxAddrA, idxA, idxArr, lenA, unA, binA, num2, binV, eqA, rowOf, PV.cells, PV.cell, bndA, appA, reduceIte, reduceCtorEq, Nat.reduceAdd, Nat.reduceSub, Nat.reduceEqDiff, Nat.reduceLeDiff, Nat.reduceLT, Nat.reduceMul, Nat.reduceBEq, Nat.reduceBNe, Int.reduceToNat, Int.reduceLE, Int.reduceLT, allocX, setPs, extremeA, ints, resAll, rinfOk, packR]
    unfold rootI
    rw [Int.toNat_natCast]
    refine gB_bool ?_ ?_ <;> intro hq
    · have : ¬ rtB N 16 16 * rtB N 16 16 = N := by
        have := bne_iff_ne.1 hq
        omega
      rw [if_neg this]
      simp -implicitDefEqProofs only [rkA, stepA, valA, storeA, ldA, fieldAddrA, fieldA, idxAddrA, idxA, idxArr, lenA, unA, binA, num2, binV, eqA, rowOf, PV.cells, PV.cell, bndA, appA, reduceIte, reduceCtorEq, Nat.reduceAdd, Nat.reduceSub, Nat.reduceEqDiff, Nat.reduceLeDiff, Nat.reduceLT, Nat.reduceMul, Nat.reduceBEq, Nat.reduceBNe, Int.reduceToNat, Int.reduceLE, Int.reduceLT, allocX, setPs, extremeA, ints, resAll, rinfOk, packR]
    · have : rtB N 16 16 * rtB N 16 16 = N := by
        have := (bne_eq_false_iff_eq (a := ((rtB N 16 16 * rtB N 16 16 : Nat) : Int)) (b := (N : Int))).1 hq
        omega
      rw [if_pos this]
      simp -implicitDefEqProofs only [rkA, stepA, valA, storeA, ldA, fieldAddrA, fieldA, idxAddrA, idxA, idxArr, lenA, unA, binA, num2, binV, eqA, rowOf, PV.cells, PV.cell, bndA, appA, reduceIte, reduceCtorEq, Nat.reduceAdd, Nat.reduceSub, Nat.reduceEqDiff, Nat.reduceLeDiff, Nat.reduceLT, Nat.reduceMul, Nat.reduceBEq, Nat.reduceBNe, Int.reduceToNat, Int.reduceLE, Int.reduceLT, allocX, setPs, extremeA, ints, resAll, rinfOk, packR]

def rootF (a : Fr) : Fr := if a.fine = false ∨ a.n < 0 ∨ rootI a.n < 0 ∨ rootI a.d < 0 then .wrong else newF (rootI a.n) (rootI a.d)
theorem fine_bnd {a : Fr} (h : a.fine = true) : 1 ≤ a.d ∧ a.d ≤ 1073741824 ∧ a.n ≤ 1073741824 ∧ -1073741824 ≤ a.n := by
  simp only [Fr.fine, Bool.and_eq_true, decide_eq_true_eq] at h
  omega
theorem ok86 (a : Fr) : Ok Try.prog 86 [frV a] (frV (rootF a)) := by
  refine ok_fn mixed Try.func86 (code := ?_) (h := h86) ?_ k86 ?_
  rotate_left
  · exact rfl
  unfold h86 initS
  simp -implicitDefEqProofs only [rkA, stepA, valA, storeA, ldA, fieldAddrA, fieldA, idxAddrA, idxA, idxArr, lenA, unA, binA, num2, binV, eqA, rowOf, PV.cells, PV.cell, bndA, appA, reduceIte, reduceCtorEq, Nat.reduceAdd, Nat.reduceSub, Nat.reduceEqDiff, Nat.reduceLeDiff, Nat.reduceLT, Nat.reduceMul, Nat.reduceBEq, Nat.reduceBNe, Int.reduceToNat, Int.reduceLE, Int.reduceLT, allocX, setPs, extremeA, ints, resAll, rinfOk, packR, Try.ntmps86, Try.results86]
  refine call_fn rfl rfl rfl (ok49 a) ?_
  cases hf : a.fine with
  | false =>
    simp -implicitDefEqProofs only [rkA, stepA, valA, storeA, ldA, fieldAddrA, fieldA, idxAddrA, idxA, idxArr, lenA, unA, binA, num2, binV, eqA, rowOf, PV.cells, PV.cell, bndA, appA, reduceIte, reduceCtorEq, Nat.reduceAdd, Nat.reduceSub, Nat.reduceEqDiff, Nat.reduceLeDiff, Nat.reduceLT, Nat.reduceMul, Nat.reduceBEq, Nat.reduceBNe, Int.reduceToNat, Int.reduceLE, Int.reduceLT, allocX, setPs, extremeA, ints, resAll, rinfOk, packR]
    refine call_fn rfl rfl rfl (ok50) ?_
    have : rootF a = .wrong := by unfold rootF; rw [if_pos (.inl hf)]
    rw [this]
    simp -implicitDefEqProofs only [rkA, stepA, valA, storeA, ldA, fieldAddrA, fieldA, idxAddrA, idxA, idxArr, lenA, unA, binA, num2, binV, eqA, rowOf, PV.cells, PV.cell, bndA, appA, reduceIte, reduceCtorEq, Nat.reduceAdd, Nat.reduceSub, Nat.reduceEqDiff, Nat.reduceLeDiff, Nat.reduceLT, Nat.reduceMul, Nat.reduceBEq, Nat.reduceBNe, Int.reduceToNat, Int.reduceLE, Int.reduceLT, allocX, setPs, extremeA, ints, resAll, rinfOk, packR]
  | true =>
    obtain ⟨d1, d2, n1, n2⟩ := fine_bnd hf
    simp -implicitDefEqProofs only [rkA, stepA, valA, storeA, ldA, fieldAddrA, fieldA, idxAddrA, idxA, idxArr, lenA, unA, binA, num2, binV, eqA, rowOf, PV.cells, PV.cell, bndA, appA, reduceIte, reduceCtorEq, Nat.reduceAdd, Nat.reduceSub, Nat.reduceEqDiff, Nat.reduceLeDiff, Nat.reduceLT, Nat.reduceMul, Nat.reduceBEq, Nat.reduceBNe, Int.reduceToNat, Int.reduceLE, Int.reduceLT, allocX, setPs, extremeA, ints, resAll, rinfOk, packR]
    refine gB_dec ?_ ?_ <;> intro hn <;> simp -implicitDefEqProofs only [hn, rkA, stepA, valA, storeA, ldA, fieldAddrA, fieldA, idxAddrA, idxA, idxArr, lenA, unA, binA, num2, binV, eqA, rowOf, PV.cells, PV.cell, bndA, appA, reduceIte, reduceCtorEq, Nat.reduceAdd, Nat.reduceSub, Nat.reduceEqDiff, Nat.reduceLeDiff, Nat.reduceLT, Nat.reduceMul, Nat.reduceBEq, Nat.reduceBNe, Int.reduceToNat, Int.reduceLE, Int.reduceLT, allocX, setPs, extremeA, ints, resAll, rinfOk, packR]
    · refine call_fn rfl rfl rfl (ok50) ?_
      have : rootF a = .wrong := by unfold rootF; rw [if_pos (.inr (.inl hn))]
      rw [this]
      simp -implicitDefEqProofs only [rkA, stepA, valA, storeA, ldA, fieldAddrA, fieldA, idxAddrA, idxA, idxArr, lenA, unA, binA, num2, binV, eqA, rowOf, PV.cells, PV.cell, bndA, appA, reduceIte, reduceCtorEq, Nat.reduceAdd, Nat.reduceSub, Nat.reduceEqDiff, Nat.reduceLeDiff, Nat.reduceLT, Nat.reduceMul, Nat.reduceBEq, Nat.reduceBNe, Int.reduceToNat, Int.reduceLE, Int.reduceLT, allocX, setPs, extremeA, ints, resAll, rinfOk, packR]
    · refine call_fn rfl rfl rfl (ok92 a.n (by omega) n1) ?_
      simp -implicitDefEqProofs only [rkA, stepA, valA, storeA, ldA, fieldAddrA, fieldA, idxAddrA, idxA, idxArr, lenA, unA, binA, num2, binV, eqA, rowOf, PV.cells, PV.cell, bndA, appA, reduceIte, reduceCtorEq, Nat.reduceAdd, Nat.reduceSub, Nat.reduceEqDiff, Nat.reduceLeDiff, Nat.reduceLT, Nat.reduceMul, Nat.reduceBEq, Nat.reduceBNe, Int.reduceToNat, Int.reduceLE, Int.reduceLT, allocX, setPs, extremeA, ints, resAll, rinfOk, packR]
      refine gB_dec ?_ ?_ <;> intro hr <;> simp -implicitDefEqProofs only [hr, rkA, stepA, valA, storeA, ldA, fieldAddrA, fieldA, idxAddrA, idxA, idxArr, lenA, unA, binA, num2, binV, eqA, rowOf, PV.cells, PV.cell, bndA, appA, reduceIte, reduceCtorEq, Nat.reduceAdd, Nat.reduceSub, Nat.reduceEqDiff, Nat.reduceLeDiff, Nat.reduceLT, Nat.reduceMul, Nat.reduceBEq, Nat.reduceBNe, Int.reduceToNat, Int.reduceLE, Int.reduceLT, allocX, setPs, extremeA, ints, resAll, rinfOk, packR]
      · refine call_fn rfl rfl rfl (ok50) ?_
        have : rootF a = .wrong := by unfold rootF; rw [if_pos (.inr (.inr (.inl hr)))]
        rw [this]
        simp -implicitDefEqProofs only [rkA, stepA, valA, storeA, ldA, fieldAddrA, fieldA, idxAddrA, idxA, idxArr, lenA, unA, binA, num2, binV, eqA, rowOf, PV.cells, PV.cell, bndA, appA, reduceIte, reduceCtorEq, Nat.reduceAdd, Nat.reduceSub, Nat.reduceEqDiff, Nat.reduceLeDiff, Nat.reduceLT, Nat.reduceMul, Nat.reduceBEq, Nat.reduceBNe, Int.reduceToNat, Int.reduceLE, Int.reduceLT, allocX, setPs, extremeA, ints, resAll, rinfOk, packR]
      · refine call_fn rfl rfl rfl (ok92 a.d (by omega) d2) ?_
        simp -implicitDefEqProofs only [rkA, stepA, valA, storeA, ldA, fieldAddrA, fieldA, idxAddrA, idxA, idxArr, lenA, unA, binA, num2, binV, eqA, rowOf, PV.cells, PV.cell, bndA, appA, reduceIte, reduceCtorEq, Nat.reduceAdd, Nat.reduceSub, Nat.reduceEqDiff, Nat.reduceLeDiff, Nat.reduceLT, Nat.reduceMul, Nat.reduceBEq, Nat.reduceBNe, Int.reduceToNat, Int.reduceLE, Int.reduceLT, allocX, setPs, extremeA, ints, resAll, rinfOk, packR]
        refine gB_dec ?_ ?_ <;> intro hs <;> simp -implicitDefEqProofs only [hs, rkA, stepA, valA, storeA, ldA, fieldAddrA, fieldA, idxAddrA, idxA, idxArr, lenA, unA, binA, num2, binV, eqA, rowOf, PV.cells, PV.cell, bndA, appA, reduceIte, reduceCtorEq, Nat.reduceAdd, Nat.reduceSub, Nat.reduceEqDiff, Nat.reduceLeDiff, Nat.reduceLT, Nat.reduceMul, Nat.reduceBEq, Nat.reduceBNe, Int.reduceToNat, Int.reduceLE, Int.reduceLT, allocX, setPs, extremeA, ints, resAll, rinfOk, packR]
        · refine call_fn rfl rfl rfl (ok50) ?_
          have : rootF a = .wrong := by unfold rootF; rw [if_pos (.inr (.inr (.inr hs)))]
          rw [this]
          simp -implicitDefEqProofs only [rkA, stepA, valA, storeA, ldA, fieldAddrA, fieldA, idxAddrA, idxA, idxArr, lenA, unA, binA, num2, binV, eqA, rowOf, PV.cells, PV.cell, bndA, appA, reduceIte, reduceCtorEq, Nat.reduceAdd, Nat.reduceSub, Nat.reduceEqDiff, Nat.reduceLeDiff, Nat.reduceLT, Nat.reduceMul, Nat.reduceBEq, Nat.reduceBNe, Int.reduceToNat, Int.reduceLE, Int.reduceLT, allocX, setPs, extremeA, ints, resAll, rinfOk, packR]
        · refine call_fn rfl rfl rfl (ok92 a.n (by omega) n1) ?_
          simp -implicitDefEqProofs only [rkA, stepA, valA, storeA, ldA, fieldAddrA, fieldA, idxAddrA, idxA, idxArr, lenA, unA, binA, num2, binV, eqA, rowOf, PV.cells, PV.cell, bndA, appA, reduceIte, reduceCtorEq, Nat.reduceAdd, Nat.reduceSub, Nat.reduceEqDiff, Nat.reduceLeDiff, Nat.reduceLT, Nat.reduceMul, Nat.reduceBEq, Nat.reduceBNe, Int.reduceToNat, Int.reduceLE, Int.reduceLT, allocX, setPs, extremeA, ints, resAll, rinfOk, packR]
          refine call_fn rfl rfl rfl (ok92 a.d (by omega) d2) ?_
          simp -implicitDefEqProofs only [rkA, stepA, valA, storeA, ldA, fieldAddrA, fieldA, idxAddrA, idxA, idxArr, lenA, unA, binA, num2, binV, eqA, rowOf, PV.cells, PV.cell, bndA, appA, reduceIte, reduceCtorEq, Nat.reduceAdd, Nat.reduceSub, Nat.reduceEqDiff, Nat.reduceLeDiff, Nat.reduceLT, Nat.reduceMul, Nat.reduceBEq, Nat.reduceBNe, Int.reduceToNat, Int.reduceLE, Int.reduceLT, allocX, setPs, extremeA, ints, resAll, rinfOk, packR]
          refine call_fn rfl rfl rfl (ok27 (rootI a.n) (rootI a.d)) ?_
          have : rootF a = newF (rootI a.n) (rootI a.d) := by
            unfold rootF
            rw [if_neg (by rw [hf]; rintro (h | h | h | h) <;> first | cases h | omega)]
          rw [this]
          simp -implicitDefEqProofs only [rkA, stepA, valA, storeA, ldA, fieldAddrA, fieldA, idxAddrA, idxA, idxArr, lenA, unA, binA, num2, binV, eqA, rowOf, PV.cells, PV.cell, bndA, appA, reduceIte, reduceCtorEq, Nat.reduceAdd, Nat.reduceSub, Nat.reduceEqDiff, Nat.reduceLeDiff, Nat.reduceLT, Nat.reduceMul, Nat.reduceBEq, Nat.reduceBNe, Int.reduceToNat, Int.reduceLE, Int.reduceLT, allocX, setPs, extremeA, ints, resAll, rinfOk, packR]

def signF (a : Fr) : Int := if a.fine = false then 0 else if a.n = 0 then 0 else if a.n < 0 then -1 else 1
theorem ok19 (a : Fr) : Ok Try.prog 19 [frV a] (num (signF a)) := by
  refine ok_fn mixed Try.func19 (code := ?_) (h := h19) ?_ k19 ?_
  rotate_left
  · exact rfl
  unfold h19 initS
  simp -implicitDefEqProofs only [rkA, stepA, valA, storeA, ldA, fieldAddrA, fieldA, idxAddrA, idxA, idxArr, lenA, unA, binA, num2, binV, eqA, rowOf, PV.cells, PV.cell, bndA, appA, reduceIte, reduceCtorEq, Nat.reduceAdd, Nat.reduceSub, Nat.reduceEqDiff, Nat.reduceLeDiff, Nat.reduceLT, Nat.reduceMul, Nat.reduceBEq, Nat.reduceBNe, Int.reduceToNat, Int.reduceLE, Int.reduceLT, allocX, setPs, extremeA, ints, resAll, rinfOk, packR, Try.ntmps19, Try.results19]
  refine call_fn rfl rfl rfl (ok49 a) ?_
  unfold signF
  cases hf : a.fine with
  | false => simp -implicitDefEqProofs only [rkA, stepA, valA, storeA, ldA, fieldAddrA, fieldA, idxAddrA, idxA, idxArr, lenA, unA, binA, num2, binV, eqA, rowOf, PV.cells, PV.cell, bndA, appA, reduceIte, reduceCtorEq, Nat.reduceAdd, Nat.reduceSub, Nat.reduceEqDiff, Nat.reduceLeDiff, Nat.reduceLT, Nat.reduceMul, Nat.reduceBEq, Nat.reduceBNe, Int.reduceToNat, Int.reduceLE, Int.reduceLT, allocX, setPs, extremeA, ints, resAll, rinfOk, packR]
  | true =>
    simp -implicitDefEqProofs only [rkA, stepA, valA, storeA, ldA, fieldAddrA, fieldA, idxAddrA, idxA, idxArr, lenA, unA, binA, num2, binV, eqA, rowOf, PV.cells, PV.cell, bndA, appA, reduceIte, reduceCtorEq, Nat.reduceAdd, Nat.reduceSub, Nat.reduceEqDiff, Nat.reduceLeDiff, Nat.reduceLT, Nat.reduceMul, Nat.reduceBEq, Nat.reduceBNe, Int.reduceToNat, Int.reduceLE, Int.reduceLT, allocX, setPs, extremeA, ints, resAll, rinfOk, packR]
    refine gB_bool ?_ ?_ <;> intro h0
    · have e0 : a.n = 0 := by simpa using h0
      simp -implicitDefEqProofs only [e0, rkA, stepA, valA, storeA, ldA, fieldAddrA, fieldA, idxAddrA, idxA, idxArr, lenA, unA, binA, num2, binV, eqA, rowOf, PV.cells, PV.cell, bndA, appA, reduceIte, reduceCtorEq, Nat.reduceAdd, Nat.reduceSub, Nat.reduceEqDiff, Nat.reduceLeDiff, Nat.reduceLT, Nat.reduceMul, Nat.reduceBEq, Nat.reduceBNe, Int.reduceToNat, Int.reduceLE, Int.reduceLT, allocX, setPs, extremeA, ints, resAll, rinfOk, packR]
    · have e0 : ¬ a.n = 0 := by simpa using h0
      simp -implicitDefEqProofs only [e0, rkA, stepA, valA, storeA, ldA, fieldAddrA, fieldA, idxAddrA, idxA, idxArr, lenA, unA, binA, num2, binV, eqA, rowOf, PV.cells, PV.cell, bndA, appA, reduceIte, reduceCtorEq, Nat.reduceAdd, Nat.reduceSub, Nat.reduceEqDiff, Nat.reduceLeDiff, Nat.reduceLT, Nat.reduceMul, Nat.reduceBEq, Nat.reduceBNe, Int.reduceToNat, Int.reduceLE, Int.reduceLT, allocX, setPs, extremeA, ints, resAll, rinfOk, packR]
      refine gB_dec ?_ ?_ <;> intro h1 <;> simp -implicitDefEqProofs only [h1, rkA, stepA, valA, storeA, ldA, fieldAddrA, fieldA, idxAddrA, idxA, idxArr, lenA, unA, binA, num2, binV, eqA, rowOf, PV.cells, PV.cell, bndA, appA, reduceIte, reduceCtorEq, Nat.reduceAdd, Nat.reduceSub, Nat.reduceEqDiff, Nat.reduceLeDiff, Nat.reduceLT, Nat.reduceMul, Nat.reduceBEq, Nat.reduceBNe, Int.reduceToNat, Int.reduceLE, Int.reduceLT, allocX, setPs, extremeA, ints, resAll, rinfOk, packR]
end Go.Proofs.Ytbflmeomkfjikaa.A

set_option linter.unusedVariables false
set_option linter.unusedSimpArgs false
set_option maxRecDepth 100000
namespace Go.Proofs.Ytbflmeomkfjikaa.A
open Go Go.RowKit Go.Shelf

theorem grid_of {α : Type} {g : Nat → Nat → α} {n N : Nat} {l : List α} (hl : l.length = N * n) (h : ∀ i k, i < N → k < n → l[i * n + k]? = some (g i k)) : l = gridP g n N 0 := by
  have hg := gridP_length g n N 0
  apply List.ext_getElem?
  intro j
  by_cases hj : j < N * n
  · have hn : 0 < n := by
      rcases Nat.eq_zero_or_pos n with h0 | h0
      · subst h0; simp at hj
      · exact h0
    have h1 : j / n < N := Nat.div_lt_of_lt_mul (by rwa [Nat.mul_comm] at hj)
    have h2 : j % n < n := Nat.mod_lt _ hn
    have h3 : j / n * n + j % n = j := by rw [Nat.mul_comm]; exact Nat.div_add_mod j n
    have e1 := h _ _ h1 h2
    have e2 := gridP_get g n N _ _ h1 h2
    rw [h3] at e1 e2
    rw [e1, e2]
  · rw [List.getElem?_eq_none (by omega), List.getElem?_eq_none (by omega)]
theorem gridP_map {α β : Type} (f : α → β) (g : Nat → Nat → α) (n i k : Nat) : (gridP g n i k).map f = gridP (fun i k => f (g i k)) n i k := by
  simp [gridP, List.map_flatMap, Function.comp_def]
theorem gridP_congr {α : Type} {g f : Nat → Nat → α} {n N : Nat} (h : ∀ i k, i < N → k < n → g i k = f i k) : gridP g n N 0 = gridP f n N 0 := by
  rw [gridP_zero, gridP_zero]
  apply flatMap_same
  intro i hi
  apply List.map_congr_left
  intro k hk
  exact h i k (List.mem_range.1 hi) (List.mem_range.1 hk)

theorem sl_num {ex : Bool} {l : List Int} {a b : Nat} (h1 : a ≤ b) (h2 : b ≤ l.length) : sliceA 1 (l.map num) ex (some a) (some b) none = some (.sl (exA none ex b (l.map num).length) (((l.take b).drop a).map num)) := by
  unfold sliceA
  simp only [Option.getD_some]
  rw [if_pos ⟨h1, by simpa using h2, by simp, by simp [PV.cells]⟩]
  simp

section
variable (a b : List Int) (R K : Nat)
def sumI : Nat → Nat → List Int := gridP (fun i k => a.getD (i * K + k) 0 + b.getD (i * K + k) 0) K
def lessI : Nat → Nat → List Int := gridP (fun i k => a.getD (i * K + k) 0 - b.getD (i * K + k) 0) K
def mirI (i k : Nat) : List Int := if R = K then gridP (fun i k => a.getD (max i k * K + min i k) 0) K i k else []
def turI : Nat → Nat → List Int := gridP (fun k i => a.getD (i * K + k) 0) R
def rowI (l : List Int) (i : Nat) : List Int := (l.take ((i + 1) * K)).drop (i * K)
def besI (n : Nat) : List Int := (List.range n).flatMap fun i => rowI K a i ++ rowI K b i
end

section
variable {a b : List Int} {R K : Nat}
theorem besI_succ (n : Nat) : besI a b K (n + 1) = besI a b K n ++ rowI K a n ++ rowI K b n := by simp [besI, List.range_succ]
theorem rowI_length (hl : a.length = R * K) {i : Nat} (hi : i < R) : (rowI K a i).length = K := by
  have : (i + 1) * K ≤ R * K := Nat.mul_le_mul_right _ hi
  have h2 : (i + 1) * K = i * K + K := by rw [Nat.add_mul, Nat.one_mul]
  simp only [rowI, List.length_drop, List.length_take]
  omega
theorem besI_length (hl : a.length = R * K) (hb : b.length = R * K) : ∀ n, n ≤ R → (besI a b K n).length = n * (K + K)
  | 0, _ => by simp [besI]
  | n + 1, hn => by
    rw [besI_succ, List.length_append, List.length_append, besI_length hl hb n (by omega), rowI_length hl (by omega), rowI_length hb (by omega), Nat.add_mul]
    omega
theorem right_nat (hR : 1 ≤ R ∧ R ≤ 16) (hK : 1 ≤ K ∧ K ≤ 16) {n : Nat} (hl : n = R * K) : right (R : Int) (K : Int) n = true := by
  simp only [right, Bool.and_eq_true, decide_eq_true_eq, beq_iff_eq]
  refine ⟨by omega, by omega, ?_⟩
  rw [hl]
  simp
theorem getD_map {i : Nat} (h : i < a.length) : (a.map (newF · 1))[i]? = some (newF (a.getD i 0) 1) := by
  simp [h]
theorem sumI_eq (ha : a.length = R * K) (hb : b.length = R * K) (sa : small a) (sb : small b) : List.zipWith addF (a.map (newF · 1)) (b.map (newF · 1)) = (sumI a b K R 0).map (newF · 1) := by
  rw [sumI, gridP_map]
  refine grid_of (by simp [ha, hb]) fun i k hi hk => ?_
  have := at_table hi hk
  have h1 := small_get sa (i * K + k)
  have h2 := small_get sb (i * K + k)
  have f3 : few (a.getD (i * K + k) 0 + b.getD (i * K + k) 0) := by unfold few; omega
  rw [List.getElem?_zipWith, getD_map (by omega), getD_map (by omega)]
  simp only
  rw [newF_whole (few_small h1), newF_whole (few_small h2), newF_whole f3, addF_whole (few_small h1) (few_small h2) f3]
theorem lessI_eq (ha : a.length = R * K) (hb : b.length = R * K) (sa : small a) (sb : small b) : List.zipWith subF (a.map (newF · 1)) (b.map (newF · 1)) = (lessI a b K R 0).map (newF · 1) := by
  rw [lessI, gridP_map]
  refine grid_of (by simp [ha, hb]) fun i k hi hk => ?_
  have := at_table hi hk
  have h1 := small_get sa (i * K + k)
  have h2 := small_get sb (i * K + k)
  have f3 : few (a.getD (i * K + k) 0 - b.getD (i * K + k) 0) := by unfold few; omega
  rw [List.getElem?_zipWith, getD_map (by omega), getD_map (by omega)]
  simp only
  rw [newF_whole (few_small h1), newF_whole (few_small h2), newF_whole f3, subF_whole (few_small h1) (few_small h2) f3]
theorem rowI_eq (hR : 1 ≤ R ∧ R ≤ 16) (hK : 1 ≤ K ∧ K ≤ 16) (ha : a.length = R * K) {i : Nat} (hi : i < R) : rowF (R : Int) (K : Int) (a.map (newF · 1)) (i : Int) = (rowI K a i).map (newF · 1) := by
  unfold rowF rowI
  rw [if_pos ⟨right_nat hR hK (by simpa using ha), by omega, by omega⟩]
  have e1 : (((i : Int) + 1) * (K : Int)).toNat = (i + 1) * K := by
    have : ((i : Int) + 1) * (K : Int) = (((i + 1) * K : Nat) : Int) := by simp
    rw [this, Int.toNat_natCast]
  have e2 : ((i : Int) * (K : Int)).toNat = i * K := by
    have : (i : Int) * (K : Int) = ((i * K : Nat) : Int) := by simp
    rw [this, Int.toNat_natCast]
  rw [e1, e2, List.map_drop, List.map_take]
theorem besI_eq (hR : 1 ≤ R ∧ R ≤ 16) (hK : 1 ≤ K ∧ K ≤ 16) (ha : a.length = R * K) (hb : b.length = R * K) : besF (R : Int) (K : Int) (K : Int) (a.map (newF · 1)) (b.map (newF · 1)) = (besI a b K R).map (newF · 1) := by
  unfold besF besP besI
  rw [List.map_flatMap, Int.toNat_natCast]
  apply flatMap_same
  intro i hi
  rw [List.mem_range] at hi
  rw [rowI_eq hR hK ha hi, rowI_eq hR hK hb hi, List.map_append]
theorem mirI_eq (hR : 1 ≤ R ∧ R ≤ 16) (hK : 1 ≤ K ∧ K ≤ 16) (ha : a.length = R * K) (h : R = K) : mirF (R : Int) (a.map (newF · 1)) = (mirI a R K R 0).map (newF · 1) := by
  subst h
  rw [mirI, if_pos rfl, gridP_map, mirF, Int.toNat_natCast]
  refine gridP_congr fun i k hi hk => ?_
  have hr := right_nat (n := (a.map (newF · 1)).length) hR hK (by simpa using ha)
  rw [atF_eq hr (by simp; omega) (by simp; omega), Int.toNat_natCast]
  have := at_table (i := max i k) (j := min i k) (n := R) (m := R) (by omega) (by omega)
  exact getD_newF (by omega) _
theorem turI_eq (hR : 1 ≤ R ∧ R ≤ 16) (hK : 1 ≤ K ∧ K ≤ 16) (ha : a.length = R * K) : turnF (R : Int) (K : Int) (a.map (newF · 1)) = (turI a R K K 0).map (newF · 1) := by
  have hr := right_nat (n := (a.map (newF · 1)).length) hR hK (by simpa using ha)
  rw [turnF_eq hr, turI, gridP_map, Int.toNat_natCast, Int.toNat_natCast]
  refine gridP_congr fun k i hk hi => ?_
  rw [atF_eq hr (by simpa using hi) (by simpa using hk), Int.toNat_natCast]
  have := at_table (i := i) (j := k) (n := R) (m := K) hi hk
  exact getD_newF (by omega) _
end
end Go.Proofs.Ytbflmeomkfjikaa.A

set_option linter.unusedVariables false
set_option linter.unusedSimpArgs false
namespace Go.Proofs.Ytbflmeomkfjikaa.A
open Go Go.RowKit Go.Shelf

/-- All numbers of a row lie within a bound. -/
def bnd (B : Nat) (l : List Int) : Prop := ∀ x ∈ l, x.natAbs ≤ B
theorem bnd_get {B : Nat} {a : List Int} (h : bnd B a) (i : Nat) : (a.getD i 0).natAbs ≤ B := by
  rw [List.getD_eq_getElem?_getD]
  cases hi : a[i]? with
  | none => simp
  | some x => exact h x (List.mem_of_getElem? hi)
theorem small_bnd {a : List Int} (h : small a) : bnd 100 a := fun x hx => by
  have := h x hx
  omega
theorem few_of {n : Int} {B : Nat} (h : n.natAbs ≤ B) (hB : B ≤ 1073741824) : few n := by
  unfold few
  omega
theorem mul_abs {x y : Int} {B C : Nat} (hx : x.natAbs ≤ B) (hy : y.natAbs ≤ C) : (x * y).natAbs ≤ B * C := by
  rw [Int.natAbs_mul]
  exact Nat.mul_le_mul hx hy
theorem dotI_bnd {B C : Nat} {a b : List Int} (ha : bnd B a) (hb : bnd C b) (many cols i k : Nat) : ∀ j : Nat, (dotI a b many cols i k j).natAbs ≤ j * (B * C)
  | 0 => by simp [dotI]
  | j + 1 => by
    have h1 := dotI_bnd ha hb many cols i k j
    have h2 := mul_abs (bnd_get ha (i * many + j)) (bnd_get hb (j * cols + k))
    have h3 := Int.natAbs_add_le (dotI a b many cols i k j) (a.getD (i * many + j) 0 * b.getD (j * cols + k) 0)
    simp only [dotI, Nat.add_mul, Nat.one_mul]
    omega
theorem gridP_bnd {B : Nat} {g : Nat → Nat → Int} {n N : Nat} (h : ∀ i k, (g i k).natAbs ≤ B) : bnd B (gridP g n N 0) := by
  intro x hx
  rw [gridP_zero, List.mem_flatMap] at hx
  obtain ⟨i, _, hx⟩ := hx
  obtain ⟨k, _, rfl⟩ := List.mem_map.1 hx
  exact h i k
theorem mulI_bnd {B C : Nat} {a b : List Int} (ha : bnd B a) (hb : bnd C b) (rows many cols : Nat) : bnd (many * (B * C)) (mulI a b rows many cols) :=
  gridP_bnd fun i k => dotI_bnd ha hb many cols i k many
theorem sumI_bnd {B C : Nat} {a b : List Int} (ha : bnd B a) (hb : bnd C b) (R K : Nat) : bnd (B + C) (sumI a b K R 0) :=
  gridP_bnd fun i k => by
    have h1 := bnd_get ha (i * K + k)
    have h2 := bnd_get hb (i * K + k)
    have := Int.natAbs_add_le (a.getD (i * K + k) 0) (b.getD (i * K + k) 0)
    omega

theorem dotF_wholeB {B C : Nat} {a b : List Int} {many cols : Nat} (ha : bnd B a) (hb : bnd C b) (hB : B ≤ 1073741824) (hC : C ≤ 1073741824) (hBC : B * C ≤ 1073741824) (hm : many * (B * C) ≤ 1073741824) (i k : Nat) :
    dotF ((List.range many).map fun j => newF (a.getD (i * many + j) 0) 1) ((List.range many).map fun j => newF (b.getD (j * cols + k) 0) 1) = newF (dotI a b many cols i k many) 1 := by
  have hd : ∀ j, j ≤ many → few (dotI a b many cols i k j) := fun j hj => by
    have := dotI_bnd ha hb many cols i k j
    exact few_of this (Nat.le_trans (Nat.mul_le_mul_right _ hj) hm)
  unfold dotF
  rw [newF_whole (hd many (Nat.le_refl _)), List.zipWith_map, List.zipWith_self]
  have e : ∀ j, mulF (newF (a.getD (i * many + j) 0) 1) (newF (b.getD (j * cols + k) 0) 1) = whole (a.getD (i * many + j) 0 * b.getD (j * cols + k) 0) := fun j => by
    have h1 := few_of (bnd_get ha (i * many + j)) hB
    have h2 := few_of (bnd_get hb (j * cols + k)) hC
    have h3 := few_of (mul_abs (bnd_get ha (i * many + j)) (bnd_get hb (j * cols + k))) hBC
    rw [newF_whole h1, newF_whole h2, mulF_whole h1 h2 h3]
  simp only [e]
  exact sumF_whole (fun j => a.getD (i * many + j) 0 * b.getD (j * cols + k) 0) (dotI a b many cols i k) rfl (fun j => rfl) many (fun j _ => few_of (mul_abs (bnd_get ha (i * many + j)) (bnd_get hb (j * cols + k))) hBC) hd many (Nat.le_refl _)

/-- The product of whole numbers within bounds. -/
theorem prodF_wholeB {B C : Nat} {R M K : Nat} {a b : List Int} (hR : 1 ≤ R ∧ R ≤ 16) (hM : 1 ≤ M ∧ M ≤ 16) (hK : 1 ≤ K ∧ K ≤ 16) (la : a.length = R * M) (lb : b.length = M * K) (ha : bnd B a) (hb : bnd C b)
    (hB : B ≤ 1073741824) (hC : C ≤ 1073741824) (hBC : B * C ≤ 1073741824) (hm : M * (B * C) ≤ 1073741824) :
    prodF (R : Int) (M : Int) (K : Int) (a.map (newF · 1)) (b.map (newF · 1)) = (mulI a b R M K).map (newF · 1) := by
  have h1' := right_nat (n := (a.map (newF · 1)).length) hR hM (by simpa using la)
  have h2' := right_nat (n := (b.map (newF · 1)).length) hM hK (by simpa using lb)
  have h3 := right_turn h2'
  unfold prodF mulI allF
  rw [gridP_zero, List.flatMap_map, List.map_flatMap]
  simp only [Int.toNat_natCast]
  apply flatMap_same
  intro i hi
  rw [List.mem_range] at hi
  rw [List.map_map, List.map_map]
  apply List.map_congr_left
  intro k hk
  rw [List.mem_range] at hk
  simp only [Function.comp]
  have e1 : rowF (R : Int) (M : Int) (a.map (newF · 1)) i = (List.range M).map fun j => newF (a.getD (i * M + j) 0) 1 := by
    rw [rowF_eq ⟨0, 0, false⟩ h1' (by simpa using hi), Int.toNat_natCast]
    apply List.map_congr_left
    intro j hj
    rw [List.mem_range] at hj
    have := at_table hi hj
    exact getD_newF (by omega) _
  have e2 : rowF (K : Int) (M : Int) (turnF (M : Int) (K : Int) (b.map (newF · 1))) k = (List.range M).map fun j => newF (b.getD (j * K + k) 0) 1 := by
    rw [rowF_eq ⟨0, 0, false⟩ h3 (by simpa using hk), Int.toNat_natCast]
    apply List.map_congr_left
    intro j hj
    rw [List.mem_range] at hj
    rw [turnF_eq h2', List.getD_eq_getElem?_getD, Int.toNat_natCast, Int.toNat_natCast, gridP_get _ _ _ _ _ hk hj, Option.getD_some, atF_eq h2' (by simpa using hj) (by simpa using hk), Int.toNat_natCast]
    have := at_table hj hk
    exact getD_newF (by omega) _
  rw [e1, e2, dotF_wholeB ha hb hB hC hBC hm]

theorem sumI_eqB {B C : Nat} {a b : List Int} {R K : Nat} (ha : a.length = R * K) (hb : b.length = R * K) (sa : bnd B a) (sb : bnd C b) (h : B + C ≤ 1073741824) : List.zipWith addF (a.map (newF · 1)) (b.map (newF · 1)) = (sumI a b K R 0).map (newF · 1) := by
  rw [sumI, gridP_map]
  refine grid_of (by simp [ha, hb]) fun i k hi hk => ?_
  have := at_table hi hk
  have h1 := bnd_get sa (i * K + k)
  have h2 := bnd_get sb (i * K + k)
  have h3 := Int.natAbs_add_le (a.getD (i * K + k) 0) (b.getD (i * K + k) 0)
  have f1 := few_of h1 (by omega)
  have f2 := few_of h2 (by omega)
  have f3 : few (a.getD (i * K + k) 0 + b.getD (i * K + k) 0) := few_of (B := B + C) (by omega) h
  rw [List.getElem?_zipWith, getD_map (by omega), getD_map (by omega)]
  simp only
  rw [newF_whole f1, newF_whole f2, newF_whole f3, addF_whole f1 f2 f3]

theorem grid_getD {g : Nat → Nat → Int} {n N i k : Nat} (hi : i < N) (hk : k < n) : (gridP g n N 0).getD (i * n + k) 0 = g i k := by
  rw [List.getD_eq_getElem?_getD, gridP_get g n N i k hi hk, Option.getD_some]
theorem mulI_length (a b : List Int) (R M K : Nat) : (mulI a b R M K).length = R * K := by rw [mulI, gridP_length, Nat.add_zero]
theorem sumI_length (a b : List Int) (R K : Nat) : (sumI a b K R 0).length = R * K := by rw [sumI, gridP_length, Nat.add_zero]

theorem dotI_add {a s b c : List Int} {many cols i k : Nat} (h : ∀ j, j < many → s.getD (j * cols + k) 0 = b.getD (j * cols + k) 0 + c.getD (j * cols + k) 0) :
    ∀ j, j ≤ many → dotI a s many cols i k j = dotI a b many cols i k j + dotI a c many cols i k j
  | 0, _ => rfl
  | j + 1, hj => by
    simp only [dotI]
    rw [dotI_add h j (by omega), h j (by omega), Int.mul_add]
    omega
/-- A product with a sum. -/
theorem mul_sum {a b c : List Int} {R M K : Nat} : mulI a (sumI b c K M 0) R M K = sumI (mulI a b R M K) (mulI a c R M K) K R 0 := by
  unfold mulI sumI
  refine gridP_congr fun i k hi hk => ?_
  rw [grid_getD hi hk, grid_getD hi hk]
  exact dotI_add (fun j hj => grid_getD hj hk) M (Nat.le_refl _)

theorem dotI_same {a s b : List Int} {many c1 c2 i k1 k2 : Nat} (h : ∀ j, j < many → s.getD (j * c1 + k1) 0 = b.getD (j * c2 + k2) 0) :
    ∀ j, j ≤ many → dotI a s many c1 i k1 j = dotI a b many c2 i k2 j
  | 0, _ => rfl
  | j + 1, hj => by
    simp only [dotI]
    rw [dotI_same h j (by omega), h j (by omega)]
theorem besI_grid {b c : List Int} {R K : Nat} (hb : b.length = R * K) (hc : c.length = R * K) : besI b c K R = gridP (fun i k => if k < K then b.getD (i * K + k) 0 else c.getD (i * K + (k - K)) 0) (K + K) R 0 := by
  rw [gridP_zero]
  unfold besI rowI
  apply flatMap_same
  intro i hi
  rw [List.mem_range] at hi
  have : (i + 1) * K ≤ R * K := Nat.mul_le_mul_right _ hi
  rw [stretch b 0 i K (by omega), stretch c 0 i K (by omega), List.range_add, List.map_append, List.map_map]
  congr 1
  · apply List.map_congr_left
    intro k hk
    rw [List.mem_range] at hk
    rw [if_pos hk]
  · apply List.map_congr_left
    intro k hk
    simp only [Function.comp]
    rw [if_neg (by omega)]
    congr 1
    omega
/-- A product with a row beside another one. -/
theorem mul_bes {a b c : List Int} {R M K : Nat} (hb : b.length = M * K) (hc : c.length = M * K) : mulI a (besI b c K M) R M (K + K) = besI (mulI a b R M K) (mulI a c R M K) K R := by
  rw [besI_grid (mulI_length a b R M K) (mulI_length a c R M K), besI_grid hb hc]
  unfold mulI
  refine gridP_congr fun i k hi hk => ?_
  by_cases h : k < K
  · rw [if_pos h, grid_getD hi h]
    exact dotI_same (fun j hj => by rw [grid_getD hj hk, if_pos h]) M (Nat.le_refl _)
  · rw [if_neg h, grid_getD hi (show k - K < K by omega)]
    exact dotI_same (fun j hj => by rw [grid_getD hj hk, if_neg h]) M (Nat.le_refl _)
theorem besI_bnd {B : Nat} {b c : List Int} {R K : Nat} (hb : bnd B b) (hc : bnd B c) (n : Nat) : bnd B (besI b c K n) := by
  intro x hx
  unfold besI rowI at hx
  rw [List.mem_flatMap] at hx
  obtain ⟨i, _, hx⟩ := hx
  rcases List.mem_append.1 hx with hx | hx
  · exact hb x (List.mem_of_mem_take (List.mem_of_mem_drop hx))
  · exact hc x (List.mem_of_mem_take (List.mem_of_mem_drop hx))
end Go.Proofs.Ytbflmeomkfjikaa.A

set_option linter.unusedVariables false
set_option linter.unusedSimpArgs false
set_option maxRecDepth 100000
namespace Go.Proofs.Ytbflmeomkfjikaa.A
open Go Go.RowKit Go.Shelf

/-! ### The unit -/
def unitP (n k : Nat) : List Int := gridP (fun i j => if i = j ∧ i < k then 1 else 0) n n 0
theorem unitP_length (n k : Nat) : (unitP n k).length = n * n := by rw [unitP, gridP_length, Nat.add_zero]
theorem unitP_zero (n : Nat) : unitP n 0 = List.replicate (n * n) 0 := by
  refine (grid_of (by simp) fun i k hi hk => ?_).symm
  have := at_table hi hk
  rw [List.getElem?_replicate, if_pos this.1]
  simp
theorem table_inj {n i j k : Nat} (hi : i < n) (hj : j < n) (h : i * n + j = k * n + k) (hk : k < n) : i = k ∧ j = k := by
  have h1 : (i * n + j) / n = i := by rw [Nat.mul_comm, Nat.mul_add_div (by omega), Nat.div_eq_of_lt hj, Nat.add_zero]
  have h2 : (k * n + k) / n = k := by rw [Nat.mul_comm, Nat.mul_add_div (by omega), Nat.div_eq_of_lt hk, Nat.add_zero]
  rw [h, h2] at h1
  subst h1
  exact ⟨rfl, by omega⟩
theorem unitP_succ {n k : Nat} (hk : k < n) : (unitP n k).set (k * n + k) 1 = unitP n (k + 1) := by
  refine grid_of (by rw [List.length_set, unitP_length]) fun i j hi hj => ?_
  have hg : (unitP n k)[i * n + j]? = some (if i = j ∧ i < k then 1 else 0) := gridP_get _ _ _ _ _ hi hj
  rw [List.getElem?_set]
  have ht := at_table hk hk
  by_cases h : k * n + k = i * n + j
  · obtain ⟨rfl, rfl⟩ := table_inj hi hj h.symm hk
    rw [if_pos rfl, if_pos (by rw [unitP_length]; exact ht.1)]
    simp
  · rw [if_neg h, hg]
    congr 1
    by_cases h2 : i = j
    · subst h2
      have : i ≠ k := fun e => h (by rw [e])
      by_cases h3 : i < k
      · simp [h3, show i < k + 1 by omega]
      · simp [h3, show ¬ i < k + 1 by omega]
    · simp [h2]
theorem tovs_nums : ∀ (l : List Int), tovs (l.map fun z => nt z) = some (l.map num)
  | [] => rfl
  | z :: l => by
    simp only [List.map_cons, tovs, tov, tovs_nums l]
theorem one_nums (l : List Int) : (l.map num).all PV.one = true := by
  simp [PV.one]
theorem set_nums {l : List Int} {i : Nat} (h : i < l.length) (x : Int) : (l.map fun z => nt z).take i ++ (nt x :: (l.map fun z => nt z).drop (i + 1)) = (l.set i x).map fun z => nt z := by
  rw [List.map_set, List.set_eq_take_append_cons_drop, if_pos (by simpa using h)]

end Go.Proofs.Ytbflmeomkfjikaa.A


set_option linter.unusedVariables false
set_option linter.unusedSimpArgs false
set_option maxRecDepth 100000
namespace Go.Proofs.Ytbflmeomkfjikaa.A
open Go Go.RowKit Go.Shelf

/-! ### Plain laws of products -/
theorem dotI_sum (a b : List Int) (many cols i k : Nat) : ∀ j, dotI a b many cols i k j = ((List.range j).map fun j => a.getD (i * many + j) 0 * b.getD (j * cols + k) 0).sum
  | 0 => rfl
  | j + 1 => by
    simp only [dotI, List.range_succ, List.map_append, List.sum_append, List.map_cons, List.map_nil, List.sum_cons, List.sum_nil]
    rw [dotI_sum a b many cols i k j]
    omega

theorem sum_congr {f g : Nat → Int} {n : Nat} (h : ∀ j, j < n → f j = g j) : ((List.range n).map f).sum = ((List.range n).map g).sum := by
  congr 1
  apply List.map_congr_left
  intro j hj
  exact h j (List.mem_range.1 hj)
theorem sum_mul (f : Nat → Int) (c : Int) : ∀ n, ((List.range n).map f).sum * c = ((List.range n).map fun j => f j * c).sum
  | 0 => by simp
  | n + 1 => by
    simp only [List.range_succ, List.map_append, List.sum_append, List.map_cons, List.map_nil, List.sum_cons, List.sum_nil, Int.add_mul]
    rw [sum_mul f c n]
    omega
theorem mul_sum' (f : Nat → Int) (c : Int) (n : Nat) : c * ((List.range n).map f).sum = ((List.range n).map fun j => c * f j).sum := by
  rw [Int.mul_comm, sum_mul]
  exact sum_congr fun j _ => Int.mul_comm _ _
theorem sum_add (f g : Nat → Int) : ∀ n, ((List.range n).map fun j => f j + g j).sum = ((List.range n).map f).sum + ((List.range n).map g).sum
  | 0 => rfl
  | n + 1 => by
    simp only [List.range_succ, List.map_append, List.sum_append, List.map_cons, List.map_nil, List.sum_cons, List.sum_nil]
    rw [sum_add f g n]
    omega
theorem sum_swap (f : Nat → Nat → Int) : ∀ n m, ((List.range n).map fun i => ((List.range m).map fun j => f i j).sum).sum = ((List.range m).map fun j => ((List.range n).map fun i => f i j).sum).sum
  | 0, m => by
    have : ∀ m : Nat, ((List.range m).map fun _ => (0 : Int)).sum = 0 := fun m => by
      induction m with
      | zero => rfl
      | succ m ih => simp [List.range_succ, ih]
    simp [this]
  | n + 1, m => by
    simp only [List.range_succ, List.map_append, List.sum_append, List.map_cons, List.map_nil, List.sum_cons, List.sum_nil, Int.add_zero]
    rw [sum_swap f n m, sum_add]

/-- Brackets do not matter. -/
theorem mul_assoc {a b c : List Int} {N : Nat} : mulI (mulI a b N N N) c N N N = mulI a (mulI b c N N N) N N N := by
  have hg : ∀ {x y : List Int} {i k : Nat}, i < N → k < N → (mulI x y N N N).getD (i * N + k) 0 = dotI x y N N i k N := fun hi hk => grid_getD hi hk
  show gridP _ N N 0 = gridP _ N N 0
  refine gridP_congr fun i k hi hk => ?_
  rw [dotI_sum, dotI_sum]
  have e1 : ((List.range N).map fun j => (mulI a b N N N).getD (i * N + j) 0 * c.getD (j * N + k) 0).sum = ((List.range N).map fun j => ((List.range N).map fun l => a.getD (i * N + l) 0 * b.getD (l * N + j) 0 * c.getD (j * N + k) 0).sum).sum :=
    sum_congr fun j hj => by rw [hg hi hj, dotI_sum, sum_mul]
  have e2 : ((List.range N).map fun l => a.getD (i * N + l) 0 * (mulI b c N N N).getD (l * N + k) 0).sum = ((List.range N).map fun l => ((List.range N).map fun j => a.getD (i * N + l) 0 * b.getD (l * N + j) 0 * c.getD (j * N + k) 0).sum).sum :=
    sum_congr fun l hl => by
      rw [hg hl hk, dotI_sum, mul_sum']
      exact sum_congr fun j _ => by rw [Int.mul_assoc]
  rw [e1, e2, sum_swap]

theorem sum_one (f : Nat → Int) {k : Nat} : ∀ n, ((List.range n).map fun j => f j * (if j = k then 1 else 0)).sum = if k < n then f k else 0
  | 0 => by simp
  | n + 1 => by
    simp only [List.range_succ, List.map_append, List.sum_append, List.map_cons, List.map_nil, List.sum_cons, List.sum_nil, Int.add_zero]
    rw [sum_one f n]
    by_cases h : n = k
    · subst h
      simp
    · by_cases h2 : k < n
      · simp [h, h2, show k < n + 1 by omega]
      · simp [h, h2, show ¬ k < n + 1 by omega]
/-- The unit changes nothing. -/
theorem mul_unit {a : List Int} {N : Nat} (ha : a.length = N * N) : mulI a (unitP N N) N N N = a := by
  refine (grid_of ha fun i k hi hk => ?_).symm
  have e : dotI a (unitP N N) N N i k N = a.getD (i * N + k) 0 := by
    rw [dotI_sum]
    have : ∀ j, j < N → a.getD (i * N + j) 0 * (unitP N N).getD (j * N + k) 0 = a.getD (i * N + j) 0 * (if j = k then 1 else 0) := fun j hj => by
      have hu : (unitP N N).getD (j * N + k) 0 = if j = k ∧ j < N then 1 else 0 := grid_getD hj hk
      rw [hu]
      simp [hj]
    rw [sum_congr this, sum_one (fun j => a.getD (i * N + j) 0) N, if_pos hk]
  rw [e]
  have := at_table hi hk
  simp [this.1, ha]

/-- Turned twice. -/
theorem tur_tur {a : List Int} {N : Nat} (ha : a.length = N * N) : turI (turI a N N N 0) N N N 0 = a := by
  refine (grid_of ha fun i k hi hk => ?_).symm
  have hg : (turI a N N N 0).getD (k * N + i) 0 = a.getD (i * N + k) 0 := grid_getD hk hi
  rw [hg]
  have := at_table hi hk
  simp [this.1, ha]
theorem turI_length (a : List Int) (N : Nat) : (turI a N N N 0).length = N * N := by rw [turI, gridP_length, Nat.add_zero]
theorem turI_bnd {B : Nat} {a : List Int} (ha : bnd B a) (N : Nat) : bnd B (turI a N N N 0) := gridP_bnd fun k i => bnd_get ha _
/-- A product, turned. -/
theorem tur_mul {a b : List Int} {N : Nat} : mulI (turI b N N N 0) (turI a N N N 0) N N N = turI (mulI a b N N N) N N N 0 := by
  show gridP _ N N 0 = gridP _ N N 0
  refine gridP_congr fun i k hi hk => ?_
  have h1 : (mulI a b N N N).getD (k * N + i) 0 = dotI a b N N k i N := grid_getD hk hi
  rw [h1, dotI_sum, dotI_sum]
  refine sum_congr fun j hj => ?_
  have h2 : (turI b N N N 0).getD (i * N + j) 0 = b.getD (j * N + i) 0 := grid_getD hi hj
  have h3 : (turI a N N N 0).getD (j * N + k) 0 = a.getD (k * N + j) 0 := grid_getD hj hk
  rw [h2, h3, Int.mul_comm]
end Go.Proofs.Ytbflmeomkfjikaa.A

set_option linter.unusedVariables false
set_option linter.unusedSimpArgs false
set_option maxRecDepth 100000
namespace Go.Proofs.Ytbflmeomkfjikaa.A
open Go Go.RowKit Go.Shelf

/-! ### Division -/
theorem methDiv : Meth Try.prog 31 "Div" 82 := by
  intro v xs w
  rfl

def divF (a b : Fr) : Fr := if a.fine = false ∨ b.fine = false then .wrong else newF (a.n * b.d) (a.d * b.n)
theorem ok89 (a b : Fr) (ha : a.fine = true) (hb : b.fine = true) : Ok Try.prog 89 [.vp [num a.n, num a.d, tru a.bad], .vp [num b.n, num b.d, tru b.bad]] (.tup [num (a.n * b.d), num (a.d * b.n)]) := by
  obtain ⟨a1, a2, a3, a4, a5⟩ := Fr.fine_spec ha
  obtain ⟨b1, b2, b3, b4, b5⟩ := Fr.fine_spec hb
  have p1 := prod_le (x := a.n) (y := b.d) ⟨a5, a4⟩ (by omega)
  have p3 := prod_le (x := a.d) (y := b.n) (by omega) ⟨b5, b4⟩
  have w1 := wrapped (x := a.n * b.d) (by omega) (by omega)
  have w3 := wrapped (x := a.d * b.n) (by omega) (by omega)
  refine ok_fn mixed Try.func89 (code := ?_) (h := h89) ?_ k89 ?_
  rotate_left
  · exact rfl
  unfold h89 initS
  simp -implicitDefEqProofs only [rkA, stepA, valA, storeA, ldA, fieldAddrA, fieldA, idxAddrA, idxA, idxArr, lenA, unA, binA, num2, binV, eqA, rowOf, PV.cells, PV.cell, bndA, appA, reduceIte, reduceCtorEq, Nat.reduceAdd, Nat.reduceSub, Nat.reduceEqDiff, Nat.reduceLeDiff, Nat.reduceLT, Nat.reduceMul, Nat.reduceBEq, Nat.reduceBNe, Int.reduceToNat, Int.reduceLE, Int.reduceLT, allocX, setPs, extremeA, ints, resAll, rinfOk, packR, Try.ntmps89, Try.results89]
  simp -implicitDefEqProofs only [w1, w3, rkA, stepA, valA, storeA, ldA, fieldAddrA, fieldA, idxAddrA, idxA, idxArr, lenA, unA, binA, num2, binV, eqA, rowOf, PV.cells, PV.cell, bndA, appA, reduceIte, reduceCtorEq, Nat.reduceAdd, Nat.reduceSub, Nat.reduceEqDiff, Nat.reduceLeDiff, Nat.reduceLT, Nat.reduceMul, Nat.reduceBEq, Nat.reduceBNe, Int.reduceToNat, Int.reduceLE, Int.reduceLT, allocX, setPs, extremeA, ints, resAll, rinfOk, packR]
theorem ok82 (a b : Fr) : Ok Try.prog 82 [frV a, frV b] (frV (divF a b)) := by
  refine ok_fn mixed Try.func82 (code := ?_) (h := h82) ?_ k82 ?_
  rotate_left
  · exact rfl
  unfold h82 initS
  simp -implicitDefEqProofs only [rkA, stepA, valA, storeA, ldA, fieldAddrA, fieldA, idxAddrA, idxA, idxArr, lenA, unA, binA, num2, binV, eqA, rowOf, PV.cells, PV.cell, bndA, appA, reduceIte, reduceCtorEq, Nat.reduceAdd, Nat.reduceSub, Nat.reduceEqDiff, Nat.reduceLeDiff, Nat.reduceLT, Nat.reduceMul, Nat.reduceBEq, Nat.reduceBNe, Int.reduceToNat, Int.reduceLE, Int.reduceLT, allocX, setPs, extremeA, ints, resAll, rinfOk, packR, Try.ntmps82, Try.results82]
  refine call_fn rfl rfl rfl (ok88 a b 89 _ _ _ (fun ha hb => ok89 a b ha hb)) ?_
  simp -implicitDefEqProofs only [rkA, stepA, valA, storeA, ldA, fieldAddrA, fieldA, idxAddrA, idxA, idxArr, lenA, unA, binA, num2, binV, eqA, rowOf, PV.cells, PV.cell, bndA, appA, reduceIte, reduceCtorEq, Nat.reduceAdd, Nat.reduceSub, Nat.reduceEqDiff, Nat.reduceLeDiff, Nat.reduceLT, Nat.reduceMul, Nat.reduceBEq, Nat.reduceBNe, Int.reduceToNat, Int.reduceLE, Int.reduceLT, allocX, setPs, extremeA, ints, resAll, rinfOk, packR]
  simp [divF]

/-! ### A row, scaled -/
theorem ok58 (ex : Bool) (l : List Fr) (y : Fr) (h : l.length ≤ 5864062014805) : Ok Try.prog 58 [.sl ex (frs l), frV y] (.sl false (frs (l.map (mulF · y)))) := by
  refine ok_fn mixed Try.func58 (code := ?_) (h := h58) ?_ k58 ?_
  rotate_left
  · exact rfl
  unfold h58 initS
  simp -implicitDefEqProofs only [rkA, stepA, valA, storeA, ldA, fieldAddrA, fieldA, idxAddrA, idxA, idxArr, lenA, unA, binA, num2, binV, eqA, rowOf, PV.cells, PV.cell, bndA, appA, reduceIte, reduceCtorEq, Nat.reduceAdd, Nat.reduceSub, Nat.reduceEqDiff, Nat.reduceLeDiff, Nat.reduceLT, Nat.reduceMul, Nat.reduceBEq, Nat.reduceBNe, Int.reduceToNat, Int.reduceLE, Int.reduceLT, allocX, setPs, extremeA, ints, resAll, rinfOk, packR, Try.ntmps58, Try.results58]
  refine wp_loop (fun m s => ∃ i : Nat, i + m = l.length ∧ s = ⟨[jk, jk, jk, .ptr 3 0, jk, .acc 5 (frs ((l.take i).map (mulF · y))), jk, jk, .v (.sl ex (frs l)), nt (frs l).length, nt i, jk, jk, jk, jk, jk, jk, jk, jk, jk, jk, jk, jk], [(3, [nt y.n, nt y.d, .v (tru y.bad)])], [], [(4, 0), (5, i)], [], 0, nomem⟩) l.length ?_ ?_
  · simp -implicitDefEqProofs only [rkA, stepA, valA, storeA, ldA, fieldAddrA, fieldA, idxAddrA, idxA, idxArr, lenA, unA, binA, num2, binV, eqA, rowOf, PV.cells, PV.cell, bndA, appA, reduceIte, reduceCtorEq, Nat.reduceAdd, Nat.reduceSub, Nat.reduceEqDiff, Nat.reduceLeDiff, Nat.reduceLT, Nat.reduceMul, Nat.reduceBEq, Nat.reduceBNe, Int.reduceToNat, Int.reduceLE, Int.reduceLT, allocX, setPs, extremeA, ints, resAll, rinfOk, packR]
    exact ⟨0, by simp, rfl⟩
  rintro m s ⟨i, hi, rfl⟩
  simp -implicitDefEqProofs only [rkA, stepA, valA, storeA, ldA, fieldAddrA, fieldA, idxAddrA, idxA, idxArr, lenA, unA, binA, num2, binV, eqA, rowOf, PV.cells, PV.cell, bndA, appA, reduceIte, reduceCtorEq, Nat.reduceAdd, Nat.reduceSub, Nat.reduceEqDiff, Nat.reduceLeDiff, Nat.reduceLT, Nat.reduceMul, Nat.reduceBEq, Nat.reduceBNe, Int.reduceToNat, Int.reduceLE, Int.reduceLT, allocX, setPs, extremeA, ints, resAll, rinfOk, packR]
  refine gB_dec ?_ ?_ <;> intro hc <;> simp -implicitDefEqProofs only [hc, rkA, stepA, valA, storeA, ldA, fieldAddrA, fieldA, idxAddrA, idxA, idxArr, lenA, unA, binA, num2, binV, eqA, rowOf, PV.cells, PV.cell, bndA, appA, reduceIte, reduceCtorEq, Nat.reduceAdd, Nat.reduceSub, Nat.reduceEqDiff, Nat.reduceLeDiff, Nat.reduceLT, Nat.reduceMul, Nat.reduceBEq, Nat.reduceBNe, Int.reduceToNat, Int.reduceLE, Int.reduceLT, allocX, setPs, extremeA, ints, resAll, rinfOk, packR]
  · have hlt : i < l.length := by simpa using hc
    have h0 : (0 : Int) ≤ (i : Int) := by omega
    have hg : (frs l)[i]? = some (frV l[i]) := by simp [hlt]
    simp -implicitDefEqProofs only [h0, Int.toNat_natCast, hg, rkA, stepA, valA, storeA, ldA, fieldAddrA, fieldA, idxAddrA, idxA, idxArr, lenA, unA, binA, num2, binV, eqA, rowOf, PV.cells, PV.cell, bndA, appA, reduceIte, reduceCtorEq, Nat.reduceAdd, Nat.reduceSub, Nat.reduceEqDiff, Nat.reduceLeDiff, Nat.reduceLT, Nat.reduceMul, Nat.reduceBEq, Nat.reduceBNe, Int.reduceToNat, Int.reduceLE, Int.reduceLT, allocX, setPs, extremeA, ints, resAll, rinfOk, packR]
    refine call_meth rfl rfl methMul (ok83 l[i] y) ?_
    have hfit : fits 3 24 (frs ((l.take i).map (mulF · y))) [frV (mulF l[i] y)] = true := fits_frs (l := [mulF l[i] y]) (by simp; omega)
    have hw := wrapped (x := (i : Int) + 1) (by omega) (by omega)
    have hl : (frs ((l.take i).map (mulF · y))).length = i := by simp; omega
    simp -implicitDefEqProofs only [hfit, hl, hw, rkA, stepA, valA, storeA, ldA, fieldAddrA, fieldA, idxAddrA, idxA, idxArr, lenA, unA, binA, num2, binV, eqA, rowOf, PV.cells, PV.cell, bndA, appA, reduceIte, reduceCtorEq, Nat.reduceAdd, Nat.reduceSub, Nat.reduceEqDiff, Nat.reduceLeDiff, Nat.reduceLT, Nat.reduceMul, Nat.reduceBEq, Nat.reduceBNe, Int.reduceToNat, Int.reduceLE, Int.reduceLT, allocX, setPs, extremeA, ints, resAll, rinfOk, packR]
    refine loopK_of (m' := m - 1) (by omega) ?_
    simp -implicitDefEqProofs only [rkA, stepA, valA, storeA, ldA, fieldAddrA, fieldA, idxAddrA, idxA, idxArr, lenA, unA, binA, num2, binV, eqA, rowOf, PV.cells, PV.cell, bndA, appA, reduceIte, reduceCtorEq, Nat.reduceAdd, Nat.reduceSub, Nat.reduceEqDiff, Nat.reduceLeDiff, Nat.reduceLT, Nat.reduceMul, Nat.reduceBEq, Nat.reduceBNe, Int.reduceToNat, Int.reduceLE, Int.reduceLT, allocX, setPs, extremeA, ints, resAll, rinfOk, packR]
    refine ⟨i + 1, by omega, ?_⟩
    rw [List.take_succ_eq_append_getElem hlt]
    simp only [frs, List.map_append, List.map_cons, List.map_nil, Int.natCast_add, Int.natCast_one]
  · have : l.length ≤ i := by simp only [List.length_map] at hc; omega
    rw [List.take_of_length_le this]

/-! ### Squares -/
theorem ok37 (ex : Bool) (r c : Int) (l : List Fr) : Ok Try.prog 37 [matV ex r c (frs l)] (tru (right r c l.length && (r == c))) := by
  refine ok_fn mixed Try.func37 (code := ?_) (h := h37) ?_ k37 ?_
  rotate_left
  · exact rfl
  unfold h37 initS
  simp -implicitDefEqProofs only [rkA, stepA, valA, storeA, ldA, fieldAddrA, fieldA, idxAddrA, idxA, idxArr, lenA, unA, binA, num2, binV, eqA, rowOf, PV.cells, PV.cell, bndA, appA, reduceIte, reduceCtorEq, Nat.reduceAdd, Nat.reduceSub, Nat.reduceEqDiff, Nat.reduceLeDiff, Nat.reduceLT, Nat.reduceMul, Nat.reduceBEq, Nat.reduceBNe, Int.reduceToNat, Int.reduceLE, Int.reduceLT, allocX, setPs, extremeA, ints, resAll, rinfOk, packR, Try.ntmps37, Try.results37]
  refine call_fn rfl rfl rfl (ok44 ex r c (frs l)) ?_
  have e : (frs l).length = l.length := by simp
  rw [e]
  cases hr : right r c l.length with
  | false => simp -implicitDefEqProofs only [rkA, stepA, valA, storeA, ldA, fieldAddrA, fieldA, idxAddrA, idxA, idxArr, lenA, unA, binA, num2, binV, eqA, rowOf, PV.cells, PV.cell, bndA, appA, reduceIte, reduceCtorEq, Nat.reduceAdd, Nat.reduceSub, Nat.reduceEqDiff, Nat.reduceLeDiff, Nat.reduceLT, Nat.reduceMul, Nat.reduceBEq, Nat.reduceBNe, Int.reduceToNat, Int.reduceLE, Int.reduceLT, allocX, setPs, extremeA, ints, resAll, rinfOk, packR]
  | true => simp -implicitDefEqProofs only [rkA, stepA, valA, storeA, ldA, fieldAddrA, fieldA, idxAddrA, idxA, idxArr, lenA, unA, binA, num2, binV, eqA, rowOf, PV.cells, PV.cell, bndA, appA, reduceIte, reduceCtorEq, Nat.reduceAdd, Nat.reduceSub, Nat.reduceEqDiff, Nat.reduceLeDiff, Nat.reduceLT, Nat.reduceMul, Nat.reduceBEq, Nat.reduceBNe, Int.reduceToNat, Int.reduceLE, Int.reduceLT, allocX, setPs, extremeA, ints, resAll, rinfOk, packR]

/-- A square. -/
def sqF (r : Int) (l : List Fr) : List Fr := mirF r (prodF r r r l (turnF r r l))
theorem prodF_len {r m c : Int} {a b : List Fr} : (prodF r m c a b).length = r.toNat * c.toNat := by
  unfold prodF
  simp only [List.length_flatMap, List.length_map, allF, List.length_range, List.map_map]
  have e : ∀ l : List Nat, (l.map ((fun _ => c.toNat) ∘ fun (i : Nat) => rowF r m a (i : Int))).sum = l.length * c.toNat := fun l => by
    induction l with
    | nil => simp
    | cons x l ih => rw [List.map_cons, List.sum_cons, ih, List.length_cons, Nat.add_mul, Nat.one_mul, Nat.add_comm]; rfl
  rw [e, List.length_range]
theorem right_sq {n : Nat} (hn : 1 ≤ n ∧ n ≤ 16) {l : List Fr} (h : l.length = n * n) : right (n : Int) (n : Int) l.length = true := right_nat hn hn h
theorem ok14 (n : Nat) (hn : 1 ≤ n ∧ n ≤ 16) (ex : Bool) (l : List Fr) (h : l.length = n * n) : Ok Try.prog 14 [matV ex n n (frs l)] (.tup [matV false n n (frs (sqF n l)), tru true]) := by
  have hr := right_sq hn h
  refine ok_fn mixed Try.func14 (code := ?_) (h := h14) ?_ k14 ?_
  rotate_left
  · exact rfl
  unfold h14 initS
  simp -implicitDefEqProofs only [rkA, stepA, valA, storeA, ldA, fieldAddrA, fieldA, idxAddrA, idxA, idxArr, lenA, unA, binA, num2, binV, eqA, rowOf, PV.cells, PV.cell, bndA, appA, reduceIte, reduceCtorEq, Nat.reduceAdd, Nat.reduceSub, Nat.reduceEqDiff, Nat.reduceLeDiff, Nat.reduceLT, Nat.reduceMul, Nat.reduceBEq, Nat.reduceBNe, Int.reduceToNat, Int.reduceLE, Int.reduceLT, allocX, setPs, extremeA, ints, resAll, rinfOk, packR, Try.ntmps14, Try.results14]
  refine call_fn rfl rfl rfl (ok37 ex n n l) ?_
  simp -implicitDefEqProofs only [hr, beq_self_eq_true, rkA, stepA, valA, storeA, ldA, fieldAddrA, fieldA, idxAddrA, idxA, idxArr, lenA, unA, binA, num2, binV, eqA, rowOf, PV.cells, PV.cell, bndA, appA, reduceIte, reduceCtorEq, Nat.reduceAdd, Nat.reduceSub, Nat.reduceEqDiff, Nat.reduceLeDiff, Nat.reduceLT, Nat.reduceMul, Nat.reduceBEq, Nat.reduceBNe, Int.reduceToNat, Int.reduceLE, Int.reduceLT, allocX, setPs, extremeA, ints, resAll, rinfOk, packR]
  have h25 := ok20 ex n n l
  rw [if_pos hr] at h25
  refine call_fn rfl rfl rfl (h25) ?_
  simp -implicitDefEqProofs only [rkA, stepA, valA, storeA, ldA, fieldAddrA, fieldA, idxAddrA, idxA, idxArr, lenA, unA, binA, num2, binV, eqA, rowOf, PV.cells, PV.cell, bndA, appA, reduceIte, reduceCtorEq, Nat.reduceAdd, Nat.reduceSub, Nat.reduceEqDiff, Nat.reduceLeDiff, Nat.reduceLT, Nat.reduceMul, Nat.reduceBEq, Nat.reduceBNe, Int.reduceToNat, Int.reduceLE, Int.reduceLT, allocX, setPs, extremeA, ints, resAll, rinfOk, packR]
  have hrt := right_turn hr
  have h13 := ok33 ex false n n n n l (turnF n n l)
  rw [if_pos ⟨hr, hrt, rfl⟩] at h13
  refine call_fn rfl rfl rfl (h13) ?_
  simp -implicitDefEqProofs only [rkA, stepA, valA, storeA, ldA, fieldAddrA, fieldA, idxAddrA, idxA, idxArr, lenA, unA, binA, num2, binV, eqA, rowOf, PV.cells, PV.cell, bndA, appA, reduceIte, reduceCtorEq, Nat.reduceAdd, Nat.reduceSub, Nat.reduceEqDiff, Nat.reduceLeDiff, Nat.reduceLT, Nat.reduceMul, Nat.reduceBEq, Nat.reduceBNe, Int.reduceToNat, Int.reduceLE, Int.reduceLT, allocX, setPs, extremeA, ints, resAll, rinfOk, packR]
  have h33 := ok16 false n n (prodF n n n l (turnF n n l))
  have hp : right (n : Int) (n : Int) (prodF n n n l (turnF n n l)).length = true := right_sq hn (by rw [prodF_len]; simp)
  rw [if_pos ⟨hp, rfl⟩] at h33
  refine call_fn rfl rfl rfl (h33) ?_
  simp -implicitDefEqProofs only [rkA, stepA, valA, storeA, ldA, fieldAddrA, fieldA, idxAddrA, idxA, idxArr, lenA, unA, binA, num2, binV, eqA, rowOf, PV.cells, PV.cell, bndA, appA, reduceIte, reduceCtorEq, Nat.reduceAdd, Nat.reduceSub, Nat.reduceEqDiff, Nat.reduceLeDiff, Nat.reduceLT, Nat.reduceMul, Nat.reduceBEq, Nat.reduceBNe, Int.reduceToNat, Int.reduceLE, Int.reduceLT, allocX, setPs, extremeA, ints, resAll, rinfOk, packR, sqF]
end Go.Proofs.Ytbflmeomkfjikaa.A

set_option linter.unusedVariables false
set_option linter.unusedSimpArgs false
set_option maxRecDepth 100000
namespace Go.Proofs.Ytbflmeomkfjikaa.A
open Go Go.RowKit Go.Shelf

/-! ### Squares in memory, row by row -/
def rowM (n : Nat) (M : Nat → Nat → Fr) (i : Nat) : List Fr := (List.range n).map (M i)
def setM (M : Nat → Nat → Fr) (i k : Nat) (x : Fr) : Nat → Nat → Fr := fun a b => if a = i ∧ b = k then x else M a b
theorem rowM_length (n : Nat) (M : Nat → Nat → Fr) (i : Nat) : (rowM n M i).length = n := by simp [rowM]
theorem rowM_get {n : Nat} {M : Nat → Nat → Fr} {i k : Nat} (h : k < n) : (rowM n M i)[k]? = some (M i k) := by simp [rowM, h]
theorem rowM_set {n : Nat} {M : Nat → Nat → Fr} {i k : Nat} {x : Fr} (h : k < n) : (rowM n M i).set k x = rowM n (setM M i k x) i := by
  apply List.ext_getElem?
  intro j
  rw [List.getElem?_set]
  by_cases hj : j < n
  · by_cases e : k = j
    · subst e
      rw [if_pos rfl, if_pos (by rw [rowM_length]; exact h), rowM_get h]
      simp [setM]
    · rw [if_neg e, rowM_get hj, rowM_get hj]
      have : ¬ (j = k) := fun h => e h.symm
      simp [setM, this]
  · rw [if_neg (by omega), List.getElem?_eq_none (by rw [rowM_length]; omega), List.getElem?_eq_none (by rw [rowM_length]; omega)]
theorem rowM_other {n : Nat} {M : Nat → Nat → Fr} {i j k : Nat} {x : Fr} (h : j ≠ i) : rowM n (setM M i k x) j = rowM n M j := by
  simp [rowM, setM, h]

abbrev rawRow (c n : Nat) : PV := .s (.slice (some ⟨c, 0, none⟩) n n)
abbrev nilRow : PV := .s (.slice none 0 0)
/-- The rows' row: b of n are there. -/
def headR (n b : Nat) (c : Nat → Nat) : List PV := (List.range n).map fun j => if j < b then rawRow (c j) n else nilRow
theorem headR_length (n b : Nat) (c : Nat → Nat) : (headR n b c).length = n := by simp [headR]
theorem headR_get {n b : Nat} {c : Nat → Nat} {i : Nat} (h : i < n) (hb : i < b) : (headR n b c)[i]? = some (rawRow (c i) n) := by simp [headR, h, hb]

structure RowsIn (m : Mem) (R : Nat) (c : Nat → Nat) (n b : Nat) (M : Nat → Nat → Fr) : Prop where
  head : m R = some (headR n b c)
  row : ∀ i, i < b → m (c i) = some (flat (frs (rowM n M i)))
  ne : ∀ i, i < b → c i ≠ R
  inj : ∀ i j, i < b → j < b → c i = c j → i = j

theorem ldM_fr {l : List Fr} {k : Nat} {x : Fr} (h : l[k]? = some x) : ldM true 3 (k * 3) (flat (frs l)) = some (.v (frV x)) := by
  have := ldM_elem (els := frs l) (sz := 3) (k := k) (e := frV x) (frs_cells l) (by simp [h]) []
  rwa [List.append_nil] at this
theorem stM_fr {l : List Fr} {k : Nat} {x : Fr} (h : k < l.length) : stM 3 (k * 3) (flat (frs l)) (frV x) = some (flat (frs (l.set k x))) := by
  have := stM_elem (els := frs l) (sz := 3) (k := k) (e := frV x) (frs_cells l) (by simpa using h) rfl rfl []
  rw [List.append_nil, List.append_nil] at this
  rw [this]
  simp [frs, List.map_set]

theorem RowsIn.store {m : Mem} {R : Nat} {c : Nat → Nat} {n b : Nat} {M : Nat → Nat → Fr} (h : RowsIn m R c n b M) {i k : Nat} (hi : i < b) (hk : k < n) (x : Fr) :
    RowsIn (m.put (c i) (flat (frs ((rowM n M i).set k x)))) R c n b (setM M i k x) where
  head := by rw [Mem.put_other _ _ (fun e => h.ne i hi e.symm)]; exact h.head
  row := fun j hj => by
    by_cases e : j = i
    · subst e
      rw [Mem.put_same, rowM_set hk]
    · rw [Mem.put_other _ _ (fun e' => e (h.inj j i hj hi e')), rowM_other e]
      exact h.row j hj
  ne := h.ne
  inj := h.inj

theorem tells_map {α : Type} {m : Mem} {f g : α → PV} : ∀ {l : List α}, (∀ x ∈ l, Tell m (f x) (g x)) → Tells m (l.map f) (l.map g)
  | [], _ => .nil
  | x :: l, h => .cons (h x (by simp)) (tells_map fun y hy => h y (by simp [hy]))

/-- The rows, as values. -/
abbrev rowsV (n : Nat) (M : Nat → Nat → Fr) : PV := .sl true ((List.range n).map fun i => .sl false (frs (rowM n M i)))
theorem flat_one {l : List PV} (h : ∀ x ∈ l, x.cells = [x]) : flat l = l := by
  induction l with
  | nil => rfl
  | cons x l ih =>
    have e1 := h x (by simp)
    have e2 := ih fun y hy => h y (by simp [hy])
    simp only [flat, List.flatMap_cons, e1] at e2 ⊢
    rw [e2]
    rfl
theorem RowsIn.tell {m : Mem} {R : Nat} {c : Nat → Nat} {n : Nat} {M : Nat → Nat → Fr} (h : RowsIn m R c n n M) : Tell m (rawRow R n) (rowsV n M) := by
  have hf : flat ((List.range n).map fun i => PV.sl false (frs (rowM n M i))) = (List.range n).map fun i => PV.sl false (frs (rowM n M i)) := flat_one fun x hx => by
    obtain ⟨i, _, rfl⟩ := List.mem_map.1 hx
    rfl
  refine .row (sz := 1) h.head (fun x hx => ?_) (by simp) (by rw [hf, headR_length]; simp) (Nat.le_refl _) (fun _ => rfl) ?_
  · obtain ⟨i, _, rfl⟩ := List.mem_map.1 hx
    rfl
  · rw [hf, List.drop_zero, List.take_of_length_le (by rw [headR_length]; simp)]
    refine tells_map fun i hi => ?_
    have hi' := List.mem_range.1 hi
    rw [if_pos hi']
    have e := h.row i hi'
    rw [← List.append_nil (flat _)] at e
    have := tell_row (m := m) (b := c i) (cap := n) (q := 0) (l := rowM n M i) e (by simp [rowM_length])
    simpa [rowM_length] using this

/-! ### The root of a square -/
theorem slice_to {l : List Fr} {ex : Bool} {k : Nat} (h : k ≤ l.length) : sliceA 3 (frs l) ex none (some k) none = some (.sl (exA none ex k (frs l).length) (frs (l.take k))) := by
  unfold sliceA
  have hc : ((frs l).all fun e => e.cells.length == 3) = true := by simp [PV.cells]
  simp only [Option.getD_some, Option.getD_none]
  rw [if_pos ⟨by omega, by simpa using h, by simp, hc⟩]
  simp [List.map_take]

def leftM (n : Nat) (p : List Fr) (M : Nat → Nat → Fr) (i k : Nat) : Fr := subF (atF n n p i k) (dotF ((rowM n M i).take k) ((rowM n M k).take k))

theorem ok42 (e : Bool) (n : Nat) (hn : n ≤ 16) (p : List Fr) (M : Nat → Nat → Fr) (i k : Nat) (hi : i < n) (hk : k < n) :
    Ok Try.prog 42 [num i, num k, .vp [num n, num n, .sl e (frs p)], .vp [rowsV n M]] (frV (leftM n p M i k)) := by
  have h0 : (0 : Int) ≤ (i : Int) := by omega
  have h0' : (0 : Int) ≤ (k : Int) := by omega
  have g1 : ((List.range n).map fun i => PV.sl false (frs (rowM n M i)))[i]? = some (.sl false (frs (rowM n M i))) := by simp [hi]
  have g2 : ((List.range n).map fun i => PV.sl false (frs (rowM n M i)))[k]? = some (.sl false (frs (rowM n M k))) := by simp [hk]
  have s1 := slice_to (l := rowM n M i) (ex := false) (k := k) (by rw [rowM_length]; omega)
  have s2 := slice_to (l := rowM n M k) (ex := false) (k := k) (by rw [rowM_length]; omega)
  refine ok_fn mixed Try.func42 (code := ?_) (h := h42) ?_ k42 ?_
  rotate_left
  · exact rfl
  unfold h42 initS
  simp -implicitDefEqProofs only [rkA, stepA, valA, storeA, ldA, fieldAddrA, fieldA, idxAddrA, idxA, idxArr, lenA, unA, binA, num2, binV, eqA, rowOf, PV.cells, PV.cell, bndA, appA, reduceIte, reduceCtorEq, Nat.reduceAdd, Nat.reduceSub, Nat.reduceEqDiff, Nat.reduceLeDiff, Nat.reduceLT, Nat.reduceMul, Nat.reduceBEq, Nat.reduceBNe, Int.reduceToNat, Int.reduceLE, Int.reduceLT, allocX, setPs, extremeA, ints, resAll, rinfOk, packR, Try.ntmps42, Try.results42]
  refine call_fn rfl rfl rfl (ok40 e n n i k p) ?_
  simp -implicitDefEqProofs only [h0, h0', Int.toNat_natCast, g1, g2, s1, s2, rkA, stepA, valA, storeA, ldA, fieldAddrA, fieldA, idxAddrA, idxA, idxArr, lenA, unA, binA, num2, binV, eqA, rowOf, PV.cells, PV.cell, bndA, appA, reduceIte, reduceCtorEq, Nat.reduceAdd, Nat.reduceSub, Nat.reduceEqDiff, Nat.reduceLeDiff, Nat.reduceLT, Nat.reduceMul, Nat.reduceBEq, Nat.reduceBNe, Int.reduceToNat, Int.reduceLE, Int.reduceLT, allocX, setPs, extremeA, ints, resAll, rinfOk, packR]
  refine call_fn rfl rfl rfl (ok17 _ _ ((rowM n M i).take k) ((rowM n M k).take k) (by simp [rowM_length]; omega) (by simp [rowM_length]; omega)) ?_
  simp -implicitDefEqProofs only [rkA, stepA, valA, storeA, ldA, fieldAddrA, fieldA, idxAddrA, idxA, idxArr, lenA, unA, binA, num2, binV, eqA, rowOf, PV.cells, PV.cell, bndA, appA, reduceIte, reduceCtorEq, Nat.reduceAdd, Nat.reduceSub, Nat.reduceEqDiff, Nat.reduceLeDiff, Nat.reduceLT, Nat.reduceMul, Nat.reduceBEq, Nat.reduceBNe, Int.reduceToNat, Int.reduceLE, Int.reduceLT, allocX, setPs, extremeA, ints, resAll, rinfOk, packR]
  refine call_meth rfl rfl methSub (ok87 _ _) ?_
  simp -implicitDefEqProofs only [leftM, rkA, stepA, valA, storeA, ldA, fieldAddrA, fieldA, idxAddrA, idxA, idxArr, lenA, unA, binA, num2, binV, eqA, rowOf, PV.cells, PV.cell, bndA, appA, reduceIte, reduceCtorEq, Nat.reduceAdd, Nat.reduceSub, Nat.reduceEqDiff, Nat.reduceLeDiff, Nat.reduceLT, Nat.reduceMul, Nat.reduceBEq, Nat.reduceBNe, Int.reduceToNat, Int.reduceLE, Int.reduceLT, allocX, setPs, extremeA, ints, resAll, rinfOk, packR]

theorem ok43 (n : Nat) (M : Nat → Nat → Fr) (i k : Nat) (hi : i < n) (hk : k < n) :
    Ok Try.prog 43 [num i, num k, .vp [rowsV n M]] (frV (M i k)) := by
  have h0 : (0 : Int) ≤ (i : Int) := by omega
  have h0' : (0 : Int) ≤ (k : Int) := by omega
  have g1 : ((List.range n).map fun i => PV.sl false (frs (rowM n M i)))[i]? = some (.sl false (frs (rowM n M i))) := by simp [hi]
  have g2 : (frs (rowM n M i))[k]? = some (frV (M i k)) := by simp [rowM, hk]
  refine ok_fn mixed Try.func43 (code := ?_) (h := h43) ?_ k43 ?_
  rotate_left
  · exact rfl
  unfold h43 initS
  simp -implicitDefEqProofs only [rkA, stepA, valA, storeA, ldA, fieldAddrA, fieldA, idxAddrA, idxA, idxArr, lenA, unA, binA, num2, binV, eqA, rowOf, PV.cells, PV.cell, bndA, appA, reduceIte, reduceCtorEq, Nat.reduceAdd, Nat.reduceSub, Nat.reduceEqDiff, Nat.reduceLeDiff, Nat.reduceLT, Nat.reduceMul, Nat.reduceBEq, Nat.reduceBNe, Int.reduceToNat, Int.reduceLE, Int.reduceLT, allocX, setPs, extremeA, ints, resAll, rinfOk, packR, Try.ntmps43, Try.results43]
  simp -implicitDefEqProofs only [h0, h0', Int.toNat_natCast, g1, g2, rkA, stepA, valA, storeA, ldA, fieldAddrA, fieldA, idxAddrA, idxA, idxArr, lenA, unA, binA, num2, binV, eqA, rowOf, PV.cells, PV.cell, bndA, appA, reduceIte, reduceCtorEq, Nat.reduceAdd, Nat.reduceSub, Nat.reduceEqDiff, Nat.reduceLeDiff, Nat.reduceLT, Nat.reduceMul, Nat.reduceBEq, Nat.reduceBNe, Int.reduceToNat, Int.reduceLE, Int.reduceLT, allocX, setPs, extremeA, ints, resAll, rinfOk, packR]

theorem methRoot : Meth Try.prog 31 "Root" 86 := by
  intro v xs w
  rfl

def stepD (n : Nat) (p : List Fr) (M : Nat → Nat → Fr) (k : Nat) : Nat → Nat → Fr := setM M k k (rootF (leftM n p M k k))
/-- One column: k + 1 rows below its diagonal are done for every one counted. -/
def colS (n : Nat) (p : List Fr) (k : Nat) (M : Nat → Nat → Fr) : Nat → Nat → Nat → Fr
  | 0 => stepD n p M k
  | j + 1 => setM (colS n p k M j) (k + 1 + j) k (divF (leftM n p (colS n p k M j) (k + 1 + j) k) (colS n p k M j k k))
def rootS (n : Nat) (p : List Fr) : Nat → Nat → Nat → Fr
  | 0 => fun _ _ => newF 0 1
  | k + 1 => colS n p k (rootS n p k) (n - (k + 1))
def rootMat (n : Nat) (p : List Fr) : List Fr := gridP (rootS n p n) n n 0
/-- While the rows are made: noughts so far, zero values behind. -/
def zeroM (i k : Nat) : Nat → Nat → Fr := fun a b => if a < i ∨ a = i ∧ b < k then newF 0 1 else ⟨0, 0, false⟩

abbrev bxR (e : Bool) (n : Nat) (p : List Fr) (R : Nat) : List (Nat × List TV) := [(1, [nt n, nt n, .v (.sl e (frs p))]), (2, [nt 0, nt 0, .acc 3002 []]), (4, [nt 0, nt 0, .v (tru false)]), (5, [.v (rawRow R n)])]

abbrev leftV (e : Bool) (n : Nat) (p : List Fr) (R : Nat) : PV := .fn (.func 42) [.vp [num n, num n, .sl e (frs p)], .vp [rawRow R n]]
theorem leftT {m : Mem} {R : Nat} {c : Nat → Nat} {n : Nat} {M : Nat → Nat → Fr} {e : Bool} {p : List Fr} {i k : Nat} (h : RowsIn m R c n n M) :
    Tells m ([num i, num k] ++ [.vp [num n, num n, .sl e (frs p)], .vp [rawRow R n]]) [num i, num k, .vp [num n, num n, .sl e (frs p)], .vp [rowsV n M]] :=
  .cons (.same _) (.cons (.same _) (.cons (.same _) (.cons (.vpIn (.cons h.tell .nil)) .nil)))

theorem RowsIn.head0 {m : Mem} {R n : Nat} {c : Nat → Nat} {M : Nat → Nat → Fr} : RowsIn (m.put R (List.replicate n [PV.s (.slice none 0 0)]).flatten) R c n 0 M where
  head := by
    rw [Mem.put_same]
    congr 1
    apply List.ext_getElem?
    intro j
    have : (List.replicate n [PV.s (.slice none 0 0)]).flatten = List.replicate n nilRow := by
      induction n with
      | zero => rfl
      | succ n ih => rw [List.replicate_succ, List.replicate_succ, List.flatten_cons, ih]; rfl
    rw [this]
    by_cases h : j < n
    · simp [headR, h]
    · rw [List.getElem?_eq_none (by simp; omega), List.getElem?_eq_none (by simp [headR]; omega)]
  row := fun i h => by omega
  ne := fun i h => by omega
  inj := fun i j h => by omega

theorem flat_zeros : ∀ (n : Nat), (List.replicate n [num 0, num 0, tru false]).flatten = flat (frs (List.replicate n (⟨0, 0, false⟩ : Fr)))
  | 0 => rfl
  | n + 1 => by
    rw [List.replicate_succ, List.flatten_cons, flat_zeros n]
    rfl
theorem zero_row (n i : Nat) : rowM n (zeroM i 0) i = List.replicate n ⟨0, 0, false⟩ := by
  apply List.ext_getElem?
  intro j
  by_cases h : j < n
  · rw [rowM_get h]; simp [zeroM, h]
  · rw [List.getElem?_eq_none (by rw [rowM_length]; omega), List.getElem?_eq_none (by simp; omega)]
theorem headR_set {n i b : Nat} {c : Nat → Nat} (h : i < n) : (headR n i c).set i (rawRow b n) = headR n (i + 1) (fun j => if j = i then b else c j) := by
  apply List.ext_getElem?
  intro j
  rw [List.getElem?_set]
  by_cases hj : j < n
  · by_cases e : i = j
    · subst e
      simp [headR, h]
    · rw [if_neg e]
      have e1 : ¬ j = i := fun h => e h.symm
      have e2 : (j < i + 1) = (j < i) := by apply propext; omega
      simp [headR, hj, e1, e2]
  · rw [if_neg (by omega), List.getElem?_eq_none (by rw [headR_length]; omega), List.getElem?_eq_none (by rw [headR_length]; omega)]
theorem RowsIn.grow {m : Mem} {R : Nat} {c : Nat → Nat} {n i b : Nat} (h : RowsIn m R c n i (zeroM i 0)) (hi : i < n) (hb : m b = none) :
    RowsIn ((m.put b (flat (frs (List.replicate n (⟨0, 0, false⟩ : Fr))))).put R (headR n (i + 1) (fun j => if j = i then b else c j))) R (fun j => if j = i then b else c j) n (i + 1) (zeroM i 0) := by
  have hRb : R ≠ b := fun e => by have := h.head; rw [e, hb] at this; cases this
  have hcb : ∀ j, j < i → c j ≠ b := fun j hj e => by have := h.row j hj; rw [e, hb] at this; cases this
  refine ⟨Mem.put_same _ _ _, fun j hj => ?_, fun j hj => ?_, fun j k hj hk => ?_⟩
  · by_cases e : j = i
    · subst e
      rw [if_pos rfl, Mem.put_other _ _ (fun e => hRb e.symm), Mem.put_same, zero_row]
    · rw [if_neg e, Mem.put_other _ _ (h.ne j (by omega)), Mem.put_other _ _ (hcb j (by omega))]
      exact h.row j (by omega)
  · by_cases e : j = i
    · rw [if_pos e]; exact fun e => hRb e.symm
    · rw [if_neg e]; exact h.ne j (by omega)
  · by_cases e : j = i <;> by_cases e' : k = i
    · intro _; omega
    · rw [if_pos e, if_neg e']
      exact fun h1 => absurd h1.symm (hcb k (by omega))
    · rw [if_neg e, if_pos e']
      exact fun h1 => absurd h1 (hcb j (by omega))
    · rw [if_neg e, if_neg e']
      exact h.inj j k (by omega) (by omega)
theorem zeroM_step (i k : Nat) : setM (zeroM i k) i k (newF 0 1) = zeroM i (k + 1) := by
  funext a b
  unfold setM zeroM
  by_cases h1 : a = i ∧ b = k
  · rw [if_pos h1, if_pos (.inr ⟨h1.1, by omega⟩)]
  · rw [if_neg h1]
    by_cases h2 : a < i ∨ a = i ∧ b < k
    · rw [if_pos h2, if_pos (by omega)]
    · rw [if_neg h2, if_neg (by omega)]
theorem RowsIn.congr {m : Mem} {R : Nat} {c : Nat → Nat} {n b : Nat} {M N : Nat → Nat → Fr} (h : RowsIn m R c n b M) (hMN : ∀ i k, i < b → k < n → M i k = N i k) : RowsIn m R c n b N :=
  ⟨h.head, fun i hi => by
    have e : rowM n N i = rowM n M i := by
      unfold rowM
      exact List.map_congr_left fun k hk => (hMN i k hi (List.mem_range.1 hk)).symm
    rw [e]
    exact h.row i hi, h.ne, h.inj⟩

theorem ok15 (n : Nat) (hn : 1 ≤ n ∧ n ≤ 16) (e : Bool) (p : List Fr) (hp : p.length = n * n) : Ok Try.prog 15 [matV e n n (frs p)] (.tup [matV false n n (frs (rootMat n p)), tru true]) := by
  have hr : right (n : Int) (n : Int) p.length = true := by
    simp only [right, Bool.and_eq_true, decide_eq_true_eq, beq_iff_eq]
    exact ⟨⟨by omega, by omega⟩, ⟨by omega, by omega⟩, by rw [hp, Int.natCast_mul]⟩
  have hsq : (right (n : Int) (n : Int) p.length && ((n : Int) == n)) = true := by rw [hr]; simp
  refine okt_fn mixed Try.func15 (code := ?_) (h := h15) ?_ k15 ?_
  rotate_left
  · exact rfl
  unfold h15 initS
  simp -implicitDefEqProofs only [rkA, stepA, valA, storeA, ldA, fieldAddrA, fieldA, idxAddrA, idxA, idxArr, lenA, unA, binA, num2, binV, eqA, rowOf, PV.cells, PV.cell, bndA, appA, reduceIte, reduceCtorEq, Nat.reduceAdd, Nat.reduceSub, Nat.reduceEqDiff, Nat.reduceLeDiff, Nat.reduceLT, Nat.reduceMul, Nat.reduceBEq, Nat.reduceBNe, Int.reduceToNat, Int.reduceLE, Int.reduceLT, allocX, setPs, extremeA, ints, resAll, rinfOk, packR, Try.ntmps15, Try.results15]
  have h904 := ok37 e n n p
  rw [hsq] at h904
  refine call_fn rfl rfl rfl (h904) ?_
  simp -implicitDefEqProofs only [rkA, stepA, valA, storeA, ldA, fieldAddrA, fieldA, idxAddrA, idxA, idxArr, lenA, unA, binA, num2, binV, eqA, rowOf, PV.cells, PV.cell, bndA, appA, reduceIte, reduceCtorEq, Nat.reduceAdd, Nat.reduceSub, Nat.reduceEqDiff, Nat.reduceLeDiff, Nat.reduceLT, Nat.reduceMul, Nat.reduceBEq, Nat.reduceBNe, Int.reduceToNat, Int.reduceLE, Int.reduceLT, allocX, setPs, extremeA, ints, resAll, rinfOk, packR]
  refine new_make (T := 24) (N := 1) rfl rfl rfl rfl rfl (by omega) (by omega) (by omega) ?_
  intro R hR
  simp -implicitDefEqProofs only [Int.toNat_natCast, rkA, stepA, valA, storeA, ldA, fieldAddrA, fieldA, idxAddrA, idxA, idxArr, lenA, unA, binA, num2, binV, eqA, rowOf, PV.cells, PV.cell, bndA, appA, reduceIte, reduceCtorEq, Nat.reduceAdd, Nat.reduceSub, Nat.reduceEqDiff, Nat.reduceLeDiff, Nat.reduceLT, Nat.reduceMul, Nat.reduceBEq, Nat.reduceBNe, Int.reduceToNat, Int.reduceLE, Int.reduceLT, allocX, setPs, extremeA, ints, resAll, rinfOk, packR]
  refine wp_loop (fun m s => ∃ (i : Nat) (mm : Mem) (c : Nat → Nat), i + m = n ∧ RowsIn mm R c n i (zeroM i 0) ∧ s = ⟨[jk, .ptr 1 0, .ptr 2 0, jk, .ptr 4 0, .ptr 5 0, jk, jk, jk, jk, jk, jk, jk, jk, jk, jk, jk, jk, jk, nt n, nt i, jk, jk, jk, jk, jk, jk, jk, jk, jk, jk, jk, jk, jk, jk, jk, jk, jk, jk, jk, jk, jk, jk, jk, jk, jk, jk, jk, jk, jk, jk, jk, jk, jk, jk, jk, jk, jk, jk, jk, jk, jk, jk, jk, jk, jk, jk, jk, jk, jk, jk, jk, jk, jk, jk, jk, jk, jk, jk, jk, jk, jk, jk, jk, jk, jk, jk, jk, jk, jk, jk, jk, jk, jk, jk, jk, jk, jk, jk, jk], bxR e n p R, [], [(1005, 0), (3002, 0)], [], 0, mm⟩) n ?_ ?_
  · simp -implicitDefEqProofs only [rkA, stepA, valA, storeA, ldA, fieldAddrA, fieldA, idxAddrA, idxA, idxArr, lenA, unA, binA, num2, binV, eqA, rowOf, PV.cells, PV.cell, bndA, appA, reduceIte, reduceCtorEq, Nat.reduceAdd, Nat.reduceSub, Nat.reduceEqDiff, Nat.reduceLeDiff, Nat.reduceLT, Nat.reduceMul, Nat.reduceBEq, Nat.reduceBNe, Int.reduceToNat, Int.reduceLE, Int.reduceLT, allocX, setPs, extremeA, ints, resAll, rinfOk, packR]
    exact ⟨0, _, fun _ => 0, by simp, RowsIn.head0, rfl⟩
  rintro m s ⟨i, mm, c, hi, hM, rfl⟩
  simp -implicitDefEqProofs only [rkA, stepA, valA, storeA, ldA, fieldAddrA, fieldA, idxAddrA, idxA, idxArr, lenA, unA, binA, num2, binV, eqA, rowOf, PV.cells, PV.cell, bndA, appA, reduceIte, reduceCtorEq, Nat.reduceAdd, Nat.reduceSub, Nat.reduceEqDiff, Nat.reduceLeDiff, Nat.reduceLT, Nat.reduceMul, Nat.reduceBEq, Nat.reduceBNe, Int.reduceToNat, Int.reduceLE, Int.reduceLT, allocX, setPs, extremeA, ints, resAll, rinfOk, packR]
  refine gB_dec ?_ ?_ <;> intro hc <;> simp -implicitDefEqProofs only [hc, rkA, stepA, valA, storeA, ldA, fieldAddrA, fieldA, idxAddrA, idxA, idxArr, lenA, unA, binA, num2, binV, eqA, rowOf, PV.cells, PV.cell, bndA, appA, reduceIte, reduceCtorEq, Nat.reduceAdd, Nat.reduceSub, Nat.reduceEqDiff, Nat.reduceLeDiff, Nat.reduceLT, Nat.reduceMul, Nat.reduceBEq, Nat.reduceBNe, Int.reduceToNat, Int.reduceLE, Int.reduceLT, allocX, setPs, extremeA, ints, resAll, rinfOk, packR]
  · refine new_make (T := 24) (N := 3) rfl rfl rfl rfl rfl (by omega) (by omega) (by omega) ?_
    intro b hb
    have hi' : i < n := by omega
    have h0 : (0 : Int) ≤ (i : Int) := by omega
    have hRb : R ≠ b := fun e => by have h1 := hM.head; have h2 : mm b = none := hb; rw [e, h2] at h1; cases h1
    have hRm := fun x => (Mem.put_other mm x hRb).trans hM.head
    have hst := stM_one (cells := headR n i c) (x := rawRow b n) (i := i) (by rw [headR_length]; exact hi') rfl rfl
    have hG := hM.grow hi' hb
    have hgt := headR_get (n := n) (b := i + 1) (c := fun j => if j = i then b else c j) (i := i) hi' (by omega)
    have hld := ldM_one hgt
    simp -implicitDefEqProofs only [h0, hc, Int.toNat_natCast, Nat.mul_one, hRm, hst, headR_set hi', hld, flat_zeros, rkA, stepA, valA, storeA, ldA, fieldAddrA, fieldA, idxAddrA, idxA, idxArr, lenA, unA, binA, num2, binV, eqA, rowOf, PV.cells, PV.cell, bndA, appA, reduceIte, reduceCtorEq, Nat.reduceAdd, Nat.reduceSub, Nat.reduceEqDiff, Nat.reduceLeDiff, Nat.reduceLT, Nat.reduceMul, Nat.reduceBEq, Nat.reduceBNe, Int.reduceToNat, Int.reduceLE, Int.reduceLT, allocX, setPs, extremeA, ints, resAll, rinfOk, packR]
    clear hRm hst hb hRb hM
    generalize (mm.put b _).put R _ = mm2 at hG ⊢
    have hci : (fun j => if j = i then b else c j) i = b := if_pos rfl
    generalize (fun j => if j = i then b else c j) = c2 at hG hgt hld hci ⊢
    refine wp_loop (fun m s => ∃ (k : Nat) (mm : Mem), k + m = n ∧ RowsIn mm R c2 n (i + 1) (zeroM i k) ∧ s = ⟨[jk, .ptr 1 0, .ptr 2 0, jk, .ptr 4 0, .ptr 5 0, nt i, jk, jk, jk, jk, jk, jk, jk, jk, jk, jk, jk, jk, nt n, nt i, jk, jk, jk, jk, jk, jk, jk, jk, jk, jk, jk, jk, nt n, nt k, jk, jk, jk, jk, jk, jk, jk, jk, jk, jk, jk, jk, jk, jk, jk, jk, jk, jk, jk, jk, jk, jk, jk, jk, jk, jk, jk, jk, jk, jk, jk, jk, jk, jk, jk, jk, jk, jk, jk, jk, jk, jk, jk, jk, jk, jk, jk, jk, jk, jk, jk, jk, jk, jk, jk, jk, jk, jk, jk, jk, jk, jk, jk, jk, jk], bxR e n p R, [], [(1005, 0), (3002, 0)], [], 0, mm⟩) n ?_ ?_
    · simp -implicitDefEqProofs only [rkA, stepA, valA, storeA, ldA, fieldAddrA, fieldA, idxAddrA, idxA, idxArr, lenA, unA, binA, num2, binV, eqA, rowOf, PV.cells, PV.cell, bndA, appA, reduceIte, reduceCtorEq, Nat.reduceAdd, Nat.reduceSub, Nat.reduceEqDiff, Nat.reduceLeDiff, Nat.reduceLT, Nat.reduceMul, Nat.reduceBEq, Nat.reduceBNe, Int.reduceToNat, Int.reduceLE, Int.reduceLT, allocX, setPs, extremeA, ints, resAll, rinfOk, packR]
      exact ⟨0, _, by simp, hG, rfl⟩
    clear hG mm2
    rintro m' s ⟨k, mm2, hk, hM, rfl⟩
    simp -implicitDefEqProofs only [rkA, stepA, valA, storeA, ldA, fieldAddrA, fieldA, idxAddrA, idxA, idxArr, lenA, unA, binA, num2, binV, eqA, rowOf, PV.cells, PV.cell, bndA, appA, reduceIte, reduceCtorEq, Nat.reduceAdd, Nat.reduceSub, Nat.reduceEqDiff, Nat.reduceLeDiff, Nat.reduceLT, Nat.reduceMul, Nat.reduceBEq, Nat.reduceBNe, Int.reduceToNat, Int.reduceLE, Int.reduceLT, allocX, setPs, extremeA, ints, resAll, rinfOk, packR]
    refine gB_dec ?_ ?_ <;> intro hc2 <;> simp -implicitDefEqProofs only [hc2, rkA, stepA, valA, storeA, ldA, fieldAddrA, fieldA, idxAddrA, idxA, idxArr, lenA, unA, binA, num2, binV, eqA, rowOf, PV.cells, PV.cell, bndA, appA, reduceIte, reduceCtorEq, Nat.reduceAdd, Nat.reduceSub, Nat.reduceEqDiff, Nat.reduceLeDiff, Nat.reduceLT, Nat.reduceMul, Nat.reduceBEq, Nat.reduceBNe, Int.reduceToNat, Int.reduceLE, Int.reduceLT, allocX, setPs, extremeA, ints, resAll, rinfOk, packR]
    · have hk' : k < n := by omega
      have h0k : (0 : Int) ≤ (k : Int) := by omega
      have hh := hM.head
      have hrow := hM.row i (by omega)
      have hsto := hM.store (i := i) (by omega) hk' (newF 0 1)
      rw [hci] at hrow hsto
      have hlr : (rowM n (zeroM i k) i).length = n := rowM_length _ _ _
      have hst := stM_fr (l := rowM n (zeroM i k) i) (k := k) (x := newF 0 1) (by rw [hlr]; exact hk')
      have hw := wrapped (x := (k : Int) + 1) (by omega) (by omega)
      simp -implicitDefEqProofs only [h0, h0k, hc, hc2, Int.toNat_natCast, Nat.mul_one, hh, hld, rkA, stepA, valA, storeA, ldA, fieldAddrA, fieldA, idxAddrA, idxA, idxArr, lenA, unA, binA, num2, binV, eqA, rowOf, PV.cells, PV.cell, bndA, appA, reduceIte, reduceCtorEq, Nat.reduceAdd, Nat.reduceSub, Nat.reduceEqDiff, Nat.reduceLeDiff, Nat.reduceLT, Nat.reduceMul, Nat.reduceBEq, Nat.reduceBNe, Int.reduceToNat, Int.reduceLE, Int.reduceLT, allocX, setPs, extremeA, ints, resAll, rinfOk, packR]
      refine call_meth rfl rfl methOf (ok85 ⟨0, 0, false⟩ 0) ?_
      simp -implicitDefEqProofs only [h0k, hc2, Int.toNat_natCast, hrow, hst, hw, rkA, stepA, valA, storeA, ldA, fieldAddrA, fieldA, idxAddrA, idxA, idxArr, lenA, unA, binA, num2, binV, eqA, rowOf, PV.cells, PV.cell, bndA, appA, reduceIte, reduceCtorEq, Nat.reduceAdd, Nat.reduceSub, Nat.reduceEqDiff, Nat.reduceLeDiff, Nat.reduceLT, Nat.reduceMul, Nat.reduceBEq, Nat.reduceBNe, Int.reduceToNat, Int.reduceLE, Int.reduceLT, allocX, setPs, extremeA, ints, resAll, rinfOk, packR]
      refine loopK_of (m' := m' - 1) (by omega) ?_
      simp -implicitDefEqProofs only [rkA, stepA, valA, storeA, ldA, fieldAddrA, fieldA, idxAddrA, idxA, idxArr, lenA, unA, binA, num2, binV, eqA, rowOf, PV.cells, PV.cell, bndA, appA, reduceIte, reduceCtorEq, Nat.reduceAdd, Nat.reduceSub, Nat.reduceEqDiff, Nat.reduceLeDiff, Nat.reduceLT, Nat.reduceMul, Nat.reduceBEq, Nat.reduceBNe, Int.reduceToNat, Int.reduceLE, Int.reduceLT, allocX, setPs, extremeA, ints, resAll, rinfOk, packR]
      refine ⟨k + 1, _, by omega, ?_, by simp only [Int.natCast_add, Int.natCast_one]; rfl⟩
      rw [← zeroM_step]
      exact hsto
    · have hkn : k = n := by omega
      subst hkn
      have hw := wrapped (x := (i : Int) + 1) (by omega) (by omega)
      simp -implicitDefEqProofs only [hw, rkA, stepA, valA, storeA, ldA, fieldAddrA, fieldA, idxAddrA, idxA, idxArr, lenA, unA, binA, num2, binV, eqA, rowOf, PV.cells, PV.cell, bndA, appA, reduceIte, reduceCtorEq, Nat.reduceAdd, Nat.reduceSub, Nat.reduceEqDiff, Nat.reduceLeDiff, Nat.reduceLT, Nat.reduceMul, Nat.reduceBEq, Nat.reduceBNe, Int.reduceToNat, Int.reduceLE, Int.reduceLT, allocX, setPs, extremeA, ints, resAll, rinfOk, packR]
      refine loopK_of (m' := m - 1) (by omega) ?_
      simp -implicitDefEqProofs only [rkA, stepA, valA, storeA, ldA, fieldAddrA, fieldA, idxAddrA, idxA, idxArr, lenA, unA, binA, num2, binV, eqA, rowOf, PV.cells, PV.cell, bndA, appA, reduceIte, reduceCtorEq, Nat.reduceAdd, Nat.reduceSub, Nat.reduceEqDiff, Nat.reduceLeDiff, Nat.reduceLT, Nat.reduceMul, Nat.reduceBEq, Nat.reduceBNe, Int.reduceToNat, Int.reduceLE, Int.reduceLT, allocX, setPs, extremeA, ints, resAll, rinfOk, packR]
      refine ⟨i + 1, mm2, c2, by omega, hM.congr fun a b ha hb => ?_, by simp only [Int.natCast_add, Int.natCast_one]⟩
      unfold zeroM
      rw [if_pos (by omega), if_pos (by omega)]
  · have : i = n := by omega
    subst this
    have hM0 : RowsIn mm R c i i (rootS i p 0) := hM.congr fun a b ha hb => by
      unfold zeroM rootS
      rw [if_pos (by omega)]
    clear hM
    refine wp_loop (fun m s => ∃ (k : Nat) (mm : Mem), k + m = i ∧ RowsIn mm R c i i (rootS i p k) ∧ s = ⟨[jk, .ptr 1 0, .ptr 2 0, jk, jk, .ptr 5 0, jk, jk, .v (leftV e i p R), jk, jk, jk, jk, jk, jk, jk, jk, jk, jk, jk, jk, jk, jk, jk, jk, jk, jk, jk, jk, jk, jk, jk, jk, jk, jk, jk, jk, jk, jk, jk, jk, jk, jk, jk, jk, jk, jk, jk, jk, jk, nt i, nt k, jk, jk, jk, jk, jk, jk, jk, jk, jk, jk, jk, jk, jk, jk, jk, jk, jk, jk, jk, jk, jk, jk, jk, jk, jk, jk, jk, jk, jk, jk, jk, jk, jk, jk, jk, jk, jk, jk, jk, jk, jk, jk, jk, jk, jk, jk, jk, jk],
      [(2, [nt 0, nt 0, .acc 3002 []]), (4, [nt 0, nt 0, .v (tru false)])], [(1, [num i, num i, .sl e (frs p)]), (5, [rawRow R i])], [(1005, 0), (3002, 0)], [], 0, mm⟩) i ?_ ?_
    · simp -implicitDefEqProofs only [rkA, stepA, valA, storeA, ldA, fieldAddrA, fieldA, idxAddrA, idxA, idxArr, lenA, unA, binA, num2, binV, eqA, rowOf, PV.cells, PV.cell, bndA, appA, reduceIte, reduceCtorEq, Nat.reduceAdd, Nat.reduceSub, Nat.reduceEqDiff, Nat.reduceLeDiff, Nat.reduceLT, Nat.reduceMul, Nat.reduceBEq, Nat.reduceBNe, Int.reduceToNat, Int.reduceLE, Int.reduceLT, allocX, setPs, extremeA, ints, resAll, rinfOk, packR]
      exact ⟨0, _, by simp, hM0, rfl⟩
    clear hM0 mm
    rintro m' s ⟨k, mm, hk, hM, rfl⟩
    simp -implicitDefEqProofs only [rkA, stepA, valA, storeA, ldA, fieldAddrA, fieldA, idxAddrA, idxA, idxArr, lenA, unA, binA, num2, binV, eqA, rowOf, PV.cells, PV.cell, bndA, appA, reduceIte, reduceCtorEq, Nat.reduceAdd, Nat.reduceSub, Nat.reduceEqDiff, Nat.reduceLeDiff, Nat.reduceLT, Nat.reduceMul, Nat.reduceBEq, Nat.reduceBNe, Int.reduceToNat, Int.reduceLE, Int.reduceLT, allocX, setPs, extremeA, ints, resAll, rinfOk, packR]
    refine gB_dec ?_ ?_ <;> intro hc2 <;> simp -implicitDefEqProofs only [hc2, rkA, stepA, valA, storeA, ldA, fieldAddrA, fieldA, idxAddrA, idxA, idxArr, lenA, unA, binA, num2, binV, eqA, rowOf, PV.cells, PV.cell, bndA, appA, reduceIte, reduceCtorEq, Nat.reduceAdd, Nat.reduceSub, Nat.reduceEqDiff, Nat.reduceLeDiff, Nat.reduceLT, Nat.reduceMul, Nat.reduceBEq, Nat.reduceBNe, Int.reduceToNat, Int.reduceLE, Int.reduceLT, allocX, setPs, extremeA, ints, resAll, rinfOk, packR]
    · have hk' : k < i := by omega
      have h0k : (0 : Int) ≤ (k : Int) := by omega
      have hh := hM.head
      have hld := ldM_one (headR_get (n := i) (b := i) (c := c) (i := k) hk' hk')
      simp -implicitDefEqProofs only [h0k, hc2, Int.toNat_natCast, Nat.mul_one, hh, hld, rkA, stepA, valA, storeA, ldA, fieldAddrA, fieldA, idxAddrA, idxA, idxArr, lenA, unA, binA, num2, binV, eqA, rowOf, PV.cells, PV.cell, bndA, appA, reduceIte, reduceCtorEq, Nat.reduceAdd, Nat.reduceSub, Nat.reduceEqDiff, Nat.reduceLeDiff, Nat.reduceLT, Nat.reduceMul, Nat.reduceBEq, Nat.reduceBNe, Int.reduceToNat, Int.reduceLE, Int.reduceLT, allocX, setPs, extremeA, ints, resAll, rinfOk, packR]
      refine lend_fn rfl rfl (leftT (i := k) (k := k) hM) (ok42 e i (by omega) p _ k k hk' hk') rfl ?_
      simp -implicitDefEqProofs only [rkA, stepA, valA, storeA, ldA, fieldAddrA, fieldA, idxAddrA, idxA, idxArr, lenA, unA, binA, num2, binV, eqA, rowOf, PV.cells, PV.cell, bndA, appA, reduceIte, reduceCtorEq, Nat.reduceAdd, Nat.reduceSub, Nat.reduceEqDiff, Nat.reduceLeDiff, Nat.reduceLT, Nat.reduceMul, Nat.reduceBEq, Nat.reduceBNe, Int.reduceToNat, Int.reduceLE, Int.reduceLT, allocX, setPs, extremeA, ints, resAll, rinfOk, packR]
      refine call_meth rfl rfl methRoot (ok86 _) ?_
      have hw := wrapped (x := (k : Int) + 1) (by omega) (by omega)
      have hrow := hM.row k hk'
      have hst := stM_fr (l := rowM i (rootS i p k) k) (k := k) (x := rootF (leftM i p (rootS i p k) k k)) (by rw [rowM_length]; exact hk')
      have hsto := hM.store (i := k) hk' hk' (rootF (leftM i p (rootS i p k) k k))
      simp -implicitDefEqProofs only [h0k, hc2, Int.toNat_natCast, hrow, hst, hw, rkA, stepA, valA, storeA, ldA, fieldAddrA, fieldA, idxAddrA, idxA, idxArr, lenA, unA, binA, num2, binV, eqA, rowOf, PV.cells, PV.cell, bndA, appA, reduceIte, reduceCtorEq, Nat.reduceAdd, Nat.reduceSub, Nat.reduceEqDiff, Nat.reduceLeDiff, Nat.reduceLT, Nat.reduceMul, Nat.reduceBEq, Nat.reduceBNe, Int.reduceToNat, Int.reduceLE, Int.reduceLT, allocX, setPs, extremeA, ints, resAll, rinfOk, packR]
      have hk1 : (k : Int) + 1 = ((k + 1 : Nat) : Int) := by simp
      simp only [hk1]
      clear hM hh hst hrow hw
      refine wp_loop (fun m s => ∃ (j : Nat) (mm : Mem), k + 1 + j + m = i ∧ RowsIn mm R c i i (colS i p k (rootS i p k) j) ∧ s = ⟨[jk, .ptr 1 0, .ptr 2 0, jk, jk, .ptr 5 0, jk, jk, .v (leftV e i p R), nt k, nt (k + 1 + j : Nat), jk, jk, jk, jk, jk, jk, jk, jk, jk, jk, jk, jk, jk, jk, jk, jk, jk, jk, jk, jk, jk, jk, jk, jk, jk, jk, jk, jk, jk, jk, jk, jk, jk, jk, jk, jk, jk, jk, jk, nt i, nt k, jk, jk, jk, jk, jk, jk, jk, jk, jk, jk, jk, jk, jk, jk, jk, jk, jk, jk, jk, jk, jk, jk, jk, jk, jk, jk, jk, jk, jk, jk, jk, jk, jk, jk, jk, jk, jk, jk, jk, jk, jk, jk, jk, jk, jk, jk, jk, jk],
        [(2, [nt 0, nt 0, .acc 3002 []]), (4, [nt 0, nt 0, .v (tru false)])], [(1, [num i, num i, .sl e (frs p)]), (5, [rawRow R i])], [(1005, 0), (3002, 0)], [], 0, mm⟩) (i - (k + 1)) ?_ ?_
      · simp -implicitDefEqProofs only [rkA, stepA, valA, storeA, ldA, fieldAddrA, fieldA, idxAddrA, idxA, idxArr, lenA, unA, binA, num2, binV, eqA, rowOf, PV.cells, PV.cell, bndA, appA, reduceIte, reduceCtorEq, Nat.reduceAdd, Nat.reduceSub, Nat.reduceEqDiff, Nat.reduceLeDiff, Nat.reduceLT, Nat.reduceMul, Nat.reduceBEq, Nat.reduceBNe, Int.reduceToNat, Int.reduceLE, Int.reduceLT, allocX, setPs, extremeA, ints, resAll, rinfOk, packR]
        exact ⟨0, _, by omega, hsto, rfl⟩
      clear hsto mm
      rintro m2 s ⟨j, mm, hj, hM, rfl⟩
      simp -implicitDefEqProofs only [rkA, stepA, valA, storeA, ldA, fieldAddrA, fieldA, idxAddrA, idxA, idxArr, lenA, unA, binA, num2, binV, eqA, rowOf, PV.cells, PV.cell, bndA, appA, reduceIte, reduceCtorEq, Nat.reduceAdd, Nat.reduceSub, Nat.reduceEqDiff, Nat.reduceLeDiff, Nat.reduceLT, Nat.reduceMul, Nat.reduceBEq, Nat.reduceBNe, Int.reduceToNat, Int.reduceLE, Int.reduceLT, allocX, setPs, extremeA, ints, resAll, rinfOk, packR]
      refine gB_dec ?_ ?_ <;> intro hc3 <;> simp -implicitDefEqProofs only [hc3, rkA, stepA, valA, storeA, ldA, fieldAddrA, fieldA, idxAddrA, idxA, idxArr, lenA, unA, binA, num2, binV, eqA, rowOf, PV.cells, PV.cell, bndA, appA, reduceIte, reduceCtorEq, Nat.reduceAdd, Nat.reduceSub, Nat.reduceEqDiff, Nat.reduceLeDiff, Nat.reduceLT, Nat.reduceMul, Nat.reduceBEq, Nat.reduceBNe, Int.reduceToNat, Int.reduceLE, Int.reduceLT, allocX, setPs, extremeA, ints, resAll, rinfOk, packR]
      · have hi' : k + 1 + j < i := by omega
        have h0i : (0 : Int) ≤ ((k + 1 + j : Nat) : Int) := by omega
        have hh := hM.head
        have hldi := ldM_one (headR_get (n := i) (b := i) (c := c) (i := k + 1 + j) hi' hi')
        simp -implicitDefEqProofs only [h0k, hc2, h0i, hc3, Int.toNat_natCast, Nat.mul_one, hh, hldi, hld, rkA, stepA, valA, storeA, ldA, fieldAddrA, fieldA, idxAddrA, idxA, idxArr, lenA, unA, binA, num2, binV, eqA, rowOf, PV.cells, PV.cell, bndA, appA, reduceIte, reduceCtorEq, Nat.reduceAdd, Nat.reduceSub, Nat.reduceEqDiff, Nat.reduceLeDiff, Nat.reduceLT, Nat.reduceMul, Nat.reduceBEq, Nat.reduceBNe, Int.reduceToNat, Int.reduceLE, Int.reduceLT, allocX, setPs, extremeA, ints, resAll, rinfOk, packR]
        refine lend_fn rfl rfl (leftT (i := k + 1 + j) (k := k) hM) (ok42 e i (by omega) p _ (k + 1 + j) k hi' hk') rfl ?_
        have hrk := hM.row k hk'
        have hlf := ldM_fr (rowM_get (n := i) (M := colS i p k (rootS i p k) j) (i := k) (k := k) hk')
        simp -implicitDefEqProofs only [h0k, hc2, h0i, hc3, Int.toNat_natCast, Nat.mul_one, hh, hldi, hld, hrk, hlf, rkA, stepA, valA, storeA, ldA, fieldAddrA, fieldA, idxAddrA, idxA, idxArr, lenA, unA, binA, num2, binV, eqA, rowOf, PV.cells, PV.cell, bndA, appA, reduceIte, reduceCtorEq, Nat.reduceAdd, Nat.reduceSub, Nat.reduceEqDiff, Nat.reduceLeDiff, Nat.reduceLT, Nat.reduceMul, Nat.reduceBEq, Nat.reduceBNe, Int.reduceToNat, Int.reduceLE, Int.reduceLT, allocX, setPs, extremeA, ints, resAll, rinfOk, packR]
        refine call_meth rfl rfl methDiv (ok82 _ _) ?_
        have hw := wrapped (x := ((k + 1 + j : Nat) : Int) + 1) (by omega) (by omega)
        have hrow := hM.row _ hi'
        have hst := stM_fr (l := rowM i (colS i p k (rootS i p k) j) (k + 1 + j)) (k := k) (x := divF (leftM i p (colS i p k (rootS i p k) j) (k + 1 + j) k) (colS i p k (rootS i p k) j k k)) (by rw [rowM_length]; exact hk')
        have hsto := hM.store (i := k + 1 + j) hi' hk' (divF (leftM i p (colS i p k (rootS i p k) j) (k + 1 + j) k) (colS i p k (rootS i p k) j k k))
        simp -implicitDefEqProofs only [h0k, hc2, Int.toNat_natCast, hrow, hst, hw, rkA, stepA, valA, storeA, ldA, fieldAddrA, fieldA, idxAddrA, idxA, idxArr, lenA, unA, binA, num2, binV, eqA, rowOf, PV.cells, PV.cell, bndA, appA, reduceIte, reduceCtorEq, Nat.reduceAdd, Nat.reduceSub, Nat.reduceEqDiff, Nat.reduceLeDiff, Nat.reduceLT, Nat.reduceMul, Nat.reduceBEq, Nat.reduceBNe, Int.reduceToNat, Int.reduceLE, Int.reduceLT, allocX, setPs, extremeA, ints, resAll, rinfOk, packR]
        refine loopK_of (m' := m2 - 1) (by omega) ?_
        simp -implicitDefEqProofs only [rkA, stepA, valA, storeA, ldA, fieldAddrA, fieldA, idxAddrA, idxA, idxArr, lenA, unA, binA, num2, binV, eqA, rowOf, PV.cells, PV.cell, bndA, appA, reduceIte, reduceCtorEq, Nat.reduceAdd, Nat.reduceSub, Nat.reduceEqDiff, Nat.reduceLeDiff, Nat.reduceLT, Nat.reduceMul, Nat.reduceBEq, Nat.reduceBNe, Int.reduceToNat, Int.reduceLE, Int.reduceLT, allocX, setPs, extremeA, ints, resAll, rinfOk, packR]
        exact ⟨j + 1, _, by omega, hsto, by simp only [Int.natCast_add, Int.natCast_one]; rfl⟩
      · have hj' : j = i - (k + 1) := by omega
        have hw := wrapped (x := (k : Int) + 1) (by omega) (by omega)
        simp -implicitDefEqProofs only [hw, rkA, stepA, valA, storeA, ldA, fieldAddrA, fieldA, idxAddrA, idxA, idxArr, lenA, unA, binA, num2, binV, eqA, rowOf, PV.cells, PV.cell, bndA, appA, reduceIte, reduceCtorEq, Nat.reduceAdd, Nat.reduceSub, Nat.reduceEqDiff, Nat.reduceLeDiff, Nat.reduceLT, Nat.reduceMul, Nat.reduceBEq, Nat.reduceBNe, Int.reduceToNat, Int.reduceLE, Int.reduceLT, allocX, setPs, extremeA, ints, resAll, rinfOk, packR]
        refine loopK_of (m' := m' - 1) (by omega) ?_
        simp -implicitDefEqProofs only [rkA, stepA, valA, storeA, ldA, fieldAddrA, fieldA, idxAddrA, idxA, idxArr, lenA, unA, binA, num2, binV, eqA, rowOf, PV.cells, PV.cell, bndA, appA, reduceIte, reduceCtorEq, Nat.reduceAdd, Nat.reduceSub, Nat.reduceEqDiff, Nat.reduceLeDiff, Nat.reduceLT, Nat.reduceMul, Nat.reduceBEq, Nat.reduceBNe, Int.reduceToNat, Int.reduceLE, Int.reduceLT, allocX, setPs, extremeA, ints, resAll, rinfOk, packR]
        refine ⟨k + 1, mm, by omega, ?_, by simp only [Int.natCast_add, Int.natCast_one]⟩
        rw [hj'] at hM
        exact hM
    · have hki : k = i := by omega
      subst hki
      have hma := okm38 k hn _ _ (rootS k p k) (fun a b ha hb => ok43 k (rootS k p k) a b ha hb)
      refine lendNew_fn (l := [num k, .fn (.func 43) [.vp [rowsV k (rootS k p k)]]]) rfl rfl (.cons (.same _) (.cons (.fn (.cons (.vpIn (.cons hM.tell .nil)) .nil)) .nil)) hma ?_ ?_
      · rintro r m' ⟨b, cap, q, h1, rfl, rfl⟩
        refine ⟨rfl, fun c cells hc => ?_⟩
        by_cases e : c = b
        · subst e
          rw [Mem.put_same] at hc
          cases hc
          exact RFs_append (RFs_frs _) (RFs_junk q)
        · rw [Mem.put_other _ _ e] at hc
          cases hc
      · rintro r m' ⟨b, cap, q, h1, rfl, rfl⟩ hfr
        simp -implicitDefEqProofs only [rkA, stepA, valA, storeA, ldA, fieldAddrA, fieldA, idxAddrA, idxA, idxArr, lenA, unA, binA, num2, binV, eqA, rowOf, PV.cells, PV.cell, bndA, appA, reduceIte, reduceCtorEq, Nat.reduceAdd, Nat.reduceSub, Nat.reduceEqDiff, Nat.reduceLeDiff, Nat.reduceLT, Nat.reduceMul, Nat.reduceBEq, Nat.reduceBNe, Int.reduceToNat, Int.reduceLE, Int.reduceLT, allocX, setPs, extremeA, ints, resAll, rinfOk, packR]
        exact ⟨_, rfl, .tup (.cons (.agg (.cons (.same _) (.cons (.same _) (.cons (tell_row (Mem.put_same _ _ _) h1) .nil)))) (.cons (.same _) .nil))⟩

theorem ok15n (e : Bool) (r c : Int) (l : List Fr) (h : (right r c l.length && (r == c)) = false) : Ok Try.prog 15 [matV e r c (frs l)] (.tup [matV true 0 0 [], tru false]) := by
  refine okt_fn mixed Try.func15 (code := ?_) (h := h15) ?_ k15 ?_
  rotate_left
  · exact rfl
  unfold h15 initS
  simp -implicitDefEqProofs only [rkA, stepA, valA, storeA, ldA, fieldAddrA, fieldA, idxAddrA, idxA, idxArr, lenA, unA, binA, num2, binV, eqA, rowOf, PV.cells, PV.cell, bndA, appA, reduceIte, reduceCtorEq, Nat.reduceAdd, Nat.reduceSub, Nat.reduceEqDiff, Nat.reduceLeDiff, Nat.reduceLT, Nat.reduceMul, Nat.reduceBEq, Nat.reduceBNe, Int.reduceToNat, Int.reduceLE, Int.reduceLT, allocX, setPs, extremeA, ints, resAll, rinfOk, packR, Try.ntmps15, Try.results15]
  have h904 := ok37 e r c l
  rw [h] at h904
  refine call_fn rfl rfl rfl (h904) ?_
  simp -implicitDefEqProofs only [rkA, stepA, valA, storeA, ldA, fieldAddrA, fieldA, idxAddrA, idxA, idxArr, lenA, unA, binA, num2, binV, eqA, rowOf, PV.cells, PV.cell, bndA, appA, reduceIte, reduceCtorEq, Nat.reduceAdd, Nat.reduceSub, Nat.reduceEqDiff, Nat.reduceLeDiff, Nat.reduceLT, Nat.reduceMul, Nat.reduceBEq, Nat.reduceBNe, Int.reduceToNat, Int.reduceLE, Int.reduceLT, allocX, setPs, extremeA, ints, resAll, rinfOk, packR]
  exact ⟨_, rfl, .tup (.cons (.agg (.cons (.same _) (.cons (.same _) (.cons .nil .nil)))) (.cons (.same _) .nil))⟩
end Go.Proofs.Ytbflmeomkfjikaa.A

set_option linter.unusedVariables false
set_option linter.unusedSimpArgs false
set_option maxRecDepth 100000
namespace Go.Proofs.Ytbflmeomkfjikaa.A
open Go Go.RowKit Go.Shelf

theorem ok38 (n : Nat) (hn : 1 ≤ n ∧ n ≤ 16) (K : Nat) (caps : List PV) (g : Nat → Nat → Fr) (hg : ∀ i k : Nat, i < n → k < n → Ok Try.prog K (num i :: num k :: caps) (frV (g i k))) :
    Ok Try.prog 38 [num n, .fn (.func K) caps] (.tup [matV false n n (frs (gridP g n n 0)), tru true]) := by
  refine Ok.ofM (okm38 n hn K caps g hg) ?_
  rintro r m ⟨b, cap, q, h1, rfl, rfl⟩
  have hl : (frs (gridP g n n 0)).length = (gridP g n n 0).length := by simp
  exact .tup (.cons (.agg (.cons (.same _) (.cons (.same _) (.cons (tell_row (Mem.put_same _ _ _) h1) .nil)))) (.cons (.same _) .nil))

/-! ### Cleared -/
def clearG (n : Nat) (l : List Fr) (i k : Nat) : Fr := if i < k then newF 0 1 else atF n n l i k
def clearF (n : Nat) (l : List Fr) : List Fr := gridP (clearG n l) n n 0
theorem ok39 (e : Bool) (n : Nat) (l : List Fr) (i k : Nat) : Ok Try.prog 39 [num i, num k, .vp [num 0, num 0, tru false], .vp [num n, num n, .sl e (frs l)]] (frV (clearG n l i k)) := by
  refine ok_fn mixed Try.func39 (code := ?_) (h := h39) ?_ k39 ?_
  rotate_left
  · exact rfl
  unfold h39 initS
  simp -implicitDefEqProofs only [rkA, stepA, valA, storeA, ldA, fieldAddrA, fieldA, idxAddrA, idxA, idxArr, lenA, unA, binA, num2, binV, eqA, rowOf, PV.cells, PV.cell, bndA, appA, reduceIte, reduceCtorEq, Nat.reduceAdd, Nat.reduceSub, Nat.reduceEqDiff, Nat.reduceLeDiff, Nat.reduceLT, Nat.reduceMul, Nat.reduceBEq, Nat.reduceBNe, Int.reduceToNat, Int.reduceLE, Int.reduceLT, allocX, setPs, extremeA, ints, resAll, rinfOk, packR, Try.ntmps39, Try.results39]
  unfold clearG
  refine gB_dec ?_ ?_ <;> intro hc <;> simp -implicitDefEqProofs only [hc, rkA, stepA, valA, storeA, ldA, fieldAddrA, fieldA, idxAddrA, idxA, idxArr, lenA, unA, binA, num2, binV, eqA, rowOf, PV.cells, PV.cell, bndA, appA, reduceIte, reduceCtorEq, Nat.reduceAdd, Nat.reduceSub, Nat.reduceEqDiff, Nat.reduceLeDiff, Nat.reduceLT, Nat.reduceMul, Nat.reduceBEq, Nat.reduceBNe, Int.reduceToNat, Int.reduceLE, Int.reduceLT, allocX, setPs, extremeA, ints, resAll, rinfOk, packR]
  · have : i < k := by omega
    refine call_meth rfl rfl methOf (ok85 ⟨0, 0, false⟩ 0) ?_
    rw [if_pos this]
    simp -implicitDefEqProofs only [rkA, stepA, valA, storeA, ldA, fieldAddrA, fieldA, idxAddrA, idxA, idxArr, lenA, unA, binA, num2, binV, eqA, rowOf, PV.cells, PV.cell, bndA, appA, reduceIte, reduceCtorEq, Nat.reduceAdd, Nat.reduceSub, Nat.reduceEqDiff, Nat.reduceLeDiff, Nat.reduceLT, Nat.reduceMul, Nat.reduceBEq, Nat.reduceBNe, Int.reduceToNat, Int.reduceLE, Int.reduceLT, allocX, setPs, extremeA, ints, resAll, rinfOk, packR]
  · have : ¬ i < k := by omega
    refine call_fn rfl rfl rfl (ok40 e n n i k l) ?_
    rw [if_neg this]
    simp -implicitDefEqProofs only [rkA, stepA, valA, storeA, ldA, fieldAddrA, fieldA, idxAddrA, idxA, idxArr, lenA, unA, binA, num2, binV, eqA, rowOf, PV.cells, PV.cell, bndA, appA, reduceIte, reduceCtorEq, Nat.reduceAdd, Nat.reduceSub, Nat.reduceEqDiff, Nat.reduceLeDiff, Nat.reduceLT, Nat.reduceMul, Nat.reduceBEq, Nat.reduceBNe, Int.reduceToNat, Int.reduceLE, Int.reduceLT, allocX, setPs, extremeA, ints, resAll, rinfOk, packR]

theorem ok11 (n : Nat) (hn : 1 ≤ n ∧ n ≤ 16) (e : Bool) (l : List Fr) (h : l.length = n * n) : Ok Try.prog 11 [matV e n n (frs l)] (.tup [matV false n n (frs (clearF n l)), tru true]) := by
  have hr := right_sq hn h
  refine ok_fn mixed Try.func11 (code := ?_) (h := h11) ?_ k11 ?_
  rotate_left
  · exact rfl
  unfold h11 initS
  simp -implicitDefEqProofs only [rkA, stepA, valA, storeA, ldA, fieldAddrA, fieldA, idxAddrA, idxA, idxArr, lenA, unA, binA, num2, binV, eqA, rowOf, PV.cells, PV.cell, bndA, appA, reduceIte, reduceCtorEq, Nat.reduceAdd, Nat.reduceSub, Nat.reduceEqDiff, Nat.reduceLeDiff, Nat.reduceLT, Nat.reduceMul, Nat.reduceBEq, Nat.reduceBNe, Int.reduceToNat, Int.reduceLE, Int.reduceLT, allocX, setPs, extremeA, ints, resAll, rinfOk, packR, Try.ntmps11, Try.results11]
  refine call_fn rfl rfl rfl (ok37 e n n l) ?_
  simp -implicitDefEqProofs only [hr, beq_self_eq_true, rkA, stepA, valA, storeA, ldA, fieldAddrA, fieldA, idxAddrA, idxA, idxArr, lenA, unA, binA, num2, binV, eqA, rowOf, PV.cells, PV.cell, bndA, appA, reduceIte, reduceCtorEq, Nat.reduceAdd, Nat.reduceSub, Nat.reduceEqDiff, Nat.reduceLeDiff, Nat.reduceLT, Nat.reduceMul, Nat.reduceBEq, Nat.reduceBNe, Int.reduceToNat, Int.reduceLE, Int.reduceLT, allocX, setPs, extremeA, ints, resAll, rinfOk, packR]
  refine call_fn rfl rfl rfl (ok38 n hn _ _ (clearG n l) (fun i k _ _ => ok39 e n l i k)) ?_
  simp -implicitDefEqProofs only [rkA, stepA, valA, storeA, ldA, fieldAddrA, fieldA, idxAddrA, idxA, idxArr, lenA, unA, binA, num2, binV, eqA, rowOf, PV.cells, PV.cell, bndA, appA, reduceIte, reduceCtorEq, Nat.reduceAdd, Nat.reduceSub, Nat.reduceEqDiff, Nat.reduceLeDiff, Nat.reduceLT, Nat.reduceMul, Nat.reduceBEq, Nat.reduceBNe, Int.reduceToNat, Int.reduceLE, Int.reduceLT, allocX, setPs, extremeA, ints, resAll, rinfOk, packR, clearF]

theorem ok11n (e : Bool) (r c : Int) (l : List Fr) (h : (right r c l.length && (r == c)) = false) : Ok Try.prog 11 [matV e r c (frs l)] (.tup [matNil, tru false]) := by
  refine ok_fn mixed Try.func11 (code := ?_) (h := h11) ?_ k11 ?_
  rotate_left
  · exact rfl
  unfold h11 initS
  simp -implicitDefEqProofs only [rkA, stepA, valA, storeA, ldA, fieldAddrA, fieldA, idxAddrA, idxA, idxArr, lenA, unA, binA, num2, binV, eqA, rowOf, PV.cells, PV.cell, bndA, appA, reduceIte, reduceCtorEq, Nat.reduceAdd, Nat.reduceSub, Nat.reduceEqDiff, Nat.reduceLeDiff, Nat.reduceLT, Nat.reduceMul, Nat.reduceBEq, Nat.reduceBNe, Int.reduceToNat, Int.reduceLE, Int.reduceLT, allocX, setPs, extremeA, ints, resAll, rinfOk, packR, Try.ntmps11, Try.results11]
  have h904 := ok37 e r c l
  rw [h] at h904
  refine call_fn rfl rfl rfl (h904) ?_
  simp -implicitDefEqProofs only [rkA, stepA, valA, storeA, ldA, fieldAddrA, fieldA, idxAddrA, idxA, idxArr, lenA, unA, binA, num2, binV, eqA, rowOf, PV.cells, PV.cell, bndA, appA, reduceIte, reduceCtorEq, Nat.reduceAdd, Nat.reduceSub, Nat.reduceEqDiff, Nat.reduceLeDiff, Nat.reduceLT, Nat.reduceMul, Nat.reduceBEq, Nat.reduceBNe, Int.reduceToNat, Int.reduceLE, Int.reduceLT, allocX, setPs, extremeA, ints, resAll, rinfOk, packR]

theorem ok14n (e : Bool) (r c : Int) (l : List Fr) (h : (right r c l.length && (r == c)) = false) : Ok Try.prog 14 [matV e r c (frs l)] (.tup [matNil, tru false]) := by
  refine ok_fn mixed Try.func14 (code := ?_) (h := h14) ?_ k14 ?_
  rotate_left
  · exact rfl
  unfold h14 initS
  simp -implicitDefEqProofs only [rkA, stepA, valA, storeA, ldA, fieldAddrA, fieldA, idxAddrA, idxA, idxArr, lenA, unA, binA, num2, binV, eqA, rowOf, PV.cells, PV.cell, bndA, appA, reduceIte, reduceCtorEq, Nat.reduceAdd, Nat.reduceSub, Nat.reduceEqDiff, Nat.reduceLeDiff, Nat.reduceLT, Nat.reduceMul, Nat.reduceBEq, Nat.reduceBNe, Int.reduceToNat, Int.reduceLE, Int.reduceLT, allocX, setPs, extremeA, ints, resAll, rinfOk, packR, Try.ntmps14, Try.results14]
  have h904 := ok37 e r c l
  rw [h] at h904
  refine call_fn rfl rfl rfl (h904) ?_
  simp -implicitDefEqProofs only [rkA, stepA, valA, storeA, ldA, fieldAddrA, fieldA, idxAddrA, idxA, idxArr, lenA, unA, binA, num2, binV, eqA, rowOf, PV.cells, PV.cell, bndA, appA, reduceIte, reduceCtorEq, Nat.reduceAdd, Nat.reduceSub, Nat.reduceEqDiff, Nat.reduceLeDiff, Nat.reduceLT, Nat.reduceMul, Nat.reduceBEq, Nat.reduceBNe, Int.reduceToNat, Int.reduceLE, Int.reduceLT, allocX, setPs, extremeA, ints, resAll, rinfOk, packR]

/-! ### The diagonal -/
def diagF (n : Nat) (l : List Fr) : List Fr := (List.range n).map fun (i : Nat) => atF n n l i i
theorem rowF_get {r c : Int} {l : List Fr} (hr : right r c l.length = true) {i k : Nat} (hi : i < r.toNat) (hk : k < c.toNat) : (frs (rowF r c l i))[k]? = some (frV (atF r c l i k)) := by
  have h0 := rowF_eq ⟨0, 0, false⟩ hr (i := i) hi
  have h1 := atF_eq hr (i := i) (k := k) hi hk
  rw [h0, List.getElem?_map, List.getElem?_map, List.getElem?_range hk, h1]
  rfl
theorem ok12 (n : Nat) (hn : 1 ≤ n ∧ n ≤ 16) (e : Bool) (l : List Fr) (h : l.length = n * n) : Ok Try.prog 12 [matV e n n (frs l)] (.sl false (frs (diagF n l))) := by
  have hr := right_sq hn h
  have hal : (diagF n l).length = n := by simp [diagF]
  refine ok_fn mixed Try.func12 (code := ?_) (h := h12) ?_ k12 ?_
  rotate_left
  · exact rfl
  unfold h12 initS
  simp -implicitDefEqProofs only [rkA, stepA, valA, storeA, ldA, fieldAddrA, fieldA, idxAddrA, idxA, idxArr, lenA, unA, binA, num2, binV, eqA, rowOf, PV.cells, PV.cell, bndA, appA, reduceIte, reduceCtorEq, Nat.reduceAdd, Nat.reduceSub, Nat.reduceEqDiff, Nat.reduceLeDiff, Nat.reduceLT, Nat.reduceMul, Nat.reduceBEq, Nat.reduceBNe, Int.reduceToNat, Int.reduceLE, Int.reduceLT, allocX, setPs, extremeA, ints, resAll, rinfOk, packR, Try.ntmps12, Try.results12]
  refine call_fn rfl rfl rfl (ok41 e n n l) ?_
  simp -implicitDefEqProofs only [rkA, stepA, valA, storeA, ldA, fieldAddrA, fieldA, idxAddrA, idxA, idxArr, lenA, unA, binA, num2, binV, eqA, rowOf, PV.cells, PV.cell, bndA, appA, reduceIte, reduceCtorEq, Nat.reduceAdd, Nat.reduceSub, Nat.reduceEqDiff, Nat.reduceLeDiff, Nat.reduceLT, Nat.reduceMul, Nat.reduceBEq, Nat.reduceBNe, Int.reduceToNat, Int.reduceLE, Int.reduceLT, allocX, setPs, extremeA, ints, resAll, rinfOk, packR]
  refine wp_rf' (items := rowsF n n l) rfl (it54 e n n l) (fun sv i s => i ≤ n ∧ s = ⟨[], [(1, [nt n, nt n, .v (.sl e (frs l))]), (3, [.acc 1003 (frs ((diagF n l).take i))])], [], [(2, 0), (1003, i)], sv, 0, nomem⟩) ?_ ?_ ?_
  · simp -implicitDefEqProofs only [rkA, stepA, valA, storeA, ldA, fieldAddrA, fieldA, idxAddrA, idxA, idxArr, lenA, unA, binA, num2, binV, eqA, rowOf, PV.cells, PV.cell, bndA, appA, reduceIte, reduceCtorEq, Nat.reduceAdd, Nat.reduceSub, Nat.reduceEqDiff, Nat.reduceLeDiff, Nat.reduceLT, Nat.reduceMul, Nat.reduceBEq, Nat.reduceBNe, Int.reduceToNat, Int.reduceLE, Int.reduceLT, allocX, setPs, extremeA, ints, resAll, rinfOk, packR]
    exact Nat.zero_le _
  · rintro i x' s' R hx ⟨hi, rfl⟩ hR
    obtain ⟨hlt, rfl, hxi⟩ := rowsF_all hr hx
    have hlt' : i < n := by simpa using hlt
    refine ⟨rfl, ?_⟩
    have h904 := ok37 e n n l
    rw [hr, beq_self_eq_true] at h904
    simp -implicitDefEqProofs only [rkA, stepA, valA, storeA, ldA, fieldAddrA, fieldA, idxAddrA, idxA, idxArr, lenA, unA, binA, num2, binV, eqA, rowOf, PV.cells, PV.cell, bndA, appA, reduceIte, reduceCtorEq, Nat.reduceAdd, Nat.reduceSub, Nat.reduceEqDiff, Nat.reduceLeDiff, Nat.reduceLT, Nat.reduceMul, Nat.reduceBEq, Nat.reduceBNe, Int.reduceToNat, Int.reduceLE, Int.reduceLT, allocX, setPs, extremeA, ints, resAll, rinfOk, packR]
    refine call_fn rfl rfl rfl (h904) ?_
    have h0 : (0 : Int) ≤ (i : Int) := by omega
    have hg := rowF_get hr hlt hlt
    have hfit : fits 3 24 (frs ((diagF n l).take i)) [frV (atF n n l i i)] = true := fits_frs (l := [atF n n l i i]) (by simp only [List.length_cons, List.length_nil, List.length_take]; omega)
    have hl : (frs ((diagF n l).take i)).length = i := by simp; omega
    simp -implicitDefEqProofs only [h0, Int.toNat_natCast, hg, hfit, hl, rkA, stepA, valA, storeA, ldA, fieldAddrA, fieldA, idxAddrA, idxA, idxArr, lenA, unA, binA, num2, binV, eqA, rowOf, PV.cells, PV.cell, bndA, appA, reduceIte, reduceCtorEq, Nat.reduceAdd, Nat.reduceSub, Nat.reduceEqDiff, Nat.reduceLeDiff, Nat.reduceLT, Nat.reduceMul, Nat.reduceBEq, Nat.reduceBNe, Int.reduceToNat, Int.reduceLE, Int.reduceLT, allocX, setPs, extremeA, ints, resAll, rinfOk, packR]
    refine hR _ ⟨by omega, ?_⟩
    have hai : (diagF n l)[i]'(by omega) = atF n n l i i := by simp [diagF]
    rw [List.take_succ_eq_append_getElem (by omega), hai]
    simp only [frs, List.map_append, List.map_cons, List.map_nil]
  · rintro s' ⟨hi, rfl⟩
    simp -implicitDefEqProofs only [rkA, stepA, valA, storeA, ldA, fieldAddrA, fieldA, idxAddrA, idxA, idxArr, lenA, unA, binA, num2, binV, eqA, rowOf, PV.cells, PV.cell, bndA, appA, reduceIte, reduceCtorEq, Nat.reduceAdd, Nat.reduceSub, Nat.reduceEqDiff, Nat.reduceLeDiff, Nat.reduceLT, Nat.reduceMul, Nat.reduceBEq, Nat.reduceBNe, Int.reduceToNat, Int.reduceLE, Int.reduceLT, allocX, setPs, extremeA, ints, resAll, rinfOk, packR]
    rw [rowsF_length hr, List.take_of_length_le (by simp [hal])]
theorem ok12n (e : Bool) (r c : Int) (l : List Fr) (h : (right r c l.length && (r == c)) = false) : Ok Try.prog 12 [matV e r c (frs l)] (.sl false []) := by
  refine ok_fn mixed Try.func12 (code := ?_) (h := h12) ?_ k12 ?_
  rotate_left
  · exact rfl
  unfold h12 initS
  simp -implicitDefEqProofs only [rkA, stepA, valA, storeA, ldA, fieldAddrA, fieldA, idxAddrA, idxA, idxArr, lenA, unA, binA, num2, binV, eqA, rowOf, PV.cells, PV.cell, bndA, appA, reduceIte, reduceCtorEq, Nat.reduceAdd, Nat.reduceSub, Nat.reduceEqDiff, Nat.reduceLeDiff, Nat.reduceLT, Nat.reduceMul, Nat.reduceBEq, Nat.reduceBNe, Int.reduceToNat, Int.reduceLE, Int.reduceLT, allocX, setPs, extremeA, ints, resAll, rinfOk, packR, Try.ntmps12, Try.results12]
  refine call_fn rfl rfl rfl (ok41 e r c l) ?_
  simp -implicitDefEqProofs only [rkA, stepA, valA, storeA, ldA, fieldAddrA, fieldA, idxAddrA, idxA, idxArr, lenA, unA, binA, num2, binV, eqA, rowOf, PV.cells, PV.cell, bndA, appA, reduceIte, reduceCtorEq, Nat.reduceAdd, Nat.reduceSub, Nat.reduceEqDiff, Nat.reduceLeDiff, Nat.reduceLT, Nat.reduceMul, Nat.reduceBEq, Nat.reduceBNe, Int.reduceToNat, Int.reduceLE, Int.reduceLT, allocX, setPs, extremeA, ints, resAll, rinfOk, packR]
  refine wp_rf' (items := rowsF r c l) rfl (it54 e r c l) (fun sv i s => s = ⟨[], [(1, [nt r, nt c, .v (.sl e (frs l))]), (3, [.acc 1003 []])], [], [(2, 0), (1003, 0)], sv, 0, nomem⟩) ?_ ?_ ?_
  · simp -implicitDefEqProofs only [rkA, stepA, valA, storeA, ldA, fieldAddrA, fieldA, idxAddrA, idxA, idxArr, lenA, unA, binA, num2, binV, eqA, rowOf, PV.cells, PV.cell, bndA, appA, reduceIte, reduceCtorEq, Nat.reduceAdd, Nat.reduceSub, Nat.reduceEqDiff, Nat.reduceLeDiff, Nat.reduceLT, Nat.reduceMul, Nat.reduceBEq, Nat.reduceBNe, Int.reduceToNat, Int.reduceLE, Int.reduceLT, allocX, setPs, extremeA, ints, resAll, rinfOk, packR]
  · rintro i x' s' R hx rfl hR
    have hr : right r c l.length = true := by
      cases hr : right r c l.length with
      | true => rfl
      | false => simp [rowsF, hr] at hx
    obtain ⟨hlt, rfl, hxi⟩ := rowsF_all hr hx
    refine ⟨rfl, ?_⟩
    have h904 := ok37 e r c l
    rw [h] at h904
    simp -implicitDefEqProofs only [rkA, stepA, valA, storeA, ldA, fieldAddrA, fieldA, idxAddrA, idxA, idxArr, lenA, unA, binA, num2, binV, eqA, rowOf, PV.cells, PV.cell, bndA, appA, reduceIte, reduceCtorEq, Nat.reduceAdd, Nat.reduceSub, Nat.reduceEqDiff, Nat.reduceLeDiff, Nat.reduceLT, Nat.reduceMul, Nat.reduceBEq, Nat.reduceBNe, Int.reduceToNat, Int.reduceLE, Int.reduceLT, allocX, setPs, extremeA, ints, resAll, rinfOk, packR]
    refine call_fn rfl rfl rfl (h904) ?_
    simp -implicitDefEqProofs only [rkA, stepA, valA, storeA, ldA, fieldAddrA, fieldA, idxAddrA, idxA, idxArr, lenA, unA, binA, num2, binV, eqA, rowOf, PV.cells, PV.cell, bndA, appA, reduceIte, reduceCtorEq, Nat.reduceAdd, Nat.reduceSub, Nat.reduceEqDiff, Nat.reduceLeDiff, Nat.reduceLT, Nat.reduceMul, Nat.reduceBEq, Nat.reduceBNe, Int.reduceToNat, Int.reduceLE, Int.reduceLT, allocX, setPs, extremeA, ints, resAll, rinfOk, packR]
    exact hR _ rfl
  · rintro s' rfl
    simp -implicitDefEqProofs only [rkA, stepA, valA, storeA, ldA, fieldAddrA, fieldA, idxAddrA, idxA, idxArr, lenA, unA, binA, num2, binV, eqA, rowOf, PV.cells, PV.cell, bndA, appA, reduceIte, reduceCtorEq, Nat.reduceAdd, Nat.reduceSub, Nat.reduceEqDiff, Nat.reduceLeDiff, Nat.reduceLT, Nat.reduceMul, Nat.reduceBEq, Nat.reduceBNe, Int.reduceToNat, Int.reduceLE, Int.reduceLT, allocX, setPs, extremeA, ints, resAll, rinfOk, packR]

/-! ### Is it a triangle? -/
theorem ok25 (e : Bool) (r c : Int) (l : List Fr) (K : Nat) (caps : List PV) (z : Fr → Bool) (b : Bool) (hz : ∀ x, Ok Try.prog K (frV x :: caps) (tru (z x)))
    (hb : b = true ↔ right r c l.length = true ∧ r = c ∧ ∀ i k : Nat, i < r.toNat → k < c.toNat → i < k → z (atF r c l i k) = true) : Ok Try.prog 25 [matV e r c (frs l), .fn (.func K) caps] (tru b) := by
  refine ok_fn mixed Try.func25 (code := ?_) (h := h25) ?_ k25 ?_
  rotate_left
  · exact rfl
  unfold h25 initS
  simp -implicitDefEqProofs only [rkA, stepA, valA, storeA, ldA, fieldAddrA, fieldA, idxAddrA, idxA, idxArr, lenA, unA, binA, num2, binV, eqA, rowOf, PV.cells, PV.cell, bndA, appA, reduceIte, reduceCtorEq, Nat.reduceAdd, Nat.reduceSub, Nat.reduceEqDiff, Nat.reduceLeDiff, Nat.reduceLT, Nat.reduceMul, Nat.reduceBEq, Nat.reduceBNe, Int.reduceToNat, Int.reduceLE, Int.reduceLT, allocX, setPs, extremeA, ints, resAll, rinfOk, packR, Try.ntmps25, Try.results25]
  refine call_fn rfl rfl rfl (ok41 e r c l) ?_
  simp -implicitDefEqProofs only [rkA, stepA, valA, storeA, ldA, fieldAddrA, fieldA, idxAddrA, idxA, idxArr, lenA, unA, binA, num2, binV, eqA, rowOf, PV.cells, PV.cell, bndA, appA, reduceIte, reduceCtorEq, Nat.reduceAdd, Nat.reduceSub, Nat.reduceEqDiff, Nat.reduceLeDiff, Nat.reduceLT, Nat.reduceMul, Nat.reduceBEq, Nat.reduceBNe, Int.reduceToNat, Int.reduceLE, Int.reduceLT, allocX, setPs, extremeA, ints, resAll, rinfOk, packR]
  refine wp_rf' (items := rowsF r c l) rfl (it54 e r c l) (fun sv i s => (∀ a k : Nat, a < i → k < c.toNat → a < k → z (atF r c l a k) = true) ∧ s = ⟨[], [(2, [nt r, nt c, .v (.sl e (frs l))]), (3, [.v (.fn (.func K) caps)]), (4, [.v (tru false)])], [], [], sv, 0, nomem⟩) ?_ ?_ ?_
  · simp -implicitDefEqProofs only [rkA, stepA, valA, storeA, ldA, fieldAddrA, fieldA, idxAddrA, idxA, idxArr, lenA, unA, binA, num2, binV, eqA, rowOf, PV.cells, PV.cell, bndA, appA, reduceIte, reduceCtorEq, Nat.reduceAdd, Nat.reduceSub, Nat.reduceEqDiff, Nat.reduceLeDiff, Nat.reduceLT, Nat.reduceMul, Nat.reduceBEq, Nat.reduceBNe, Int.reduceToNat, Int.reduceLE, Int.reduceLT, allocX, setPs, extremeA, ints, resAll, rinfOk, packR]
    intro a k h
    omega
  · rintro i x' s' R hx ⟨hP, rfl⟩ hR
    have hr : right r c l.length = true := by
      cases hr : right r c l.length with
      | true => rfl
      | false => simp [rowsF, hr] at hx
    obtain ⟨r1, r2, c1, c2, hn⟩ := right_spec hr
    obtain ⟨hlt, rfl, hxi⟩ := rowsF_all hr hx
    refine ⟨rfl, ?_⟩
    have hw := wrapped (x := (i : Int) + 1) (by omega) (by omega)
    simp -implicitDefEqProofs only [hw, rkA, stepA, valA, storeA, ldA, fieldAddrA, fieldA, idxAddrA, idxA, idxArr, lenA, unA, binA, num2, binV, eqA, rowOf, PV.cells, PV.cell, bndA, appA, reduceIte, reduceCtorEq, Nat.reduceAdd, Nat.reduceSub, Nat.reduceEqDiff, Nat.reduceLeDiff, Nat.reduceLT, Nat.reduceMul, Nat.reduceBEq, Nat.reduceBNe, Int.reduceToNat, Int.reduceLE, Int.reduceLT, allocX, setPs, extremeA, ints, resAll, rinfOk, packR]
    refine wp_loop (fun m s => ∃ k : Nat, i + 1 ≤ k ∧ k ≤ 17 ∧ c.toNat ≤ k + m ∧ (∀ q : Nat, i < q → q < k → q < c.toNat → z (atF r c l i q) = true) ∧ s = ⟨[jk, jk, .ptr 2 0, .ptr 3 0, .ptr 4 0, jk, .v (.sl false (frs (rowF r c l i))), nt k, jk, jk, jk, jk, jk, jk, jk, jk, jk, jk, jk, jk, jk, jk, jk, jk, jk, jk, jk, jk, jk],
      [(2, [nt r, nt c, .v (.sl e (frs l))]), (3, [.v (.fn (.func K) caps)]), (4, [.v (tru false)])], [], [], [[.v (matV e r c (frs l)), .v (.fn (.func K) caps), .ptr 2 0, .ptr 3 0, .ptr 4 0, jk, jk, jk, .v (.agg [num r, num c, .sl e (frs l)]), .v (.fn (.func 54) [.vp [num r, num c, .sl e (frs l)]]), jk, jk, jk, jk, jk, jk, jk, jk, jk, jk, jk, jk, jk, jk, jk, jk, jk, jk, jk]], 0, nomem⟩) c.toNat ?_ ?_
    · simp -implicitDefEqProofs only [rkA, stepA, valA, storeA, ldA, fieldAddrA, fieldA, idxAddrA, idxA, idxArr, lenA, unA, binA, num2, binV, eqA, rowOf, PV.cells, PV.cell, bndA, appA, reduceIte, reduceCtorEq, Nat.reduceAdd, Nat.reduceSub, Nat.reduceEqDiff, Nat.reduceLeDiff, Nat.reduceLT, Nat.reduceMul, Nat.reduceBEq, Nat.reduceBNe, Int.reduceToNat, Int.reduceLE, Int.reduceLT, allocX, setPs, extremeA, ints, resAll, rinfOk, packR]
      exact ⟨i + 1, by omega, by omega, by omega, fun q h1 h2 => by omega, by simp only [Int.natCast_add, Int.natCast_one]⟩
    rintro m s ⟨k, hk, hk17, hm, hQ, rfl⟩
    simp -implicitDefEqProofs only [rkA, stepA, valA, storeA, ldA, fieldAddrA, fieldA, idxAddrA, idxA, idxArr, lenA, unA, binA, num2, binV, eqA, rowOf, PV.cells, PV.cell, bndA, appA, reduceIte, reduceCtorEq, Nat.reduceAdd, Nat.reduceSub, Nat.reduceEqDiff, Nat.reduceLeDiff, Nat.reduceLT, Nat.reduceMul, Nat.reduceBEq, Nat.reduceBNe, Int.reduceToNat, Int.reduceLE, Int.reduceLT, allocX, setPs, extremeA, ints, resAll, rinfOk, packR]
    refine gB_dec ?_ ?_ <;> intro hc <;> simp -implicitDefEqProofs only [hc, rkA, stepA, valA, storeA, ldA, fieldAddrA, fieldA, idxAddrA, idxA, idxArr, lenA, unA, binA, num2, binV, eqA, rowOf, PV.cells, PV.cell, bndA, appA, reduceIte, reduceCtorEq, Nat.reduceAdd, Nat.reduceSub, Nat.reduceEqDiff, Nat.reduceLeDiff, Nat.reduceLT, Nat.reduceMul, Nat.reduceBEq, Nat.reduceBNe, Int.reduceToNat, Int.reduceLE, Int.reduceLT, allocX, setPs, extremeA, ints, resAll, rinfOk, packR]
    · have hk' : k < c.toNat := by omega
      have h0 : (0 : Int) ≤ (k : Int) := by omega
      have hg := rowF_get hr hlt hk'
      simp -implicitDefEqProofs only [h0, Int.toNat_natCast, hg, rkA, stepA, valA, storeA, ldA, fieldAddrA, fieldA, idxAddrA, idxA, idxArr, lenA, unA, binA, num2, binV, eqA, rowOf, PV.cells, PV.cell, bndA, appA, reduceIte, reduceCtorEq, Nat.reduceAdd, Nat.reduceSub, Nat.reduceEqDiff, Nat.reduceLeDiff, Nat.reduceLT, Nat.reduceMul, Nat.reduceBEq, Nat.reduceBNe, Int.reduceToNat, Int.reduceLE, Int.reduceLT, allocX, setPs, extremeA, ints, resAll, rinfOk, packR]
      refine call_fn rfl rfl rfl (hz (atF r c l i k)) ?_
      cases hzk : z (atF r c l i k) with
      | true =>
        have hw2 := wrapped (x := (k : Int) + 1) (by omega) (by omega)
        simp -implicitDefEqProofs only [hw2, rkA, stepA, valA, storeA, ldA, fieldAddrA, fieldA, idxAddrA, idxA, idxArr, lenA, unA, binA, num2, binV, eqA, rowOf, PV.cells, PV.cell, bndA, appA, reduceIte, reduceCtorEq, Nat.reduceAdd, Nat.reduceSub, Nat.reduceEqDiff, Nat.reduceLeDiff, Nat.reduceLT, Nat.reduceMul, Nat.reduceBEq, Nat.reduceBNe, Int.reduceToNat, Int.reduceLE, Int.reduceLT, allocX, setPs, extremeA, ints, resAll, rinfOk, packR]
        refine loopK_of (m' := m - 1) (by omega) ?_
        simp -implicitDefEqProofs only [rkA, stepA, valA, storeA, ldA, fieldAddrA, fieldA, idxAddrA, idxA, idxArr, lenA, unA, binA, num2, binV, eqA, rowOf, PV.cells, PV.cell, bndA, appA, reduceIte, reduceCtorEq, Nat.reduceAdd, Nat.reduceSub, Nat.reduceEqDiff, Nat.reduceLeDiff, Nat.reduceLT, Nat.reduceMul, Nat.reduceBEq, Nat.reduceBNe, Int.reduceToNat, Int.reduceLE, Int.reduceLT, allocX, setPs, extremeA, ints, resAll, rinfOk, packR]
        refine ⟨k + 1, by omega, by omega, by omega, fun q h1 h2 h3 => ?_, by simp only [Int.natCast_add, Int.natCast_one]⟩
        by_cases e : q = k
        · rw [e]; exact hzk
        · exact hQ q h1 (by omega) h3
      | false =>
        have hbf : b = false := by
          cases hbb : b with
          | false => rfl
          | true =>
            have := (hb.1 hbb).2.2 i k hlt hk' (by omega)
            rw [hzk] at this
            cases this
        subst hbf
        simp -implicitDefEqProofs only [rkA, stepA, valA, storeA, ldA, fieldAddrA, fieldA, idxAddrA, idxA, idxArr, lenA, unA, binA, num2, binV, eqA, rowOf, PV.cells, PV.cell, bndA, appA, reduceIte, reduceCtorEq, Nat.reduceAdd, Nat.reduceSub, Nat.reduceEqDiff, Nat.reduceLeDiff, Nat.reduceLT, Nat.reduceMul, Nat.reduceBEq, Nat.reduceBNe, Int.reduceToNat, Int.reduceLE, Int.reduceLT, allocX, setPs, extremeA, ints, resAll, rinfOk, packR]
    · refine hR _ ⟨fun a q ha hq haq => ?_, rfl⟩
      by_cases e : a = i
      · subst e
        exact hQ q haq (by omega) hq
      · exact hP a q (by omega) hq haq
  · rintro s' ⟨hP, rfl⟩
    simp -implicitDefEqProofs only [rkA, stepA, valA, storeA, ldA, fieldAddrA, fieldA, idxAddrA, idxA, idxArr, lenA, unA, binA, num2, binV, eqA, rowOf, PV.cells, PV.cell, bndA, appA, reduceIte, reduceCtorEq, Nat.reduceAdd, Nat.reduceSub, Nat.reduceEqDiff, Nat.reduceLeDiff, Nat.reduceLT, Nat.reduceMul, Nat.reduceBEq, Nat.reduceBNe, Int.reduceToNat, Int.reduceLE, Int.reduceLT, allocX, setPs, extremeA, ints, resAll, rinfOk, packR]
    refine call_fn rfl rfl rfl (ok37 e r c l) ?_
    have : (right r c l.length && (r == c)) = b := by
      rw [Bool.eq_iff_iff, hb, Bool.and_eq_true, beq_iff_eq]
      constructor
      · rintro ⟨h1, h2⟩
        refine ⟨h1, h2, fun a k ha hk hak => hP a k ?_ hk hak⟩
        rw [rowsF_length h1]
        exact ha
      · rintro ⟨h1, h2, _⟩
        exact ⟨h1, h2⟩
    rw [this]
    simp -implicitDefEqProofs only [rkA, stepA, valA, storeA, ldA, fieldAddrA, fieldA, idxAddrA, idxA, idxArr, lenA, unA, binA, num2, binV, eqA, rowOf, PV.cells, PV.cell, bndA, appA, reduceIte, reduceCtorEq, Nat.reduceAdd, Nat.reduceSub, Nat.reduceEqDiff, Nat.reduceLeDiff, Nat.reduceLT, Nat.reduceMul, Nat.reduceBEq, Nat.reduceBNe, Int.reduceToNat, Int.reduceLE, Int.reduceLT, allocX, setPs, extremeA, ints, resAll, rinfOk, packR]
end Go.Proofs.Ytbflmeomkfjikaa.A

set_option linter.unusedVariables false
set_option linter.unusedSimpArgs false
set_option maxRecDepth 100000
namespace Go.Proofs.Ytbflmeomkfjikaa.A
open Go Go.RowKit Go.Shelf

/-! ### The document's answers, of whole numbers -/
def clearH (l : List Int) (n i k : Nat) : Int := if i < k then 0 else l.getD (i * n + k) 0
def clearI (l : List Int) (n : Nat) : List Int := gridP (clearH l n) n n 0
def turnH (l : List Int) (n k i : Nat) : Int := l.getD (i * n + k) 0
def turnI (l : List Int) (n : Nat) : List Int := gridP (turnH l n) n n 0
def squareI (l : List Int) (n : Nat) : List Int := mulI l (turnI l n) n n n

theorem ok29 (e : Bool) (l : List Int) (n : Nat) (hn : n ≤ 16) (hl : l.length = n * n) : Ok Try.prog 29 [.sl e (l.map num), num n] (.sl false ((clearI l n).map num)) := by
  refine ok_fn mixed Try.func29 (code := ?_) (h := h29) ?_ k29 ?_
  rotate_left
  · exact rfl
  unfold h29 initS
  simp -implicitDefEqProofs only [rkA, stepA, valA, storeA, ldA, fieldAddrA, fieldA, idxAddrA, idxA, idxArr, lenA, unA, binA, num2, binV, eqA, rowOf, PV.cells, PV.cell, bndA, appA, reduceIte, reduceCtorEq, Nat.reduceAdd, Nat.reduceSub, Nat.reduceEqDiff, Nat.reduceLeDiff, Nat.reduceLT, Nat.reduceMul, Nat.reduceBEq, Nat.reduceBNe, Int.reduceToNat, Int.reduceLE, Int.reduceLT, allocX, setPs, extremeA, ints, resAll, rinfOk, packR, Try.ntmps29, Try.results29]
  have hlen := gridP_length (clearH l n) n
  have hbig : ∀ i k, i ≤ n → k ≤ n → i * n + k ≤ 272 := fun i k h1 h2 => by
    have : i * n ≤ 16 * 16 := Nat.mul_le_mul (by omega) (by omega)
    omega
  have s3 := side16 hn hn
  refine wp_loop (fun m s => ∃ i : Nat, i + m = n ∧ s = ⟨[.v (.sl e (l.map num)), .v (num n), jk, jk, jk, .acc 5 ((gridP (clearH l n) n i 0).map num), nt i, jk, jk, jk, jk, jk, jk, jk, jk, jk, jk, jk, jk, jk, jk, jk, jk, jk, jk, jk, jk, jk, jk, jk, jk, jk, jk, jk, jk, jk], [], [], [(4, 0), (5, (gridP (clearH l n) n i 0).length)], [], 0, nomem⟩) n ?_ ?_
  · simp -implicitDefEqProofs only [rkA, stepA, valA, storeA, ldA, fieldAddrA, fieldA, idxAddrA, idxA, idxArr, lenA, unA, binA, num2, binV, eqA, rowOf, PV.cells, PV.cell, bndA, appA, reduceIte, reduceCtorEq, Nat.reduceAdd, Nat.reduceSub, Nat.reduceEqDiff, Nat.reduceLeDiff, Nat.reduceLT, Nat.reduceMul, Nat.reduceBEq, Nat.reduceBNe, Int.reduceToNat, Int.reduceLE, Int.reduceLT, allocX, setPs, extremeA, ints, resAll, rinfOk, packR]
    exact ⟨0, by simp, rfl⟩
  rintro m s ⟨i, hi, rfl⟩
  simp -implicitDefEqProofs only [rkA, stepA, valA, storeA, ldA, fieldAddrA, fieldA, idxAddrA, idxA, idxArr, lenA, unA, binA, num2, binV, eqA, rowOf, PV.cells, PV.cell, bndA, appA, reduceIte, reduceCtorEq, Nat.reduceAdd, Nat.reduceSub, Nat.reduceEqDiff, Nat.reduceLeDiff, Nat.reduceLT, Nat.reduceMul, Nat.reduceBEq, Nat.reduceBNe, Int.reduceToNat, Int.reduceLE, Int.reduceLT, allocX, setPs, extremeA, ints, resAll, rinfOk, packR]
  refine gB_dec ?_ ?_ <;> intro hc <;> simp -implicitDefEqProofs only [hc, rkA, stepA, valA, storeA, ldA, fieldAddrA, fieldA, idxAddrA, idxA, idxArr, lenA, unA, binA, num2, binV, eqA, rowOf, PV.cells, PV.cell, bndA, appA, reduceIte, reduceCtorEq, Nat.reduceAdd, Nat.reduceSub, Nat.reduceEqDiff, Nat.reduceLeDiff, Nat.reduceLT, Nat.reduceMul, Nat.reduceBEq, Nat.reduceBNe, Int.reduceToNat, Int.reduceLE, Int.reduceLT, allocX, setPs, extremeA, ints, resAll, rinfOk, packR]
  · refine wp_loop (fun m s => ∃ k : Nat, k + m = n ∧ s = ⟨[.v (.sl e (l.map num)), .v (num n), jk, jk, jk, .acc 5 ((gridP (clearH l n) n i k).map num), nt i, nt k, jk, jk, jk, jk, jk, jk, jk, jk, jk, jk, jk, jk, jk, jk, jk, jk, jk, jk, jk, jk, jk, jk, jk, jk, jk, jk, jk, jk], [], [], [(4, 0), (5, (gridP (clearH l n) n i k).length)], [], 0, nomem⟩) n ?_ ?_
    · simp -implicitDefEqProofs only [rkA, stepA, valA, storeA, ldA, fieldAddrA, fieldA, idxAddrA, idxA, idxArr, lenA, unA, binA, num2, binV, eqA, rowOf, PV.cells, PV.cell, bndA, appA, reduceIte, reduceCtorEq, Nat.reduceAdd, Nat.reduceSub, Nat.reduceEqDiff, Nat.reduceLeDiff, Nat.reduceLT, Nat.reduceMul, Nat.reduceBEq, Nat.reduceBNe, Int.reduceToNat, Int.reduceLE, Int.reduceLT, allocX, setPs, extremeA, ints, resAll, rinfOk, packR]
      exact ⟨0, by simp, rfl⟩
    rintro m' s ⟨k, hk, rfl⟩
    simp -implicitDefEqProofs only [rkA, stepA, valA, storeA, ldA, fieldAddrA, fieldA, idxAddrA, idxA, idxArr, lenA, unA, binA, num2, binV, eqA, rowOf, PV.cells, PV.cell, bndA, appA, reduceIte, reduceCtorEq, Nat.reduceAdd, Nat.reduceSub, Nat.reduceEqDiff, Nat.reduceLeDiff, Nat.reduceLT, Nat.reduceMul, Nat.reduceBEq, Nat.reduceBNe, Int.reduceToNat, Int.reduceLE, Int.reduceLT, allocX, setPs, extremeA, ints, resAll, rinfOk, packR]
    refine gB_dec ?_ ?_ <;> intro hc2 <;> simp -implicitDefEqProofs only [hc2, rkA, stepA, valA, storeA, ldA, fieldAddrA, fieldA, idxAddrA, idxA, idxArr, lenA, unA, binA, num2, binV, eqA, rowOf, PV.cells, PV.cell, bndA, appA, reduceIte, reduceCtorEq, Nat.reduceAdd, Nat.reduceSub, Nat.reduceEqDiff, Nat.reduceLeDiff, Nat.reduceLT, Nat.reduceMul, Nat.reduceBEq, Nat.reduceBNe, Int.reduceToNat, Int.reduceLE, Int.reduceLT, allocX, setPs, extremeA, ints, resAll, rinfOk, packR]
    · have hl1 := hlen i k
      have hb := hbig i k (by omega) (by omega)
      have hfit : ∀ x : Int, fits 1 8 ((gridP (clearH l n) n i k).map num) [num x] = true := fun x => fits_num (l := [x]) (by simp only [List.length_cons, List.length_nil]; omega)
      have hl' : ((gridP (clearH l n) n i k).map num).length = (gridP (clearH l n) n i k).length := by simp
      have hw := wrapped (x := (k : Int) + 1) (by omega) (by omega)
      have t := at_table (i := i) (j := k) (n := n) (m := n) (by omega) (by omega)
      have c1 : (i : Int) * (n : Int) = ((i * n : Nat) : Int) := by simp
      have c3 : ((i * n : Nat) : Int) + (k : Int) = ((i * n + k : Nat) : Int) := by simp
      have w1 := wrapped (x := ((i * n : Nat) : Int)) (by omega) (by omega)
      have w3 := wrapped (x := ((i * n + k : Nat) : Int)) (by omega) (by omega)
      have g1 := at_num (a := l) (i := i * n + k) (by omega)
      have n1 : (0 : Int) ≤ ((i * n + k : Nat) : Int) := by omega
      refine gB_dec ?_ ?_ <;> intro hc3 <;> simp -implicitDefEqProofs only [hc3, hfit, hl', hw, rkA, stepA, valA, storeA, ldA, fieldAddrA, fieldA, idxAddrA, idxA, idxArr, lenA, unA, binA, num2, binV, eqA, rowOf, PV.cells, PV.cell, bndA, appA, reduceIte, reduceCtorEq, Nat.reduceAdd, Nat.reduceSub, Nat.reduceEqDiff, Nat.reduceLeDiff, Nat.reduceLT, Nat.reduceMul, Nat.reduceBEq, Nat.reduceBNe, Int.reduceToNat, Int.reduceLE, Int.reduceLT, allocX, setPs, extremeA, ints, resAll, rinfOk, packR]
      · have e0 : clearH l n i k = 0 := if_pos (by omega)
        refine loopK_of (m' := m' - 1) (by omega) ?_
        simp -implicitDefEqProofs only [rkA, stepA, valA, storeA, ldA, fieldAddrA, fieldA, idxAddrA, idxA, idxArr, lenA, unA, binA, num2, binV, eqA, rowOf, PV.cells, PV.cell, bndA, appA, reduceIte, reduceCtorEq, Nat.reduceAdd, Nat.reduceSub, Nat.reduceEqDiff, Nat.reduceLeDiff, Nat.reduceLT, Nat.reduceMul, Nat.reduceBEq, Nat.reduceBNe, Int.reduceToNat, Int.reduceLE, Int.reduceLT, allocX, setPs, extremeA, ints, resAll, rinfOk, packR]
        refine ⟨k + 1, by omega, ?_⟩
        rw [gridP_succ]
        simp only [e0, List.map_append, List.map_cons, List.map_nil, List.length_append, List.length_cons, List.length_nil, Int.natCast_add, Int.natCast_one]
      · have e0 : clearH l n i k = l.getD (i * n + k) 0 := if_neg (by omega)
        simp -implicitDefEqProofs only [c1, w1, c3, w3, n1, Int.toNat_natCast, g1, hfit, hl', hw, rkA, stepA, valA, storeA, ldA, fieldAddrA, fieldA, idxAddrA, idxA, idxArr, lenA, unA, binA, num2, binV, eqA, rowOf, PV.cells, PV.cell, bndA, appA, reduceIte, reduceCtorEq, Nat.reduceAdd, Nat.reduceSub, Nat.reduceEqDiff, Nat.reduceLeDiff, Nat.reduceLT, Nat.reduceMul, Nat.reduceBEq, Nat.reduceBNe, Int.reduceToNat, Int.reduceLE, Int.reduceLT, allocX, setPs, extremeA, ints, resAll, rinfOk, packR]
        refine loopK_of (m' := m' - 1) (by omega) ?_
        simp -implicitDefEqProofs only [rkA, stepA, valA, storeA, ldA, fieldAddrA, fieldA, idxAddrA, idxA, idxArr, lenA, unA, binA, num2, binV, eqA, rowOf, PV.cells, PV.cell, bndA, appA, reduceIte, reduceCtorEq, Nat.reduceAdd, Nat.reduceSub, Nat.reduceEqDiff, Nat.reduceLeDiff, Nat.reduceLT, Nat.reduceMul, Nat.reduceBEq, Nat.reduceBNe, Int.reduceToNat, Int.reduceLE, Int.reduceLT, allocX, setPs, extremeA, ints, resAll, rinfOk, packR]
        refine ⟨k + 1, by omega, ?_⟩
        rw [gridP_succ]
        simp only [e0, List.map_append, List.map_cons, List.map_nil, List.length_append, List.length_cons, List.length_nil, Int.natCast_add, Int.natCast_one]
    · have hkr : k = n := by omega
      have hw := wrapped (x := (i : Int) + 1) (by omega) (by omega)
      simp -implicitDefEqProofs only [hw, rkA, stepA, valA, storeA, ldA, fieldAddrA, fieldA, idxAddrA, idxA, idxArr, lenA, unA, binA, num2, binV, eqA, rowOf, PV.cells, PV.cell, bndA, appA, reduceIte, reduceCtorEq, Nat.reduceAdd, Nat.reduceSub, Nat.reduceEqDiff, Nat.reduceLeDiff, Nat.reduceLT, Nat.reduceMul, Nat.reduceBEq, Nat.reduceBNe, Int.reduceToNat, Int.reduceLE, Int.reduceLT, allocX, setPs, extremeA, ints, resAll, rinfOk, packR]
      refine loopK_of (m' := m - 1) (by omega) ?_
      simp -implicitDefEqProofs only [rkA, stepA, valA, storeA, ldA, fieldAddrA, fieldA, idxAddrA, idxA, idxArr, lenA, unA, binA, num2, binV, eqA, rowOf, PV.cells, PV.cell, bndA, appA, reduceIte, reduceCtorEq, Nat.reduceAdd, Nat.reduceSub, Nat.reduceEqDiff, Nat.reduceLeDiff, Nat.reduceLT, Nat.reduceMul, Nat.reduceBEq, Nat.reduceBNe, Int.reduceToNat, Int.reduceLE, Int.reduceLT, allocX, setPs, extremeA, ints, resAll, rinfOk, packR]
      refine ⟨i + 1, by omega, ?_⟩
      rw [hkr, gridP_next]
      simp only [Int.natCast_add, Int.natCast_one]
  · have : i = n := by omega
    subst this
    rfl
theorem ok23 (e : Bool) (l : List Int) (n : Nat) (hn : n ≤ 16) (hl : l.length = n * n) : Ok Try.prog 23 [.sl e (l.map num), num n] (.sl false ((turnI l n).map num)) := by
  refine ok_fn mixed Try.func23 (code := ?_) (h := h23) ?_ k23 ?_
  rotate_left
  · exact rfl
  unfold h23 initS
  simp -implicitDefEqProofs only [rkA, stepA, valA, storeA, ldA, fieldAddrA, fieldA, idxAddrA, idxA, idxArr, lenA, unA, binA, num2, binV, eqA, rowOf, PV.cells, PV.cell, bndA, appA, reduceIte, reduceCtorEq, Nat.reduceAdd, Nat.reduceSub, Nat.reduceEqDiff, Nat.reduceLeDiff, Nat.reduceLT, Nat.reduceMul, Nat.reduceBEq, Nat.reduceBNe, Int.reduceToNat, Int.reduceLE, Int.reduceLT, allocX, setPs, extremeA, ints, resAll, rinfOk, packR, Try.ntmps23, Try.results23]
  have hlen := gridP_length (turnH l n) n
  have hbig : ∀ i k, i ≤ n → k ≤ n → i * n + k ≤ 272 := fun i k h1 h2 => by
    have : i * n ≤ 16 * 16 := Nat.mul_le_mul (by omega) (by omega)
    omega
  have s3 := side16 hn hn
  refine wp_loop (fun m s => ∃ i : Nat, i + m = n ∧ s = ⟨[.v (.sl e (l.map num)), .v (num n), jk, jk, jk, .acc 5 ((gridP (turnH l n) n i 0).map num), nt i, jk, jk, jk, jk, jk, jk, jk, jk, jk, jk, jk, jk, jk, jk, jk, jk, jk, jk, jk, jk, jk, jk, jk], [], [], [(4, 0), (5, (gridP (turnH l n) n i 0).length)], [], 0, nomem⟩) n ?_ ?_
  · simp -implicitDefEqProofs only [rkA, stepA, valA, storeA, ldA, fieldAddrA, fieldA, idxAddrA, idxA, idxArr, lenA, unA, binA, num2, binV, eqA, rowOf, PV.cells, PV.cell, bndA, appA, reduceIte, reduceCtorEq, Nat.reduceAdd, Nat.reduceSub, Nat.reduceEqDiff, Nat.reduceLeDiff, Nat.reduceLT, Nat.reduceMul, Nat.reduceBEq, Nat.reduceBNe, Int.reduceToNat, Int.reduceLE, Int.reduceLT, allocX, setPs, extremeA, ints, resAll, rinfOk, packR]
    exact ⟨0, by simp, rfl⟩
  rintro m s ⟨i, hi, rfl⟩
  simp -implicitDefEqProofs only [rkA, stepA, valA, storeA, ldA, fieldAddrA, fieldA, idxAddrA, idxA, idxArr, lenA, unA, binA, num2, binV, eqA, rowOf, PV.cells, PV.cell, bndA, appA, reduceIte, reduceCtorEq, Nat.reduceAdd, Nat.reduceSub, Nat.reduceEqDiff, Nat.reduceLeDiff, Nat.reduceLT, Nat.reduceMul, Nat.reduceBEq, Nat.reduceBNe, Int.reduceToNat, Int.reduceLE, Int.reduceLT, allocX, setPs, extremeA, ints, resAll, rinfOk, packR]
  refine gB_dec ?_ ?_ <;> intro hc <;> simp -implicitDefEqProofs only [hc, rkA, stepA, valA, storeA, ldA, fieldAddrA, fieldA, idxAddrA, idxA, idxArr, lenA, unA, binA, num2, binV, eqA, rowOf, PV.cells, PV.cell, bndA, appA, reduceIte, reduceCtorEq, Nat.reduceAdd, Nat.reduceSub, Nat.reduceEqDiff, Nat.reduceLeDiff, Nat.reduceLT, Nat.reduceMul, Nat.reduceBEq, Nat.reduceBNe, Int.reduceToNat, Int.reduceLE, Int.reduceLT, allocX, setPs, extremeA, ints, resAll, rinfOk, packR]
  · refine wp_loop (fun m s => ∃ k : Nat, k + m = n ∧ s = ⟨[.v (.sl e (l.map num)), .v (num n), jk, jk, jk, .acc 5 ((gridP (turnH l n) n i k).map num), nt i, nt k, jk, jk, jk, jk, jk, jk, jk, jk, jk, jk, jk, jk, jk, jk, jk, jk, jk, jk, jk, jk, jk, jk], [], [], [(4, 0), (5, (gridP (turnH l n) n i k).length)], [], 0, nomem⟩) n ?_ ?_
    · simp -implicitDefEqProofs only [rkA, stepA, valA, storeA, ldA, fieldAddrA, fieldA, idxAddrA, idxA, idxArr, lenA, unA, binA, num2, binV, eqA, rowOf, PV.cells, PV.cell, bndA, appA, reduceIte, reduceCtorEq, Nat.reduceAdd, Nat.reduceSub, Nat.reduceEqDiff, Nat.reduceLeDiff, Nat.reduceLT, Nat.reduceMul, Nat.reduceBEq, Nat.reduceBNe, Int.reduceToNat, Int.reduceLE, Int.reduceLT, allocX, setPs, extremeA, ints, resAll, rinfOk, packR]
      exact ⟨0, by simp, rfl⟩
    rintro m' s ⟨k, hk, rfl⟩
    simp -implicitDefEqProofs only [rkA, stepA, valA, storeA, ldA, fieldAddrA, fieldA, idxAddrA, idxA, idxArr, lenA, unA, binA, num2, binV, eqA, rowOf, PV.cells, PV.cell, bndA, appA, reduceIte, reduceCtorEq, Nat.reduceAdd, Nat.reduceSub, Nat.reduceEqDiff, Nat.reduceLeDiff, Nat.reduceLT, Nat.reduceMul, Nat.reduceBEq, Nat.reduceBNe, Int.reduceToNat, Int.reduceLE, Int.reduceLT, allocX, setPs, extremeA, ints, resAll, rinfOk, packR]
    refine gB_dec ?_ ?_ <;> intro hc2 <;> simp -implicitDefEqProofs only [hc2, rkA, stepA, valA, storeA, ldA, fieldAddrA, fieldA, idxAddrA, idxA, idxArr, lenA, unA, binA, num2, binV, eqA, rowOf, PV.cells, PV.cell, bndA, appA, reduceIte, reduceCtorEq, Nat.reduceAdd, Nat.reduceSub, Nat.reduceEqDiff, Nat.reduceLeDiff, Nat.reduceLT, Nat.reduceMul, Nat.reduceBEq, Nat.reduceBNe, Int.reduceToNat, Int.reduceLE, Int.reduceLT, allocX, setPs, extremeA, ints, resAll, rinfOk, packR]
    · have hl1 := hlen i k
      have hb := hbig i k (by omega) (by omega)
      have hfit : ∀ x : Int, fits 1 8 ((gridP (turnH l n) n i k).map num) [num x] = true := fun x => fits_num (l := [x]) (by simp only [List.length_cons, List.length_nil]; omega)
      have hl' : ((gridP (turnH l n) n i k).map num).length = (gridP (turnH l n) n i k).length := by simp
      have hw := wrapped (x := (k : Int) + 1) (by omega) (by omega)
      have t := at_table (i := k) (j := i) (n := n) (m := n) (by omega) (by omega)
      have c1 : (k : Int) * (n : Int) = ((k * n : Nat) : Int) := by simp
      have c3 : ((k * n : Nat) : Int) + (i : Int) = ((k * n + i : Nat) : Int) := by simp
      have w1 := wrapped (x := ((k * n : Nat) : Int)) (by omega) (by omega)
      have w3 := wrapped (x := ((k * n + i : Nat) : Int)) (by omega) (by omega)
      have g1 := at_num (a := l) (i := k * n + i) (by omega)
      have n1 : (0 : Int) ≤ ((k * n + i : Nat) : Int) := by omega
      simp -implicitDefEqProofs only [c1, w1, c3, w3, n1, Int.toNat_natCast, g1, hfit, hl', hw, rkA, stepA, valA, storeA, ldA, fieldAddrA, fieldA, idxAddrA, idxA, idxArr, lenA, unA, binA, num2, binV, eqA, rowOf, PV.cells, PV.cell, bndA, appA, reduceIte, reduceCtorEq, Nat.reduceAdd, Nat.reduceSub, Nat.reduceEqDiff, Nat.reduceLeDiff, Nat.reduceLT, Nat.reduceMul, Nat.reduceBEq, Nat.reduceBNe, Int.reduceToNat, Int.reduceLE, Int.reduceLT, allocX, setPs, extremeA, ints, resAll, rinfOk, packR]
      refine loopK_of (m' := m' - 1) (by omega) ?_
      simp -implicitDefEqProofs only [rkA, stepA, valA, storeA, ldA, fieldAddrA, fieldA, idxAddrA, idxA, idxArr, lenA, unA, binA, num2, binV, eqA, rowOf, PV.cells, PV.cell, bndA, appA, reduceIte, reduceCtorEq, Nat.reduceAdd, Nat.reduceSub, Nat.reduceEqDiff, Nat.reduceLeDiff, Nat.reduceLT, Nat.reduceMul, Nat.reduceBEq, Nat.reduceBNe, Int.reduceToNat, Int.reduceLE, Int.reduceLT, allocX, setPs, extremeA, ints, resAll, rinfOk, packR]
      refine ⟨k + 1, by omega, ?_⟩
      rw [gridP_succ]
      simp only [turnH, List.map_append, List.map_cons, List.map_nil, List.length_append, List.length_cons, List.length_nil, Int.natCast_add, Int.natCast_one]
    · have hkr : k = n := by omega
      have hw := wrapped (x := (i : Int) + 1) (by omega) (by omega)
      simp -implicitDefEqProofs only [hw, rkA, stepA, valA, storeA, ldA, fieldAddrA, fieldA, idxAddrA, idxA, idxArr, lenA, unA, binA, num2, binV, eqA, rowOf, PV.cells, PV.cell, bndA, appA, reduceIte, reduceCtorEq, Nat.reduceAdd, Nat.reduceSub, Nat.reduceEqDiff, Nat.reduceLeDiff, Nat.reduceLT, Nat.reduceMul, Nat.reduceBEq, Nat.reduceBNe, Int.reduceToNat, Int.reduceLE, Int.reduceLT, allocX, setPs, extremeA, ints, resAll, rinfOk, packR]
      refine loopK_of (m' := m - 1) (by omega) ?_
      simp -implicitDefEqProofs only [rkA, stepA, valA, storeA, ldA, fieldAddrA, fieldA, idxAddrA, idxA, idxArr, lenA, unA, binA, num2, binV, eqA, rowOf, PV.cells, PV.cell, bndA, appA, reduceIte, reduceCtorEq, Nat.reduceAdd, Nat.reduceSub, Nat.reduceEqDiff, Nat.reduceLeDiff, Nat.reduceLT, Nat.reduceMul, Nat.reduceBEq, Nat.reduceBNe, Int.reduceToNat, Int.reduceLE, Int.reduceLT, allocX, setPs, extremeA, ints, resAll, rinfOk, packR]
      refine ⟨i + 1, by omega, ?_⟩
      rw [hkr, gridP_next]
      simp only [Int.natCast_add, Int.natCast_one]
  · have : i = n := by omega
    subst this
    rfl
theorem ok8 (e : Bool) (l : List Int) (n : Int) : Ok Try.prog 8 [.sl e (l.map num), num n] (tru (decide (1 ≤ n ∧ n ≤ 5 ∧ (l.length : Int) = n * n) && fewB l)) := by
  refine ok_fn mixed Try.func8 (code := ?_) (h := h8) ?_ k8 ?_
  rotate_left
  · exact rfl
  unfold h8 initS
  simp -implicitDefEqProofs only [rkA, stepA, valA, storeA, ldA, fieldAddrA, fieldA, idxAddrA, idxA, idxArr, lenA, unA, binA, num2, binV, eqA, rowOf, PV.cells, PV.cell, bndA, appA, reduceIte, reduceCtorEq, Nat.reduceAdd, Nat.reduceSub, Nat.reduceEqDiff, Nat.reduceLeDiff, Nat.reduceLT, Nat.reduceMul, Nat.reduceBEq, Nat.reduceBNe, Int.reduceToNat, Int.reduceLE, Int.reduceLT, allocX, setPs, extremeA, ints, resAll, rinfOk, packR, Try.ntmps8, Try.results8]
  refine gB_dec ?_ ?_ <;> intro h1 <;> simp -implicitDefEqProofs only [h1, rkA, stepA, valA, storeA, ldA, fieldAddrA, fieldA, idxAddrA, idxA, idxArr, lenA, unA, binA, num2, binV, eqA, rowOf, PV.cells, PV.cell, bndA, appA, reduceIte, reduceCtorEq, Nat.reduceAdd, Nat.reduceSub, Nat.reduceEqDiff, Nat.reduceLeDiff, Nat.reduceLT, Nat.reduceMul, Nat.reduceBEq, Nat.reduceBNe, Int.reduceToNat, Int.reduceLE, Int.reduceLT, allocX, setPs, extremeA, ints, resAll, rinfOk, packR]
  · refine gB_dec ?_ ?_ <;> intro h2 <;> simp -implicitDefEqProofs only [h2, rkA, stepA, valA, storeA, ldA, fieldAddrA, fieldA, idxAddrA, idxA, idxArr, lenA, unA, binA, num2, binV, eqA, rowOf, PV.cells, PV.cell, bndA, appA, reduceIte, reduceCtorEq, Nat.reduceAdd, Nat.reduceSub, Nat.reduceEqDiff, Nat.reduceLeDiff, Nat.reduceLT, Nat.reduceMul, Nat.reduceBEq, Nat.reduceBNe, Int.reduceToNat, Int.reduceLE, Int.reduceLT, allocX, setPs, extremeA, ints, resAll, rinfOk, packR]
    · have hb : 0 ≤ n * n ∧ n * n ≤ 25 := by
        obtain ⟨N, rfl⟩ := Int.eq_ofNat_of_zero_le (show 0 ≤ n by omega)
        have : N * N ≤ 5 * 5 := Nat.mul_le_mul (by omega) (by omega)
        rw [← Int.natCast_mul]
        omega
      have hw := wrapped (x := n * n) (by omega) (by omega)
      have hl : (l.map num).length = l.length := by simp
      simp -implicitDefEqProofs only [hw, hl, rkA, stepA, valA, storeA, ldA, fieldAddrA, fieldA, idxAddrA, idxA, idxArr, lenA, unA, binA, num2, binV, eqA, rowOf, PV.cells, PV.cell, bndA, appA, reduceIte, reduceCtorEq, Nat.reduceAdd, Nat.reduceSub, Nat.reduceEqDiff, Nat.reduceLeDiff, Nat.reduceLT, Nat.reduceMul, Nat.reduceBEq, Nat.reduceBNe, Int.reduceToNat, Int.reduceLE, Int.reduceLT, allocX, setPs, extremeA, ints, resAll, rinfOk, packR]
      refine gB_bool ?_ ?_ <;> intro h3 <;> simp -implicitDefEqProofs only [h3, rkA, stepA, valA, storeA, ldA, fieldAddrA, fieldA, idxAddrA, idxA, idxArr, lenA, unA, binA, num2, binV, eqA, rowOf, PV.cells, PV.cell, bndA, appA, reduceIte, reduceCtorEq, Nat.reduceAdd, Nat.reduceSub, Nat.reduceEqDiff, Nat.reduceLeDiff, Nat.reduceLT, Nat.reduceMul, Nat.reduceBEq, Nat.reduceBNe, Int.reduceToNat, Int.reduceLE, Int.reduceLT, allocX, setPs, extremeA, ints, resAll, rinfOk, packR]
      · have h3' : (l.length : Int) = n * n := by simpa using h3
        refine call_fn rfl rfl rfl (ok24 e l) ?_
        simp -implicitDefEqProofs only [rkA, stepA, valA, storeA, ldA, fieldAddrA, fieldA, idxAddrA, idxA, idxArr, lenA, unA, binA, num2, binV, eqA, rowOf, PV.cells, PV.cell, bndA, appA, reduceIte, reduceCtorEq, Nat.reduceAdd, Nat.reduceSub, Nat.reduceEqDiff, Nat.reduceLeDiff, Nat.reduceLT, Nat.reduceMul, Nat.reduceBEq, Nat.reduceBNe, Int.reduceToNat, Int.reduceLE, Int.reduceLT, allocX, setPs, extremeA, ints, resAll, rinfOk, packR]
        have : 1 ≤ n ∧ n ≤ 5 ∧ (l.length : Int) = n * n := ⟨by omega, by omega, h3'⟩
        simp -implicitDefEqProofs only [this, rkA, stepA, valA, storeA, ldA, fieldAddrA, fieldA, idxAddrA, idxA, idxArr, lenA, unA, binA, num2, binV, eqA, rowOf, PV.cells, PV.cell, bndA, appA, reduceIte, reduceCtorEq, Nat.reduceAdd, Nat.reduceSub, Nat.reduceEqDiff, Nat.reduceLeDiff, Nat.reduceLT, Nat.reduceMul, Nat.reduceBEq, Nat.reduceBNe, Int.reduceToNat, Int.reduceLE, Int.reduceLT, allocX, setPs, extremeA, ints, resAll, rinfOk, packR]
      · have h3' : ¬ (l.length : Int) = n * n := by simpa using h3
        simp -implicitDefEqProofs only [h3', rkA, stepA, valA, storeA, ldA, fieldAddrA, fieldA, idxAddrA, idxA, idxArr, lenA, unA, binA, num2, binV, eqA, rowOf, PV.cells, PV.cell, bndA, appA, reduceIte, reduceCtorEq, Nat.reduceAdd, Nat.reduceSub, Nat.reduceEqDiff, Nat.reduceLeDiff, Nat.reduceLT, Nat.reduceMul, Nat.reduceBEq, Nat.reduceBNe, Int.reduceToNat, Int.reduceLE, Int.reduceLT, allocX, setPs, extremeA, ints, resAll, rinfOk, packR]
theorem ok26 (x : Fr) : Ok Try.prog 26 [frV x] (tru true) := by
  refine ok_fn mixed Try.func26 (code := ?_) (h := h26) ?_ k26 ?_
  rotate_left
  · exact rfl
  unfold h26 initS
  simp -implicitDefEqProofs only [rkA, stepA, valA, storeA, ldA, fieldAddrA, fieldA, idxAddrA, idxA, idxArr, lenA, unA, binA, num2, binV, eqA, rowOf, PV.cells, PV.cell, bndA, appA, reduceIte, reduceCtorEq, Nat.reduceAdd, Nat.reduceSub, Nat.reduceEqDiff, Nat.reduceLeDiff, Nat.reduceLT, Nat.reduceMul, Nat.reduceBEq, Nat.reduceBNe, Int.reduceToNat, Int.reduceLE, Int.reduceLT, allocX, setPs, extremeA, ints, resAll, rinfOk, packR, Try.ntmps26, Try.results26]
theorem ok28 (x : Fr) : Ok Try.prog 28 [frV x] (tru (x.n == 0)) := by
  refine ok_fn mixed Try.func28 (code := ?_) (h := h28) ?_ k28 ?_
  rotate_left
  · exact rfl
  unfold h28 initS
  simp -implicitDefEqProofs only [rkA, stepA, valA, storeA, ldA, fieldAddrA, fieldA, idxAddrA, idxA, idxArr, lenA, unA, binA, num2, binV, eqA, rowOf, PV.cells, PV.cell, bndA, appA, reduceIte, reduceCtorEq, Nat.reduceAdd, Nat.reduceSub, Nat.reduceEqDiff, Nat.reduceLeDiff, Nat.reduceLT, Nat.reduceMul, Nat.reduceBEq, Nat.reduceBNe, Int.reduceToNat, Int.reduceLE, Int.reduceLT, allocX, setPs, extremeA, ints, resAll, rinfOk, packR, Try.ntmps28, Try.results28]
theorem ok34 (x : Fr) : Ok Try.prog 34 [frV x] (tru (x.n == 0)) := by
  refine ok_fn mixed Try.func34 (code := ?_) (h := h34) ?_ k34 ?_
  rotate_left
  · exact rfl
  unfold h34 initS
  simp -implicitDefEqProofs only [rkA, stepA, valA, storeA, ldA, fieldAddrA, fieldA, idxAddrA, idxA, idxArr, lenA, unA, binA, num2, binV, eqA, rowOf, PV.cells, PV.cell, bndA, appA, reduceIte, reduceCtorEq, Nat.reduceAdd, Nat.reduceSub, Nat.reduceEqDiff, Nat.reduceLeDiff, Nat.reduceLT, Nat.reduceMul, Nat.reduceBEq, Nat.reduceBNe, Int.reduceToNat, Int.reduceLE, Int.reduceLT, allocX, setPs, extremeA, ints, resAll, rinfOk, packR, Try.ntmps34, Try.results34]

theorem small_turn {l : List Int} (h : small l) (n : Nat) : small (turnI l n) := by
  intro x hx
  rw [turnI, gridP_zero, List.mem_flatMap] at hx
  obtain ⟨i, _, hx⟩ := hx
  obtain ⟨k, _, rfl⟩ := List.mem_map.1 hx
  exact small_get h _
theorem ok30 (e : Bool) (l : List Int) (n : Nat) (hn : n ≤ 16) (hl : l.length = n * n) (hs : small l) : Ok Try.prog 30 [.sl e (l.map num), num n] (.sl false ((squareI l n).map num)) := by
  refine ok_fn mixed Try.func30 (code := ?_) (h := h30) ?_ k30 ?_
  rotate_left
  · exact rfl
  unfold h30 initS
  simp -implicitDefEqProofs only [rkA, stepA, valA, storeA, ldA, fieldAddrA, fieldA, idxAddrA, idxA, idxArr, lenA, unA, binA, num2, binV, eqA, rowOf, PV.cells, PV.cell, bndA, appA, reduceIte, reduceCtorEq, Nat.reduceAdd, Nat.reduceSub, Nat.reduceEqDiff, Nat.reduceLeDiff, Nat.reduceLT, Nat.reduceMul, Nat.reduceBEq, Nat.reduceBNe, Int.reduceToNat, Int.reduceLE, Int.reduceLT, allocX, setPs, extremeA, ints, resAll, rinfOk, packR, Try.ntmps30, Try.results30]
  refine call_fn rfl rfl rfl (ok23 e l n hn hl) ?_
  simp -implicitDefEqProofs only [rkA, stepA, valA, storeA, ldA, fieldAddrA, fieldA, idxAddrA, idxA, idxArr, lenA, unA, binA, num2, binV, eqA, rowOf, PV.cells, PV.cell, bndA, appA, reduceIte, reduceCtorEq, Nat.reduceAdd, Nat.reduceSub, Nat.reduceEqDiff, Nat.reduceLeDiff, Nat.reduceLT, Nat.reduceMul, Nat.reduceBEq, Nat.reduceBNe, Int.reduceToNat, Int.reduceLE, Int.reduceLT, allocX, setPs, extremeA, ints, resAll, rinfOk, packR]
  refine call_fn rfl rfl rfl (ok22 e false l (turnI l n) n n n hn hn hn hl (by rw [turnI, gridP_length, Nat.add_zero]) hs (small_turn hs n)) ?_
  simp -implicitDefEqProofs only [rkA, stepA, valA, storeA, ldA, fieldAddrA, fieldA, idxAddrA, idxA, idxArr, lenA, unA, binA, num2, binV, eqA, rowOf, PV.cells, PV.cell, bndA, appA, reduceIte, reduceCtorEq, Nat.reduceAdd, Nat.reduceSub, Nat.reduceEqDiff, Nat.reduceLeDiff, Nat.reduceLT, Nat.reduceMul, Nat.reduceBEq, Nat.reduceBNe, Int.reduceToNat, Int.reduceLE, Int.reduceLT, allocX, setPs, extremeA, ints, resAll, rinfOk, packR, squareI]

/-! ### What the document fixes of a root -/
theorem ok9 : Ok Try.prog 9 [] (tru true) := by
  refine ok_fn mixed Try.func9 (code := ?_) (h := h9) ?_ k9 ?_
  rotate_left
  · exact rfl
  unfold h9 initS
  simp -implicitDefEqProofs only [rkA, stepA, valA, storeA, ldA, fieldAddrA, fieldA, idxAddrA, idxA, idxArr, lenA, unA, binA, num2, binV, eqA, rowOf, PV.cells, PV.cell, bndA, appA, reduceIte, reduceCtorEq, Nat.reduceAdd, Nat.reduceSub, Nat.reduceEqDiff, Nat.reduceLeDiff, Nat.reduceLT, Nat.reduceMul, Nat.reduceBEq, Nat.reduceBNe, Int.reduceToNat, Int.reduceLE, Int.reduceLT, allocX, setPs, extremeA, ints, resAll, rinfOk, packR, Try.ntmps9, Try.results9]
  have h1 := ok10 2 2 true [4, 2, 2, 5] (by simp)
  rw [if_pos (by decide)] at h1
  refine call_fn rfl rfl rfl (h1) ?_
  have u1 : rootMat 2 ([4, 2, 2, 5].map (newF · 1)) = [2, 0, 1, 2].map (newF · 1) := by decide +kernel
  generalize hR : [4, 2, 2, 5].map (newF · 1) = R at *
  have lR : R.length = 4 := by subst hR; rfl
  simp -implicitDefEqProofs only [rkA, stepA, valA, storeA, ldA, fieldAddrA, fieldA, idxAddrA, idxA, idxArr, lenA, unA, binA, num2, binV, eqA, rowOf, PV.cells, PV.cell, bndA, appA, reduceIte, reduceCtorEq, Nat.reduceAdd, Nat.reduceSub, Nat.reduceEqDiff, Nat.reduceLeDiff, Nat.reduceLT, Nat.reduceMul, Nat.reduceBEq, Nat.reduceBNe, Int.reduceToNat, Int.reduceLE, Int.reduceLT, allocX, setPs, extremeA, ints, resAll, rinfOk, packR]
  have h2 := ok15 2 (by omega) false R lR
  rw [u1] at h2
  refine call_fn rfl rfl rfl (h2) ?_
  simp -implicitDefEqProofs only [rkA, stepA, valA, storeA, ldA, fieldAddrA, fieldA, idxAddrA, idxA, idxArr, lenA, unA, binA, num2, binV, eqA, rowOf, PV.cells, PV.cell, bndA, appA, reduceIte, reduceCtorEq, Nat.reduceAdd, Nat.reduceSub, Nat.reduceEqDiff, Nat.reduceLeDiff, Nat.reduceLT, Nat.reduceMul, Nat.reduceBEq, Nat.reduceBNe, Int.reduceToNat, Int.reduceLE, Int.reduceLT, allocX, setPs, extremeA, ints, resAll, rinfOk, packR]
  refine call_fn rfl rfl rfl (ok21 false true 2 2 ([2, 0, 1, 2].map (newF · 1)) [2, 0, 1, 2] (by simp) rfl) ?_
  simp -implicitDefEqProofs only [rkA, stepA, valA, storeA, ldA, fieldAddrA, fieldA, idxAddrA, idxA, idxArr, lenA, unA, binA, num2, binV, eqA, rowOf, PV.cells, PV.cell, bndA, appA, reduceIte, reduceCtorEq, Nat.reduceAdd, Nat.reduceSub, Nat.reduceEqDiff, Nat.reduceLeDiff, Nat.reduceLT, Nat.reduceMul, Nat.reduceBEq, Nat.reduceBNe, Int.reduceToNat, Int.reduceLE, Int.reduceLT, allocX, setPs, extremeA, ints, resAll, rinfOk, packR]
  have hz : ∀ i k : Nat, i < Int.toNat 2 → k < Int.toNat 2 → i < k → ((atF 2 2 ([2, 0, 1, 2].map (newF · 1)) i k).n == 0) = true := by
    intro i k hi hk hik
    obtain ⟨rfl, rfl⟩ : i = 0 ∧ k = 1 := by omega
    decide +kernel
  refine call_fn rfl rfl rfl (ok25 false 2 2 ([2, 0, 1, 2].map (newF · 1)) _ [] (fun x => x.n == 0) true ok34 ⟨fun _ => ⟨by decide +kernel, rfl, hz⟩, fun _ => rfl⟩) ?_
  simp -implicitDefEqProofs only [rkA, stepA, valA, storeA, ldA, fieldAddrA, fieldA, idxAddrA, idxA, idxArr, lenA, unA, binA, num2, binV, eqA, rowOf, PV.cells, PV.cell, bndA, appA, reduceIte, reduceCtorEq, Nat.reduceAdd, Nat.reduceSub, Nat.reduceEqDiff, Nat.reduceLeDiff, Nat.reduceLT, Nat.reduceMul, Nat.reduceBEq, Nat.reduceBNe, Int.reduceToNat, Int.reduceLE, Int.reduceLT, allocX, setPs, extremeA, ints, resAll, rinfOk, packR]
  refine call_fn rfl rfl rfl (ok12 2 (by omega) false ([2, 0, 1, 2].map (newF · 1)) (by simp)) ?_
  simp -implicitDefEqProofs only [rkA, stepA, valA, storeA, ldA, fieldAddrA, fieldA, idxAddrA, idxA, idxArr, lenA, unA, binA, num2, binV, eqA, rowOf, PV.cells, PV.cell, bndA, appA, reduceIte, reduceCtorEq, Nat.reduceAdd, Nat.reduceSub, Nat.reduceEqDiff, Nat.reduceLeDiff, Nat.reduceLT, Nat.reduceMul, Nat.reduceBEq, Nat.reduceBNe, Int.reduceToNat, Int.reduceLE, Int.reduceLT, allocX, setPs, extremeA, ints, resAll, rinfOk, packR]
  have hd : (frs (diagF 2 [newF 2 1, newF 0 1, newF 1 1, newF 2 1])).length = 2 := by simp [diagF]
  have hd' : (diagF 2 [newF 2 1, newF 0 1, newF 1 1, newF 2 1]).length = 2 := by simp [diagF]
  simp only [hd', List.length_map]
  rfl
end Go.Proofs.Ytbflmeomkfjikaa.A


set_option linter.unusedVariables false
set_option linter.unusedSimpArgs false
set_option maxRecDepth 100000
namespace Go.Proofs.Ytbflmeomkfjikaa.A
open Go Go.RowKit Go.Shelf

/-! ### States -/
abbrev stV (ex ep : Bool) (x : List PV) (r c : Int) (l : List PV) : PV := .agg [.sl ex x, num r, num c, .sl ep l]
abbrev stNil : PV := .agg [.s (.slice none 0 0), num 0, num 0, .s (.slice none 0 0)]
theorem Cs.st_nil {I : Imm} {xs ys : List PV} {vs : List Value} (h : Cs I (stNil :: xs) vs) (k : ∀ us, Cs I xs us → Cs I ys us) : Cs I (stV false false (frs []) 0 0 (frs []) :: ys) vs := by
  have key : ∀ us, Cs I [.s (.slice none 0 0), num 0, num 0, .s (.slice none 0 0)] us → Cs I [.sl false [], num 0, num 0, .sl false []] us := fun us h => Cs.nil_of h fun us h => Cs.keep h fun us h => Cs.keep h fun us h => Cs.nil_of h fun us h => h
  cases h with | cons h1 h2 => cases h1 with | agg hl => exact .cons (.agg (key _ hl)) (k _ h2)

def stRight (k : Nat) (r c : Int) (n : Nat) : Bool := decide (1 ≤ k ∧ k ≤ 4) && (right r c n && (r == k && c == k))
theorem stRight_nat {k n : Nat} {m : Nat} (h : m = n * n) : stRight k n n m = decide (1 ≤ k ∧ k ≤ 4 ∧ k = n) := by
  by_cases hk : 1 ≤ k ∧ k ≤ 4
  · by_cases e : k = n
    · subst e
      have := right_nat (R := k) (K := k) (n := m) (by omega) (by omega) h
      simp [stRight, hk, this]
    · have e2 : ((n : Int) == (k : Int)) = false := by simp; omega
      simp [stRight, e2, e]
  · have : ¬ (1 ≤ k ∧ k ≤ 4 ∧ k = n) := by omega
    simp [stRight, hk, this]

theorem sqF_len (n : Nat) (l : List Fr) : (sqF n l).length = n * n := by
  rw [sqF, mirF, gridP_length]
  simp
/-! ### A new state -/
/-! ### Turned -/
def turnedF (n : Nat) (m p q : List Fr) : List Fr := mirF n (List.zipWith addF (prodF n n n (prodF n n n m p) (turnF n n m)) q)
theorem turnedF_len (n : Nat) (m p q : List Fr) : (turnedF n m p q).length = n * n := by
  rw [turnedF, mirF, gridP_length]
  simp
end Go.Proofs.Ytbflmeomkfjikaa.A

set_option linter.unusedVariables false
set_option linter.unusedSimpArgs false
set_option maxRecDepth 100000
namespace Go.Proofs.Ytbflmeomkfjikaa.A
open Go Go.RowKit Go.Shelf

/-- A matrix applied to a row. -/
def applyF (r c : Int) (l v : List Fr) : List Fr := (allF r c l).map (dotF · v)

theorem applyF_get {r c : Int} {l v : List Fr} {i : Nat} (hi : i < r.toNat) : (frs (applyF r c l v))[i]? = some (frV (dotF (rowF r c l i) v)) := by
  simp [applyF, allF, hi]
theorem turn_col {c : Int} {v : List Fr} (h : right c 1 v.length = true) : rowF 1 c (turnF c 1 v) 0 = v := by
  obtain ⟨c1, c2, _, _, hn⟩ := right_spec h
  have h0 := rowF_eq ⟨0, 0, false⟩ (right_turn h) (i := 0) (by simp)
  simp only [Int.natCast_zero] at h0
  have e : ((0 : Nat) : Int) = 0 := rfl
  rw [h0, turnF_eq h]
  apply List.ext_getElem?
  intro j
  by_cases hj : j < c.toNat
  · rw [List.getElem?_map, List.getElem?_range hj, Option.map_some]
    have hg := gridP_get (fun k i => atF c 1 v (i : Int) (k : Int)) c.toNat (1 : Int).toNat 0 j (by simp) hj
    have hv := atF_eq h (i := j) (k := 0) hj (by simp)
    have hlt : j < v.length := by omega
    rw [List.getD_eq_getElem?_getD, hg, Option.getD_some, hv]
    simp [hlt]
  · rw [List.getElem?_eq_none (by simp; omega), List.getElem?_eq_none (by omega)]
theorem prod_col {r c : Int} {l v : List Fr} (h : right r c l.length = true) (hv : right c 1 v.length = true) (hz : right r 1 (prodF r c 1 l v).length = true) {i : Nat} (hi : i < r.toNat) : atF r 1 (prodF r c 1 l v) i 0 = dotF (rowF r c l i) v := by
  have e : prodF r c 1 l v = gridP (fun i k => dotF (rowF r c l (i : Int)) (rowF 1 c (turnF c 1 v) (k : Int))) (1 : Int).toNat r.toNat 0 := by
    rw [gridP_zero]
    unfold prodF allF
    rw [List.flatMap_map]
    simp
  have ha := atF_eq hz (i := i) (k := 0) hi (by simp)
  have hg := gridP_get (fun i k => dotF (rowF r c l (i : Int)) (rowF 1 c (turnF c 1 v) (k : Int))) (1 : Int).toNat r.toNat i 0 hi (by simp)
  simp only [Int.natCast_zero] at ha hg
  rw [ha, e, List.getD_eq_getElem?_getD, hg, Option.getD_some, turn_col hv]
theorem prodF_length {r m c : Int} {a b : List Fr} : (prodF r m c a b).length = r.toNat * c.toNat := by
  unfold prodF
  have : prodF r m c a b = prodP dotF (allF r m a) (allF c m (turnF m c b)) (allF r m a).length 0 := by
    rw [prodP_zero, List.take_length]
    rfl
  unfold allF
  simp only [List.length_flatMap, List.length_map, List.length_range, List.map_map]
  have e : ∀ l : List Nat, (l.map ((fun _ => c.toNat) ∘ fun (i : Nat) => rowF r m a (i : Int))).sum = l.length * c.toNat := fun l => by
    induction l with
    | nil => simp
    | cons x l ih => rw [List.map_cons, List.sum_cons, ih, List.length_cons, Nat.add_mul, Nat.one_mul, Nat.add_comm]; rfl
  rw [e, List.length_range]

end Go.Proofs.Ytbflmeomkfjikaa.A


set_option linter.unusedVariables false
set_option linter.unusedSimpArgs false
set_option maxRecDepth 100000
namespace Go.Proofs.Ytbflmeomkfjikaa.A
open Go Go.RowKit Go.Shelf

/-! ### Predict -/
theorem applyF_len (n : Nat) (l v : List Fr) : (applyF n n l v).length = n := by simp [applyF, allF]
end Go.Proofs.Ytbflmeomkfjikaa.A


set_option linter.unusedVariables false
set_option linter.unusedSimpArgs false
set_option maxRecDepth 100000
namespace Go.Proofs.Ytbflmeomkfjikaa.A
open Go Go.RowKit Go.Shelf

/-! ### Update -/
abbrev newsNil : PV := .agg [num 0, num 0, tru false, num 0, num 0, tru false]
abbrev newsV (e a : Fr) : PV := .agg [num e.n, num e.d, tru e.bad, num a.n, num a.d, tru a.bad]
section
variable (n : Nat) (x p h : List Fr) (r z : Fr)
def uF : List Fr := applyF n n p h
def spreadF : Fr := addF (dotF h (uF n p h)) r
def surpriseF : Fr := subF z (dotF h x)
def kF : List Fr := (uF n p h).map (divF · (spreadF n p h r))
def unitF : List Fr := (unitP n n).map (newF · 1)
def mF : List Fr := List.zipWith subF (unitF n) (prodF n 1 n (kF n p h r) h)
def krkF : List Fr := prodF n 1 n ((kF n p h r).map (mulF · r)) (turnF n 1 (kF n p h r))
def upP : List Fr := turnedF n (mF n p h r) p (krkF n p h r)
def upX : List Fr := List.zipWith addF x ((kF n p h r).map (mulF · (surpriseF x h z)))
end
theorem uF_len (n : Nat) (p h : List Fr) : (uF n p h).length = n := applyF_len n p h
theorem kF_len (n : Nat) (p h : List Fr) (r : Fr) : (kF n p h r).length = n := by rw [kF, List.length_map, uF_len]
end Go.Proofs.Ytbflmeomkfjikaa.A

set_option linter.unusedVariables false
set_option linter.unusedSimpArgs false
set_option maxRecDepth 100000
namespace Go.Proofs.Ytbflmeomkfjikaa.A
open Go Go.RowKit Go.Shelf

/-! ### Fractions as numbers -/
def Fr.val (x : Fr) : Rat := (x.n : Rat) / (x.d : Rat)
theorem cast_ne {d : Int} (h : d ≠ 0) : (d : Rat) ≠ 0 := by
  intro e
  exact h (Rat.intCast_inj.1 (by simpa using e))
theorem val_div {n d m e k : Int} (hd : d ≠ 0) (he : e ≠ 0) (h : n * e = m * d) : (n : Rat) / d = (m : Rat) / e := by
  have h1 := cast_ne hd
  have h2 := cast_ne he
  have h3 : (n : Rat) * e = (m : Rat) * d := by
    rw [← Rat.intCast_mul, ← Rat.intCast_mul, h]
  grind
theorem div_val {n d m e : Int} (hd : d ≠ 0) (he : e ≠ 0) (h : (n : Rat) / d = (m : Rat) / e) : n * e = m * d := by
  have h1 := cast_ne hd
  have h2 := cast_ne he
  have h3 : (n : Rat) * e = (m : Rat) * d := by grind
  rw [← Rat.intCast_mul, ← Rat.intCast_mul] at h3
  exact Rat.intCast_inj.1 h3

/-- What New tells, where it is not Bad. -/
theorem newF_spec {n d : Int} (h : (newF n d).bad = false) : d ≠ 0 ∧ 0 < (newF n d).d ∧ (newF n d).n * d = n * (newF n d).d ∧ Int.gcd (newF n d).n (newF n d).d = 1 ∧ (newF n d).d ≤ 1073741824 ∧ (newF n d).n ≤ 1073741824 ∧ -1073741824 ≤ (newF n d).n := by
  unfold newF at h ⊢
  by_cases h1 : n > 1152921504606846976 ∨ n < -1152921504606846976 ∨ d > 1152921504606846976 ∨ d < -1152921504606846976 ∨ d = 0
  · rw [if_pos h1] at h; cases h
  rw [if_neg h1] at h ⊢
  simp only at h ⊢
  have hd : d ≠ 0 := by omega
  have key : ∀ m e : Int, 0 < e → m * d = n * e → ∀ x : Fr, x = (if m.tdiv (Int.gcd m e : Int) > 1073741824 ∨ m.tdiv (Int.gcd m e : Int) < -1073741824 ∨ e.tdiv (Int.gcd m e : Int) > 1073741824 then Fr.wrong else ⟨m.tdiv (Int.gcd m e : Int), e.tdiv (Int.gcd m e : Int), false⟩) → x.bad = false →
      d ≠ 0 ∧ 0 < x.d ∧ x.n * d = n * x.d ∧ Int.gcd x.n x.d = 1 ∧ x.d ≤ 1073741824 ∧ x.n ≤ 1073741824 ∧ -1073741824 ≤ x.n := by
    intro m e he hme x hx hb
    have hg : 0 < Int.gcd m e := Int.gcd_pos_of_ne_zero_right m (by omega)
    obtain ⟨m', hm'⟩ := Int.gcd_dvd_left m e
    obtain ⟨e', he'⟩ := Int.gcd_dvd_right m e
    generalize hk : Int.gcd m e = k at *
    have hk0 : (k : Int) ≠ 0 := by omega
    have q1 : m.tdiv (k : Int) = m' := by rw [hm', Int.mul_tdiv_cancel_left _ hk0]
    have q2 : e.tdiv (k : Int) = e' := by rw [he', Int.mul_tdiv_cancel_left _ hk0]
    rw [q1, q2] at hx
    have hcop : Int.gcd m' e' = 1 := by
      have h3 : Int.gcd ((k : Int) * m') ((k : Int) * e') = k * Int.gcd m' e' := by
        rw [Int.gcd_mul_left]; simp
      rw [← hm', ← he', hk] at h3
      have : k * 1 = k * Int.gcd m' e' := by omega
      exact (Nat.eq_of_mul_eq_mul_left hg this).symm
    have he0 : 0 < e' := by
      have h4 : 0 < (k : Int) * e' := by rw [← he']; exact he
      exact Int.pos_of_mul_pos_right h4 (by omega)
    split at hx
    · rw [hx] at hb; cases hb
    · rename_i hns
      subst hx
      refine ⟨hd, he0, ?_, hcop, by simp only; omega, by simp only; omega, by simp only; omega⟩
      simp only
      rw [hm', he'] at hme
      have : (k : Int) * (m' * d) = (k : Int) * (n * e') := by
        rw [← Int.mul_assoc, hme, ← Int.mul_assoc, ← Int.mul_assoc, Int.mul_comm (k : Int) n]
      exact Int.eq_of_mul_eq_mul_left hk0 this
  by_cases hneg : d < 0
  · simp only [hneg, if_true] at h ⊢
    exact key (-n) (-d) (by omega) (by rw [Int.neg_mul, Int.mul_neg]) _ rfl h
  · simp only [hneg, if_false] at h ⊢
    exact key n d (by omega) rfl _ rfl h

theorem newF_low {n d : Int} (hd : 0 < d) (hg : Int.gcd n d = 1) (h1 : n ≤ 1073741824) (h2 : -1073741824 ≤ n) (h3 : d ≤ 1073741824) : newF n d = ⟨n, d, false⟩ := by
  unfold newF
  rw [if_neg (by omega)]
  simp only [show ¬ d < 0 by omega, if_false, hg]
  rw [if_neg (by simp; omega)]
  simp
theorem fine_of {x : Fr} (hb : x.bad = false) (hd : 0 < x.d) (hg : Int.gcd x.n x.d = 1) (h1 : x.n ≤ 1073741824) (h2 : -1073741824 ≤ x.n) (h3 : x.d ≤ 1073741824) : x.fine = true := by
  unfold Fr.fine
  rw [newF_low hd hg h1 h2 h3]
  simp [hb]
  omega
theorem fine_low {x : Fr} (h : x.fine = true) : x.bad = false ∧ 0 < x.d ∧ Int.gcd x.n x.d = 1 := by
  obtain ⟨h1, h2, h3, h4, h5⟩ := Fr.fine_spec h
  refine ⟨h1, by omega, ?_⟩
  have hn : newF x.n x.d = x := by
    unfold Fr.fine at h
    simp only [Bool.and_eq_true, beq_iff_eq, decide_eq_true_eq] at h
    obtain ⟨n, d, b⟩ := x
    obtain ⟨_, k1, k2, k3, _⟩ := h
    generalize newF n d = y at *
    obtain ⟨n', d', b'⟩ := y
    simp only at k1 k2 k3
    rw [k1, k2, k3]
  have hb : (newF x.n x.d).bad = false := by rw [hn]; exact h1
  obtain ⟨_, _, _, g, _⟩ := newF_spec hb
  rw [hn] at g
  exact g
theorem newF_fine {n d : Int} (h : (newF n d).bad = false) : (newF n d).fine = true ∧ (newF n d).val = (n : Rat) / (d : Rat) ∧ d ≠ 0 := by
  obtain ⟨h1, h2, h3, h4, h5, h6, h7⟩ := newF_spec h
  exact ⟨fine_of h h2 h4 h6 h7 h5, val_div (k := 0) (by omega) h1 h3, h1⟩
theorem dvd_cop {a b c : Int} (h : a ∣ b * c) (g : Int.gcd b a = 1) : a ∣ c := by
  rw [← Int.natAbs_dvd_natAbs] at h ⊢
  rw [Int.natAbs_mul] at h
  refine Nat.Coprime.dvd_of_dvd_mul_left ?_ h
  rw [Int.gcd_comm] at g
  exact g
/-- What stands for the same number is the same. -/
theorem fine_inj {a b : Fr} (ha : a.fine = true) (hb : b.fine = true) (h : a.val = b.val) : a = b := by
  obtain ⟨a1, a2, a3⟩ := fine_low ha
  obtain ⟨b1, b2, b3⟩ := fine_low hb
  have e := div_val (by omega) (by omega) h
  have c1 : a.d ∣ b.d := by
    have : a.d ∣ a.n * b.d := ⟨b.n, by rw [e, Int.mul_comm]⟩
    exact dvd_cop this a3
  have c2 : b.d ∣ a.d := by
    have : b.d ∣ b.n * a.d := ⟨a.n, by rw [← e, Int.mul_comm]⟩
    exact dvd_cop this b3
  have hd : a.d = b.d := Int.dvd_antisymm (by omega) (by omega) c1 c2
  rw [hd] at e
  have hn : a.n = b.n := Int.eq_of_mul_eq_mul_right (by omega) e
  obtain ⟨n, d, x⟩ := a
  obtain ⟨n', d', x'⟩ := b
  simp only at hd hn a1 b1
  rw [hd, hn, a1, b1]
theorem fine_bad {a : Fr} (h : a.fine = true) : a.bad = false := (Fr.fine_spec h).1

/-- x stands for the number v. -/
def Is (x : Fr) (v : Rat) : Prop := x.fine = true ∧ x.val = v
theorem Is.inj {a b : Fr} {v : Rat} (ha : Is a v) (hb : Is b v) : a = b := fine_inj ha.1 hb.1 (ha.2.trans hb.2.symm)
theorem fine_ne {a : Fr} (h : a.fine = true) : (a.d : Rat) ≠ 0 := cast_ne (by have := (Fr.fine_spec h).2.1; omega)
theorem two_fine {a b : Fr} {x : Fr} (h : (if a.fine = false ∨ b.fine = false then Fr.wrong else x).bad = false) : a.fine = true ∧ b.fine = true ∧ x.bad = false := by
  by_cases h1 : a.fine = false ∨ b.fine = false
  · rw [if_pos h1] at h; cases h
  · rw [if_neg h1] at h
    simp only [not_or, Bool.not_eq_false] at h1
    exact ⟨h1.1, h1.2, h⟩
theorem mulF_is {a b : Fr} (h : (mulF a b).bad = false) : a.fine = true ∧ b.fine = true ∧ Is (mulF a b) (a.val * b.val) := by
  have h0 := h
  unfold mulF at h
  obtain ⟨ha, hb, hx⟩ := two_fine h
  obtain ⟨f1, f2, f3⟩ := newF_fine hx
  have e : mulF a b = newF (a.n * b.n) (a.d * b.d) := by unfold mulF; rw [if_neg (by simp [ha, hb])]
  refine ⟨ha, hb, by rw [e]; exact f1, ?_⟩
  rw [e, f2]
  have h1 := fine_ne ha
  have h2 := fine_ne hb
  simp only [Fr.val, Rat.intCast_mul]
  grind
theorem divF_is {a b : Fr} (h : (divF a b).bad = false) : a.fine = true ∧ b.fine = true ∧ b.val ≠ 0 ∧ Is (divF a b) (a.val / b.val) := by
  unfold divF at h
  obtain ⟨ha, hb, hx⟩ := two_fine h
  obtain ⟨f1, f2, f3⟩ := newF_fine hx
  have e : divF a b = newF (a.n * b.d) (a.d * b.n) := by unfold divF; rw [if_neg (by simp [ha, hb])]
  have h1 := fine_ne ha
  have h2 := fine_ne hb
  have h3 : (b.n : Rat) ≠ 0 := cast_ne (fun e => f3 (by rw [e, Int.mul_zero]))
  refine ⟨ha, hb, ?_, by rw [e]; exact f1, ?_⟩
  · simp only [Fr.val]
    intro e
    apply h3
    have : (b.n : Rat) = (b.n : Rat) / (b.d : Rat) * (b.d : Rat) := by grind
    rw [this, e]
    grind
  · rw [e, f2]
    simp only [Fr.val, Rat.intCast_mul]
    grind
theorem addF_is {a b : Fr} (h : (addF a b).bad = false) : a.fine = true ∧ b.fine = true ∧ Is (addF a b) (a.val + b.val) := by
  unfold addF at h
  obtain ⟨ha, hb, hx⟩ := two_fine h
  obtain ⟨f1, f2, f3⟩ := newF_fine hx
  have e : addF a b = newF ((a.n * b.d + b.n * a.d).tdiv (Int.gcd (a.n * b.d + b.n * a.d) (a.d * b.d))) ((a.d * b.d).tdiv (Int.gcd (a.n * b.d + b.n * a.d) (a.d * b.d))) := by
    unfold addF; rw [if_neg (by simp [ha, hb])]
  have h1 := fine_ne ha
  have h2 := fine_ne hb
  refine ⟨ha, hb, by rw [e]; exact f1, ?_⟩
  rw [e, f2]
  have hd1 := (Fr.fine_spec ha).2.1
  have hd2 := (Fr.fine_spec hb).2.1
  have hdd : 0 < a.d * b.d := Int.mul_pos (by omega) (by omega)
  generalize hD : a.d * b.d = D at *
  generalize hN : a.n * b.d + b.n * a.d = Nn at *
  have hg : 0 < Int.gcd Nn D := Int.gcd_pos_of_ne_zero_right _ (by omega)
  obtain ⟨m', hm'⟩ := Int.gcd_dvd_left Nn D
  obtain ⟨e', he'⟩ := Int.gcd_dvd_right Nn D
  have hk0 : ((Int.gcd Nn D : Nat) : Int) ≠ 0 := by omega
  generalize hk : ((Int.gcd Nn D : Nat) : Int) = k at *
  have q1 : Nn.tdiv k = m' := by rw [hm', Int.mul_tdiv_cancel_left _ hk0]
  have q2 : D.tdiv k = e' := by rw [he', Int.mul_tdiv_cancel_left _ hk0]
  rw [q1, q2]
  have he0 : e' ≠ 0 := fun e0 => by rw [e0, Int.mul_zero] at he'; omega
  have h3 : (m' : Rat) / (e' : Rat) = (Nn : Rat) / (D : Rat) := by
    refine val_div (k := 0) he0 (by omega) ?_
    rw [hm', he', Int.mul_comm k e', ← Int.mul_assoc, Int.mul_comm k m']
    rw [Int.mul_assoc, Int.mul_assoc, Int.mul_comm e' k, Int.mul_comm k e']
  rw [h3, ← hN, ← hD]
  simp only [Fr.val, Rat.intCast_mul, Rat.intCast_add]
  grind
theorem negF_is {a : Fr} (h : (negF a).bad = false) : a.fine = true ∧ Is (negF a) (-a.val) := by
  unfold negF at h
  by_cases ha : a.fine = false
  · rw [if_pos ha] at h; cases h
  · rw [if_neg ha] at h
    simp only [Bool.not_eq_false] at ha
    obtain ⟨f1, f2, f3⟩ := newF_fine h
    have e : negF a = newF (-a.n) a.d := by unfold negF; rw [if_neg (by simp [ha])]
    refine ⟨ha, by rw [e]; exact f1, ?_⟩
    rw [e, f2]
    simp only [Fr.val, Rat.intCast_neg]
    grind
theorem negF_of {a : Fr} (h : a.fine = true) : Is (negF a) (-a.val) := by
  have e : negF a = newF (-a.n) a.d := by unfold negF; rw [if_neg (by simp [h])]
  obtain ⟨b1, b2, b3⟩ := fine_low h
  obtain ⟨_, _, c1, c2, c3⟩ := Fr.fine_spec h
  have : (negF a).bad = false := by rw [e, newF_low b2 (by rw [Int.neg_gcd]; exact b3) (by omega) (by omega) (by omega)]
  exact (negF_is this).2
theorem subF_is {a b : Fr} (h : (subF a b).bad = false) : a.fine = true ∧ b.fine = true ∧ Is (subF a b) (a.val - b.val) := by
  unfold subF at h
  obtain ⟨h1, h2, h3⟩ := addF_is h
  obtain ⟨h4, h5⟩ := negF_is (fine_bad h2)
  refine ⟨h1, h4, h3.1, ?_⟩
  have e : (subF a b).val = a.val + (negF b).val := h3.2
  rw [e, h5.2]
  grind
theorem whole_is {n : Int} (h : few n) : Is (newF n 1) (n : Rat) := by
  rw [newF_whole h]
  refine ⟨fine_whole h, ?_⟩
  simp only [Fr.val]
  have : ((1 : Int) : Rat) = 1 := rfl
  rw [this]
  grind
end Go.Proofs.Ytbflmeomkfjikaa.A

set_option linter.unusedVariables false
set_option linter.unusedSimpArgs false
set_option maxRecDepth 100000
namespace Go.Proofs.Ytbflmeomkfjikaa.A
open Go Go.RowKit Go.Shelf

/-! ### Sums of numbers -/
def sumR : Nat → (Nat → Rat) → Rat
  | 0, _ => 0
  | n + 1, f => sumR n f + f n
theorem sumR_congr {f g : Nat → Rat} : ∀ {n : Nat}, (∀ j, j < n → f j = g j) → sumR n f = sumR n g
  | 0, _ => rfl
  | n + 1, h => by rw [sumR, sumR, sumR_congr fun j hj => h j (by omega), h n (by omega)]
theorem sumR_add (f g : Nat → Rat) : ∀ n, sumR n (fun j => f j + g j) = sumR n f + sumR n g
  | 0 => by simp only [sumR]; grind
  | n + 1 => by simp only [sumR, sumR_add f g n]; grind
theorem sumR_sub (f g : Nat → Rat) : ∀ n, sumR n (fun j => f j - g j) = sumR n f - sumR n g
  | 0 => by simp only [sumR]; grind
  | n + 1 => by simp only [sumR, sumR_sub f g n]; grind
theorem sumR_mul (c : Rat) (f : Nat → Rat) : ∀ n, sumR n (fun j => c * f j) = c * sumR n f
  | 0 => by simp only [sumR]; grind
  | n + 1 => by simp only [sumR, sumR_mul c f n]; grind
theorem sumR_zero : ∀ n, sumR n (fun _ => 0) = 0
  | 0 => rfl
  | n + 1 => by simp only [sumR, sumR_zero n]; grind
theorem sumR_one (f : Nat → Rat) {i : Nat} : ∀ {n : Nat}, i < n → sumR n (fun j => (if i = j then 1 else 0) * f j) = f i
  | n + 1, h => by
    simp only [sumR]
    by_cases e : i = n
    · subst e
      have : sumR i (fun j => (if i = j then 1 else 0) * f j) = sumR i (fun _ => 0) := sumR_congr fun j hj => by
        rw [if_neg (by omega)]; grind
      rw [this, sumR_zero, if_pos rfl]
      grind
    · rw [sumR_one f (show i < n by omega), if_neg e]
      grind
theorem sumR_swap (f : Nat → Nat → Rat) (m : Nat) : ∀ n, sumR n (fun i => sumR m (f i)) = sumR m (fun j => sumR n (fun i => f i j))
  | 0 => by simp only [sumR]; exact (sumR_zero m).symm
  | n + 1 => by simp only [sumR, sumR_swap f m n]; exact (sumR_add _ _ m).symm

/-! ### Dots -/
abbrev dz : Fr := ⟨0, 0, false⟩
theorem sum_is (f : Nat → Fr) : ∀ n, (sumF ((List.range n).map f)).bad = false → (∀ j, j < n → (f j).fine = true) ∧ Is (sumF ((List.range n).map f)) (sumR n fun j => (f j).val)
  | 0, _ => by
    refine ⟨fun j hj => by omega, ?_⟩
    have := whole_is (n := 0) (by unfold few; omega)
    exact this
  | n + 1, h => by
    have e : sumF ((List.range (n + 1)).map f) = addF (sumF ((List.range n).map f)) (f n) := by
      unfold sumF
      rw [List.range_succ, List.map_append, List.foldl_append]
      rfl
    rw [e] at h ⊢
    obtain ⟨h1, h2, h3⟩ := addF_is h
    obtain ⟨k1, k2⟩ := sum_is f n (fine_bad h1)
    refine ⟨fun j hj => ?_, h3.1, ?_⟩
    · by_cases e : j = n
      · rw [e]; exact h2
      · exact k1 j (by omega)
    · rw [h3.2, k2.2]; rfl
theorem dot_is (f g : Nat → Fr) (n : Nat) (h : (dotF ((List.range n).map f) ((List.range n).map g)).bad = false) :
    (∀ j, j < n → (f j).fine = true ∧ (g j).fine = true) ∧ Is (dotF ((List.range n).map f) ((List.range n).map g)) (sumR n fun j => (f j).val * (g j).val) := by
  have e : dotF ((List.range n).map f) ((List.range n).map g) = sumF ((List.range n).map fun j => mulF (f j) (g j)) := by
    unfold dotF
    rw [List.zipWith_map, List.zipWith_self]
  rw [e] at h ⊢
  obtain ⟨h1, h2⟩ := sum_is _ n h
  have h3 := fun j hj => mulF_is (fine_bad (h1 j hj))
  refine ⟨fun j hj => ⟨(h3 j hj).1, (h3 j hj).2.1⟩, h2.1, ?_⟩
  rw [h2.2]
  exact sumR_congr fun j hj => (h3 j hj).2.2.2

/-! ### Products, entry by entry -/
theorem list_range {l : List Fr} {n : Nat} (h : l.length = n) : l = (List.range n).map fun j => l.getD j dz := by
  apply List.ext_getElem
  · simp [h]
  · intro j h1 h2
    simp [h1]
theorem prodF_grid {R M K : Nat} {a b : List Fr} (hR : 1 ≤ R ∧ R ≤ 16) (hM : 1 ≤ M ∧ M ≤ 16) (hK : 1 ≤ K ∧ K ≤ 16) (la : a.length = R * M) (lb : b.length = M * K) :
    prodF R M K a b = gridP (fun i k => dotF ((List.range M).map fun j => a.getD (i * M + j) dz) ((List.range M).map fun j => b.getD (j * K + k) dz)) K R 0 := by
  have h1 := right_nat (n := a.length) hR hM la
  have h2 := right_nat (n := b.length) hM hK lb
  have h3 := right_turn h2
  unfold prodF allF
  rw [gridP_zero, List.flatMap_map, Int.toNat_natCast, Int.toNat_natCast]
  apply flatMap_same
  intro i hi
  rw [List.mem_range] at hi
  rw [List.map_map]
  apply List.map_congr_left
  intro k hk
  rw [List.mem_range] at hk
  simp only [Function.comp]
  rw [rowF_eq dz h1 (by simpa using hi), rowF_eq dz h3 (by simpa using hk), Int.toNat_natCast]
  congr 1
  apply List.map_congr_left
  intro j hj
  rw [List.mem_range] at hj
  rw [turnF_eq h2, Int.toNat_natCast, Int.toNat_natCast, List.getD_eq_getElem?_getD, gridP_get _ _ _ _ _ hk hj, Option.getD_some, atF_eq h2 (by simpa using hj) (by simpa using hk), Int.toNat_natCast]
theorem grid_at {g : Nat → Nat → Fr} {n N i k : Nat} (hi : i < N) (hk : k < n) : (gridP g n N 0).getD (i * n + k) dz = g i k := by
  rw [List.getD_eq_getElem?_getD, gridP_get _ _ _ _ _ hi hk, Option.getD_some]
theorem prod_at {R M K : Nat} {a b : List Fr} (hR : 1 ≤ R ∧ R ≤ 16) (hM : 1 ≤ M ∧ M ≤ 16) (hK : 1 ≤ K ∧ K ≤ 16) (la : a.length = R * M) (lb : b.length = M * K) {i k : Nat} (hi : i < R) (hk : k < K)
    (h : ((prodF R M K a b).getD (i * K + k) dz).bad = false) : (∀ j, j < M → (a.getD (i * M + j) dz).fine = true ∧ (b.getD (j * K + k) dz).fine = true) ∧
      Is ((prodF R M K a b).getD (i * K + k) dz) (sumR M fun j => (a.getD (i * M + j) dz).val * (b.getD (j * K + k) dz).val) := by
  rw [prodF_grid hR hM hK la lb, grid_at hi hk] at h ⊢
  exact dot_is _ _ M h
theorem turn_at {R K : Nat} {l : List Fr} (hR : 1 ≤ R ∧ R ≤ 16) (hK : 1 ≤ K ∧ K ≤ 16) (hl : l.length = R * K) {i k : Nat} (hi : i < R) (hk : k < K) : (turnF R K l).getD (k * R + i) dz = l.getD (i * K + k) dz := by
  have h := right_nat (n := l.length) hR hK hl
  rw [turnF_eq h, Int.toNat_natCast, Int.toNat_natCast, grid_at hk hi, atF_eq h (by simpa using hi) (by simpa using hk), Int.toNat_natCast]
theorem turnF_len {R K : Nat} {l : List Fr} (hR : 1 ≤ R ∧ R ≤ 16) (hK : 1 ≤ K ∧ K ≤ 16) (hl : l.length = R * K) : (turnF R K l).length = K * R := by
  rw [turnF_length (right_nat hR hK hl)]; simp
theorem mir_at {n : Nat} {l : List Fr} (hn : 1 ≤ n ∧ n ≤ 16) (hl : l.length = n * n) {i k : Nat} (hi : i < n) (hk : k < n) : (mirF n l).getD (i * n + k) dz = l.getD (max i k * n + min i k) dz := by
  have h := right_nat (n := l.length) hn hn hl
  rw [mirF, Int.toNat_natCast, grid_at hi hk, atF_eq h (by simp; omega) (by simp; omega), Int.toNat_natCast]
theorem zip_at {f : Fr → Fr → Fr} {a b : List Fr} {j : Nat} (ha : j < a.length) (hb : j < b.length) : (List.zipWith f a b).getD j dz = f (a.getD j dz) (b.getD j dz) := by
  rw [List.getD_eq_getElem?_getD, List.getElem?_zipWith]
  simp [List.getElem?_eq_getElem ha, List.getElem?_eq_getElem hb]
theorem map_at {f : Fr → Fr} {a : List Fr} {j : Nat} (ha : j < a.length) : (a.map f).getD j dz = f (a.getD j dz) := by
  simp [List.getElem?_eq_getElem ha]
theorem apply_at {n : Nat} {l v : List Fr} (hn : 1 ≤ n ∧ n ≤ 16) (hl : l.length = n * n) {i : Nat} (hi : i < n) : (applyF n n l v).getD i dz = dotF ((List.range n).map fun j => l.getD (i * n + j) dz) v := by
  have h := right_nat (n := l.length) hn hn hl
  unfold applyF allF
  rw [List.map_map, Int.toNat_natCast]
  simp [hi]
  rw [rowF_eq dz h (by simpa using hi), Int.toNat_natCast]
  simp
end Go.Proofs.Ytbflmeomkfjikaa.A

set_option linter.unusedVariables false
set_option linter.unusedSimpArgs false
set_option maxRecDepth 100000
namespace Go.Proofs.Ytbflmeomkfjikaa.A
open Go Go.RowKit Go.Shelf

/-! ### Plain laws of clearing -/
theorem grid_sq {g : Nat → Nat → Fr} {n : Nat} (hn : 1 ≤ n ∧ n ≤ 16) : right (n : Int) (n : Int) (gridP g n n 0).length = true := right_sq hn (by rw [gridP_length, Nat.add_zero])
theorem atF_grid {g : Nat → Nat → Fr} {n i k : Nat} (hn : 1 ≤ n ∧ n ≤ 16) (hi : i < n) (hk : k < n) : atF n n (gridP g n n 0) i k = g i k := by
  have h1 := atF_eq (grid_sq (g := g) hn) (i := i) (k := k) (by simpa using hi) (by simpa using hk)
  rw [h1, Int.toNat_natCast]
  exact grid_at hi hk
theorem clear_clear {n : Nat} (hn : 1 ≤ n ∧ n ≤ 16) (l : List Fr) : clearF n (clearF n l) = clearF n l := by
  refine gridP_congr fun i k hi hk => ?_
  unfold clearG
  by_cases h : i < k
  · rw [if_pos h, if_pos h]
  · rw [if_neg h, if_neg h, clearF, atF_grid hn hi hk, clearG, if_neg h]
theorem diag_clear {n : Nat} (hn : 1 ≤ n ∧ n ≤ 16) (l : List Fr) : diagF n (clearF n l) = diagF n l := by
  refine List.map_congr_left fun i hi => ?_
  have hi' := List.mem_range.1 hi
  rw [clearF, atF_grid hn hi' hi', clearG, if_neg (by omega)]

/-! ### The function TriClears -/
theorem five {n : Int} {m : Nat} (h : 1 ≤ n ∧ n ≤ 5 ∧ (m : Int) = n * n) : ∃ N : Nat, n = N ∧ 1 ≤ N ∧ N ≤ 5 ∧ m = N * N := by
  obtain ⟨N, rfl⟩ := Int.eq_ofNat_of_zero_le (show 0 ≤ n by omega)
  refine ⟨N, rfl, by omega, by omega, ?_⟩
  have := h.2.2
  rw [← Int.natCast_mul] at this
  omega
theorem ok3 (e : Bool) (l : List Int) (n : Int) : Ok Try.prog 3 [.sl e (l.map num), num n] (tru true) := by
  refine ok_fn mixed Try.func3 (code := ?_) (h := h3) ?_ k3 ?_
  rotate_left
  · exact rfl
  unfold h3 initS
  simp -implicitDefEqProofs only [rkA, stepA, valA, storeA, ldA, fieldAddrA, fieldA, idxAddrA, idxA, idxArr, lenA, unA, binA, num2, binV, eqA, rowOf, PV.cells, PV.cell, bndA, appA, reduceIte, reduceCtorEq, Nat.reduceAdd, Nat.reduceSub, Nat.reduceEqDiff, Nat.reduceLeDiff, Nat.reduceLT, Nat.reduceMul, Nat.reduceBEq, Nat.reduceBNe, Int.reduceToNat, Int.reduceLE, Int.reduceLT, allocX, setPs, extremeA, ints, resAll, rinfOk, packR, Try.ntmps3, Try.results3]
  refine call_fn rfl rfl rfl (ok8 e l n) ?_
  cases hq : (decide (1 ≤ n ∧ n ≤ 5 ∧ (l.length : Int) = n * n) && fewB l) with
  | false =>
    simp -implicitDefEqProofs only [rkA, stepA, valA, storeA, ldA, fieldAddrA, fieldA, idxAddrA, idxA, idxArr, lenA, unA, binA, num2, binV, eqA, rowOf, PV.cells, PV.cell, bndA, appA, reduceIte, reduceCtorEq, Nat.reduceAdd, Nat.reduceSub, Nat.reduceEqDiff, Nat.reduceLeDiff, Nat.reduceLT, Nat.reduceMul, Nat.reduceBEq, Nat.reduceBNe, Int.reduceToNat, Int.reduceLE, Int.reduceLT, allocX, setPs, extremeA, ints, resAll, rinfOk, packR]
    refine call_fn rfl rfl rfl (ok9) ?_
    simp -implicitDefEqProofs only [rkA, stepA, valA, storeA, ldA, fieldAddrA, fieldA, idxAddrA, idxA, idxArr, lenA, unA, binA, num2, binV, eqA, rowOf, PV.cells, PV.cell, bndA, appA, reduceIte, reduceCtorEq, Nat.reduceAdd, Nat.reduceSub, Nat.reduceEqDiff, Nat.reduceLeDiff, Nat.reduceLT, Nat.reduceMul, Nat.reduceBEq, Nat.reduceBNe, Int.reduceToNat, Int.reduceLE, Int.reduceLT, allocX, setPs, extremeA, ints, resAll, rinfOk, packR]
  | true =>
    obtain ⟨h1, h2⟩ := Bool.and_eq_true_iff.1 hq
    obtain ⟨N, rfl, n1, n5, hl⟩ := five (of_decide_eq_true h1)
    clear hq h1
    have hll : l.length ≤ 25 := by
      have : N * N ≤ 5 * 5 := Nat.mul_le_mul n5 n5
      omega
    have h12 := ok10 N N e l (by omega)
    have hr : right (N : Int) (N : Int) l.length = true := by
      have := right_sq (n := N) ⟨n1, by omega⟩ (l := l.map (newF · 1)) (by simpa using hl)
      rwa [List.length_map] at this
    rw [if_pos hr] at h12
    simp -implicitDefEqProofs only [rkA, stepA, valA, storeA, ldA, fieldAddrA, fieldA, idxAddrA, idxA, idxArr, lenA, unA, binA, num2, binV, eqA, rowOf, PV.cells, PV.cell, bndA, appA, reduceIte, reduceCtorEq, Nat.reduceAdd, Nat.reduceSub, Nat.reduceEqDiff, Nat.reduceLeDiff, Nat.reduceLT, Nat.reduceMul, Nat.reduceBEq, Nat.reduceBNe, Int.reduceToNat, Int.reduceLE, Int.reduceLT, allocX, setPs, extremeA, ints, resAll, rinfOk, packR]
    refine call_fn rfl rfl rfl (h12) ?_
    generalize hM : l.map (newF · 1) = M at *
    have lM : M.length = N * N := by subst hM; simpa using hl
    simp -implicitDefEqProofs only [rkA, stepA, valA, storeA, ldA, fieldAddrA, fieldA, idxAddrA, idxA, idxArr, lenA, unA, binA, num2, binV, eqA, rowOf, PV.cells, PV.cell, bndA, appA, reduceIte, reduceCtorEq, Nat.reduceAdd, Nat.reduceSub, Nat.reduceEqDiff, Nat.reduceLeDiff, Nat.reduceLT, Nat.reduceMul, Nat.reduceBEq, Nat.reduceBNe, Int.reduceToNat, Int.reduceLE, Int.reduceLT, allocX, setPs, extremeA, ints, resAll, rinfOk, packR]
    refine call_fn rfl rfl rfl (ok11 N (by omega) false M lM) ?_
    have lC : (clearF N M).length = N * N := by rw [clearF, gridP_length, Nat.add_zero]
    have h9 := ok11 N (by omega) false (clearF N M) lC
    have h10 := ok12 N (by omega) false (clearF N M) lC
    rw [clear_clear ⟨n1, by omega⟩] at h9
    rw [diag_clear ⟨n1, by omega⟩] at h10
    simp -implicitDefEqProofs only [rkA, stepA, valA, storeA, ldA, fieldAddrA, fieldA, idxAddrA, idxA, idxArr, lenA, unA, binA, num2, binV, eqA, rowOf, PV.cells, PV.cell, bndA, appA, reduceIte, reduceCtorEq, Nat.reduceAdd, Nat.reduceSub, Nat.reduceEqDiff, Nat.reduceLeDiff, Nat.reduceLT, Nat.reduceMul, Nat.reduceBEq, Nat.reduceBNe, Int.reduceToNat, Int.reduceLE, Int.reduceLT, allocX, setPs, extremeA, ints, resAll, rinfOk, packR]
    refine call_fn rfl rfl rfl (h9) ?_
    simp -implicitDefEqProofs only [rkA, stepA, valA, storeA, ldA, fieldAddrA, fieldA, idxAddrA, idxA, idxArr, lenA, unA, binA, num2, binV, eqA, rowOf, PV.cells, PV.cell, bndA, appA, reduceIte, reduceCtorEq, Nat.reduceAdd, Nat.reduceSub, Nat.reduceEqDiff, Nat.reduceLeDiff, Nat.reduceLT, Nat.reduceMul, Nat.reduceBEq, Nat.reduceBNe, Int.reduceToNat, Int.reduceLE, Int.reduceLT, allocX, setPs, extremeA, ints, resAll, rinfOk, packR]
    refine call_fn rfl rfl rfl (ok12 N (by omega) false M lM) ?_
    simp -implicitDefEqProofs only [rkA, stepA, valA, storeA, ldA, fieldAddrA, fieldA, idxAddrA, idxA, idxArr, lenA, unA, binA, num2, binV, eqA, rowOf, PV.cells, PV.cell, bndA, appA, reduceIte, reduceCtorEq, Nat.reduceAdd, Nat.reduceSub, Nat.reduceEqDiff, Nat.reduceLeDiff, Nat.reduceLT, Nat.reduceMul, Nat.reduceBEq, Nat.reduceBNe, Int.reduceToNat, Int.reduceLE, Int.reduceLT, allocX, setPs, extremeA, ints, resAll, rinfOk, packR]
    refine call_fn rfl rfl rfl (h10) ?_
    have hd : (frs (diagF N M)).length = N := by simp [diagF]
    simp -implicitDefEqProofs only [hd, bne_self_eq_false, rkA, stepA, valA, storeA, ldA, fieldAddrA, fieldA, idxAddrA, idxA, idxArr, lenA, unA, binA, num2, binV, eqA, rowOf, PV.cells, PV.cell, bndA, appA, reduceIte, reduceCtorEq, Nat.reduceAdd, Nat.reduceSub, Nat.reduceEqDiff, Nat.reduceLeDiff, Nat.reduceLT, Nat.reduceMul, Nat.reduceBEq, Nat.reduceBNe, Int.reduceToNat, Int.reduceLE, Int.reduceLT, allocX, setPs, extremeA, ints, resAll, rinfOk, packR]
    refine wp_loop (fun m s => ∃ k : Nat, k + m = N ∧ s = ⟨[jk, jk, jk, jk, jk, jk, jk, .ptr 7 0, jk, .ptr 9 0, jk, .v (.sl false (frs (diagF N M))), .v (.sl false (frs (diagF N M))), jk, jk, jk, jk, jk, jk, jk, jk, jk, jk, jk, jk, jk, jk, jk, jk, jk, jk, jk, jk, jk, jk, jk, jk, jk, jk, jk, jk, jk, jk, jk, jk, jk, jk, jk, jk, jk, jk, jk, jk, jk, jk, jk, jk, jk, jk, nt N, nt k, jk, jk, jk, jk, jk, jk, jk, jk, jk, jk, jk, jk, jk, jk, jk, jk, jk, jk],
      [(7, [nt N, nt N, .v (.sl false (frs (clearF N M)))]), (9, [nt N, nt N, .v (.sl false (frs (clearF N M)))])], [], [(3005, 0), (3007, 0), (3009, 0)], [], 0, nomem⟩) N ?_ ?_
    · simp -implicitDefEqProofs only [rkA, stepA, valA, storeA, ldA, fieldAddrA, fieldA, idxAddrA, idxA, idxArr, lenA, unA, binA, num2, binV, eqA, rowOf, PV.cells, PV.cell, bndA, appA, reduceIte, reduceCtorEq, Nat.reduceAdd, Nat.reduceSub, Nat.reduceEqDiff, Nat.reduceLeDiff, Nat.reduceLT, Nat.reduceMul, Nat.reduceBEq, Nat.reduceBNe, Int.reduceToNat, Int.reduceLE, Int.reduceLT, allocX, setPs, extremeA, ints, resAll, rinfOk, packR]
      exact ⟨0, by simp, rfl⟩
    rintro m s ⟨k, hk, rfl⟩
    simp -implicitDefEqProofs only [rkA, stepA, valA, storeA, ldA, fieldAddrA, fieldA, idxAddrA, idxA, idxArr, lenA, unA, binA, num2, binV, eqA, rowOf, PV.cells, PV.cell, bndA, appA, reduceIte, reduceCtorEq, Nat.reduceAdd, Nat.reduceSub, Nat.reduceEqDiff, Nat.reduceLeDiff, Nat.reduceLT, Nat.reduceMul, Nat.reduceBEq, Nat.reduceBNe, Int.reduceToNat, Int.reduceLE, Int.reduceLT, allocX, setPs, extremeA, ints, resAll, rinfOk, packR]
    refine gB_dec ?_ ?_ <;> intro hc <;> simp -implicitDefEqProofs only [hc, rkA, stepA, valA, storeA, ldA, fieldAddrA, fieldA, idxAddrA, idxA, idxArr, lenA, unA, binA, num2, binV, eqA, rowOf, PV.cells, PV.cell, bndA, appA, reduceIte, reduceCtorEq, Nat.reduceAdd, Nat.reduceSub, Nat.reduceEqDiff, Nat.reduceLeDiff, Nat.reduceLT, Nat.reduceMul, Nat.reduceBEq, Nat.reduceBNe, Int.reduceToNat, Int.reduceLE, Int.reduceLT, allocX, setPs, extremeA, ints, resAll, rinfOk, packR]
    · have h0 : (0 : Int) ≤ (k : Int) := by omega
      have hk' : k < N := by omega
      have hg : (frs (diagF N M))[k]? = some (frV (atF N N M k k)) := by simp [diagF, hk']
      have hw := wrapped (x := (k : Int) + 1) (by omega) (by omega)
      simp -implicitDefEqProofs only [h0, Int.toNat_natCast, hg, hw, eq_fr, rkA, stepA, valA, storeA, ldA, fieldAddrA, fieldA, idxAddrA, idxA, idxArr, lenA, unA, binA, num2, binV, eqA, rowOf, PV.cells, PV.cell, bndA, appA, reduceIte, reduceCtorEq, Nat.reduceAdd, Nat.reduceSub, Nat.reduceEqDiff, Nat.reduceLeDiff, Nat.reduceLT, Nat.reduceMul, Nat.reduceBEq, Nat.reduceBNe, Int.reduceToNat, Int.reduceLE, Int.reduceLT, allocX, setPs, extremeA, ints, resAll, rinfOk, packR]
      refine loopK_of (m' := m - 1) (by omega) ?_
      simp -implicitDefEqProofs only [rkA, stepA, valA, storeA, ldA, fieldAddrA, fieldA, idxAddrA, idxA, idxArr, lenA, unA, binA, num2, binV, eqA, rowOf, PV.cells, PV.cell, bndA, appA, reduceIte, reduceCtorEq, Nat.reduceAdd, Nat.reduceSub, Nat.reduceEqDiff, Nat.reduceLeDiff, Nat.reduceLT, Nat.reduceMul, Nat.reduceBEq, Nat.reduceBNe, Int.reduceToNat, Int.reduceLE, Int.reduceLT, allocX, setPs, extremeA, ints, resAll, rinfOk, packR]
      exact ⟨k + 1, by omega, by simp only [Int.natCast_add, Int.natCast_one]⟩
    · refine call_fn rfl rfl rfl (ok13 false false N N (clearF N M) (by rw [lC]; have : N * N ≤ 5 * 5 := Nat.mul_le_mul n5 n5; omega)) ?_
      simp -implicitDefEqProofs only [rkA, stepA, valA, storeA, ldA, fieldAddrA, fieldA, idxAddrA, idxA, idxArr, lenA, unA, binA, num2, binV, eqA, rowOf, PV.cells, PV.cell, bndA, appA, reduceIte, reduceCtorEq, Nat.reduceAdd, Nat.reduceSub, Nat.reduceEqDiff, Nat.reduceLeDiff, Nat.reduceLT, Nat.reduceMul, Nat.reduceBEq, Nat.reduceBNe, Int.reduceToNat, Int.reduceLE, Int.reduceLT, allocX, setPs, extremeA, ints, resAll, rinfOk, packR]
      refine call_fn rfl rfl rfl (ok9) ?_
      simp -implicitDefEqProofs only [rkA, stepA, valA, storeA, ldA, fieldAddrA, fieldA, idxAddrA, idxA, idxArr, lenA, unA, binA, num2, binV, eqA, rowOf, PV.cells, PV.cell, bndA, appA, reduceIte, reduceCtorEq, Nat.reduceAdd, Nat.reduceSub, Nat.reduceEqDiff, Nat.reduceLeDiff, Nat.reduceLT, Nat.reduceMul, Nat.reduceBEq, Nat.reduceBNe, Int.reduceToNat, Int.reduceLE, Int.reduceLT, allocX, setPs, extremeA, ints, resAll, rinfOk, packR]
end Go.Proofs.Ytbflmeomkfjikaa.A

set_option linter.unusedVariables false
set_option linter.unusedSimpArgs false
set_option maxRecDepth 100000
namespace Go.Proofs.Ytbflmeomkfjikaa.A
open Go Go.RowKit Go.Shelf

/-! ### Plain laws of squares -/
theorem squareI_at {l : List Int} {n i k : Nat} (hi : i < n) (hk : k < n) : (squareI l n).getD (i * n + k) 0 = ((List.range n).map fun j => l.getD (i * n + j) 0 * l.getD (k * n + j) 0).sum := by
  unfold squareI mulI
  rw [grid_getD hi hk, dotI_sum]
  refine sum_congr fun j hj => ?_
  rw [turnI, grid_getD hj hk, turnH]
theorem squareI_len (l : List Int) (n : Nat) : (squareI l n).length = n * n := mulI_length _ _ _ _ _
theorem squareI_mir (l : List Int) (n : Nat) : mirI (squareI l n) n n n 0 = squareI l n := by
  have e : mirI (squareI l n) n n n 0 = gridP (fun i k => (squareI l n).getD (max i k * n + min i k) 0) n n 0 := if_pos rfl
  have e2 : squareI l n = gridP (fun i k => (squareI l n).getD (i * n + k) 0) n n 0 := by
    conv => lhs; unfold squareI mulI
    refine gridP_congr fun i k hi hk => ?_
    unfold squareI mulI
    rw [grid_getD hi hk]
  rw [e]
  conv => rhs; rw [e2]
  refine gridP_congr fun i k hi hk => ?_
  rw [squareI_at (by omega) (by omega), squareI_at hi hk]
  rcases Nat.le_total i k with h | h
  · rw [Nat.max_eq_right h, Nat.min_eq_left h]
    exact sum_congr fun j _ => Int.mul_comm _ _
  · rw [Nat.max_eq_left h, Nat.min_eq_right h]
theorem sq_whole {l : List Int} {n : Nat} (hn : 1 ≤ n ∧ n ≤ 16) (hl : l.length = n * n) (hs : small l) : sqF n (l.map (newF · 1)) = (squareI l n).map (newF · 1) := by
  have hr := right_nat (n := l.length) hn hn hl
  have ht : (turnI l n).length = n * n := by rw [turnI, gridP_length, Nat.add_zero]
  unfold sqF
  rw [turI_eq hn hn hl, show turI l n n n 0 = turnI l n from rfl, prodF_whole hr (right_nat hn hn ht) hs (small_turn hs n)]
  simp only [Int.toNat_natCast]
  have := mirI_eq (a := squareI l n) hn hn (squareI_len l n) rfl
  rw [squareI_mir] at this
  exact this
theorem squareI_bnd {l : List Int} {n : Nat} (hn : n ≤ 16) (hs : small l) : bnd 160000 (squareI l n) := by
  have := mulI_bnd (small_bnd hs) (small_bnd (small_turn hs n)) n n n
  intro x hx
  have := this x hx
  have h2 : n * (100 * 100) ≤ 16 * (100 * 100) := Nat.mul_le_mul_right _ hn
  omega
theorem sqF_len' (n : Nat) (l : List Fr) : (sqF n l).length = n * n := by rw [sqF, mirF, gridP_length]; simp
theorem sqF_mir {n : Nat} (hn : 1 ≤ n ∧ n ≤ 16) (l : List Fr) : mirF n (sqF n l) = sqF n l := by
  unfold sqF
  generalize prodF n n n l (turnF n n l) = p
  conv => lhs; unfold mirF
  conv => rhs; unfold mirF
  simp only [Int.toNat_natCast]
  refine gridP_congr fun i k hi hk => ?_
  rw [atF_grid hn (by omega) (by omega)]
  congr 1 <;> omega
theorem sqF_turn {n : Nat} (hn : 1 ≤ n ∧ n ≤ 16) (l : List Fr) : turnF n n (sqF n l) = sqF n l := by
  rw [turnF_eq (right_sq hn (sqF_len' n l))]
  unfold sqF
  generalize prodF n n n l (turnF n n l) = p
  conv => rhs; unfold mirF
  simp only [Int.toNat_natCast]
  refine gridP_congr fun i k hi hk => ?_
  unfold mirF
  simp only [Int.toNat_natCast]
  rw [atF_grid hn hk hi]
  congr 1 <;> omega
theorem diag_dot {n : Nat} (hn : 1 ≤ n ∧ n ≤ 16) {l : List Fr} (hl : l.length = n * n) {i : Nat} (hi : i < n) : atF n n (sqF n l) i i = dotF (rowF n n l i) (rowF n n l i) := by
  have hr := right_sq hn hl
  have lt : (turnF n n l).length = n * n := turnF_len hn hn hl
  have lp : (prodF n n n l (turnF n n l)).length = n * n := by rw [prodF_len]; simp
  unfold sqF
  unfold mirF
  simp only [Int.toNat_natCast]
  rw [atF_grid hn hi hi, Nat.max_self, Nat.min_self, atF_eq (right_sq hn lp) (by simpa using hi) (by simpa using hi), Int.toNat_natCast, show (⟨0, 0, false⟩ : Fr) = dz from rfl, prodF_grid hn hn hn hl lt, grid_at hi hi,
    rowF_eq dz hr (by simpa using hi), Int.toNat_natCast]
  congr 1
  refine List.map_congr_left fun j hj => ?_
  exact turn_at hn hn hl hi (List.mem_range.1 hj)
theorem sum_sq (f : Nat → Int) : ∀ n, 0 ≤ ((List.range n).map fun j => f j * f j).sum
  | 0 => by simp
  | n + 1 => by
    have h := sum_sq f n
    have h2 : 0 ≤ f n * f n := by
      rcases Int.le_total 0 (f n) with h | h
      · exact Int.mul_nonneg h h
      · have := Int.mul_nonneg (show 0 ≤ - f n by omega) (show 0 ≤ - f n by omega)
        rwa [Int.neg_mul_neg] at this
    simp only [List.range_succ, List.map_append, List.sum_append, List.map_cons, List.map_nil, List.sum_cons, List.sum_nil]
    omega
theorem sign_up {x : Int} (h0 : 0 ≤ x) (h1 : x ≤ 160000) : ¬ signF (newF x 1) < 0 := by
  have hf : few x := ⟨by omega, by omega⟩
  rw [newF_whole hf]
  unfold signF
  rw [if_neg (by rw [fine_whole hf]; simp)]
  simp only [whole]
  split
  · omega
  · rw [if_neg (by omega)]
    omega
theorem diag_sign {n : Nat} (hn : 1 ≤ n ∧ n ≤ 16) {l : List Int} (hl : l.length = n * n) (hs : small l) {i : Nat} (hi : i < n) : ¬ signF (atF n n (sqF n (l.map (newF · 1))) i i) < 0 := by
  rw [sq_whole hn hl hs]
  have hb := at_table (i := i) (j := i) (n := n) (m := n) hi hi
  have h := squareI_len l n
  rw [atF_eq (right_sq hn (by rw [List.length_map, h])) (by simpa using hi) (by simpa using hi), Int.toNat_natCast, getD_newF (by omega)]
  have e := squareI_at (l := l) hi hi
  have h0 := sum_sq (fun j => l.getD (i * n + j) 0) n
  have h1 := bnd_get (squareI_bnd hn.2 hs) (i * n + i)
  rw [← e] at h0
  exact sign_up h0 (by omega)
end Go.Proofs.Ytbflmeomkfjikaa.A

