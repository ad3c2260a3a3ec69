import Derived.Test.YtbflmeomkfjikaaGreatM5
import Derived.Test.YtbflmeomkfjikaaGreatM6
set_option linter.unusedVariables false
set_option linter.unusedSimpArgs false
set_option maxRecDepth 100000
namespace Go.Proofs.YtbflmeomkfjikaaGreat.A
open Go Go.RowKit Go.Shelf

/-! ### Roots of whole numbers, bit by bit -/
def rtB (n K : Nat) : Nat → Nat
  | 0 => 0
  | j + 1 => if (rtB n K j + 2 ^ (K - 1 - j)) * (rtB n K j + 2 ^ (K - 1 - j)) ≤ n then rtB n K j + 2 ^ (K - 1 - j) else rtB n K j

theorem rtB_spec {n K : Nat} (hn : n < 2 ^ K * 2 ^ K) : ∀ j, j ≤ K → rtB n K j * rtB n K j ≤ n ∧ n < (rtB n K j + 2 ^ (K - j)) * (rtB n K j + 2 ^ (K - j)) ∧ (∃ q, rtB n K j = 2 ^ (K - j) * q) ∧ rtB n K j + 2 ^ (K - j) ≤ 2 ^ K
  | 0, _ => ⟨by simp [rtB], by simpa [rtB] using hn, ⟨0, by simp [rtB]⟩, by simp [rtB]⟩
  | j + 1, hj => by
    obtain ⟨h1, h2, ⟨q, hq⟩, h3⟩ := rtB_spec hn j (by omega)
    have e1 : K - j = (K - (j + 1)) + 1 := by omega
    have e2 : K - 1 - j = K - (j + 1) := by omega
    rw [e1, Nat.pow_succ] at h2 hq h3
    simp only [rtB, e2]
    generalize rtB n K j = r at *
    generalize 2 ^ (K - (j + 1)) = t at *
    split
    · rename_i hc
      refine ⟨hc, by rw [Nat.add_assoc, ← Nat.mul_two]; exact h2, ⟨2 * q + 1, ?_⟩, by omega⟩
      rw [hq, Nat.mul_add, Nat.mul_one, Nat.mul_assoc]
    · rename_i hc
      exact ⟨h1, by omega, ⟨2 * q, by rw [hq, Nat.mul_assoc]⟩, by omega⟩

theorem rtB_final {n K : Nat} (hn : n < 2 ^ K * 2 ^ K) : rtB n K K * rtB n K K ≤ n ∧ n < (rtB n K K + 1) * (rtB n K K + 1) ∧ rtB n K K < 2 ^ K := by
  obtain ⟨h1, h2, _, h3⟩ := rtB_spec hn K (Nat.le_refl _)
  rw [Nat.sub_self, Nat.pow_zero] at h2 h3
  exact ⟨h1, h2, by omega⟩

theorem sq_lt {a b : Nat} (h : a * a < b * b) : a < b := by
  rcases Nat.lt_or_ge a b with h1 | h1
  · exact h1
  · have := Nat.mul_le_mul h1 h1
    omega
theorem rtB_sq {s K : Nat} (hs : s < 2 ^ K) : rtB (s * s) K K = s := by
  have hn : s * s < 2 ^ K * 2 ^ K := Nat.mul_lt_mul'' hs hs
  obtain ⟨h1, h2, _⟩ := rtB_final hn
  have h3 : s < rtB (s * s) K K + 1 := sq_lt h2
  rcases Nat.lt_or_ge (rtB (s * s) K K) s with h4 | h4
  · omega
  · have : rtB (s * s) K K = s := by
      rcases Nat.lt_or_ge s (rtB (s * s) K K) with h5 | h5
      · have := Nat.mul_lt_mul'' h5 h5
        omega
      · omega
    exact this

theorem or_bit {r k : Nat} (hr : r < 2 ^ 62) (hk : k < 62) (hd : ∃ q, r = 2 ^ (k + 1) * q) : (BitVec.ofInt 64 (r : Int) ||| BitVec.ofInt 64 ((2 ^ k : Nat) : Int)).toNat = r + 2 ^ k := by
  obtain ⟨q, rfl⟩ := hd
  have h2 : (2 : Nat) ^ k < 2 ^ (k + 1) := Nat.pow_lt_pow_right (by omega) (by omega)
  have h3 : (2 : Nat) ^ k < 2 ^ 62 := Nat.pow_lt_pow_right (by omega) hk
  rw [BitVec.toNat_or, BitVec.ofInt_natCast, BitVec.ofInt_natCast, BitVec.toNat_ofNat, BitVec.toNat_ofNat, Nat.mod_eq_of_lt (by omega), Nat.mod_eq_of_lt (by omega), Nat.two_pow_add_eq_or_of_lt h2]

theorem wrapNat {n : Nat} (h : n < 9223372036854775808) : IntKind.wrap .i64 (n : Int) = (n : Int) := wrapped (by omega) (by omega)
def rootI (n : Int) : Int := if rtB n.toNat 16 16 * rtB n.toNat 16 16 = n.toNat then (rtB n.toNat 16 16 : Int) else -1

theorem ok223 (n : Int) (h0 : 0 ≤ n) (h1 : n ≤ 1073741824) : Ok Tryz.prog 223 [num n] (num (rootI n)) := by
  obtain ⟨N, rfl⟩ : ∃ N : Nat, n = N := ⟨n.toNat, by omega⟩
  have hN : N < 2 ^ 16 * 2 ^ 16 := by omega
  have hs := rtB_spec hN
  refine ok_fn mixed Tryz.func223 (code := ?_) (h := h223) ?_ k223 ?_
  rotate_left
  · exact rfl
  unfold h223 initS
  simp -implicitDefEqProofs only [rkA, rkB, stepA, valA, simprocAttr, Tryz.ntmps223, Tryz.results223]
  refine wp_loop (fun m s => ∃ j : Nat, j + m = 16 ∧ s = ⟨[nt N, jk, jk, nt (rtB N 16 j), nt (15 - (j : Int)), jk, jk, jk, jk, jk, jk, jk, jk, jk, jk, jk, jk, jk, jk, jk, jk, jk, jk, jk, jk, jk], [], [], [], [], 0, nomem⟩) 16 ?_ ?_
  · simp -implicitDefEqProofs only [rkA, rkB, stepA, valA, simprocAttr]
    exact ⟨0, rfl, by simp [nt, rtB]⟩
  rintro m s ⟨j, hj, rfl⟩
  simp -implicitDefEqProofs only [rkA, rkB, stepA, valA, simprocAttr]
  refine gB_dec ?_ ?_ <;> intro hc <;> simp -implicitDefEqProofs only [hc, rkA, rkB, stepA, valA, simprocAttr]
  · obtain ⟨s1, s2, s3, s4⟩ := hs j (by omega)
    have e1 : 16 - j = (15 - j) + 1 := by omega
    have e2 : (15 - (j : Int)) = ((15 - j : Nat) : Int) := by omega
    have e3 : 16 - 1 - j = 15 - j := by omega
    have h0k : (0 : Int) ≤ ((15 - j : Nat) : Int) := by omega
    have hkb : min ((15 - j : Nat) : Int).toNat (IntKind.bits .i64) = 15 - j := by
      have : IntKind.bits .i64 = 64 := rfl
      rw [this, Int.toNat_natCast]
      omega
    rw [e1] at s3
    have hp : (2 : Nat) ^ (15 - j) ≤ 2 ^ 15 := Nat.pow_le_pow_right (by omega) (by omega)
    have hrl : rtB N 16 j < 2 ^ 16 := by
      have : 0 < 2 ^ (16 - j) := Nat.pow_pos (by omega)
      omega
    have hpI : (1 : Int) * 2 ^ (15 - j) = ((2 ^ (15 - j) : Nat) : Int) := by rw [Int.one_mul, Int.natCast_pow]; rfl
    have hw1 : IntKind.wrap .i64 ((2 ^ (15 - j) : Nat) : Int) = ((2 ^ (15 - j) : Nat) : Int) := wrapNat (by omega)
    have hor := or_bit (r := rtB N 16 j) (k := 15 - j) (by omega) (by omega) s3
    have hbits : IntKind.bits .i64 = 64 := rfl
    have hw2 : IntKind.wrap .i64 ((rtB N 16 j + 2 ^ (15 - j) : Nat) : Int) = ((rtB N 16 j + 2 ^ (15 - j) : Nat) : Int) := wrapNat (by omega)
    have hx : (rtB N 16 j + 2 ^ (15 - j)) * (rtB N 16 j + 2 ^ (15 - j)) ≤ (2 ^ 16 + 2 ^ 15) * (2 ^ 16 + 2 ^ 15) := Nat.mul_le_mul (by omega) (by omega)
    have hw3 : IntKind.wrap .i64 (((rtB N 16 j + 2 ^ (15 - j) : Nat) : Int) * ((rtB N 16 j + 2 ^ (15 - j) : Nat) : Int)) = (((rtB N 16 j + 2 ^ (15 - j)) * (rtB N 16 j + 2 ^ (15 - j)) : Nat) : Int) := by
      rw [← Int.natCast_mul]
      exact wrapNat (by omega)
    have hA : IntKind.wrap .i64 (1 * 2 ^ min ((15 - j : Nat) : Int).toNat (IntKind.bits .i64)) = ((2 ^ (15 - j) : Nat) : Int) := by rw [hkb, hpI, hw1]
    have hB : IntKind.wrap .i64 ((BitVec.ofInt (IntKind.bits .i64) (rtB N 16 j : Int) ||| BitVec.ofInt (IntKind.bits .i64) ((2 ^ (15 - j) : Nat) : Int)).toNat : Int) = ((rtB N 16 j + 2 ^ (15 - j) : Nat) : Int) := by rw [hbits, hor, hw2]
    have hw4 : IntKind.wrap .i64 (((15 - j : Nat) : Int) - 1) = 15 - ((j + 1 : Nat) : Int) := by rw [wrapped (by omega) (by omega)]; omega
    simp -implicitDefEqProofs only [e2, h0k, hA, hB, hw3, rkA, rkB, stepA, valA, simprocAttr]
    refine gB_dec ?_ ?_ <;> intro hq
    · have hr : rtB N 16 (j + 1) = rtB N 16 j + 2 ^ (15 - j) := by simp only [rtB, e3]; rw [if_pos (by omega)]
      simp -implicitDefEqProofs only [hw4, rkA, rkB, stepA, valA, simprocAttr]
      refine loopK_of (m' := m - 1) (by omega) ?_
      simp -implicitDefEqProofs only [rkA, rkB, stepA, valA, simprocAttr]
      exact ⟨j + 1, by omega, by rw [hr]⟩
    · have hr : rtB N 16 (j + 1) = rtB N 16 j := by simp only [rtB, e3]; rw [if_neg (by omega)]
      simp -implicitDefEqProofs only [hw4, rkA, rkB, stepA, valA, simprocAttr]
      refine loopK_of (m' := m - 1) (by omega) ?_
      simp -implicitDefEqProofs only [rkA, rkB, stepA, valA, simprocAttr]
      exact ⟨j + 1, by omega, by rw [hr]⟩
  · have hj16 : j = 16 := by omega
    subst hj16
    obtain ⟨f1, f2, f3⟩ := rtB_final hN
    have hw3 : IntKind.wrap .i64 ((rtB N 16 16 : Int) * (rtB N 16 16 : Int)) = ((rtB N 16 16 * rtB N 16 16 : Nat) : Int) := by
      rw [← Int.natCast_mul]
      exact wrapNat (by omega)
    simp -implicitDefEqProofs only [hw3, rkA, rkB, stepA, valA, simprocAttr]
    unfold rootI
    rw [Int.toNat_natCast]
    refine gB_bool ?_ ?_ <;> intro hq
    · have : ¬ rtB N 16 16 * rtB N 16 16 = N := by
        have := bne_iff_ne.1 hq
        omega
      rw [if_neg this]
      simp -implicitDefEqProofs only [rkA, rkB, stepA, valA, simprocAttr]
    · have : rtB N 16 16 * rtB N 16 16 = N := by
        have := (bne_eq_false_iff_eq (a := ((rtB N 16 16 * rtB N 16 16 : Nat) : Int)) (b := (N : Int))).1 hq
        omega
      rw [if_pos this]
      simp -implicitDefEqProofs only [rkA, rkB, stepA, valA, simprocAttr]

def rootF (a : Fr) : Fr := if a.fine = false ∨ a.n < 0 ∨ rootI a.n < 0 ∨ rootI a.d < 0 then .wrong else newF (rootI a.n) (rootI a.d)
theorem fine_bnd {a : Fr} (h : a.fine = true) : 1 ≤ a.d ∧ a.d ≤ 1073741824 ∧ a.n ≤ 1073741824 ∧ -1073741824 ≤ a.n := by
  simp only [Fr.fine, Bool.and_eq_true, decide_eq_true_eq] at h
  omega
theorem ok216 (a : Fr) : Ok Tryz.prog 216 [frV a] (frV (rootF a)) := by
  refine ok_fn mixed Tryz.func216 (code := ?_) (h := h216) ?_ k216 ?_
  rotate_left
  · exact rfl
  unfold h216 initS
  simp -implicitDefEqProofs only [rkA, rkB, stepA, valA, simprocAttr, Tryz.ntmps216, Tryz.results216]
  refine call_fn rfl rfl rfl (ok212 a) ?_
  cases hf : a.fine with
  | false =>
    simp -implicitDefEqProofs only [rkA, rkB, stepA, valA, simprocAttr]
    refine call_fn rfl rfl rfl (ok101) ?_
    have : rootF a = .wrong := by unfold rootF; rw [if_pos (.inl hf)]
    rw [this]
    simp -implicitDefEqProofs only [rkA, rkB, stepA, valA, simprocAttr]
  | true =>
    obtain ⟨d1, d2, n1, n2⟩ := fine_bnd hf
    simp -implicitDefEqProofs only [rkA, rkB, stepA, valA, simprocAttr]
    refine gB_dec ?_ ?_ <;> intro hn <;> simp -implicitDefEqProofs only [hn, rkA, rkB, stepA, valA, simprocAttr]
    · refine call_fn rfl rfl rfl (ok101) ?_
      have : rootF a = .wrong := by unfold rootF; rw [if_pos (.inr (.inl hn))]
      rw [this]
      simp -implicitDefEqProofs only [rkA, rkB, stepA, valA, simprocAttr]
    · refine call_fn rfl rfl rfl (ok223 a.n (by omega) n1) ?_
      simp -implicitDefEqProofs only [rkA, rkB, stepA, valA, simprocAttr]
      refine gB_dec ?_ ?_ <;> intro hr <;> simp -implicitDefEqProofs only [hr, rkA, rkB, stepA, valA, simprocAttr]
      · refine call_fn rfl rfl rfl (ok101) ?_
        have : rootF a = .wrong := by unfold rootF; rw [if_pos (.inr (.inr (.inl hr)))]
        rw [this]
        simp -implicitDefEqProofs only [rkA, rkB, stepA, valA, simprocAttr]
      · refine call_fn rfl rfl rfl (ok223 a.d (by omega) d2) ?_
        simp -implicitDefEqProofs only [rkA, rkB, stepA, valA, simprocAttr]
        refine gB_dec ?_ ?_ <;> intro hs <;> simp -implicitDefEqProofs only [hs, rkA, rkB, stepA, valA, simprocAttr]
        · refine call_fn rfl rfl rfl (ok101) ?_
          have : rootF a = .wrong := by unfold rootF; rw [if_pos (.inr (.inr (.inr hs)))]
          rw [this]
          simp -implicitDefEqProofs only [rkA, rkB, stepA, valA, simprocAttr]
        · refine call_fn rfl rfl rfl (ok223 a.n (by omega) n1) ?_
          simp -implicitDefEqProofs only [rkA, rkB, stepA, valA, simprocAttr]
          refine call_fn rfl rfl rfl (ok223 a.d (by omega) d2) ?_
          simp -implicitDefEqProofs only [rkA, rkB, stepA, valA, simprocAttr]
          refine call_fn rfl rfl rfl (ok44 (rootI a.n) (rootI a.d)) ?_
          have : rootF a = newF (rootI a.n) (rootI a.d) := by
            unfold rootF
            rw [if_neg (by rw [hf]; rintro (h | h | h | h) <;> first | cases h | omega)]
          rw [this]
          simp -implicitDefEqProofs only [rkA, rkB, stepA, valA, simprocAttr]

def signF (a : Fr) : Int := if a.fine = false then 0 else if a.n = 0 then 0 else if a.n < 0 then -1 else 1
theorem ok217 (a : Fr) : Ok Tryz.prog 217 [frV a] (num (signF a)) := by
  refine ok_fn mixed Tryz.func217 (code := ?_) (h := h217) ?_ k217 ?_
  rotate_left
  · exact rfl
  unfold h217 initS
  simp -implicitDefEqProofs only [rkA, rkB, stepA, valA, simprocAttr, Tryz.ntmps217, Tryz.results217]
  refine call_fn rfl rfl rfl (ok212 a) ?_
  unfold signF
  cases hf : a.fine with
  | false => simp -implicitDefEqProofs only [rkA, rkB, stepA, valA, simprocAttr]
  | true =>
    simp -implicitDefEqProofs only [rkA, rkB, stepA, valA, simprocAttr]
    refine gB_bool ?_ ?_ <;> intro h0
    · have e0 : a.n = 0 := by simpa using h0
      simp -implicitDefEqProofs only [e0, rkA, rkB, stepA, valA, simprocAttr]
    · have e0 : ¬ a.n = 0 := by simpa using h0
      simp -implicitDefEqProofs only [e0, rkA, rkB, stepA, valA, simprocAttr]
      refine gB_dec ?_ ?_ <;> intro h1 <;> simp -implicitDefEqProofs only [h1, rkA, rkB, stepA, valA, simprocAttr]
end Go.Proofs.YtbflmeomkfjikaaGreat.A


set_option linter.unusedVariables false
set_option linter.unusedSimpArgs false
set_option maxRecDepth 100000
namespace Go.Proofs.YtbflmeomkfjikaaGreat.A
open Go Go.RowKit Go.Shelf

/-! ### Roots of products, bit by bit -/
def rtW (p : Nat) : Nat := rtB p 63 63
def upW (p : Nat) (mode : Int) : Bool := decide (rtW p * rtW p ≠ p) && (decide (mode = 2) || (decide (mode = 0) && decide (rtW p * (rtW p + 1) < p)))
def wRootN (p : Nat) (mode : Int) : Nat := if upW p mode = true then rtW p + 1 else rtW p
def wRootOk (a b mode : Int) : Bool := rightW a && (rightW b && (decide (0 ≤ mode ∧ mode ≤ 2) && !((decide (a ≠ 0) && decide (b ≠ 0)) && (decide (a < 0) != decide (b < 0)))))
def wRoot (a b mode : Int) : Int × Bool := if wRootOk a b mode = true then ((wRootN (a.natAbs * b.natAbs) mode : Int), true) else (0, false)
theorem rtB_step {n K j : Nat} (hn : n < 2 ^ K * 2 ^ K) (hj : j < K) : ∃ q, rtB n K j = q * 2 ^ (K - j) ∧ rtB n K j + 2 ^ (K - j) ≤ 2 ^ K := by
  obtain ⟨_, _, ⟨q, hq⟩, h4⟩ := rtB_spec hn j (by omega)
  exact ⟨q, by rw [hq, Nat.mul_comm], h4⟩
theorem abs_right {n : Int} (h : rightW n = true) : n.natAbs ≤ 4611686018427387903 := by
  unfold rightW at h
  rw [decide_eq_true_eq] at h
  omega
theorem wRoot_no {a b mode : Int} (h : wRootOk a b mode = false) : wRoot a b mode = (0, false) := by unfold wRoot; rw [h]; rfl
theorem wRoot_yes {a b mode : Int} (h : wRootOk a b mode = true) : wRoot a b mode = ((wRootN (a.natAbs * b.natAbs) mode : Int), true) := by unfold wRoot; rw [if_pos h]
theorem rtW_spec {p : Nat} (hp : p ≤ 4611686018427387903 * 4611686018427387903) : rtW p * rtW p ≤ p ∧ p < (rtW p + 1) * (rtW p + 1) ∧ rtW p ≤ 4611686018427387903 := by
  have hp2 : p < 2 ^ 63 * 2 ^ 63 := by omega
  obtain ⟨f1, f2, f3⟩ := rtB_final hp2
  refine ⟨f1, f2, ?_⟩
  have f1' : rtW p * rtW p ≤ p := f1
  rcases Nat.lt_or_ge 4611686018427387903 (rtW p) with h | h
  · have := Nat.mul_lt_mul'' h h
    omega
  · exact h
set_option maxHeartbeats 4000000 in
theorem ok235 (a b mode : Int) : Ok Tryz.prog 235 [num a, num b, num mode] (.tup [num (wRoot a b mode).1, tru (wRoot a b mode).2]) := by
  refine ok_fn mixed Tryz.func235 (code := ?_) (h := h235) ?_ k235 ?_
  rotate_left
  · exact rfl
  unfold h235 initS
  simp -implicitDefEqProofs (maxSteps := 10000000) only [rkA, rkB, stepA, valA, simprocAttr, Tryz.ntmps235, Tryz.results235]
  refine call_fn rfl rfl rfl (ok85' a) ?_
  cases ha : rightW a with
  | false =>
    rw [wRoot_no (by unfold wRootOk; rw [ha]; rfl)]
    simp -implicitDefEqProofs (maxSteps := 10000000) only [rkA, rkB, stepA, valA, simprocAttr]
  | true =>
    simp -implicitDefEqProofs (maxSteps := 10000000) only [rkA, rkB, stepA, valA, simprocAttr]
    refine call_fn rfl rfl rfl (ok85' b) ?_
    cases hb : rightW b with
    | false =>
      rw [wRoot_no (by unfold wRootOk; rw [ha, hb]; rfl)]
      simp -implicitDefEqProofs (maxSteps := 10000000) only [rkA, rkB, stepA, valA, simprocAttr]
    | true =>
      simp -implicitDefEqProofs (maxSteps := 10000000) only [rkA, rkB, stepA, valA, simprocAttr]
      refine call_fn rfl rfl rfl (ok178 mode) ?_
      by_cases hm : 0 ≤ mode ∧ mode ≤ 2
      · have hm' : decide (0 ≤ mode ∧ mode ≤ 2) = true := decide_eq_true hm
        have hb1 := abs_right ha
        have hb2 := abs_right hb
        have hp : a.natAbs * b.natAbs ≤ 4611686018427387903 * 4611686018427387903 := Nat.mul_le_mul hb1 hb2
        simp -implicitDefEqProofs (maxSteps := 10000000) only [hm', rkA, rkB, stepA, valA, simprocAttr]
        have cs : (a = 0) ∨ (a ≠ 0 ∧ b = 0) ∨ (a ≠ 0 ∧ b ≠ 0 ∧ (decide (a < 0) != decide (b < 0)) = true) ∨ (a ≠ 0 ∧ b ≠ 0 ∧ (decide (a < 0) != decide (b < 0)) = false) := by
          cases (decide (a < 0) != decide (b < 0)) <;> simp <;> omega
        rcases cs with h1 | ⟨h1, h2⟩ | ⟨h1, h2, h3⟩ | ⟨h1, h2, h3⟩
        rotate_left 2
        · have n1 : (a != 0) = true := by simpa using h1
          have n2 : (b != 0) = true := by simpa using h2
          rw [wRoot_no (by unfold wRootOk; rw [ha, hb, hm', h3, decide_eq_true h1, decide_eq_true h2]; rfl)]
          have n3 : (!(decide (a < 0) == decide (b < 0))) = true := h3
          simp -implicitDefEqProofs (maxSteps := 10000000) only [n1, n2, n3, rkA, rkB, stepA, valA, simprocAttr]
        have hr := wRoot_yes (a := a) (b := b) (mode := mode) (by unfold wRootOk; rw [ha, hb, hm', h3]; simp)
        have n1 : (a != 0) = true := by simpa using h1
        have n2 : (b != 0) = true := by simpa using h2
        have n3 : (!(decide (a < 0) == decide (b < 0))) = false := h3
        simp -implicitDefEqProofs (maxSteps := 10000000) only [n1, n2, n3, rkA, rkB, stepA, valA, simprocAttr]
        clear h1 h2 h3 n1 n2 n3
        rotate_left
        have hr := wRoot_yes (a := a) (b := b) (mode := mode) (by unfold wRootOk; rw [ha, hb, hm', decide_eq_false (p := a ≠ 0) (by simpa using h1)]; rfl)
        have n1 : (a != 0) = false := by simpa using h1
        simp -implicitDefEqProofs (maxSteps := 10000000) only [n1, rkA, rkB, stepA, valA, simprocAttr]
        clear h1 n1
        rotate_left
        have hr := wRoot_yes (a := a) (b := b) (mode := mode) (by unfold wRootOk; rw [ha, hb, hm', decide_eq_false (p := b ≠ 0) (by simpa using h2)]; simp)
        have n1 : (a != 0) = true := by simpa using h1
        have n2 : (b != 0) = false := by simpa using h2
        simp -implicitDefEqProofs (maxSteps := 10000000) only [n1, n2, rkA, rkB, stepA, valA, simprocAttr]
        clear h1 h2 n1 n2
        all_goals
          rw [hr]
          clear hr
          refine call_fn rfl rfl rfl (ok137 a ha) ?_
          simp -implicitDefEqProofs (maxSteps := 10000000) only [rkA, rkB, stepA, valA, simprocAttr]
          refine call_fn rfl rfl rfl (ok137 b hb) ?_
          simp -implicitDefEqProofs (maxSteps := 10000000) only [rkA, rkB, stepA, valA, simprocAttr]
          refine call_fn rfl rfl rfl (ok136 a.natAbs b.natAbs (by omega) (by omega)) ?_
          simp -implicitDefEqProofs (maxSteps := 10000000) only [rkA, rkB, stepA, valA, simprocAttr]
          generalize a.natAbs * b.natAbs = p at *
          have hp2 : p < 2 ^ 63 * 2 ^ 63 := by omega
          refine wp_loop (fun m s => ∃ j : Nat, j + m = 63 ∧ s = ⟨[jk, jk, .v (num mode), jk, jk, jk, jk, jk, .ptr 8 0, ut (rtB p 63 j), jk, jk, jk, jk, jk, jk, jk, jk, jk, jk, jk, jk, jk, jk, jk, jk, jk, jk, jk, jk, jk, jk, jk, jk, jk, jk, jk, jk, jk, jk, jk, jk, jk, jk, jk, jk, jk, nt j, jk, jk, jk, jk, jk, jk, jk, jk, jk, jk, jk, jk, jk, jk, jk, jk, jk, jk, jk, jk, jk, jk, jk, jk, jk, jk, jk, jk, jk, jk, jk, jk, jk, jk, jk, jk, jk, jk, jk, jk, jk, jk, jk],
            [(8, [ut (p / 18446744073709551616), ut (p % 18446744073709551616)])], [], [], [], 0, nomem⟩) 63 ?_ ?_
          · simp -implicitDefEqProofs (maxSteps := 10000000) only [rkA, rkB, stepA, valA, simprocAttr]
            exact ⟨0, rfl, rfl⟩
          rintro m s ⟨j, hj, rfl⟩
          simp -implicitDefEqProofs (maxSteps := 10000000) only [rkA, rkB, stepA, valA, simprocAttr]
          refine gB_dec ?_ ?_ <;> intro hc <;> simp -implicitDefEqProofs (maxSteps := 10000000) only [hc, rkA, rkB, stepA, valA, simprocAttr]
          · obtain ⟨q, hq, hq2⟩ := rtB_step hp2 (show j < 63 by omega)
            obtain ⟨t, ht⟩ : ∃ t, 63 - j = t + 1 := ⟨62 - j, by omega⟩
            have ht2 : 63 - 1 - j = t := by omega
            have hti : (62 : Int) - (j : Int) = ((t : Nat) : Int) := by omega
            have h0t : (0 : Int) ≤ ((t : Nat) : Int) := by omega
            have hwt := wrapped (x := ((t : Nat) : Int)) (by omega) (by omega)
            have hshl := shlN 1 (k := t) (by omega)
            rw [ht] at hq hq2
            have hpt : 2 ^ t < 2 ^ (t + 1) := Nat.pow_lt_pow_right (by omega) (by omega)
            have hpt2 : 2 ^ (t + 1) ≤ 2 ^ 63 := Nat.pow_le_pow_right (by omega) (by omega)
            have hor := orN (a := q) (b := 2 ^ t) (k := t + 1) hpt (by rw [← hq]; omega)
            rw [← hq] at hor
            rw [Nat.one_mul, Nat.mod_eq_of_lt (by omega)] at hshl
            have e1 : ((1 : Nat) : Int) = 1 := rfl
            rw [e1] at hshl
            have hx : rtB p 63 j + 2 ^ t < 18446744073709551616 := by omega
            simp -implicitDefEqProofs (maxSteps := 10000000) only [hti, h0t, hwt, Int.toNat_natCast, hshl, hor, rkA, rkB, stepA, valA, simprocAttr]
            refine call_fn rfl rfl rfl (ok136 (rtB p 63 j + 2 ^ t) (rtB p 63 j + 2 ^ t) hx hx) ?_
            simp -implicitDefEqProofs (maxSteps := 10000000) only [rkA, rkB, stepA, valA, simprocAttr]
            refine call_fn rfl rfl rfl (ok138 p ((rtB p 63 j + 2 ^ t) * (rtB p 63 j + 2 ^ t))) ?_
            have hstep : rtB p 63 (j + 1) = if (rtB p 63 j + 2 ^ t) * (rtB p 63 j + 2 ^ t) ≤ p then rtB p 63 j + 2 ^ t else rtB p 63 j := by rw [rtB, ht2]
            have hw2 := wrapped (x := (j : Int) + 1) (by omega) (by omega)
            by_cases hlt : p < (rtB p 63 j + 2 ^ t) * (rtB p 63 j + 2 ^ t)
            · rw [if_neg (by omega)] at hstep
              simp -implicitDefEqProofs (maxSteps := 10000000) only [hlt, hw2, rkA, rkB, stepA, valA, simprocAttr]
              refine loopK_of (m' := m - 1) (by omega) ?_
              simp -implicitDefEqProofs (maxSteps := 10000000) only [rkA, rkB, stepA, valA, simprocAttr]
              exact ⟨j + 1, by omega, by rw [hstep, show ((j + 1 : Nat) : Int) = (j : Int) + 1 from rfl]⟩
            · rw [if_pos (by omega)] at hstep
              simp -implicitDefEqProofs (maxSteps := 10000000) only [hlt, hw2, rkA, rkB, stepA, valA, simprocAttr]
              refine loopK_of (m' := m - 1) (by omega) ?_
              simp -implicitDefEqProofs (maxSteps := 10000000) only [rkA, rkB, stepA, valA, simprocAttr]
              exact ⟨j + 1, by omega, by rw [hstep, show ((j + 1 : Nat) : Int) = (j : Int) + 1 from rfl]⟩
          · have hj' : j = 63 := by omega
            subst hj'
            obtain ⟨f1, f2, f3⟩ := rtW_spec hp
            have er : rtB p 63 63 = rtW p := by unfold rtW; rfl
            rw [er]
            clear er hp2
            unfold wRootN upW
            generalize rtW p = r at *
            have h64 : r < 18446744073709551616 := by omega
            have h65 : r + 1 < 18446744073709551616 := by omega
            have hw1 := wrapN (n := r + 1) h65
            have ea : ((r : Nat) : Int) + 1 = ((r + 1 : Nat) : Int) := by simp
            refine call_fn rfl rfl rfl (ok136 (r) (r) h64 h64) ?_
            simp -implicitDefEqProofs (maxSteps := 10000000) only [eq_prW, ea, hw1, rkA, rkB, stepA, valA, simprocAttr]
            refine call_fn rfl rfl rfl (ok136 (r) (r + 1) h64 h65) ?_
            simp -implicitDefEqProofs (maxSteps := 10000000) only [rkA, rkB, stepA, valA, simprocAttr]
            refine call_fn rfl rfl rfl (ok138 (r * (r + 1)) p) ?_
            simp -implicitDefEqProofs (maxSteps := 10000000) only [rkA, rkB, stepA, valA, simprocAttr]
            have hwi : IntKind.wrap .i64 ((r : Nat) : Int) = ((r : Nat) : Int) := wrapped (by omega) (by omega)
            have hwi2 : IntKind.wrap .i64 ((r + 1 : Nat) : Int) = ((r + 1 : Nat) : Int) := wrapped (by omega) (by omega)
            by_cases q1 : r * r = p
            · have d1 : decide (r * r = p) = true := decide_eq_true q1
              have d2 : decide (r * r ≠ p) = false := decide_eq_false (by simpa using q1)
              simp -implicitDefEqProofs (maxSteps := 10000000) only [d1, d2, hwi, rkA, rkB, stepA, valA, simprocAttr]
            · have d1 : decide (r * r = p) = false := decide_eq_false q1
              have d2 : decide (r * r ≠ p) = true := decide_eq_true q1
              have m2 : (mode == 2) = decide (mode = 2) := by by_cases h : mode = 2 <;> simp [h]
              have m0 : (mode == 0) = decide (mode = 0) := by by_cases h : mode = 0 <;> simp [h]
              by_cases q2 : mode = 2
              · have d3 : decide (mode = 2) = true := decide_eq_true q2
                simp -implicitDefEqProofs (maxSteps := 10000000) only [d1, d2, d3, m2, rkA, rkB, stepA, valA, simprocAttr]
                simp -implicitDefEqProofs (maxSteps := 10000000) only [ea, hw1, hwi2, rkA, rkB, stepA, valA, simprocAttr]
              · have d3 : decide (mode = 2) = false := decide_eq_false q2
                by_cases q3 : mode = 0
                · have d4 : decide (mode = 0) = true := decide_eq_true q3
                  by_cases q4 : r * (r + 1) < p
                  · have d5 : decide (r * (r + 1) < p) = true := decide_eq_true q4
                    simp -implicitDefEqProofs (maxSteps := 10000000) only [d1, d2, d3, d4, d5, m2, m0, rkA, rkB, stepA, valA, simprocAttr]
                    simp -implicitDefEqProofs (maxSteps := 10000000) only [ea, hw1, hwi2, rkA, rkB, stepA, valA, simprocAttr]
                  · have d5 : decide (r * (r + 1) < p) = false := decide_eq_false q4
                    simp -implicitDefEqProofs (maxSteps := 10000000) only [d1, d2, d3, d4, d5, m2, m0, hwi, rkA, rkB, stepA, valA, simprocAttr]
                · have d4 : decide (mode = 0) = false := decide_eq_false q3
                  simp -implicitDefEqProofs (maxSteps := 10000000) only [d1, d2, d3, d4, m2, m0, hwi, rkA, rkB, stepA, valA, simprocAttr]
      · have hm' : decide (0 ≤ mode ∧ mode ≤ 2) = false := decide_eq_false hm
        rw [wRoot_no (by unfold wRootOk; rw [ha, hb, hm']; rfl)]
        simp -implicitDefEqProofs (maxSteps := 10000000) only [hm', rkA, rkB, stepA, valA, simprocAttr]
end Go.Proofs.YtbflmeomkfjikaaGreat.A


set_option linter.unusedVariables false
set_option linter.unusedSimpArgs false
set_option maxRecDepth 100000
namespace Go.Proofs.YtbflmeomkfjikaaGreat.A
open Go Go.RowKit Go.Shelf

/-! ### Roots of rounded numbers -/
def rtX (a mode : Int) : Int × Bool := toldF (wRoot a 16777216 mode).1 (wRoot a 16777216 mode).2 [a]
theorem ok234 (a mode : Int) : Ok Tryz.prog 234 [num a, num mode] (.tup [num (rtX a mode).1, tru (rtX a mode).2]) := by
  refine ok_fn mixed Tryz.func234 (code := ?_) (h := h234) ?_ k234 ?_
  rotate_left
  · exact rfl
  unfold h234 initS
  simp -implicitDefEqProofs (maxSteps := 10000000) only [rkA, rkB, stepA, valA, simprocAttr, Tryz.ntmps234, Tryz.results234]
  refine call_fn rfl rfl rfl (ok235 a 16777216 mode) ?_
  simp -implicitDefEqProofs (maxSteps := 10000000) only [rkA, rkB, stepA, valA, simprocAttr]
  refine call_fn rfl rfl rfl (ok156 _ _ [a] (by simp)) ?_
  simp -implicitDefEqProofs (maxSteps := 10000000) only [rkA, rkB, stepA, valA, simprocAttr, rtX]
theorem ok233 (x y m : Int) : Ok Tryz.prog 233 [num x, num y, num m] (.tup [num (rtX x m).1, tru (rtX x m).2]) := by
  refine ok_fn mixed Tryz.func233 (code := ?_) (h := h233) ?_ k233 ?_
  rotate_left
  · exact rfl
  unfold h233 initS
  simp -implicitDefEqProofs (maxSteps := 10000000) only [rkA, rkB, stepA, valA, simprocAttr, Tryz.ntmps233, Tryz.results233]
  refine call_fn rfl rfl rfl (ok234 x m) ?_
  simp -implicitDefEqProofs (maxSteps := 10000000) only [rkA, rkB, stepA, valA, simprocAttr]
end Go.Proofs.YtbflmeomkfjikaaGreat.A
namespace Go.Proofs.YtbflmeomkfjikaaGreat.A.E
open Go Go.RowKit Go.Shelf

/-! ### Roots, signs of enclosed numbers -/
def rootF (a : Fr) : Fr := madeE (fun x _ m => rtX x m) a a [(a.lo, a.lo), (a.hi, a.hi)]
theorem ok229 (a : Fr) : Ok Tryz.prog 229 [frV a] (frV (rootF a)) := by
  have h := ok103 _ (fun x _ m => rtX x m) (fun x y m => ok233 x y m) a a true [(a.lo, a.lo), (a.hi, a.hi)] (by simp) (by simp)
  refine ok_fn mixed Tryz.func229 (code := ?_) (h := h229) ?_ k229 ?_
  rotate_left
  · exact rfl
  unfold h229 initS
  simp -implicitDefEqProofs (maxSteps := 10000000) only [rkA, rkB, stepA, valA, simprocAttr, Tryz.ntmps229, Tryz.results229]
  refine call_fn rfl rfl rfl (h) ?_
  simp -implicitDefEqProofs (maxSteps := 10000000) only [rkA, rkB, stepA, valA, simprocAttr, rootF]
def negF (a : Fr) : Fr := subF (point 0) a
theorem ok36 (a : Fr) : Ok Tryz.prog 36 [frV a] (frV (negF a)) := by
  refine ok_fn mixed Tryz.func36 (code := ?_) (h := h36) ?_ k36 ?_
  rotate_left
  · exact rfl
  unfold h36 initS
  simp -implicitDefEqProofs (maxSteps := 10000000) only [rkA, rkB, stepA, valA, simprocAttr, Tryz.ntmps36, Tryz.results36]
  refine call_fn rfl rfl rfl (ok53 0) ?_
  simp -implicitDefEqProofs (maxSteps := 10000000) only [rkA, rkB, stepA, valA, simprocAttr]
  refine call_fn rfl rfl rfl (ok97 (point 0) a) ?_
  simp -implicitDefEqProofs (maxSteps := 10000000) only [rkA, rkB, stepA, valA, simprocAttr, negF]
def signF (a : Fr) : Int := if a.bad = true ∨ a.v = 0 then 0 else if a.v < 0 then -1 else 1
theorem ok34 (a : Fr) : Ok Tryz.prog 34 [frV a] (num (signF a)) := by
  refine ok_fn mixed Tryz.func34 (code := ?_) (h := h34) ?_ k34 ?_
  rotate_left
  · exact rfl
  unfold h34 initS
  simp -implicitDefEqProofs (maxSteps := 10000000) only [rkA, rkB, stepA, valA, simprocAttr, Tryz.ntmps34, Tryz.results34]
  cases hb : a.bad with
  | true =>
    have e : signF a = 0 := by unfold signF; rw [hb]; simp
    simp -implicitDefEqProofs (maxSteps := 10000000) only [e, rkA, rkB, stepA, valA, simprocAttr]
  | false =>
    simp -implicitDefEqProofs (maxSteps := 10000000) only [rkA, rkB, stepA, valA, simprocAttr]
    by_cases h0 : a.v = 0
    · have e : signF a = 0 := by unfold signF; rw [h0]; simp
      simp -implicitDefEqProofs (maxSteps := 10000000) only [e, h0, rkA, rkB, stepA, valA, simprocAttr]
    · have h0' : (a.v == 0) = false := by simpa using h0
      simp -implicitDefEqProofs (maxSteps := 10000000) only [h0, h0', rkA, rkB, stepA, valA, simprocAttr]
      refine gB_dec ?_ ?_ <;> intro h1 <;> simp -implicitDefEqProofs (maxSteps := 10000000) only [h1, rkA, rkB, stepA, valA, simprocAttr]
      · have e : signF a = -1 := by unfold signF; rw [hb, if_neg (by simp [h0]), if_pos h1]
        rw [e]
      · have e : signF a = 1 := by unfold signF; rw [hb, if_neg (by simp [h0]), if_neg h1]
        rw [e]
theorem methRoot : Meth Tryz.prog 40 "Root" 229 := by
  intro v xs w
  rfl
end Go.Proofs.YtbflmeomkfjikaaGreat.A.E

set_option linter.unusedVariables false
set_option linter.unusedSimpArgs false
set_option maxRecDepth 100000
namespace Go.Proofs.YtbflmeomkfjikaaGreat.A.E
open Go Go.RowKit Go.Shelf

/-! ### Roots of enclosed numbers enclose -/
/-- What a rounded root is: r the root from below, R what is told. -/
theorem rt_spec {x m : Int} (h : (rtX x m).2 = true) : ∃ r R : Nat, (rtX x m).1 = (R : Int) ∧ 0 ≤ x ∧ rightX (R : Int) = true ∧ (r : Int) * r ≤ x * 16777216 ∧ x * 16777216 < ((r : Int) + 1) * ((r : Int) + 1) ∧
    (R = r ∨ (R = r + 1 ∧ (r : Int) * r < x * 16777216)) ∧ (m = 1 → R = r) ∧ (m = 2 → x * 16777216 ≤ (R : Int) * R) := by
  unfold rtX at h ⊢
  obtain ⟨h1, h2, h3⟩ := told_is h
  cases hok : wRootOk x 16777216 m with
  | false => rw [wRoot_no hok] at h1; cases h1
  | true =>
    rw [h2] at *
    rw [wRoot_yes hok] at *
    simp only at *
    have h0 : 0 ≤ x ∧ rightW x = true := by
      unfold wRootOk at hok
      simp only [Bool.and_eq_true, Bool.not_eq_true', Bool.and_eq_false_iff, decide_eq_false_iff_not, decide_eq_true_eq, bne_eq_false_iff_eq, decide_eq_decide] at hok
      refine ⟨?_, hok.1⟩
      obtain ⟨_, _, _, hh⟩ := hok
      rcases hh with (hh | hh) | hh
      · omega
      · omega
      · omega
    have hp : x.natAbs * (16777216 : Int).natAbs ≤ 4611686018427387903 * 4611686018427387903 := Nat.mul_le_mul (abs_right h0.2) (by decide)
    obtain ⟨s1, s2, s3⟩ := rtW_spec hp
    have ep : ((x.natAbs * (16777216 : Int).natAbs : Nat) : Int) = x * 16777216 := by
      have : (16777216 : Int).natAbs = 16777216 := rfl
      rw [this]
      omega
    generalize x.natAbs * (16777216 : Int).natAbs = p at *
    have i1 : ((rtW p : Nat) : Int) * (rtW p : Nat) ≤ x * 16777216 := by rw [← ep, ← Int.natCast_mul]; omega
    have i2 : x * 16777216 < (((rtW p : Nat) : Int) + 1) * (((rtW p : Nat) : Int) + 1) := by
      rw [← ep]
      have : (((rtW p : Nat) : Int) + 1) = ((rtW p + 1 : Nat) : Int) := by simp
      rw [this, ← Int.natCast_mul]
      omega
    refine ⟨rtW p, wRootN p m, rfl, h0.1, h3, i1, i2, ?_, ?_, ?_⟩
    · unfold wRootN
      split
      · rename_i hu
        refine .inr ⟨rfl, ?_⟩
        unfold upW at hu
        rw [Bool.and_eq_true, decide_eq_true_eq] at hu
        rw [← ep, ← Int.natCast_mul]
        have := hu.1
        omega
      · exact .inl rfl
    · rintro rfl
      unfold wRootN upW
      simp
    · rintro rfl
      unfold wRootN upW
      by_cases he : rtW p * rtW p = p
      · simp only [he, ne_eq, not_true_eq_false, decide_false, Bool.false_and, Bool.false_eq_true, if_false]
        rw [← ep, ← Int.natCast_mul]
        omega
      · simp only [he, ne_eq, not_false_eq_true, decide_true, Bool.true_and, Bool.true_or, if_true]
        have : ((rtW p + 1 : Nat) : Int) = ((rtW p : Nat) : Int) + 1 := by simp
        rw [this]
        exact Int.le_of_lt i2
theorem sqr_le {a b : Nat} (h : (a : Int) * a < ((b : Int) + 1) * ((b : Int) + 1)) : a ≤ b := by
  rcases Nat.lt_or_ge b a with h1 | h1
  · exfalso
    have h2 : ((b : Int) + 1) ≤ (a : Int) := by omega
    have h3 := Int.mul_le_mul h2 h2 (by omega) (by omega)
    omega
  · exact h1
theorem rt_lohi {x y : Int} (hx : (rtX x 1).2 = true) (hy : (rtX y 0).2 = true) (h : x ≤ y) : (rtX x 1).1 ≤ (rtX y 0).1 := by
  obtain ⟨r, R, e1, _, _, a1, a2, a3, a4, _⟩ := rt_spec hx
  obtain ⟨s, S, f1, _, _, b1, b2, b3, _, _⟩ := rt_spec hy
  rw [e1, f1, a4 rfl]
  have : r ≤ s := sqr_le (by omega)
  omega
theorem rt_hilo {x y : Int} (hx : (rtX x 0).2 = true) (hy : (rtX y 2).2 = true) (h : x ≤ y) : (rtX x 0).1 ≤ (rtX y 2).1 := by
  obtain ⟨r, R, e1, _, _, a1, a2, a3, _, _⟩ := rt_spec hx
  obtain ⟨s, S, f1, _, _, b1, b2, b3, _, b5⟩ := rt_spec hy
  rw [e1, f1]
  have h1 : r ≤ s := sqr_le (by omega)
  have h2 := b5 rfl
  rcases b3 with rfl | ⟨rfl, _⟩
  · rcases a3 with rfl | ⟨rfl, h3⟩
    · omega
    · have : (r : Int) * r < (S : Int) * S := by omega
      have hne : r ≠ S := fun e => by subst e; omega
      omega
  · rcases a3 with rfl | ⟨rfl, h3⟩ <;> omega
/-- Whatever lies between both roots told is enclosed. -/
theorem root_between {a : Fr} (h : (rootF a).fine = true) {w : Rat} (h1 : ((rtX a.lo 1).1 : Rat) ≤ w * 16777216) (h2 : w * 16777216 ≤ ((rtX a.hi 2).1 : Rat)) : Enc (rootF a) w := by
  have hb := (fine_is.1 h).1
  unfold rootF at hb h ⊢
  obtain ⟨k1, k2, k3, k4, k5⟩ := made_is hb
  obtain ⟨_, _, _, q1, q2⟩ := fine_is.1 k1
  have p1 := k4 (a.lo, a.lo) (by simp)
  have p2 := k4 (a.hi, a.hi) (by simp)
  refine made_enc hb (fun x y m hh => (by obtain ⟨r, R, e1, _, e3, _⟩ := rt_spec hh; rw [e1]; exact e3)) ⟨(a.lo, a.lo), by simp, h1⟩ ⟨(a.hi, a.hi), by simp, h2⟩
    ⟨(a.lo, a.lo), by simp, rt_lohi p1.1 k3 q1⟩ ⟨(a.hi, a.hi), by simp, rt_hilo k3 p2.2 q2⟩
theorem root_ends {a : Fr} {v : Rat} (h : (rootF a).fine = true) (ha : Enc a v) : ∃ L H : Nat, (rtX a.lo 1).1 = (L : Int) ∧ (rtX a.hi 2).1 = (H : Int) ∧ L ≤ H ∧ (L : Rat) * L ≤ v * 16777216 * 16777216 ∧ v * 16777216 * 16777216 ≤ (H : Rat) * H := by
  have hb := (fine_is.1 h).1
  unfold rootF at hb
  obtain ⟨k1, k2, k3, k4, k5⟩ := made_is hb
  obtain ⟨_, _, _, q1, q2⟩ := fine_is.1 k1
  have p1 := k4 (a.lo, a.lo) (by simp)
  have p2 := k4 (a.hi, a.hi) (by simp)
  have g1 := rt_lohi p1.1 k3 q1
  have g2 := rt_hilo k3 p2.2 q2
  obtain ⟨r, R, e1, _, _, a1, a2, a3, a4, _⟩ := rt_spec p1.1
  obtain ⟨s, S, f1, _, _, b1, b2, b3, _, b5⟩ := rt_spec p2.2
  obtain ⟨_, h1, h2⟩ := ha
  have c1 : ((r : Int) * r : Int) ≤ a.lo * 16777216 := a1
  have c2 := b5 rfl
  have c1' := Rat.intCast_le_intCast.2 c1
  have c2' := Rat.intCast_le_intCast.2 c2
  simp only [Rat.intCast_mul, Rat.intCast_natCast, Rat.intCast_ofNat] at c1' c2'
  refine ⟨R, S, e1, f1, by simp only at g1 g2 e1 f1; omega, ?_, ?_⟩
  · rw [a4 rfl]
    have : (a.lo : Rat) * 16777216 ≤ v * 16777216 * 16777216 := by
      have := Rat.mul_le_mul_of_nonneg_right h1 (show (0 : Rat) ≤ 16777216 by decide)
      exact this
    grind
  · have : v * 16777216 * 16777216 ≤ (a.hi : Rat) * 16777216 := Rat.mul_le_mul_of_nonneg_right h2 (show (0 : Rat) ≤ 16777216 by decide)
    grind
theorem nn_nat (n : Nat) : (0 : Rat) ≤ (n : Rat) := by exact_mod_cast Nat.zero_le n
theorem le_of_sq {a b : Rat} (ha : 0 ≤ a) (hb : 0 ≤ b) (h : a * a ≤ b * b) : a ≤ b := by
  by_cases h1 : a ≤ b
  · exact h1
  · have h2 : 0 < (a - b) * (a + b) := Rat.mul_pos (by grind) (by grind)
    grind
/-- The root of what is enclosed is enclosed. -/
theorem Rq.root {a : Fr} {v r : Rat} (ha : Rq a v) (hr : 0 ≤ r) (h : r * r = v) : Rq (rootF a) r := fun hf => by
  have hfa : a.fine = true := by
    have hb := (fine_is.1 hf).1
    unfold rootF at hb
    exact (made_is hb).1
  obtain ⟨L, H, e1, e2, _, h1, h2⟩ := root_ends hf (ha hfa)
  have hw : 0 ≤ r * 16777216 := Rat.mul_nonneg hr (by decide)
  have e : v * 16777216 * 16777216 = (r * 16777216) * (r * 16777216) := by rw [← h]; grind
  rw [e] at h1 h2
  refine root_between hf ?_ ?_
  · rw [e1, Rat.intCast_natCast]
    exact le_of_sq (nn_nat L) hw h1
  · rw [e2, Rat.intCast_natCast]
    exact le_of_sq hw (nn_nat H) h2
theorem root_fine {a : Fr} (hf : (rootF a).fine = true) : a.fine = true := by
  have hb := (fine_is.1 hf).1
  unfold rootF at hb
  exact (made_is hb).1
/-- The same of a number that is no square: as near as is asked. -/
theorem root_app {a : Fr} {v e : Rat} (hf : (rootF a).fine = true) (ha : Enc a v) (he : 0 < e) : ∃ r : Rat, 0 ≤ r ∧ Enc (rootF a) r ∧ -e ≤ v - r * r ∧ v - r * r ≤ e := by
  obtain ⟨L, H, e1, e2, hLH, h1, h2⟩ := root_ends hf ha
  have hle : (L : Rat) ≤ (H : Rat) := by exact_mod_cast hLH
  obtain ⟨w, w1, w2, w3, w4⟩ := root_near (v := v * 16777216 * 16777216) (L := L) (H := H) (e := e) (nn_nat L) h1 h2 hle he
  have hL := nn_nat L
  refine ⟨w / 16777216, by grind, root_between hf ?_ ?_, ?_, ?_⟩
  · rw [e1, Rat.intCast_natCast]; grind
  · rw [e2, Rat.intCast_natCast]; grind
  · have : v - w / 16777216 * (w / 16777216) = (v * 16777216 * 16777216 - w * w) / (16777216 * 16777216) := by grind
    grind
  · have : v - w / 16777216 * (w / 16777216) = (v * 16777216 * 16777216 - w * w) / (16777216 * 16777216) := by grind
    grind
theorem Rq.neg {a : Fr} {v : Rat} (ha : Rq a v) : Rq (negF a) (-v) := by
  have h0 : Rq (point 0) 0 := fun _ => by
    have e : point 0 = newF 0 1 := by decide +kernel
    rw [e]
    exact Rq.zero (by decide +kernel)
  have := h0.sub ha
  have e : (0 : Rat) - v = -v := by grind
  rw [e] at this
  exact this
theorem neg_fine {a : Fr} (h : (negF a).fine = true) : a.fine = true := (made_fine h).2
end Go.Proofs.YtbflmeomkfjikaaGreat.A.E

set_option linter.unusedVariables false
set_option linter.unusedSimpArgs false
set_option maxRecDepth 100000
namespace Go.Proofs.YtbflmeomkfjikaaGreat.A
open Go Go.RowKit Go.Shelf

/-! ### Functions that hand new rows back -/
theorem frs_cells (l : List Fr) : ∀ e ∈ frs l, e.cells.length = 3 := fun e he => by
  obtain ⟨x, _, rfl⟩ := List.mem_map.1 he
  rfl
theorem RFs_frs : ∀ (l : List Fr), RFs (flat (frs l)) = true
  | [] => rfl
  | x :: l => by
    have h := RFs_frs l
    simp only [frs, List.map_cons, flat, List.flatMap_cons, PV.cells, List.cons_append, List.nil_append, RFs, RF, Bool.true_and] at h ⊢
    exact h

theorem okn109 (ex : Bool) (l : List Fr) (hl : l ≠ []) (h : l.length ≤ 5864062014805) : OkN Tryz.prog 109 [.sl ex (frs l)] (frs l) := by
  have hfit : fits 3 24 [] (frs l) = true := by
    have := fits_frs (k := []) (l := l) (by simpa using h)
    simpa using this
  have he : (frs l).isEmpty = false := by cases l <;> simp_all
  refine okn_fn mixed Tryz.func109 (code := ?_) (h := hN109) ?_ kN109 rfl (RFs_frs l) ?_
  rotate_left
  · exact rfl
  unfold hN109 initS
  simp -implicitDefEqProofs only [rkA, rkB, stepA, valA, simprocAttr, Tryz.ntmps109, Tryz.results109]
  refine nilA_sl _ _ rfl fun b hb => ?_
  have hb' := hb he
  subst hb'
  simp -implicitDefEqProofs only [hfit, he, rkA, rkB, stepA, valA, simprocAttr]
  refine .inl ⟨7, ?_⟩
  simp -implicitDefEqProofs only [rkA, rkB, stepA, valA, simprocAttr]

/-- A new matrix: its numbers lie in memory of their own. -/
def NewMat (r c : Int) (l : List PV) (x : PV) (m : Mem) : Prop := ∃ b cap q, l.length ≤ cap ∧ x = .tup [.agg [num r, num c, .s (.slice (some ⟨b, 0, none⟩) l.length cap)], tru true] ∧ m = nomem.put b (flat l ++ List.replicate q .junk)

theorem tell_row {m : Mem} {b cap q : Nat} {l : List Fr} (hm : m b = some (flat (frs l) ++ List.replicate q .junk)) (hc : (frs l).length ≤ cap) : Tell m (.s (.slice (some ⟨b, 0, none⟩) (frs l).length cap)) (.sl false (frs l)) := by
  refine .row hm (frs_cells l) rfl (by simp) hc (fun h => by cases h) ?_
  rw [List.drop_zero, List.take_left]
  exact Tells.same _ _

theorem okm71 (r c : Int) (ex : Bool) (l : List Fr) (hr : right r c l.length = true) : OkM Tryz.prog 71 [num r, num c, .sl ex (frs l)] nomem (NewMat r c (frs l)) := by
  have hn := right_le hr
  have hpos := right_spec hr
  have hl : l ≠ [] := by
    intro h
    subst h
    have h1 : r * c = 0 := by have := hpos.2.2.2.2; simpa using this.symm
    rcases Int.mul_eq_zero.1 h1 with h | h <;> omega
  refine okm_fn mixed Tryz.func71 (code := ?_) (h := hN71) ?_ kN71 ?_
  rotate_left
  · exact rfl
  unfold hN71 initS
  simp -implicitDefEqProofs only [rkA, rkB, stepA, valA, simprocAttr, Tryz.ntmps71, Tryz.results71]
  refine newRow_fn rfl rfl (Tells.same _ _) (okn109 ex l hl (by omega)) (RFs_frs l) (by simpa using hl) ?_
  intro b cap q hb hcap
  simp -implicitDefEqProofs only [rkA, rkB, stepA, valA, simprocAttr]
  have e : (frs l).length = l.length := by simp
  have h17 := ok100 false r c (frs l)
  rw [e, hr] at h17
  refine lend_fn rfl rfl (.cons (.agg (.cons (.same _) (.cons (.same _) (.cons (tell_row (Mem.put_same _ _ _) hcap) .nil)))) .nil) (h17) rfl ?_
  simp -implicitDefEqProofs only [rkA, rkB, stepA, valA, simprocAttr]
  exact ⟨_, rfl, b, cap, q, hcap, rfl, rfl⟩
end Go.Proofs.YtbflmeomkfjikaaGreat.A

set_option linter.unusedVariables false
set_option linter.unusedSimpArgs false
set_option maxRecDepth 100000
namespace Go.Proofs.YtbflmeomkfjikaaGreat.A.E
open Go Go.RowKit Go.Shelf

theorem frs_cells (l : List Fr) : ∀ e ∈ frs l, e.cells.length = 4 := fun e he => by
  obtain ⟨x, _, rfl⟩ := List.mem_map.1 he
  rfl
theorem RFs_frs : ∀ (l : List Fr), RFs (flat (frs l)) = true
  | [] => rfl
  | x :: l => by
    have h := RFs_frs l
    simp only [frs, List.map_cons, flat, List.flatMap_cons, PV.cells, List.cons_append, List.nil_append, RFs, RF, Bool.true_and] at h ⊢
    exact h

theorem okn87 (ex : Bool) (l : List Fr) (hl : l ≠ []) (h : l.length ≤ 4398046511104) : OkN Tryz.prog 87 [.sl ex (frs l)] (frs l) := by
  have hfit : fits 4 32 [] (frs l) = true := by
    have := fits_frs (k := []) (l := l) (by simpa using h)
    simpa using this
  have he : (frs l).isEmpty = false := by cases l <;> simp_all
  refine okn_fn mixed Tryz.func87 (code := ?_) (h := hN87) ?_ kN87 rfl (RFs_frs l) ?_
  rotate_left
  · exact rfl
  unfold hN87 initS
  simp -implicitDefEqProofs only [rkA, rkB, stepA, valA, simprocAttr, Tryz.ntmps87, Tryz.results87]
  refine nilA_sl _ _ rfl fun b hb => ?_
  have hb' := hb he
  subst hb'
  simp -implicitDefEqProofs only [hfit, he, rkA, rkB, stepA, valA, simprocAttr]
  refine .inl ⟨7, ?_⟩
  simp -implicitDefEqProofs only [rkA, rkB, stepA, valA, simprocAttr]

theorem tell_row {m : Mem} {b cap q : Nat} {l : List Fr} (hm : m b = some (flat (frs l) ++ List.replicate q .junk)) (hc : (frs l).length ≤ cap) : Tell m (.s (.slice (some ⟨b, 0, none⟩) (frs l).length cap)) (.sl false (frs l)) := by
  refine .row hm (frs_cells l) rfl (by simp) hc (fun h => by cases h) ?_
  rw [List.drop_zero, List.take_left]
  exact Tells.same _ _

theorem okm26 (r c : Int) (ex : Bool) (l : List Fr) (hr : right r c l.length = true) : OkM Tryz.prog 26 [num r, num c, .sl ex (frs l)] nomem (NewMat r c (frs l)) := by
  have hn := right_le hr
  have hpos := right_spec hr
  have hl : l ≠ [] := by
    intro h
    subst h
    have h1 : r * c = 0 := by have := hpos.2.2.2.2; simpa using this.symm
    rcases Int.mul_eq_zero.1 h1 with h | h <;> omega
  refine okm_fn mixed Tryz.func26 (code := ?_) (h := hN26) ?_ kN26 ?_
  rotate_left
  · exact rfl
  unfold hN26 initS
  simp -implicitDefEqProofs only [rkA, rkB, stepA, valA, simprocAttr, Tryz.ntmps26, Tryz.results26]
  refine newRow_fn rfl rfl (Tells.same _ _) (okn87 ex l hl (by omega)) (RFs_frs l) (by simpa using hl) ?_
  intro b cap q hb hcap
  simp -implicitDefEqProofs only [rkA, rkB, stepA, valA, simprocAttr]
  have e : (frs l).length = l.length := by simp
  have h17 := ok88 false r c (frs l)
  rw [e, hr] at h17
  refine lend_fn rfl rfl (.cons (.agg (.cons (.same _) (.cons (.same _) (.cons (tell_row (Mem.put_same _ _ _) hcap) .nil)))) .nil) (h17) rfl ?_
  simp -implicitDefEqProofs only [rkA, rkB, stepA, valA, simprocAttr]
  exact ⟨_, rfl, b, cap, q, hcap, rfl, rfl⟩
end Go.Proofs.YtbflmeomkfjikaaGreat.A.E

set_option linter.unusedVariables false
set_option linter.unusedSimpArgs false
set_option maxRecDepth 100000
namespace Go.Proofs.YtbflmeomkfjikaaGreat.A
open Go Go.RowKit Go.Shelf

/-- A square matrix, number by number. -/
theorem okm77 (n : Nat) (hn : 1 ≤ n ∧ n ≤ 16) (K : Nat) (caps : List PV) (g : Nat → Nat → Fr) (hg : ∀ i k : Nat, i < n → k < n → Ok Tryz.prog K (num i :: num k :: caps) (frV (g i k))) :
    OkM Tryz.prog 77 [num n, .fn (.func K) caps] nomem (NewMat n n (frs (gridP g n n 0))) := by
  have hlen := gridP_length g n
  have hbig : ∀ i k, i ≤ n → k ≤ n → i * n + k ≤ 272 := fun i k h1 h2 => by
    have : i * n ≤ 16 * 16 := Nat.mul_le_mul (by omega) (by omega)
    omega
  refine okm_fn mixed Tryz.func77 (code := ?_) (h := h77) ?_ k77 ?_
  rotate_left
  · exact rfl
  unfold h77 initS
  simp -implicitDefEqProofs only [rkA, rkB, stepA, valA, simprocAttr, Tryz.ntmps77, Tryz.results77]
  refine wp_loop (fun m s => ∃ i : Nat, i + m = n ∧ s = ⟨[.v (num n), .v (.fn (.func K) caps), jk, jk, .ptr 4 0, jk, .acc 6 (frs (gridP g n i 0)), jk, jk, .v (num n), nt i, jk, jk, jk, jk, jk, jk, jk, jk, jk, jk, jk, jk, jk, jk, jk, jk, jk, jk, jk, jk, jk], [(4, [nt 0, nt 0, .acc 3004 []])], [],
    [(6, (gridP g n i 0).length), (3004, 0)], [], 0, nomem⟩) n ?_ ?_
  · simp -implicitDefEqProofs only [rkA, rkB, stepA, valA, simprocAttr]
    exact ⟨0, by simp, rfl⟩
  rintro m s ⟨i, hi, rfl⟩
  simp -implicitDefEqProofs only [rkA, rkB, stepA, valA, simprocAttr]
  refine gB_dec ?_ ?_ <;> intro hc <;> simp -implicitDefEqProofs only [hc, rkA, rkB, stepA, valA, simprocAttr]
  · refine wp_loop (fun m s => ∃ k : Nat, k + m = n ∧ s = ⟨[.v (num n), .v (.fn (.func K) caps), jk, jk, .ptr 4 0, jk, .acc 6 (frs (gridP g n i k)), nt i, jk, .v (num n), nt i, jk, jk, .v (num n), nt k, jk, jk, jk, jk, jk, jk, jk, jk, jk, jk, jk, jk, jk, jk, jk, jk, jk], [(4, [nt 0, nt 0, .acc 3004 []])], [],
      [(6, (gridP g n i k).length), (3004, 0)], [], 0, nomem⟩) n ?_ ?_
    · simp -implicitDefEqProofs only [rkA, rkB, stepA, valA, simprocAttr]
      exact ⟨0, by simp, rfl⟩
    rintro m' s ⟨k, hk, rfl⟩
    simp -implicitDefEqProofs only [rkA, rkB, stepA, valA, simprocAttr]
    refine gB_dec ?_ ?_ <;> intro hc2 <;> simp -implicitDefEqProofs only [hc2, rkA, rkB, stepA, valA, simprocAttr]
    · refine call_fn rfl rfl rfl (hg i k (by omega) (by omega)) ?_
      have hl1 := hlen i k
      have hb := hbig i k (by omega) (by omega)
      have hfit : fits 3 24 (frs (gridP g n i k)) [frV (g i k)] = true := fits_frs (l := [g i k]) (by simp only [List.length_cons, List.length_nil]; omega)
      have hl : (frs (gridP g n i k)).length = (gridP g n i k).length := by simp
      have hw := wrapped (x := (k : Int) + 1) (by omega) (by omega)
      simp -implicitDefEqProofs only [hfit, hl, hw, rkA, rkB, stepA, valA, simprocAttr]
      refine loopK_of (m' := m' - 1) (by omega) ?_
      simp -implicitDefEqProofs only [rkA, rkB, stepA, valA, simprocAttr]
      refine ⟨k + 1, by omega, ?_⟩
      rw [gridP_succ]
      simp only [frs, List.map_append, List.map_cons, List.map_nil, List.length_append, List.length_cons, List.length_nil, Int.natCast_add, Int.natCast_one]
    · have hkr : k = n := by omega
      have hw := wrapped (x := (i : Int) + 1) (by omega) (by omega)
      simp -implicitDefEqProofs only [hw, rkA, rkB, stepA, valA, simprocAttr]
      refine loopK_of (m' := m - 1) (by omega) ?_
      simp -implicitDefEqProofs only [rkA, rkB, stepA, valA, simprocAttr]
      refine ⟨i + 1, by omega, ?_⟩
      rw [hkr, gridP_next]
      simp only [Int.natCast_add, Int.natCast_one]
  · have : i = n := by omega
    subst this
    have hr : right (i : Int) (i : Int) (gridP g i i 0).length = true := by
      rw [hlen, Nat.add_zero]
      simp only [right, Bool.and_eq_true, decide_eq_true_eq, beq_iff_eq]
      exact ⟨⟨by omega, by omega⟩, ⟨by omega, by omega⟩, Int.natCast_mul i i⟩
    refine lendNew_fn rfl rfl (Tells.same _ _) (okm71 i i false (gridP g i i 0) hr) ?_ ?_
    · rintro r m' ⟨b, cap, q, h1, rfl, rfl⟩
      refine ⟨rfl, fun c cells hc => ?_⟩
      by_cases e : c = b
      · subst e
        rw [Mem.put_same] at hc
        cases hc
        exact RFs_append (RFs_frs _) (RFs_junk q)
      · rw [Mem.put_other _ _ e] at hc
        cases hc
    · rintro r m' ⟨b, cap, q, h1, rfl, rfl⟩ hfr
      simp -implicitDefEqProofs only [rkA, rkB, stepA, valA, simprocAttr]
      exact ⟨_, rfl, b, cap, q, h1, rfl, rfl⟩
end Go.Proofs.YtbflmeomkfjikaaGreat.A

set_option linter.unusedVariables false
set_option linter.unusedSimpArgs false
set_option maxRecDepth 100000
namespace Go.Proofs.YtbflmeomkfjikaaGreat.A.E
open Go Go.RowKit Go.Shelf

/-- A square matrix, number by number. -/
theorem okm82 (n : Nat) (hn : 1 ≤ n ∧ n ≤ 16) (K : Nat) (caps : List PV) (g : Nat → Nat → Fr) (hg : ∀ i k : Nat, i < n → k < n → Ok Tryz.prog K (num i :: num k :: caps) (frV (g i k))) :
    OkM Tryz.prog 82 [num n, .fn (.func K) caps] nomem (NewMat n n (frs (gridP g n n 0))) := by
  have hlen := gridP_length g n
  have hbig : ∀ i k, i ≤ n → k ≤ n → i * n + k ≤ 272 := fun i k h1 h2 => by
    have : i * n ≤ 16 * 16 := Nat.mul_le_mul (by omega) (by omega)
    omega
  refine okm_fn mixed Tryz.func82 (code := ?_) (h := h82) ?_ k82 ?_
  rotate_left
  · exact rfl
  unfold h82 initS
  simp -implicitDefEqProofs only [rkA, rkB, stepA, valA, simprocAttr, Tryz.ntmps82, Tryz.results82]
  refine wp_loop (fun m s => ∃ i : Nat, i + m = n ∧ s = ⟨[.v (num n), .v (.fn (.func K) caps), jk, jk, .ptr 4 0, jk, .acc 6 (frs (gridP g n i 0)), jk, jk, .v (num n), nt i, jk, jk, jk, jk, jk, jk, jk, jk, jk, jk, jk, jk, jk, jk, jk, jk, jk, jk, jk, jk, jk], [(4, [nt 0, nt 0, .acc 3004 []])], [],
    [(6, (gridP g n i 0).length), (3004, 0)], [], 0, nomem⟩) n ?_ ?_
  · simp -implicitDefEqProofs only [rkA, rkB, stepA, valA, simprocAttr]
    exact ⟨0, by simp, rfl⟩
  rintro m s ⟨i, hi, rfl⟩
  simp -implicitDefEqProofs only [rkA, rkB, stepA, valA, simprocAttr]
  refine gB_dec ?_ ?_ <;> intro hc <;> simp -implicitDefEqProofs only [hc, rkA, rkB, stepA, valA, simprocAttr]
  · refine wp_loop (fun m s => ∃ k : Nat, k + m = n ∧ s = ⟨[.v (num n), .v (.fn (.func K) caps), jk, jk, .ptr 4 0, jk, .acc 6 (frs (gridP g n i k)), nt i, jk, .v (num n), nt i, jk, jk, .v (num n), nt k, jk, jk, jk, jk, jk, jk, jk, jk, jk, jk, jk, jk, jk, jk, jk, jk, jk], [(4, [nt 0, nt 0, .acc 3004 []])], [],
      [(6, (gridP g n i k).length), (3004, 0)], [], 0, nomem⟩) n ?_ ?_
    · simp -implicitDefEqProofs only [rkA, rkB, stepA, valA, simprocAttr]
      exact ⟨0, by simp, rfl⟩
    rintro m' s ⟨k, hk, rfl⟩
    simp -implicitDefEqProofs only [rkA, rkB, stepA, valA, simprocAttr]
    refine gB_dec ?_ ?_ <;> intro hc2 <;> simp -implicitDefEqProofs only [hc2, rkA, rkB, stepA, valA, simprocAttr]
    · refine call_fn rfl rfl rfl (hg i k (by omega) (by omega)) ?_
      have hl1 := hlen i k
      have hb := hbig i k (by omega) (by omega)
      have hfit : fits 4 32 (frs (gridP g n i k)) [frV (g i k)] = true := fits_frs (l := [g i k]) (by simp only [List.length_cons, List.length_nil]; omega)
      have hl : (frs (gridP g n i k)).length = (gridP g n i k).length := by simp
      have hw := wrapped (x := (k : Int) + 1) (by omega) (by omega)
      simp -implicitDefEqProofs only [hfit, hl, hw, rkA, rkB, stepA, valA, simprocAttr]
      refine loopK_of (m' := m' - 1) (by omega) ?_
      simp -implicitDefEqProofs only [rkA, rkB, stepA, valA, simprocAttr]
      refine ⟨k + 1, by omega, ?_⟩
      rw [gridP_succ]
      simp only [frs, List.map_append, List.map_cons, List.map_nil, List.length_append, List.length_cons, List.length_nil, Int.natCast_add, Int.natCast_one]
    · have hkr : k = n := by omega
      have hw := wrapped (x := (i : Int) + 1) (by omega) (by omega)
      simp -implicitDefEqProofs only [hw, rkA, rkB, stepA, valA, simprocAttr]
      refine loopK_of (m' := m - 1) (by omega) ?_
      simp -implicitDefEqProofs only [rkA, rkB, stepA, valA, simprocAttr]
      refine ⟨i + 1, by omega, ?_⟩
      rw [hkr, gridP_next]
      simp only [Int.natCast_add, Int.natCast_one]
  · have : i = n := by omega
    subst this
    have hr : right (i : Int) (i : Int) (gridP g i i 0).length = true := by
      rw [hlen, Nat.add_zero]
      simp only [right, Bool.and_eq_true, decide_eq_true_eq, beq_iff_eq]
      exact ⟨⟨by omega, by omega⟩, ⟨by omega, by omega⟩, Int.natCast_mul i i⟩
    refine lendNew_fn rfl rfl (Tells.same _ _) (okm26 i i false (gridP g i i 0) hr) ?_ ?_
    · rintro r m' ⟨b, cap, q, h1, rfl, rfl⟩
      refine ⟨rfl, fun c cells hc => ?_⟩
      by_cases e : c = b
      · subst e
        rw [Mem.put_same] at hc
        cases hc
        exact RFs_append (RFs_frs _) (RFs_junk q)
      · rw [Mem.put_other _ _ e] at hc
        cases hc
    · rintro r m' ⟨b, cap, q, h1, rfl, rfl⟩ hfr
      simp -implicitDefEqProofs only [rkA, rkB, stepA, valA, simprocAttr]
      exact ⟨_, rfl, b, cap, q, h1, rfl, rfl⟩
end Go.Proofs.YtbflmeomkfjikaaGreat.A.E

set_option linter.unusedVariables false
set_option linter.unusedSimpArgs false
set_option maxRecDepth 100000
namespace Go.Proofs.YtbflmeomkfjikaaGreat.A
open Go Go.RowKit Go.Shelf

/-! ### Squares in memory, row by row -/
def rowM (n : Nat) (M : Nat → Nat → Fr) (i : Nat) : List Fr := (List.range n).map (M i)
def setM (M : Nat → Nat → Fr) (i k : Nat) (x : Fr) : Nat → Nat → Fr := fun a b => if a = i ∧ b = k then x else M a b
theorem rowM_length (n : Nat) (M : Nat → Nat → Fr) (i : Nat) : (rowM n M i).length = n := by simp [rowM]
theorem rowM_get {n : Nat} {M : Nat → Nat → Fr} {i k : Nat} (h : k < n) : (rowM n M i)[k]? = some (M i k) := by simp [rowM, h]
theorem rowM_set {n : Nat} {M : Nat → Nat → Fr} {i k : Nat} {x : Fr} (h : k < n) : (rowM n M i).set k x = rowM n (setM M i k x) i := by
  apply List.ext_getElem?
  intro j
  rw [List.getElem?_set]
  by_cases hj : j < n
  · by_cases e : k = j
    · subst e
      rw [if_pos rfl, if_pos (by rw [rowM_length]; exact h), rowM_get h]
      simp [setM]
    · rw [if_neg e, rowM_get hj, rowM_get hj]
      have : ¬ (j = k) := fun h => e h.symm
      simp [setM, this]
  · rw [if_neg (by omega), List.getElem?_eq_none (by rw [rowM_length]; omega), List.getElem?_eq_none (by rw [rowM_length]; omega)]
theorem rowM_other {n : Nat} {M : Nat → Nat → Fr} {i j k : Nat} {x : Fr} (h : j ≠ i) : rowM n (setM M i k x) j = rowM n M j := by
  simp [rowM, setM, h]

abbrev rawRow (c n : Nat) : PV := .s (.slice (some ⟨c, 0, none⟩) n n)
abbrev nilRow : PV := .s (.slice none 0 0)
/-- The rows' row: b of n are there. -/
def headR (n b : Nat) (c : Nat → Nat) : List PV := (List.range n).map fun j => if j < b then rawRow (c j) n else nilRow
theorem headR_length (n b : Nat) (c : Nat → Nat) : (headR n b c).length = n := by simp [headR]
theorem headR_get {n b : Nat} {c : Nat → Nat} {i : Nat} (h : i < n) (hb : i < b) : (headR n b c)[i]? = some (rawRow (c i) n) := by simp [headR, h, hb]

structure RowsIn (m : Mem) (R : Nat) (c : Nat → Nat) (n b : Nat) (M : Nat → Nat → Fr) : Prop where
  head : m R = some (headR n b c)
  row : ∀ i, i < b → m (c i) = some (flat (frs (rowM n M i)))
  ne : ∀ i, i < b → c i ≠ R
  inj : ∀ i j, i < b → j < b → c i = c j → i = j

theorem ldM_fr {l : List Fr} {k : Nat} {x : Fr} (h : l[k]? = some x) : ldM true 3 (k * 3) (flat (frs l)) = some (.v (frV x)) := by
  have := ldM_elem (els := frs l) (sz := 3) (k := k) (e := frV x) (frs_cells l) (by simp [h]) []
  rwa [List.append_nil] at this
theorem stM_fr {l : List Fr} {k : Nat} {x : Fr} (h : k < l.length) : stM 3 (k * 3) (flat (frs l)) (frV x) = some (flat (frs (l.set k x))) := by
  have := stM_elem (els := frs l) (sz := 3) (k := k) (e := frV x) (frs_cells l) (by simpa using h) rfl rfl []
  rw [List.append_nil, List.append_nil] at this
  rw [this]
  simp [frs, List.map_set]

theorem RowsIn.store {m : Mem} {R : Nat} {c : Nat → Nat} {n b : Nat} {M : Nat → Nat → Fr} (h : RowsIn m R c n b M) {i k : Nat} (hi : i < b) (hk : k < n) (x : Fr) :
    RowsIn (m.put (c i) (flat (frs ((rowM n M i).set k x)))) R c n b (setM M i k x) where
  head := by rw [Mem.put_other _ _ (fun e => h.ne i hi e.symm)]; exact h.head
  row := fun j hj => by
    by_cases e : j = i
    · subst e
      rw [Mem.put_same, rowM_set hk]
    · rw [Mem.put_other _ _ (fun e' => e (h.inj j i hj hi e')), rowM_other e]
      exact h.row j hj
  ne := h.ne
  inj := h.inj

theorem tells_map {α : Type} {m : Mem} {f g : α → PV} : ∀ {l : List α}, (∀ x ∈ l, Tell m (f x) (g x)) → Tells m (l.map f) (l.map g)
  | [], _ => .nil
  | x :: l, h => .cons (h x (by simp)) (tells_map fun y hy => h y (by simp [hy]))

/-- The rows, as values. -/
abbrev rowsV (n : Nat) (M : Nat → Nat → Fr) : PV := .sl true ((List.range n).map fun i => .sl false (frs (rowM n M i)))
theorem flat_one {l : List PV} (h : ∀ x ∈ l, x.cells = [x]) : flat l = l := by
  induction l with
  | nil => rfl
  | cons x l ih =>
    have e1 := h x (by simp)
    have e2 := ih fun y hy => h y (by simp [hy])
    simp only [flat, List.flatMap_cons, e1] at e2 ⊢
    rw [e2]
    rfl
theorem RowsIn.tell {m : Mem} {R : Nat} {c : Nat → Nat} {n : Nat} {M : Nat → Nat → Fr} (h : RowsIn m R c n n M) : Tell m (rawRow R n) (rowsV n M) := by
  have hf : flat ((List.range n).map fun i => PV.sl false (frs (rowM n M i))) = (List.range n).map fun i => PV.sl false (frs (rowM n M i)) := flat_one fun x hx => by
    obtain ⟨i, _, rfl⟩ := List.mem_map.1 hx
    rfl
  refine .row (sz := 1) h.head (fun x hx => ?_) (by simp) (by rw [hf, headR_length]; simp) (Nat.le_refl _) (fun _ => rfl) ?_
  · obtain ⟨i, _, rfl⟩ := List.mem_map.1 hx
    rfl
  · rw [hf, List.drop_zero, List.take_of_length_le (by rw [headR_length]; simp)]
    refine tells_map fun i hi => ?_
    have hi' := List.mem_range.1 hi
    rw [if_pos hi']
    have e := h.row i hi'
    rw [← List.append_nil (flat _)] at e
    have := tell_row (m := m) (b := c i) (cap := n) (q := 0) (l := rowM n M i) e (by simp [rowM_length])
    simpa [rowM_length] using this

/-! ### The root of a square -/
theorem slice_to {l : List Fr} {ex : Bool} {k : Nat} (h : k ≤ l.length) : sliceA 3 (frs l) ex none (some k) none = some (.sl (exA none ex k (frs l).length) (frs (l.take k))) := by
  unfold sliceA
  have hc : ((frs l).all fun e => e.cells.length == 3) = true := by simp [PV.cells]
  simp only [Option.getD_some, Option.getD_none]
  rw [if_pos ⟨by omega, by simpa using h, by simp, hc⟩]
  simp [List.map_take]

def leftM (n : Nat) (p : List Fr) (M : Nat → Nat → Fr) (i k : Nat) : Fr := subF (atF n n p i k) (dotF ((rowM n M i).take k) ((rowM n M k).take k))

theorem ok74 (e : Bool) (n : Nat) (hn : n ≤ 16) (p : List Fr) (M : Nat → Nat → Fr) (i k : Nat) (hi : i < n) (hk : k < n) :
    Ok Tryz.prog 74 [num i, num k, .vp [num n, num n, .sl e (frs p)], .vp [rowsV n M]] (frV (leftM n p M i k)) := by
  have h0 : (0 : Int) ≤ (i : Int) := by omega
  have h0' : (0 : Int) ≤ (k : Int) := by omega
  have g1 : ((List.range n).map fun i => PV.sl false (frs (rowM n M i)))[i]? = some (.sl false (frs (rowM n M i))) := by simp [hi]
  have g2 : ((List.range n).map fun i => PV.sl false (frs (rowM n M i)))[k]? = some (.sl false (frs (rowM n M k))) := by simp [hk]
  have s1 := slice_to (l := rowM n M i) (ex := false) (k := k) (by rw [rowM_length]; omega)
  have s2 := slice_to (l := rowM n M k) (ex := false) (k := k) (by rw [rowM_length]; omega)
  refine ok_fn mixed Tryz.func74 (code := ?_) (h := h74) ?_ k74 ?_
  rotate_left
  · exact rfl
  unfold h74 initS
  simp -implicitDefEqProofs only [rkA, rkB, stepA, valA, simprocAttr, Tryz.ntmps74, Tryz.results74]
  refine call_fn rfl rfl rfl (ok75 e n n i k p) ?_
  simp -implicitDefEqProofs only [h0, h0', Int.toNat_natCast, g1, g2, s1, s2, rkA, rkB, stepA, valA, simprocAttr]
  refine call_fn rfl rfl rfl (ok76 _ _ ((rowM n M i).take k) ((rowM n M k).take k) (by simp [rowM_length]; omega) (by simp [rowM_length]; omega)) ?_
  simp -implicitDefEqProofs only [rkA, rkB, stepA, valA, simprocAttr]
  refine call_meth rfl rfl methSub (ok218 _ _) ?_
  simp -implicitDefEqProofs only [leftM, rkA, rkB, stepA, valA, simprocAttr]

theorem ok78 (n : Nat) (M : Nat → Nat → Fr) (i k : Nat) (hi : i < n) (hk : k < n) :
    Ok Tryz.prog 78 [num i, num k, .vp [rowsV n M]] (frV (M i k)) := by
  have h0 : (0 : Int) ≤ (i : Int) := by omega
  have h0' : (0 : Int) ≤ (k : Int) := by omega
  have g1 : ((List.range n).map fun i => PV.sl false (frs (rowM n M i)))[i]? = some (.sl false (frs (rowM n M i))) := by simp [hi]
  have g2 : (frs (rowM n M i))[k]? = some (frV (M i k)) := by simp [rowM, hk]
  refine ok_fn mixed Tryz.func78 (code := ?_) (h := h78) ?_ k78 ?_
  rotate_left
  · exact rfl
  unfold h78 initS
  simp -implicitDefEqProofs only [rkA, rkB, stepA, valA, simprocAttr, Tryz.ntmps78, Tryz.results78]
  simp -implicitDefEqProofs only [h0, h0', Int.toNat_natCast, g1, g2, rkA, rkB, stepA, valA, simprocAttr]

theorem methRoot : Meth Tryz.prog 32 "Root" 216 := by
  intro v xs w
  rfl

def stepD (n : Nat) (p : List Fr) (M : Nat → Nat → Fr) (k : Nat) : Nat → Nat → Fr := setM M k k (rootF (leftM n p M k k))
/-- One column: k + 1 rows below its diagonal are done for every one counted. -/
def colS (n : Nat) (p : List Fr) (k : Nat) (M : Nat → Nat → Fr) : Nat → Nat → Nat → Fr
  | 0 => stepD n p M k
  | j + 1 => setM (colS n p k M j) (k + 1 + j) k (divF (leftM n p (colS n p k M j) (k + 1 + j) k) (colS n p k M j k k))
def rootS (n : Nat) (p : List Fr) : Nat → Nat → Nat → Fr
  | 0 => fun _ _ => newF 0 1
  | k + 1 => colS n p k (rootS n p k) (n - (k + 1))
def rootMat (n : Nat) (p : List Fr) : List Fr := gridP (rootS n p n) n n 0
/-- While the rows are made: noughts so far, zero values behind. -/
def zeroM (i k : Nat) : Nat → Nat → Fr := fun a b => if a < i ∨ a = i ∧ b < k then newF 0 1 else ⟨0, 0, false⟩

abbrev bxR (e : Bool) (n : Nat) (p : List Fr) (R : Nat) : List (Nat × List TV) := [(1, [nt n, nt n, .v (.sl e (frs p))]), (2, [nt 0, nt 0, .acc 3002 []]), (4, [nt 0, nt 0, .v (tru false)]), (5, [.v (rawRow R n)])]

abbrev leftV (e : Bool) (n : Nat) (p : List Fr) (R : Nat) : PV := .fn (.func 74) [.vp [num n, num n, .sl e (frs p)], .vp [rawRow R n]]
theorem leftT {m : Mem} {R : Nat} {c : Nat → Nat} {n : Nat} {M : Nat → Nat → Fr} {e : Bool} {p : List Fr} {i k : Nat} (h : RowsIn m R c n n M) :
    Tells m ([num i, num k] ++ [.vp [num n, num n, .sl e (frs p)], .vp [rawRow R n]]) [num i, num k, .vp [num n, num n, .sl e (frs p)], .vp [rowsV n M]] :=
  .cons (.same _) (.cons (.same _) (.cons (.same _) (.cons (.vpIn (.cons h.tell .nil)) .nil)))

theorem RowsIn.head0 {m : Mem} {R n : Nat} {c : Nat → Nat} {M : Nat → Nat → Fr} : RowsIn (m.put R (List.replicate n [PV.s (.slice none 0 0)]).flatten) R c n 0 M where
  head := by
    rw [Mem.put_same]
    congr 1
    apply List.ext_getElem?
    intro j
    have : (List.replicate n [PV.s (.slice none 0 0)]).flatten = List.replicate n nilRow := by
      induction n with
      | zero => rfl
      | succ n ih => rw [List.replicate_succ, List.replicate_succ, List.flatten_cons, ih]; rfl
    rw [this]
    by_cases h : j < n
    · simp [headR, h]
    · rw [List.getElem?_eq_none (by simp; omega), List.getElem?_eq_none (by simp [headR]; omega)]
  row := fun i h => by omega
  ne := fun i h => by omega
  inj := fun i j h => by omega

theorem flat_zeros : ∀ (n : Nat), (List.replicate n [num 0, num 0, tru false]).flatten = flat (frs (List.replicate n (⟨0, 0, false⟩ : Fr)))
  | 0 => rfl
  | n + 1 => by
    rw [List.replicate_succ, List.flatten_cons, flat_zeros n]
    rfl
theorem zero_row (n i : Nat) : rowM n (zeroM i 0) i = List.replicate n ⟨0, 0, false⟩ := by
  apply List.ext_getElem?
  intro j
  by_cases h : j < n
  · rw [rowM_get h]; simp [zeroM, h]
  · rw [List.getElem?_eq_none (by rw [rowM_length]; omega), List.getElem?_eq_none (by simp; omega)]
theorem headR_set {n i b : Nat} {c : Nat → Nat} (h : i < n) : (headR n i c).set i (rawRow b n) = headR n (i + 1) (fun j => if j = i then b else c j) := by
  apply List.ext_getElem?
  intro j
  rw [List.getElem?_set]
  by_cases hj : j < n
  · by_cases e : i = j
    · subst e
      simp [headR, h]
    · rw [if_neg e]
      have e1 : ¬ j = i := fun h => e h.symm
      have e2 : (j < i + 1) = (j < i) := by apply propext; omega
      simp [headR, hj, e1, e2]
  · rw [if_neg (by omega), List.getElem?_eq_none (by rw [headR_length]; omega), List.getElem?_eq_none (by rw [headR_length]; omega)]
theorem RowsIn.grow {m : Mem} {R : Nat} {c : Nat → Nat} {n i b : Nat} (h : RowsIn m R c n i (zeroM i 0)) (hi : i < n) (hb : m b = none) :
    RowsIn ((m.put b (flat (frs (List.replicate n (⟨0, 0, false⟩ : Fr))))).put R (headR n (i + 1) (fun j => if j = i then b else c j))) R (fun j => if j = i then b else c j) n (i + 1) (zeroM i 0) := by
  have hRb : R ≠ b := fun e => by have := h.head; rw [e, hb] at this; cases this
  have hcb : ∀ j, j < i → c j ≠ b := fun j hj e => by have := h.row j hj; rw [e, hb] at this; cases this
  refine ⟨Mem.put_same _ _ _, fun j hj => ?_, fun j hj => ?_, fun j k hj hk => ?_⟩
  · by_cases e : j = i
    · subst e
      rw [if_pos rfl, Mem.put_other _ _ (fun e => hRb e.symm), Mem.put_same, zero_row]
    · rw [if_neg e, Mem.put_other _ _ (h.ne j (by omega)), Mem.put_other _ _ (hcb j (by omega))]
      exact h.row j (by omega)
  · by_cases e : j = i
    · rw [if_pos e]; exact fun e => hRb e.symm
    · rw [if_neg e]; exact h.ne j (by omega)
  · by_cases e : j = i <;> by_cases e' : k = i
    · intro _; omega
    · rw [if_pos e, if_neg e']
      exact fun h1 => absurd h1.symm (hcb k (by omega))
    · rw [if_neg e, if_pos e']
      exact fun h1 => absurd h1 (hcb j (by omega))
    · rw [if_neg e, if_neg e']
      exact h.inj j k (by omega) (by omega)
theorem zeroM_step (i k : Nat) : setM (zeroM i k) i k (newF 0 1) = zeroM i (k + 1) := by
  funext a b
  unfold setM zeroM
  by_cases h1 : a = i ∧ b = k
  · rw [if_pos h1, if_pos (.inr ⟨h1.1, by omega⟩)]
  · rw [if_neg h1]
    by_cases h2 : a < i ∨ a = i ∧ b < k
    · rw [if_pos h2, if_pos (by omega)]
    · rw [if_neg h2, if_neg (by omega)]
theorem RowsIn.congr {m : Mem} {R : Nat} {c : Nat → Nat} {n b : Nat} {M N : Nat → Nat → Fr} (h : RowsIn m R c n b M) (hMN : ∀ i k, i < b → k < n → M i k = N i k) : RowsIn m R c n b N :=
  ⟨h.head, fun i hi => by
    have e : rowM n N i = rowM n M i := by
      unfold rowM
      exact List.map_congr_left fun k hk => (hMN i k hi (List.mem_range.1 hk)).symm
    rw [e]
    exact h.row i hi, h.ne, h.inj⟩

theorem ok21 (n : Nat) (hn : 1 ≤ n ∧ n ≤ 16) (e : Bool) (p : List Fr) (hp : p.length = n * n) : Ok Tryz.prog 21 [matV e n n (frs p)] (.tup [matV false n n (frs (rootMat n p)), tru true]) := by
  have hr : right (n : Int) (n : Int) p.length = true := by
    simp only [right, Bool.and_eq_true, decide_eq_true_eq, beq_iff_eq]
    exact ⟨⟨by omega, by omega⟩, ⟨by omega, by omega⟩, by rw [hp, Int.natCast_mul]⟩
  have hsq : (right (n : Int) (n : Int) p.length && ((n : Int) == n)) = true := by rw [hr]; simp
  refine okt_fn mixed Tryz.func21 (code := ?_) (h := h21) ?_ k21 ?_
  rotate_left
  · exact rfl
  unfold h21 initS
  simp -implicitDefEqProofs only [rkA, rkB, stepA, valA, simprocAttr, Tryz.ntmps21, Tryz.results21]
  have h904 := ok73 e n n p
  rw [hsq] at h904
  refine call_fn rfl rfl rfl (h904) ?_
  simp -implicitDefEqProofs only [rkA, rkB, stepA, valA, simprocAttr]
  refine new_make (T := 24) (N := 1) rfl rfl rfl rfl rfl (by omega) (by omega) (by omega) ?_
  intro R hR
  simp -implicitDefEqProofs only [Int.toNat_natCast, rkA, rkB, stepA, valA, simprocAttr]
  refine wp_loop (fun m s => ∃ (i : Nat) (mm : Mem) (c : Nat → Nat), i + m = n ∧ RowsIn mm R c n i (zeroM i 0) ∧ s = ⟨[jk, .ptr 1 0, .ptr 2 0, jk, .ptr 4 0, .ptr 5 0, jk, jk, jk, jk, jk, jk, jk, jk, jk, jk, jk, jk, jk, nt n, nt i, jk, jk, jk, jk, jk, jk, jk, jk, jk, jk, jk, jk, jk, jk, jk, jk, jk, jk, jk, jk, jk, jk, jk, jk, jk, jk, jk, jk, jk, jk, jk, jk, jk, jk, jk, jk, jk, jk, jk, jk, jk, jk, jk, jk, jk, jk, jk, jk, jk, jk, jk, jk, jk, jk, jk, jk, jk, jk, jk, jk, jk, jk, jk, jk, jk, jk, jk, jk, jk, jk, jk, jk, jk, jk, jk, jk, jk, jk, jk], bxR e n p R, [], [(1005, 0), (3002, 0)], [], 0, mm⟩) n ?_ ?_
  · simp -implicitDefEqProofs only [rkA, rkB, stepA, valA, simprocAttr]
    exact ⟨0, _, fun _ => 0, by simp, RowsIn.head0, rfl⟩
  rintro m s ⟨i, mm, c, hi, hM, rfl⟩
  simp -implicitDefEqProofs only [rkA, rkB, stepA, valA, simprocAttr]
  refine gB_dec ?_ ?_ <;> intro hc <;> simp -implicitDefEqProofs only [hc, rkA, rkB, stepA, valA, simprocAttr]
  · refine new_make (T := 24) (N := 3) rfl rfl rfl rfl rfl (by omega) (by omega) (by omega) ?_
    intro b hb
    have hi' : i < n := by omega
    have h0 : (0 : Int) ≤ (i : Int) := by omega
    have hRb : R ≠ b := fun e => by have h1 := hM.head; have h2 : mm b = none := hb; rw [e, h2] at h1; cases h1
    have hRm := fun x => (Mem.put_other mm x hRb).trans hM.head
    have hst := stM_one (cells := headR n i c) (x := rawRow b n) (i := i) (by rw [headR_length]; exact hi') rfl rfl
    have hG := hM.grow hi' hb
    have hgt := headR_get (n := n) (b := i + 1) (c := fun j => if j = i then b else c j) (i := i) hi' (by omega)
    have hld := ldM_one hgt
    simp -implicitDefEqProofs only [h0, hc, Int.toNat_natCast, Nat.mul_one, hRm, hst, headR_set hi', hld, flat_zeros, rkA, rkB, stepA, valA, simprocAttr]
    clear hRm hst hb hRb hM
    generalize (mm.put b _).put R _ = mm2 at hG ⊢
    have hci : (fun j => if j = i then b else c j) i = b := if_pos rfl
    generalize (fun j => if j = i then b else c j) = c2 at hG hgt hld hci ⊢
    refine wp_loop (fun m s => ∃ (k : Nat) (mm : Mem), k + m = n ∧ RowsIn mm R c2 n (i + 1) (zeroM i k) ∧ s = ⟨[jk, .ptr 1 0, .ptr 2 0, jk, .ptr 4 0, .ptr 5 0, nt i, jk, jk, jk, jk, jk, jk, jk, jk, jk, jk, jk, jk, nt n, nt i, jk, jk, jk, jk, jk, jk, jk, jk, jk, jk, jk, jk, nt n, nt k, jk, jk, jk, jk, jk, jk, jk, jk, jk, jk, jk, jk, jk, jk, jk, jk, jk, jk, jk, jk, jk, jk, jk, jk, jk, jk, jk, jk, jk, jk, jk, jk, jk, jk, jk, jk, jk, jk, jk, jk, jk, jk, jk, jk, jk, jk, jk, jk, jk, jk, jk, jk, jk, jk, jk, jk, jk, jk, jk, jk, jk, jk, jk, jk, jk], bxR e n p R, [], [(1005, 0), (3002, 0)], [], 0, mm⟩) n ?_ ?_
    · simp -implicitDefEqProofs only [rkA, rkB, stepA, valA, simprocAttr]
      exact ⟨0, _, by simp, hG, rfl⟩
    clear hG mm2
    rintro m' s ⟨k, mm2, hk, hM, rfl⟩
    simp -implicitDefEqProofs only [rkA, rkB, stepA, valA, simprocAttr]
    refine gB_dec ?_ ?_ <;> intro hc2 <;> simp -implicitDefEqProofs only [hc2, rkA, rkB, stepA, valA, simprocAttr]
    · have hk' : k < n := by omega
      have h0k : (0 : Int) ≤ (k : Int) := by omega
      have hh := hM.head
      have hrow := hM.row i (by omega)
      have hsto := hM.store (i := i) (by omega) hk' (newF 0 1)
      rw [hci] at hrow hsto
      have hlr : (rowM n (zeroM i k) i).length = n := rowM_length _ _ _
      have hst := stM_fr (l := rowM n (zeroM i k) i) (k := k) (x := newF 0 1) (by rw [hlr]; exact hk')
      have hw := wrapped (x := (k : Int) + 1) (by omega) (by omega)
      simp -implicitDefEqProofs only [h0, h0k, hc, hc2, Int.toNat_natCast, Nat.mul_one, hh, hld, rkA, rkB, stepA, valA, simprocAttr]
      refine call_meth rfl rfl methOf (ok215 ⟨0, 0, false⟩ 0) ?_
      simp -implicitDefEqProofs only [h0k, hc2, Int.toNat_natCast, hrow, hst, hw, rkA, rkB, stepA, valA, simprocAttr]
      refine loopK_of (m' := m' - 1) (by omega) ?_
      simp -implicitDefEqProofs only [rkA, rkB, stepA, valA, simprocAttr]
      refine ⟨k + 1, _, by omega, ?_, by simp only [Int.natCast_add, Int.natCast_one]; rfl⟩
      rw [← zeroM_step]
      exact hsto
    · have hkn : k = n := by omega
      subst hkn
      have hw := wrapped (x := (i : Int) + 1) (by omega) (by omega)
      simp -implicitDefEqProofs only [hw, rkA, rkB, stepA, valA, simprocAttr]
      refine loopK_of (m' := m - 1) (by omega) ?_
      simp -implicitDefEqProofs only [rkA, rkB, stepA, valA, simprocAttr]
      refine ⟨i + 1, mm2, c2, by omega, hM.congr fun a b ha hb => ?_, by simp only [Int.natCast_add, Int.natCast_one]⟩
      unfold zeroM
      rw [if_pos (by omega), if_pos (by omega)]
  · have : i = n := by omega
    subst this
    have hM0 : RowsIn mm R c i i (rootS i p 0) := hM.congr fun a b ha hb => by
      unfold zeroM rootS
      rw [if_pos (by omega)]
    clear hM
    refine wp_loop (fun m s => ∃ (k : Nat) (mm : Mem), k + m = i ∧ RowsIn mm R c i i (rootS i p k) ∧ s = ⟨[jk, .ptr 1 0, .ptr 2 0, jk, jk, .ptr 5 0, jk, jk, .v (leftV e i p R), jk, jk, jk, jk, jk, jk, jk, jk, jk, jk, jk, jk, jk, jk, jk, jk, jk, jk, jk, jk, jk, jk, jk, jk, jk, jk, jk, jk, jk, jk, jk, jk, jk, jk, jk, jk, jk, jk, jk, jk, jk, nt i, nt k, jk, jk, jk, jk, jk, jk, jk, jk, jk, jk, jk, jk, jk, jk, jk, jk, jk, jk, jk, jk, jk, jk, jk, jk, jk, jk, jk, jk, jk, jk, jk, jk, jk, jk, jk, jk, jk, jk, jk, jk, jk, jk, jk, jk, jk, jk, jk, jk],
      [(2, [nt 0, nt 0, .acc 3002 []]), (4, [nt 0, nt 0, .v (tru false)])], [(1, [num i, num i, .sl e (frs p)]), (5, [rawRow R i])], [(1005, 0), (3002, 0)], [], 0, mm⟩) i ?_ ?_
    · simp -implicitDefEqProofs only [rkA, rkB, stepA, valA, simprocAttr]
      exact ⟨0, _, by simp, hM0, rfl⟩
    clear hM0 mm
    rintro m' s ⟨k, mm, hk, hM, rfl⟩
    simp -implicitDefEqProofs only [rkA, rkB, stepA, valA, simprocAttr]
    refine gB_dec ?_ ?_ <;> intro hc2 <;> simp -implicitDefEqProofs only [hc2, rkA, rkB, stepA, valA, simprocAttr]
    · have hk' : k < i := by omega
      have h0k : (0 : Int) ≤ (k : Int) := by omega
      have hh := hM.head
      have hld := ldM_one (headR_get (n := i) (b := i) (c := c) (i := k) hk' hk')
      simp -implicitDefEqProofs only [h0k, hc2, Int.toNat_natCast, Nat.mul_one, hh, hld, rkA, rkB, stepA, valA, simprocAttr]
      refine lend_fn rfl rfl (leftT (i := k) (k := k) hM) (ok74 e i (by omega) p _ k k hk' hk') rfl ?_
      simp -implicitDefEqProofs only [rkA, rkB, stepA, valA, simprocAttr]
      refine call_meth rfl rfl methRoot (ok216 _) ?_
      have hw := wrapped (x := (k : Int) + 1) (by omega) (by omega)
      have hrow := hM.row k hk'
      have hst := stM_fr (l := rowM i (rootS i p k) k) (k := k) (x := rootF (leftM i p (rootS i p k) k k)) (by rw [rowM_length]; exact hk')
      have hsto := hM.store (i := k) hk' hk' (rootF (leftM i p (rootS i p k) k k))
      simp -implicitDefEqProofs only [h0k, hc2, Int.toNat_natCast, hrow, hst, hw, rkA, rkB, stepA, valA, simprocAttr]
      have hk1 : (k : Int) + 1 = ((k + 1 : Nat) : Int) := by simp
      simp only [hk1]
      clear hM hh hst hrow hw
      refine wp_loop (fun m s => ∃ (j : Nat) (mm : Mem), k + 1 + j + m = i ∧ RowsIn mm R c i i (colS i p k (rootS i p k) j) ∧ s = ⟨[jk, .ptr 1 0, .ptr 2 0, jk, jk, .ptr 5 0, jk, jk, .v (leftV e i p R), nt k, nt (k + 1 + j : Nat), jk, jk, jk, jk, jk, jk, jk, jk, jk, jk, jk, jk, jk, jk, jk, jk, jk, jk, jk, jk, jk, jk, jk, jk, jk, jk, jk, jk, jk, jk, jk, jk, jk, jk, jk, jk, jk, jk, jk, nt i, nt k, jk, jk, jk, jk, jk, jk, jk, jk, jk, jk, jk, jk, jk, jk, jk, jk, jk, jk, jk, jk, jk, jk, jk, jk, jk, jk, jk, jk, jk, jk, jk, jk, jk, jk, jk, jk, jk, jk, jk, jk, jk, jk, jk, jk, jk, jk, jk, jk],
        [(2, [nt 0, nt 0, .acc 3002 []]), (4, [nt 0, nt 0, .v (tru false)])], [(1, [num i, num i, .sl e (frs p)]), (5, [rawRow R i])], [(1005, 0), (3002, 0)], [], 0, mm⟩) (i - (k + 1)) ?_ ?_
      · simp -implicitDefEqProofs only [rkA, rkB, stepA, valA, simprocAttr]
        exact ⟨0, _, by omega, hsto, rfl⟩
      clear hsto mm
      rintro m2 s ⟨j, mm, hj, hM, rfl⟩
      simp -implicitDefEqProofs only [rkA, rkB, stepA, valA, simprocAttr]
      refine gB_dec ?_ ?_ <;> intro hc3 <;> simp -implicitDefEqProofs only [hc3, rkA, rkB, stepA, valA, simprocAttr]
      · have hi' : k + 1 + j < i := by omega
        have h0i : (0 : Int) ≤ ((k + 1 + j : Nat) : Int) := by omega
        have hh := hM.head
        have hldi := ldM_one (headR_get (n := i) (b := i) (c := c) (i := k + 1 + j) hi' hi')
        simp -implicitDefEqProofs only [h0k, hc2, h0i, hc3, Int.toNat_natCast, Nat.mul_one, hh, hldi, hld, rkA, rkB, stepA, valA, simprocAttr]
        refine lend_fn rfl rfl (leftT (i := k + 1 + j) (k := k) hM) (ok74 e i (by omega) p _ (k + 1 + j) k hi' hk') rfl ?_
        have hrk := hM.row k hk'
        have hlf := ldM_fr (rowM_get (n := i) (M := colS i p k (rootS i p k) j) (i := k) (k := k) hk')
        simp -implicitDefEqProofs only [h0k, hc2, h0i, hc3, Int.toNat_natCast, Nat.mul_one, hh, hldi, hld, hrk, hlf, rkA, rkB, stepA, valA, simprocAttr]
        refine call_meth rfl rfl methDiv (ok211 _ _) ?_
        have hw := wrapped (x := ((k + 1 + j : Nat) : Int) + 1) (by omega) (by omega)
        have hrow := hM.row _ hi'
        have hst := stM_fr (l := rowM i (colS i p k (rootS i p k) j) (k + 1 + j)) (k := k) (x := divF (leftM i p (colS i p k (rootS i p k) j) (k + 1 + j) k) (colS i p k (rootS i p k) j k k)) (by rw [rowM_length]; exact hk')
        have hsto := hM.store (i := k + 1 + j) hi' hk' (divF (leftM i p (colS i p k (rootS i p k) j) (k + 1 + j) k) (colS i p k (rootS i p k) j k k))
        simp -implicitDefEqProofs only [h0k, hc2, Int.toNat_natCast, hrow, hst, hw, rkA, rkB, stepA, valA, simprocAttr]
        refine loopK_of (m' := m2 - 1) (by omega) ?_
        simp -implicitDefEqProofs only [rkA, rkB, stepA, valA, simprocAttr]
        exact ⟨j + 1, _, by omega, hsto, by simp only [Int.natCast_add, Int.natCast_one]; rfl⟩
      · have hj' : j = i - (k + 1) := by omega
        have hw := wrapped (x := (k : Int) + 1) (by omega) (by omega)
        simp -implicitDefEqProofs only [hw, rkA, rkB, stepA, valA, simprocAttr]
        refine loopK_of (m' := m' - 1) (by omega) ?_
        simp -implicitDefEqProofs only [rkA, rkB, stepA, valA, simprocAttr]
        refine ⟨k + 1, mm, by omega, ?_, by simp only [Int.natCast_add, Int.natCast_one]⟩
        rw [hj'] at hM
        exact hM
    · have hki : k = i := by omega
      subst hki
      have hma := okm77 k hn _ _ (rootS k p k) (fun a b ha hb => ok78 k (rootS k p k) a b ha hb)
      refine lendNew_fn (l := [num k, .fn (.func 78) [.vp [rowsV k (rootS k p k)]]]) rfl rfl (.cons (.same _) (.cons (.fn (.cons (.vpIn (.cons hM.tell .nil)) .nil)) .nil)) hma ?_ ?_
      · rintro r m' ⟨b, cap, q, h1, rfl, rfl⟩
        refine ⟨rfl, fun c cells hc => ?_⟩
        by_cases e : c = b
        · subst e
          rw [Mem.put_same] at hc
          cases hc
          exact RFs_append (RFs_frs _) (RFs_junk q)
        · rw [Mem.put_other _ _ e] at hc
          cases hc
      · rintro r m' ⟨b, cap, q, h1, rfl, rfl⟩ hfr
        simp -implicitDefEqProofs only [rkA, rkB, stepA, valA, simprocAttr]
        exact ⟨_, rfl, .tup (.cons (.agg (.cons (.same _) (.cons (.same _) (.cons (tell_row (Mem.put_same _ _ _) h1) .nil)))) (.cons (.same _) .nil))⟩

theorem ok21n (e : Bool) (r c : Int) (l : List Fr) (h : (right r c l.length && (r == c)) = false) : Ok Tryz.prog 21 [matV e r c (frs l)] (.tup [matV true 0 0 [], tru false]) := by
  refine okt_fn mixed Tryz.func21 (code := ?_) (h := h21) ?_ k21 ?_
  rotate_left
  · exact rfl
  unfold h21 initS
  simp -implicitDefEqProofs only [rkA, rkB, stepA, valA, simprocAttr, Tryz.ntmps21, Tryz.results21]
  have h904 := ok73 e r c l
  rw [h] at h904
  refine call_fn rfl rfl rfl (h904) ?_
  simp -implicitDefEqProofs only [rkA, rkB, stepA, valA, simprocAttr]
  exact ⟨_, rfl, .tup (.cons (.agg (.cons (.same _) (.cons (.same _) (.cons .nil .nil)))) (.cons (.same _) .nil))⟩
end Go.Proofs.YtbflmeomkfjikaaGreat.A

set_option linter.unusedVariables false
set_option linter.unusedSimpArgs false
set_option maxRecDepth 100000
namespace Go.Proofs.YtbflmeomkfjikaaGreat.A.E
open Go Go.RowKit Go.Shelf

def rowM (n : Nat) (M : Nat → Nat → Fr) (i : Nat) : List Fr := (List.range n).map (M i)
def setM (M : Nat → Nat → Fr) (i k : Nat) (x : Fr) : Nat → Nat → Fr := fun a b => if a = i ∧ b = k then x else M a b
theorem rowM_length (n : Nat) (M : Nat → Nat → Fr) (i : Nat) : (rowM n M i).length = n := by simp [rowM]
theorem rowM_get {n : Nat} {M : Nat → Nat → Fr} {i k : Nat} (h : k < n) : (rowM n M i)[k]? = some (M i k) := by simp [rowM, h]
theorem rowM_set {n : Nat} {M : Nat → Nat → Fr} {i k : Nat} {x : Fr} (h : k < n) : (rowM n M i).set k x = rowM n (setM M i k x) i := by
  apply List.ext_getElem?
  intro j
  rw [List.getElem?_set]
  by_cases hj : j < n
  · by_cases e : k = j
    · subst e
      rw [if_pos rfl, if_pos (by rw [rowM_length]; exact h), rowM_get h]
      simp [setM]
    · rw [if_neg e, rowM_get hj, rowM_get hj]
      have : ¬ (j = k) := fun h => e h.symm
      simp [setM, this]
  · rw [if_neg (by omega), List.getElem?_eq_none (by rw [rowM_length]; omega), List.getElem?_eq_none (by rw [rowM_length]; omega)]
theorem rowM_other {n : Nat} {M : Nat → Nat → Fr} {i j k : Nat} {x : Fr} (h : j ≠ i) : rowM n (setM M i k x) j = rowM n M j := by
  simp [rowM, setM, h]

structure RowsIn (m : Mem) (R : Nat) (c : Nat → Nat) (n b : Nat) (M : Nat → Nat → Fr) : Prop where
  head : m R = some (headR n b c)
  row : ∀ i, i < b → m (c i) = some (flat (frs (rowM n M i)))
  ne : ∀ i, i < b → c i ≠ R
  inj : ∀ i j, i < b → j < b → c i = c j → i = j

theorem ldM_fr {l : List Fr} {k : Nat} {x : Fr} (h : l[k]? = some x) : ldM true 4 (k * 4) (flat (frs l)) = some (.v (frV x)) := by
  have := ldM_elem (els := frs l) (sz := 4) (k := k) (e := frV x) (frs_cells l) (by simp [h]) []
  rwa [List.append_nil] at this
theorem stM_fr {l : List Fr} {k : Nat} {x : Fr} (h : k < l.length) : stM 4 (k * 4) (flat (frs l)) (frV x) = some (flat (frs (l.set k x))) := by
  have := stM_elem (els := frs l) (sz := 4) (k := k) (e := frV x) (frs_cells l) (by simpa using h) rfl rfl []
  rw [List.append_nil, List.append_nil] at this
  rw [this]
  simp [frs, List.map_set]

theorem RowsIn.store {m : Mem} {R : Nat} {c : Nat → Nat} {n b : Nat} {M : Nat → Nat → Fr} (h : RowsIn m R c n b M) {i k : Nat} (hi : i < b) (hk : k < n) (x : Fr) :
    RowsIn (m.put (c i) (flat (frs ((rowM n M i).set k x)))) R c n b (setM M i k x) where
  head := by rw [Mem.put_other _ _ (fun e => h.ne i hi e.symm)]; exact h.head
  row := fun j hj => by
    by_cases e : j = i
    · subst e
      rw [Mem.put_same, rowM_set hk]
    · rw [Mem.put_other _ _ (fun e' => e (h.inj j i hj hi e')), rowM_other e]
      exact h.row j hj
  ne := h.ne
  inj := h.inj

/-- The rows, as values. -/
abbrev rowsV (n : Nat) (M : Nat → Nat → Fr) : PV := .sl true ((List.range n).map fun i => .sl false (frs (rowM n M i)))
theorem RowsIn.tell {m : Mem} {R : Nat} {c : Nat → Nat} {n : Nat} {M : Nat → Nat → Fr} (h : RowsIn m R c n n M) : Tell m (rawRow R n) (rowsV n M) := by
  have hf : flat ((List.range n).map fun i => PV.sl false (frs (rowM n M i))) = (List.range n).map fun i => PV.sl false (frs (rowM n M i)) := flat_one fun x hx => by
    obtain ⟨i, _, rfl⟩ := List.mem_map.1 hx
    rfl
  refine .row (sz := 1) h.head (fun x hx => ?_) (by simp) (by rw [hf, headR_length]; simp) (Nat.le_refl _) (fun _ => rfl) ?_
  · obtain ⟨i, _, rfl⟩ := List.mem_map.1 hx
    rfl
  · rw [hf, List.drop_zero, List.take_of_length_le (by rw [headR_length]; simp)]
    refine tells_map fun i hi => ?_
    have hi' := List.mem_range.1 hi
    rw [if_pos hi']
    have e := h.row i hi'
    rw [← List.append_nil (flat _)] at e
    have := tell_row (m := m) (b := c i) (cap := n) (q := 0) (l := rowM n M i) e (by simp [rowM_length])
    simpa [rowM_length] using this

theorem slice_to {l : List Fr} {ex : Bool} {k : Nat} (h : k ≤ l.length) : sliceA 4 (frs l) ex none (some k) none = some (.sl (exA none ex k (frs l).length) (frs (l.take k))) := by
  unfold sliceA
  have hc : ((frs l).all fun e => e.cells.length == 4) = true := by simp [PV.cells]
  simp only [Option.getD_some, Option.getD_none]
  rw [if_pos ⟨by omega, by simpa using h, by simp, hc⟩]
  simp [List.map_take]

def leftM (n : Nat) (p : List Fr) (M : Nat → Nat → Fr) (i k : Nat) : Fr := subF (atF n n p i k) (dotF ((rowM n M i).take k) ((rowM n M k).take k))

theorem ok80 (e : Bool) (n : Nat) (hn : n ≤ 16) (p : List Fr) (M : Nat → Nat → Fr) (i k : Nat) (hi : i < n) (hk : k < n) :
    Ok Tryz.prog 80 [num i, num k, .vp [num n, num n, .sl e (frs p)], .vp [rowsV n M]] (frV (leftM n p M i k)) := by
  have h0 : (0 : Int) ≤ (i : Int) := by omega
  have h0' : (0 : Int) ≤ (k : Int) := by omega
  have g1 : ((List.range n).map fun i => PV.sl false (frs (rowM n M i)))[i]? = some (.sl false (frs (rowM n M i))) := by simp [hi]
  have g2 : ((List.range n).map fun i => PV.sl false (frs (rowM n M i)))[k]? = some (.sl false (frs (rowM n M k))) := by simp [hk]
  have s1 := slice_to (l := rowM n M i) (ex := false) (k := k) (by rw [rowM_length]; omega)
  have s2 := slice_to (l := rowM n M k) (ex := false) (k := k) (by rw [rowM_length]; omega)
  refine ok_fn mixed Tryz.func80 (code := ?_) (h := h80) ?_ k80 ?_
  rotate_left
  · exact rfl
  unfold h80 initS
  simp -implicitDefEqProofs only [rkA, rkB, stepA, valA, simprocAttr, Tryz.ntmps80, Tryz.results80]
  refine call_fn rfl rfl rfl (ok35 e n n i k p) ?_
  simp -implicitDefEqProofs only [h0, h0', Int.toNat_natCast, g1, g2, s1, s2, rkA, rkB, stepA, valA, simprocAttr]
  refine call_fn rfl rfl rfl (ok81 _ _ ((rowM n M i).take k) ((rowM n M k).take k) (by simp [rowM_length]; omega) (by simp [rowM_length]; omega)) ?_
  simp -implicitDefEqProofs only [rkA, rkB, stepA, valA, simprocAttr]
  refine call_meth rfl rfl methSub (ok97 _ _) ?_
  simp -implicitDefEqProofs only [leftM, rkA, rkB, stepA, valA, simprocAttr]

theorem ok83 (n : Nat) (M : Nat → Nat → Fr) (i k : Nat) (hi : i < n) (hk : k < n) :
    Ok Tryz.prog 83 [num i, num k, .vp [rowsV n M]] (frV (M i k)) := by
  have h0 : (0 : Int) ≤ (i : Int) := by omega
  have h0' : (0 : Int) ≤ (k : Int) := by omega
  have g1 : ((List.range n).map fun i => PV.sl false (frs (rowM n M i)))[i]? = some (.sl false (frs (rowM n M i))) := by simp [hi]
  have g2 : (frs (rowM n M i))[k]? = some (frV (M i k)) := by simp [rowM, hk]
  refine ok_fn mixed Tryz.func83 (code := ?_) (h := h83) ?_ k83 ?_
  rotate_left
  · exact rfl
  unfold h83 initS
  simp -implicitDefEqProofs only [rkA, rkB, stepA, valA, simprocAttr, Tryz.ntmps83, Tryz.results83]
  simp -implicitDefEqProofs only [h0, h0', Int.toNat_natCast, g1, g2, rkA, rkB, stepA, valA, simprocAttr]

def stepD (n : Nat) (p : List Fr) (M : Nat → Nat → Fr) (k : Nat) : Nat → Nat → Fr := setM M k k (rootF (leftM n p M k k))
/-- One column: k + 1 rows below its diagonal are done for every one counted. -/
def colS (n : Nat) (p : List Fr) (k : Nat) (M : Nat → Nat → Fr) : Nat → Nat → Nat → Fr
  | 0 => stepD n p M k
  | j + 1 => setM (colS n p k M j) (k + 1 + j) k (divF (leftM n p (colS n p k M j) (k + 1 + j) k) (colS n p k M j k k))
def rootS (n : Nat) (p : List Fr) : Nat → Nat → Nat → Fr
  | 0 => fun _ _ => newF 0 1
  | k + 1 => colS n p k (rootS n p k) (n - (k + 1))
def rootMat (n : Nat) (p : List Fr) : List Fr := gridP (rootS n p n) n n 0
/-- While the rows are made: noughts so far, zero values behind. -/
def zeroM (i k : Nat) : Nat → Nat → Fr := fun a b => if a < i ∨ a = i ∧ b < k then newF 0 1 else ⟨0, 0, 0, false⟩

abbrev bxR (e : Bool) (n : Nat) (p : List Fr) (R : Nat) : List (Nat × List TV) := [(1, [nt n, nt n, .v (.sl e (frs p))]), (2, [nt 0, nt 0, .acc 3002 []]), (4, [nt 0, nt 0, nt 0, .v (tru false)]), (5, [.v (rawRow R n)])]

abbrev leftV (e : Bool) (n : Nat) (p : List Fr) (R : Nat) : PV := .fn (.func 80) [.vp [num n, num n, .sl e (frs p)], .vp [rawRow R n]]
theorem leftT {m : Mem} {R : Nat} {c : Nat → Nat} {n : Nat} {M : Nat → Nat → Fr} {e : Bool} {p : List Fr} {i k : Nat} (h : RowsIn m R c n n M) :
    Tells m ([num i, num k] ++ [.vp [num n, num n, .sl e (frs p)], .vp [rawRow R n]]) [num i, num k, .vp [num n, num n, .sl e (frs p)], .vp [rowsV n M]] :=
  .cons (.same _) (.cons (.same _) (.cons (.same _) (.cons (.vpIn (.cons h.tell .nil)) .nil)))

theorem RowsIn.head0 {m : Mem} {R n : Nat} {c : Nat → Nat} {M : Nat → Nat → Fr} : RowsIn (m.put R (List.replicate n [PV.s (.slice none 0 0)]).flatten) R c n 0 M where
  head := by
    rw [Mem.put_same]
    congr 1
    apply List.ext_getElem?
    intro j
    have : (List.replicate n [PV.s (.slice none 0 0)]).flatten = List.replicate n nilRow := by
      induction n with
      | zero => rfl
      | succ n ih => rw [List.replicate_succ, List.replicate_succ, List.flatten_cons, ih]; rfl
    rw [this]
    by_cases h : j < n
    · simp [headR, h]
    · rw [List.getElem?_eq_none (by simp; omega), List.getElem?_eq_none (by simp [headR]; omega)]
  row := fun i h => by omega
  ne := fun i h => by omega
  inj := fun i j h => by omega

theorem flat_zeros : ∀ (n : Nat), (List.replicate n [num 0, num 0, num 0, tru false]).flatten = flat (frs (List.replicate n (⟨0, 0, 0, false⟩ : Fr)))
  | 0 => rfl
  | n + 1 => by
    rw [List.replicate_succ, List.flatten_cons, flat_zeros n]
    rfl
theorem zero_row (n i : Nat) : rowM n (zeroM i 0) i = List.replicate n ⟨0, 0, 0, false⟩ := by
  apply List.ext_getElem?
  intro j
  by_cases h : j < n
  · rw [rowM_get h]; simp [zeroM, h]
  · rw [List.getElem?_eq_none (by rw [rowM_length]; omega), List.getElem?_eq_none (by simp; omega)]
theorem RowsIn.grow {m : Mem} {R : Nat} {c : Nat → Nat} {n i b : Nat} (h : RowsIn m R c n i (zeroM i 0)) (hi : i < n) (hb : m b = none) :
    RowsIn ((m.put b (flat (frs (List.replicate n (⟨0, 0, 0, false⟩ : Fr))))).put R (headR n (i + 1) (fun j => if j = i then b else c j))) R (fun j => if j = i then b else c j) n (i + 1) (zeroM i 0) := by
  have hRb : R ≠ b := fun e => by have := h.head; rw [e, hb] at this; cases this
  have hcb : ∀ j, j < i → c j ≠ b := fun j hj e => by have := h.row j hj; rw [e, hb] at this; cases this
  refine ⟨Mem.put_same _ _ _, fun j hj => ?_, fun j hj => ?_, fun j k hj hk => ?_⟩
  · by_cases e : j = i
    · subst e
      rw [if_pos rfl, Mem.put_other _ _ (fun e => hRb e.symm), Mem.put_same, zero_row]
    · rw [if_neg e, Mem.put_other _ _ (h.ne j (by omega)), Mem.put_other _ _ (hcb j (by omega))]
      exact h.row j (by omega)
  · by_cases e : j = i
    · rw [if_pos e]; exact fun e => hRb e.symm
    · rw [if_neg e]; exact h.ne j (by omega)
  · by_cases e : j = i <;> by_cases e' : k = i
    · intro _; omega
    · rw [if_pos e, if_neg e']
      exact fun h1 => absurd h1.symm (hcb k (by omega))
    · rw [if_neg e, if_pos e']
      exact fun h1 => absurd h1 (hcb j (by omega))
    · rw [if_neg e, if_neg e']
      exact h.inj j k (by omega) (by omega)
theorem zeroM_step (i k : Nat) : setM (zeroM i k) i k (newF 0 1) = zeroM i (k + 1) := by
  funext a b
  unfold setM zeroM
  by_cases h1 : a = i ∧ b = k
  · rw [if_pos h1, if_pos (.inr ⟨h1.1, by omega⟩)]
  · rw [if_neg h1]
    by_cases h2 : a < i ∨ a = i ∧ b < k
    · rw [if_pos h2, if_pos (by omega)]
    · rw [if_neg h2, if_neg (by omega)]
theorem RowsIn.congr {m : Mem} {R : Nat} {c : Nat → Nat} {n b : Nat} {M N : Nat → Nat → Fr} (h : RowsIn m R c n b M) (hMN : ∀ i k, i < b → k < n → M i k = N i k) : RowsIn m R c n b N :=
  ⟨h.head, fun i hi => by
    have e : rowM n N i = rowM n M i := by
      unfold rowM
      exact List.map_congr_left fun k hk => (hMN i k hi (List.mem_range.1 hk)).symm
    rw [e]
    exact h.row i hi, h.ne, h.inj⟩

theorem ok23 (n : Nat) (hn : 1 ≤ n ∧ n ≤ 16) (e : Bool) (p : List Fr) (hp : p.length = n * n) : Ok Tryz.prog 23 [matV e n n (frs p)] (.tup [matV false n n (frs (rootMat n p)), tru true]) := by
  have hr : right (n : Int) (n : Int) p.length = true := by
    simp only [right, Bool.and_eq_true, decide_eq_true_eq, beq_iff_eq]
    exact ⟨⟨by omega, by omega⟩, ⟨by omega, by omega⟩, by rw [hp, Int.natCast_mul]⟩
  have hsq : (right (n : Int) (n : Int) p.length && ((n : Int) == n)) = true := by rw [hr]; simp
  refine okt_fn mixed Tryz.func23 (code := ?_) (h := h23) ?_ k23 ?_
  rotate_left
  · exact rfl
  unfold h23 initS
  simp -implicitDefEqProofs only [rkA, rkB, stepA, valA, simprocAttr, Tryz.ntmps23, Tryz.results23]
  have h904 := ok79 e n n p
  rw [hsq] at h904
  refine call_fn rfl rfl rfl (h904) ?_
  simp -implicitDefEqProofs only [rkA, rkB, stepA, valA, simprocAttr]
  refine new_make (T := 24) (N := 1) rfl rfl rfl rfl rfl (by omega) (by omega) (by omega) ?_
  intro R hR
  simp -implicitDefEqProofs only [Int.toNat_natCast, rkA, rkB, stepA, valA, simprocAttr]
  refine wp_loop (fun m s => ∃ (i : Nat) (mm : Mem) (c : Nat → Nat), i + m = n ∧ RowsIn mm R c n i (zeroM i 0) ∧ s = ⟨[jk, .ptr 1 0, .ptr 2 0, jk, .ptr 4 0, .ptr 5 0, jk, jk, jk, jk, jk, jk, jk, jk, jk, jk, jk, jk, jk, nt n, nt i, jk, jk, jk, jk, jk, jk, jk, jk, jk, jk, jk, jk, jk, jk, jk, jk, jk, jk, jk, jk, jk, jk, jk, jk, jk, jk, jk, jk, jk, jk, jk, jk, jk, jk, jk, jk, jk, jk, jk, jk, jk, jk, jk, jk, jk, jk, jk, jk, jk, jk, jk, jk, jk, jk, jk, jk, jk, jk, jk, jk, jk, jk, jk, jk, jk, jk, jk, jk, jk, jk, jk, jk, jk, jk, jk, jk, jk, jk, jk], bxR e n p R, [], [(1005, 0), (3002, 0)], [], 0, mm⟩) n ?_ ?_
  · simp -implicitDefEqProofs only [rkA, rkB, stepA, valA, simprocAttr]
    exact ⟨0, _, fun _ => 0, by simp, RowsIn.head0, rfl⟩
  rintro m s ⟨i, mm, c, hi, hM, rfl⟩
  simp -implicitDefEqProofs only [rkA, rkB, stepA, valA, simprocAttr]
  refine gB_dec ?_ ?_ <;> intro hc <;> simp -implicitDefEqProofs only [hc, rkA, rkB, stepA, valA, simprocAttr]
  · refine new_make (T := 32) (N := 4) rfl rfl rfl rfl rfl (by omega) (by omega) (by omega) ?_
    intro b hb
    have hi' : i < n := by omega
    have h0 : (0 : Int) ≤ (i : Int) := by omega
    have hRb : R ≠ b := fun e => by have h1 := hM.head; have h2 : mm b = none := hb; rw [e, h2] at h1; cases h1
    have hRm := fun x => (Mem.put_other mm x hRb).trans hM.head
    have hst := stM_one (cells := headR n i c) (x := rawRow b n) (i := i) (by rw [headR_length]; exact hi') rfl rfl
    have hG := hM.grow hi' hb
    have hgt := headR_get (n := n) (b := i + 1) (c := fun j => if j = i then b else c j) (i := i) hi' (by omega)
    have hld := ldM_one hgt
    simp -implicitDefEqProofs only [h0, hc, Int.toNat_natCast, Nat.mul_one, hRm, hst, headR_set hi', hld, flat_zeros, rkA, rkB, stepA, valA, simprocAttr]
    clear hRm hst hb hRb hM
    generalize (mm.put b _).put R _ = mm2 at hG ⊢
    have hci : (fun j => if j = i then b else c j) i = b := if_pos rfl
    generalize (fun j => if j = i then b else c j) = c2 at hG hgt hld hci ⊢
    refine wp_loop (fun m s => ∃ (k : Nat) (mm : Mem), k + m = n ∧ RowsIn mm R c2 n (i + 1) (zeroM i k) ∧ s = ⟨[jk, .ptr 1 0, .ptr 2 0, jk, .ptr 4 0, .ptr 5 0, nt i, jk, jk, jk, jk, jk, jk, jk, jk, jk, jk, jk, jk, nt n, nt i, jk, jk, jk, jk, jk, jk, jk, jk, jk, jk, jk, jk, nt n, nt k, jk, jk, jk, jk, jk, jk, jk, jk, jk, jk, jk, jk, jk, jk, jk, jk, jk, jk, jk, jk, jk, jk, jk, jk, jk, jk, jk, jk, jk, jk, jk, jk, jk, jk, jk, jk, jk, jk, jk, jk, jk, jk, jk, jk, jk, jk, jk, jk, jk, jk, jk, jk, jk, jk, jk, jk, jk, jk, jk, jk, jk, jk, jk, jk, jk], bxR e n p R, [], [(1005, 0), (3002, 0)], [], 0, mm⟩) n ?_ ?_
    · simp -implicitDefEqProofs only [rkA, rkB, stepA, valA, simprocAttr]
      exact ⟨0, _, by simp, hG, rfl⟩
    clear hG mm2
    rintro m' s ⟨k, mm2, hk, hM, rfl⟩
    simp -implicitDefEqProofs only [rkA, rkB, stepA, valA, simprocAttr]
    refine gB_dec ?_ ?_ <;> intro hc2 <;> simp -implicitDefEqProofs only [hc2, rkA, rkB, stepA, valA, simprocAttr]
    · have hk' : k < n := by omega
      have h0k : (0 : Int) ≤ (k : Int) := by omega
      have hh := hM.head
      have hrow := hM.row i (by omega)
      have hsto := hM.store (i := i) (by omega) hk' (newF 0 1)
      rw [hci] at hrow hsto
      have hlr : (rowM n (zeroM i k) i).length = n := rowM_length _ _ _
      have hst := stM_fr (l := rowM n (zeroM i k) i) (k := k) (x := newF 0 1) (by rw [hlr]; exact hk')
      have hw := wrapped (x := (k : Int) + 1) (by omega) (by omega)
      simp -implicitDefEqProofs only [h0, h0k, hc, hc2, Int.toNat_natCast, Nat.mul_one, hh, hld, rkA, rkB, stepA, valA, simprocAttr]
      refine call_meth rfl rfl methOf (ok56 ⟨0, 0, 0, false⟩ 0) ?_
      simp -implicitDefEqProofs only [h0k, hc2, Int.toNat_natCast, hrow, hst, hw, rkA, rkB, stepA, valA, simprocAttr]
      refine loopK_of (m' := m' - 1) (by omega) ?_
      simp -implicitDefEqProofs only [rkA, rkB, stepA, valA, simprocAttr]
      refine ⟨k + 1, _, by omega, ?_, by simp only [Int.natCast_add, Int.natCast_one]; rfl⟩
      rw [← zeroM_step]
      exact hsto
    · have hkn : k = n := by omega
      subst hkn
      have hw := wrapped (x := (i : Int) + 1) (by omega) (by omega)
      simp -implicitDefEqProofs only [hw, rkA, rkB, stepA, valA, simprocAttr]
      refine loopK_of (m' := m - 1) (by omega) ?_
      simp -implicitDefEqProofs only [rkA, rkB, stepA, valA, simprocAttr]
      refine ⟨i + 1, mm2, c2, by omega, hM.congr fun a b ha hb => ?_, by simp only [Int.natCast_add, Int.natCast_one]⟩
      unfold zeroM
      rw [if_pos (by omega), if_pos (by omega)]
  · have : i = n := by omega
    subst this
    have hM0 : RowsIn mm R c i i (rootS i p 0) := hM.congr fun a b ha hb => by
      unfold zeroM rootS
      rw [if_pos (by omega)]
    clear hM
    refine wp_loop (fun m s => ∃ (k : Nat) (mm : Mem), k + m = i ∧ RowsIn mm R c i i (rootS i p k) ∧ s = ⟨[jk, .ptr 1 0, .ptr 2 0, jk, jk, .ptr 5 0, jk, jk, .v (leftV e i p R), jk, jk, jk, jk, jk, jk, jk, jk, jk, jk, jk, jk, jk, jk, jk, jk, jk, jk, jk, jk, jk, jk, jk, jk, jk, jk, jk, jk, jk, jk, jk, jk, jk, jk, jk, jk, jk, jk, jk, jk, jk, nt i, nt k, jk, jk, jk, jk, jk, jk, jk, jk, jk, jk, jk, jk, jk, jk, jk, jk, jk, jk, jk, jk, jk, jk, jk, jk, jk, jk, jk, jk, jk, jk, jk, jk, jk, jk, jk, jk, jk, jk, jk, jk, jk, jk, jk, jk, jk, jk, jk, jk],
      [(2, [nt 0, nt 0, .acc 3002 []]), (4, [nt 0, nt 0, nt 0, .v (tru false)])], [(1, [num i, num i, .sl e (frs p)]), (5, [rawRow R i])], [(1005, 0), (3002, 0)], [], 0, mm⟩) i ?_ ?_
    · simp -implicitDefEqProofs only [rkA, rkB, stepA, valA, simprocAttr]
      exact ⟨0, _, by simp, hM0, rfl⟩
    clear hM0 mm
    rintro m' s ⟨k, mm, hk, hM, rfl⟩
    simp -implicitDefEqProofs only [rkA, rkB, stepA, valA, simprocAttr]
    refine gB_dec ?_ ?_ <;> intro hc2 <;> simp -implicitDefEqProofs only [hc2, rkA, rkB, stepA, valA, simprocAttr]
    · have hk' : k < i := by omega
      have h0k : (0 : Int) ≤ (k : Int) := by omega
      have hh := hM.head
      have hld := ldM_one (headR_get (n := i) (b := i) (c := c) (i := k) hk' hk')
      simp -implicitDefEqProofs only [h0k, hc2, Int.toNat_natCast, Nat.mul_one, hh, hld, rkA, rkB, stepA, valA, simprocAttr]
      refine lend_fn rfl rfl (leftT (i := k) (k := k) hM) (ok80 e i (by omega) p _ k k hk' hk') rfl ?_
      simp -implicitDefEqProofs only [rkA, rkB, stepA, valA, simprocAttr]
      refine call_meth rfl rfl methRoot (ok229 _) ?_
      have hw := wrapped (x := (k : Int) + 1) (by omega) (by omega)
      have hrow := hM.row k hk'
      have hst := stM_fr (l := rowM i (rootS i p k) k) (k := k) (x := rootF (leftM i p (rootS i p k) k k)) (by rw [rowM_length]; exact hk')
      have hsto := hM.store (i := k) hk' hk' (rootF (leftM i p (rootS i p k) k k))
      simp -implicitDefEqProofs only [h0k, hc2, Int.toNat_natCast, hrow, hst, hw, rkA, rkB, stepA, valA, simprocAttr]
      have hk1 : (k : Int) + 1 = ((k + 1 : Nat) : Int) := by simp
      simp only [hk1]
      clear hM hh hst hrow hw
      refine wp_loop (fun m s => ∃ (j : Nat) (mm : Mem), k + 1 + j + m = i ∧ RowsIn mm R c i i (colS i p k (rootS i p k) j) ∧ s = ⟨[jk, .ptr 1 0, .ptr 2 0, jk, jk, .ptr 5 0, jk, jk, .v (leftV e i p R), nt k, nt (k + 1 + j : Nat), jk, jk, jk, jk, jk, jk, jk, jk, jk, jk, jk, jk, jk, jk, jk, jk, jk, jk, jk, jk, jk, jk, jk, jk, jk, jk, jk, jk, jk, jk, jk, jk, jk, jk, jk, jk, jk, jk, jk, nt i, nt k, jk, jk, jk, jk, jk, jk, jk, jk, jk, jk, jk, jk, jk, jk, jk, jk, jk, jk, jk, jk, jk, jk, jk, jk, jk, jk, jk, jk, jk, jk, jk, jk, jk, jk, jk, jk, jk, jk, jk, jk, jk, jk, jk, jk, jk, jk, jk, jk],
        [(2, [nt 0, nt 0, .acc 3002 []]), (4, [nt 0, nt 0, nt 0, .v (tru false)])], [(1, [num i, num i, .sl e (frs p)]), (5, [rawRow R i])], [(1005, 0), (3002, 0)], [], 0, mm⟩) (i - (k + 1)) ?_ ?_
      · simp -implicitDefEqProofs only [rkA, rkB, stepA, valA, simprocAttr]
        exact ⟨0, _, by omega, hsto, rfl⟩
      clear hsto mm
      rintro m2 s ⟨j, mm, hj, hM, rfl⟩
      simp -implicitDefEqProofs only [rkA, rkB, stepA, valA, simprocAttr]
      refine gB_dec ?_ ?_ <;> intro hc3 <;> simp -implicitDefEqProofs only [hc3, rkA, rkB, stepA, valA, simprocAttr]
      · have hi' : k + 1 + j < i := by omega
        have h0i : (0 : Int) ≤ ((k + 1 + j : Nat) : Int) := by omega
        have hh := hM.head
        have hldi := ldM_one (headR_get (n := i) (b := i) (c := c) (i := k + 1 + j) hi' hi')
        simp -implicitDefEqProofs only [h0k, hc2, h0i, hc3, Int.toNat_natCast, Nat.mul_one, hh, hldi, hld, rkA, rkB, stepA, valA, simprocAttr]
        refine lend_fn rfl rfl (leftT (i := k + 1 + j) (k := k) hM) (ok80 e i (by omega) p _ (k + 1 + j) k hi' hk') rfl ?_
        have hrk := hM.row k hk'
        have hlf := ldM_fr (rowM_get (n := i) (M := colS i p k (rootS i p k) j) (i := k) (k := k) hk')
        simp -implicitDefEqProofs only [h0k, hc2, h0i, hc3, Int.toNat_natCast, Nat.mul_one, hh, hldi, hld, hrk, hlf, rkA, rkB, stepA, valA, simprocAttr]
        refine call_meth rfl rfl methDiv (ok228 _ _) ?_
        have hw := wrapped (x := ((k + 1 + j : Nat) : Int) + 1) (by omega) (by omega)
        have hrow := hM.row _ hi'
        have hst := stM_fr (l := rowM i (colS i p k (rootS i p k) j) (k + 1 + j)) (k := k) (x := divF (leftM i p (colS i p k (rootS i p k) j) (k + 1 + j) k) (colS i p k (rootS i p k) j k k)) (by rw [rowM_length]; exact hk')
        have hsto := hM.store (i := k + 1 + j) hi' hk' (divF (leftM i p (colS i p k (rootS i p k) j) (k + 1 + j) k) (colS i p k (rootS i p k) j k k))
        simp -implicitDefEqProofs only [h0k, hc2, Int.toNat_natCast, hrow, hst, hw, rkA, rkB, stepA, valA, simprocAttr]
        refine loopK_of (m' := m2 - 1) (by omega) ?_
        simp -implicitDefEqProofs only [rkA, rkB, stepA, valA, simprocAttr]
        exact ⟨j + 1, _, by omega, hsto, by simp only [Int.natCast_add, Int.natCast_one]; rfl⟩
      · have hj' : j = i - (k + 1) := by omega
        have hw := wrapped (x := (k : Int) + 1) (by omega) (by omega)
        simp -implicitDefEqProofs only [hw, rkA, rkB, stepA, valA, simprocAttr]
        refine loopK_of (m' := m' - 1) (by omega) ?_
        simp -implicitDefEqProofs only [rkA, rkB, stepA, valA, simprocAttr]
        refine ⟨k + 1, mm, by omega, ?_, by simp only [Int.natCast_add, Int.natCast_one]⟩
        rw [hj'] at hM
        exact hM
    · have hki : k = i := by omega
      subst hki
      have hma := okm82 k hn _ _ (rootS k p k) (fun a b ha hb => ok83 k (rootS k p k) a b ha hb)
      refine lendNew_fn (l := [num k, .fn (.func 83) [.vp [rowsV k (rootS k p k)]]]) rfl rfl (.cons (.same _) (.cons (.fn (.cons (.vpIn (.cons hM.tell .nil)) .nil)) .nil)) hma ?_ ?_
      · rintro r m' ⟨b, cap, q, h1, rfl, rfl⟩
        refine ⟨rfl, fun c cells hc => ?_⟩
        by_cases e : c = b
        · subst e
          rw [Mem.put_same] at hc
          cases hc
          exact RFs_append (RFs_frs _) (RFs_junk q)
        · rw [Mem.put_other _ _ e] at hc
          cases hc
      · rintro r m' ⟨b, cap, q, h1, rfl, rfl⟩ hfr
        simp -implicitDefEqProofs only [rkA, rkB, stepA, valA, simprocAttr]
        exact ⟨_, rfl, .tup (.cons (.agg (.cons (.same _) (.cons (.same _) (.cons (tell_row (Mem.put_same _ _ _) h1) .nil)))) (.cons (.same _) .nil))⟩

theorem ok23n (e : Bool) (r c : Int) (l : List Fr) (h : (right r c l.length && (r == c)) = false) : Ok Tryz.prog 23 [matV e r c (frs l)] (.tup [matV true 0 0 [], tru false]) := by
  refine okt_fn mixed Tryz.func23 (code := ?_) (h := h23) ?_ k23 ?_
  rotate_left
  · exact rfl
  unfold h23 initS
  simp -implicitDefEqProofs only [rkA, rkB, stepA, valA, simprocAttr, Tryz.ntmps23, Tryz.results23]
  have h904 := ok79 e r c l
  rw [h] at h904
  refine call_fn rfl rfl rfl (h904) ?_
  simp -implicitDefEqProofs only [rkA, rkB, stepA, valA, simprocAttr]
  exact ⟨_, rfl, .tup (.cons (.agg (.cons (.same _) (.cons (.same _) (.cons .nil .nil)))) (.cons (.same _) .nil))⟩
end Go.Proofs.YtbflmeomkfjikaaGreat.A.E

set_option linter.unusedVariables false
set_option linter.unusedSimpArgs false
set_option maxRecDepth 100000
namespace Go.Proofs.YtbflmeomkfjikaaGreat.A.E
open Go Go.RowKit Go.Shelf

theorem ok82 (n : Nat) (hn : 1 ≤ n ∧ n ≤ 16) (K : Nat) (caps : List PV) (g : Nat → Nat → Fr) (hg : ∀ i k : Nat, i < n → k < n → Ok Tryz.prog K (num i :: num k :: caps) (frV (g i k))) :
    Ok Tryz.prog 82 [num n, .fn (.func K) caps] (.tup [matV false n n (frs (gridP g n n 0)), tru true]) := by
  refine Ok.ofM (okm82 n hn K caps g hg) ?_
  rintro r m ⟨b, cap, q, h1, rfl, rfl⟩
  have hl : (frs (gridP g n n 0)).length = (gridP g n n 0).length := by simp
  exact .tup (.cons (.agg (.cons (.same _) (.cons (.same _) (.cons (tell_row (Mem.put_same _ _ _) h1) .nil)))) (.cons (.same _) .nil))

def clearG (n : Nat) (l : List Fr) (i k : Nat) : Fr := if i < k then newF 0 1 else atF n n l i k
def clearF (n : Nat) (l : List Fr) : List Fr := gridP (clearG n l) n n 0
theorem ok145 (e : Bool) (n : Nat) (l : List Fr) (i k : Nat) : Ok Tryz.prog 145 [num i, num k, .vp [num 0, num 0, num 0, tru false], .vp [num n, num n, .sl e (frs l)]] (frV (clearG n l i k)) := by
  refine ok_fn mixed Tryz.func145 (code := ?_) (h := h145) ?_ k145 ?_
  rotate_left
  · exact rfl
  unfold h145 initS
  simp -implicitDefEqProofs only [rkA, rkB, stepA, valA, simprocAttr, Tryz.ntmps145, Tryz.results145]
  unfold clearG
  refine gB_dec ?_ ?_ <;> intro hc <;> simp -implicitDefEqProofs only [hc, rkA, rkB, stepA, valA, simprocAttr]
  · have : i < k := by omega
    refine call_meth rfl rfl methOf (ok56 ⟨0, 0, 0, false⟩ 0) ?_
    rw [if_pos this]
    simp -implicitDefEqProofs only [rkA, rkB, stepA, valA, simprocAttr]
  · have : ¬ i < k := by omega
    refine call_fn rfl rfl rfl (ok35 e n n i k l) ?_
    rw [if_neg this]
    simp -implicitDefEqProofs only [rkA, rkB, stepA, valA, simprocAttr]

theorem ok92 (n : Nat) (hn : 1 ≤ n ∧ n ≤ 16) (e : Bool) (l : List Fr) (h : l.length = n * n) : Ok Tryz.prog 92 [matV e n n (frs l)] (.tup [matV false n n (frs (clearF n l)), tru true]) := by
  have hr := right_sq hn h
  refine ok_fn mixed Tryz.func92 (code := ?_) (h := h92) ?_ k92 ?_
  rotate_left
  · exact rfl
  unfold h92 initS
  simp -implicitDefEqProofs only [rkA, rkB, stepA, valA, simprocAttr, Tryz.ntmps92, Tryz.results92]
  refine call_fn rfl rfl rfl (ok79 e n n l) ?_
  simp -implicitDefEqProofs only [hr, beq_self_eq_true, rkA, rkB, stepA, valA, simprocAttr]
  refine call_fn rfl rfl rfl (ok82 n hn _ _ (clearG n l) (fun i k _ _ => ok145 e n l i k)) ?_
  simp -implicitDefEqProofs only [rkA, rkB, stepA, valA, simprocAttr, clearF]

theorem ok92n (e : Bool) (r c : Int) (l : List Fr) (h : (right r c l.length && (r == c)) = false) : Ok Tryz.prog 92 [matV e r c (frs l)] (.tup [matNil, tru false]) := by
  refine ok_fn mixed Tryz.func92 (code := ?_) (h := h92) ?_ k92 ?_
  rotate_left
  · exact rfl
  unfold h92 initS
  simp -implicitDefEqProofs only [rkA, rkB, stepA, valA, simprocAttr, Tryz.ntmps92, Tryz.results92]
  have h904 := ok79 e r c l
  rw [h] at h904
  refine call_fn rfl rfl rfl (h904) ?_
  simp -implicitDefEqProofs only [rkA, rkB, stepA, valA, simprocAttr]

theorem ok46n (e : Bool) (r c : Int) (l : List Fr) (h : (right r c l.length && (r == c)) = false) : Ok Tryz.prog 46 [matV e r c (frs l)] (.tup [matNil, tru false]) := by
  refine ok_fn mixed Tryz.func46 (code := ?_) (h := h46) ?_ k46 ?_
  rotate_left
  · exact rfl
  unfold h46 initS
  simp -implicitDefEqProofs only [rkA, rkB, stepA, valA, simprocAttr, Tryz.ntmps46, Tryz.results46]
  have h904 := ok79 e r c l
  rw [h] at h904
  refine call_fn rfl rfl rfl (h904) ?_
  simp -implicitDefEqProofs only [rkA, rkB, stepA, valA, simprocAttr]

def diagF (n : Nat) (l : List Fr) : List Fr := (List.range n).map fun (i : Nat) => atF n n l i i
theorem rowF_get {r c : Int} {l : List Fr} (hr : right r c l.length = true) {i k : Nat} (hi : i < r.toNat) (hk : k < c.toNat) : (frs (rowF r c l i))[k]? = some (frV (atF r c l i k)) := by
  have h0 := rowF_eq ⟨0, 0, 0, false⟩ hr (i := i) hi
  have h1 := atF_eq hr (i := i) (k := k) hi hk
  rw [h0, List.getElem?_map, List.getElem?_map, List.getElem?_range hk, h1]
  rfl
theorem ok33 (n : Nat) (hn : 1 ≤ n ∧ n ≤ 16) (e : Bool) (l : List Fr) (h : l.length = n * n) : Ok Tryz.prog 33 [matV e n n (frs l)] (.sl false (frs (diagF n l))) := by
  have hr := right_sq hn h
  have hal : (diagF n l).length = n := by simp [diagF]
  refine ok_fn mixed Tryz.func33 (code := ?_) (h := h33) ?_ k33 ?_
  rotate_left
  · exact rfl
  unfold h33 initS
  simp -implicitDefEqProofs only [rkA, rkB, stepA, valA, simprocAttr, Tryz.ntmps33, Tryz.results33]
  refine call_fn rfl rfl rfl (ok90 e n n l) ?_
  simp -implicitDefEqProofs only [rkA, rkB, stepA, valA, simprocAttr]
  refine wp_rf' (items := rowsF n n l) rfl (it142 e n n l) (fun sv i s => i ≤ n ∧ s = ⟨[], [(1, [nt n, nt n, .v (.sl e (frs l))]), (3, [.acc 1003 (frs ((diagF n l).take i))])], [], [(2, 0), (1003, i)], sv, 0, nomem⟩) ?_ ?_ ?_
  · simp -implicitDefEqProofs only [rkA, rkB, stepA, valA, simprocAttr]
    exact Nat.zero_le _
  · rintro i x' s' R hx ⟨hi, rfl⟩ hR
    obtain ⟨hlt, rfl, hxi⟩ := rowsF_all hr hx
    have hlt' : i < n := by simpa using hlt
    refine ⟨rfl, ?_⟩
    have h904 := ok79 e n n l
    rw [hr, beq_self_eq_true] at h904
    simp -implicitDefEqProofs only [rkA, rkB, stepA, valA, simprocAttr]
    refine call_fn rfl rfl rfl (h904) ?_
    have h0 : (0 : Int) ≤ (i : Int) := by omega
    have hg := rowF_get hr hlt hlt
    have hfit : fits 4 32 (frs ((diagF n l).take i)) [frV (atF n n l i i)] = true := fits_frs (l := [atF n n l i i]) (by simp only [List.length_cons, List.length_nil, List.length_take]; omega)
    have hl : (frs ((diagF n l).take i)).length = i := by simp; omega
    simp -implicitDefEqProofs only [h0, Int.toNat_natCast, hg, hfit, hl, rkA, rkB, stepA, valA, simprocAttr]
    refine hR _ ⟨by omega, ?_⟩
    have hai : (diagF n l)[i]'(by omega) = atF n n l i i := by simp [diagF]
    rw [List.take_succ_eq_append_getElem (by omega), hai]
    simp only [frs, List.map_append, List.map_cons, List.map_nil]
  · rintro s' ⟨hi, rfl⟩
    simp -implicitDefEqProofs only [rkA, rkB, stepA, valA, simprocAttr]
    rw [rowsF_length hr, List.take_of_length_le (by simp [hal])]
theorem ok33n (e : Bool) (r c : Int) (l : List Fr) (h : (right r c l.length && (r == c)) = false) : Ok Tryz.prog 33 [matV e r c (frs l)] (.sl false []) := by
  refine ok_fn mixed Tryz.func33 (code := ?_) (h := h33) ?_ k33 ?_
  rotate_left
  · exact rfl
  unfold h33 initS
  simp -implicitDefEqProofs only [rkA, rkB, stepA, valA, simprocAttr, Tryz.ntmps33, Tryz.results33]
  refine call_fn rfl rfl rfl (ok90 e r c l) ?_
  simp -implicitDefEqProofs only [rkA, rkB, stepA, valA, simprocAttr]
  refine wp_rf' (items := rowsF r c l) rfl (it142 e r c l) (fun sv i s => s = ⟨[], [(1, [nt r, nt c, .v (.sl e (frs l))]), (3, [.acc 1003 []])], [], [(2, 0), (1003, 0)], sv, 0, nomem⟩) ?_ ?_ ?_
  · simp -implicitDefEqProofs only [rkA, rkB, stepA, valA, simprocAttr]
  · rintro i x' s' R hx rfl hR
    have hr : right r c l.length = true := by
      cases hr : right r c l.length with
      | true => rfl
      | false => simp [rowsF, hr] at hx
    obtain ⟨hlt, rfl, hxi⟩ := rowsF_all hr hx
    refine ⟨rfl, ?_⟩
    have h904 := ok79 e r c l
    rw [h] at h904
    simp -implicitDefEqProofs only [rkA, rkB, stepA, valA, simprocAttr]
    refine call_fn rfl rfl rfl (h904) ?_
    simp -implicitDefEqProofs only [rkA, rkB, stepA, valA, simprocAttr]
    exact hR _ rfl
  · rintro s' rfl
    simp -implicitDefEqProofs only [rkA, rkB, stepA, valA, simprocAttr]

theorem ok63 (e : Bool) (r c : Int) (l : List Fr) (K : Nat) (caps : List PV) (z : Fr → Bool) (b : Bool) (hz : ∀ x, Ok Tryz.prog K (frV x :: caps) (tru (z x)))
    (hb : b = true ↔ right r c l.length = true ∧ r = c ∧ ∀ i k : Nat, i < r.toNat → k < c.toNat → i < k → z (atF r c l i k) = true) : Ok Tryz.prog 63 [matV e r c (frs l), .fn (.func K) caps] (tru b) := by
  refine ok_fn mixed Tryz.func63 (code := ?_) (h := h63) ?_ k63 ?_
  rotate_left
  · exact rfl
  unfold h63 initS
  simp -implicitDefEqProofs only [rkA, rkB, stepA, valA, simprocAttr, Tryz.ntmps63, Tryz.results63]
  refine call_fn rfl rfl rfl (ok90 e r c l) ?_
  simp -implicitDefEqProofs only [rkA, rkB, stepA, valA, simprocAttr]
  refine wp_rf' (items := rowsF r c l) rfl (it142 e r c l) (fun sv i s => (∀ a k : Nat, a < i → k < c.toNat → a < k → z (atF r c l a k) = true) ∧ s = ⟨[], [(2, [nt r, nt c, .v (.sl e (frs l))]), (3, [.v (.fn (.func K) caps)]), (4, [.v (tru false)])], [], [], sv, 0, nomem⟩) ?_ ?_ ?_
  · simp -implicitDefEqProofs only [rkA, rkB, stepA, valA, simprocAttr]
    intro a k h
    omega
  · rintro i x' s' R hx ⟨hP, rfl⟩ hR
    have hr : right r c l.length = true := by
      cases hr : right r c l.length with
      | true => rfl
      | false => simp [rowsF, hr] at hx
    obtain ⟨r1, r2, c1, c2, hn⟩ := right_spec hr
    obtain ⟨hlt, rfl, hxi⟩ := rowsF_all hr hx
    refine ⟨rfl, ?_⟩
    have hw := wrapped (x := (i : Int) + 1) (by omega) (by omega)
    simp -implicitDefEqProofs only [hw, rkA, rkB, stepA, valA, simprocAttr]
    refine wp_loop (fun m s => ∃ k : Nat, i + 1 ≤ k ∧ k ≤ 17 ∧ c.toNat ≤ k + m ∧ (∀ q : Nat, i < q → q < k → q < c.toNat → z (atF r c l i q) = true) ∧ s = ⟨[jk, jk, .ptr 2 0, .ptr 3 0, .ptr 4 0, jk, .v (.sl false (frs (rowF r c l i))), nt k, jk, jk, jk, jk, jk, jk, jk, jk, jk, jk, jk, jk, jk, jk, jk, jk, jk, jk, jk, jk, jk],
      [(2, [nt r, nt c, .v (.sl e (frs l))]), (3, [.v (.fn (.func K) caps)]), (4, [.v (tru false)])], [], [], [[.v (matV e r c (frs l)), .v (.fn (.func K) caps), .ptr 2 0, .ptr 3 0, .ptr 4 0, jk, jk, jk, .v (.agg [num r, num c, .sl e (frs l)]), .v (.fn (.func 142) [.vp [num r, num c, .sl e (frs l)]]), jk, jk, jk, jk, jk, jk, jk, jk, jk, jk, jk, jk, jk, jk, jk, jk, jk, jk, jk]], 0, nomem⟩) c.toNat ?_ ?_
    · simp -implicitDefEqProofs only [rkA, rkB, stepA, valA, simprocAttr]
      exact ⟨i + 1, by omega, by omega, by omega, fun q h1 h2 => by omega, by simp only [Int.natCast_add, Int.natCast_one]⟩
    rintro m s ⟨k, hk, hk17, hm, hQ, rfl⟩
    simp -implicitDefEqProofs only [rkA, rkB, stepA, valA, simprocAttr]
    refine gB_dec ?_ ?_ <;> intro hc <;> simp -implicitDefEqProofs only [hc, rkA, rkB, stepA, valA, simprocAttr]
    · have hk' : k < c.toNat := by omega
      have h0 : (0 : Int) ≤ (k : Int) := by omega
      have hg := rowF_get hr hlt hk'
      simp -implicitDefEqProofs only [h0, Int.toNat_natCast, hg, rkA, rkB, stepA, valA, simprocAttr]
      refine call_fn rfl rfl rfl (hz (atF r c l i k)) ?_
      cases hzk : z (atF r c l i k) with
      | true =>
        have hw2 := wrapped (x := (k : Int) + 1) (by omega) (by omega)
        simp -implicitDefEqProofs only [hw2, rkA, rkB, stepA, valA, simprocAttr]
        refine loopK_of (m' := m - 1) (by omega) ?_
        simp -implicitDefEqProofs only [rkA, rkB, stepA, valA, simprocAttr]
        refine ⟨k + 1, by omega, by omega, by omega, fun q h1 h2 h3 => ?_, by simp only [Int.natCast_add, Int.natCast_one]⟩
        by_cases e : q = k
        · rw [e]; exact hzk
        · exact hQ q h1 (by omega) h3
      | false =>
        have hbf : b = false := by
          cases hbb : b with
          | false => rfl
          | true =>
            have := (hb.1 hbb).2.2 i k hlt hk' (by omega)
            rw [hzk] at this
            cases this
        subst hbf
        simp -implicitDefEqProofs only [rkA, rkB, stepA, valA, simprocAttr]
    · refine hR _ ⟨fun a q ha hq haq => ?_, rfl⟩
      by_cases e : a = i
      · subst e
        exact hQ q haq (by omega) hq
      · exact hP a q (by omega) hq haq
  · rintro s' ⟨hP, rfl⟩
    simp -implicitDefEqProofs only [rkA, rkB, stepA, valA, simprocAttr]
    refine call_fn rfl rfl rfl (ok79 e r c l) ?_
    have : (right r c l.length && (r == c)) = b := by
      rw [Bool.eq_iff_iff, hb, Bool.and_eq_true, beq_iff_eq]
      constructor
      · rintro ⟨h1, h2⟩
        refine ⟨h1, h2, fun a k ha hk hak => hP a k ?_ hk hak⟩
        rw [rowsF_length h1]
        exact ha
      · rintro ⟨h1, h2, _⟩
        exact ⟨h1, h2⟩
    rw [this]
    simp -implicitDefEqProofs only [rkA, rkB, stepA, valA, simprocAttr]
end Go.Proofs.YtbflmeomkfjikaaGreat.A.E

set_option linter.unusedVariables false
set_option linter.unusedSimpArgs false
set_option maxRecDepth 100000
namespace Go.Proofs.YtbflmeomkfjikaaGreat.A
open Go Go.RowKit Go.Shelf

theorem ok77 (n : Nat) (hn : 1 ≤ n ∧ n ≤ 16) (K : Nat) (caps : List PV) (g : Nat → Nat → Fr) (hg : ∀ i k : Nat, i < n → k < n → Ok Tryz.prog K (num i :: num k :: caps) (frV (g i k))) :
    Ok Tryz.prog 77 [num n, .fn (.func K) caps] (.tup [matV false n n (frs (gridP g n n 0)), tru true]) := by
  refine Ok.ofM (okm77 n hn K caps g hg) ?_
  rintro r m ⟨b, cap, q, h1, rfl, rfl⟩
  have hl : (frs (gridP g n n 0)).length = (gridP g n n 0).length := by simp
  exact .tup (.cons (.agg (.cons (.same _) (.cons (.same _) (.cons (tell_row (Mem.put_same _ _ _) h1) .nil)))) (.cons (.same _) .nil))

/-! ### Cleared -/
def clearG (n : Nat) (l : List Fr) (i k : Nat) : Fr := if i < k then newF 0 1 else atF n n l i k
def clearF (n : Nat) (l : List Fr) : List Fr := gridP (clearG n l) n n 0
theorem ok99 (e : Bool) (n : Nat) (l : List Fr) (i k : Nat) : Ok Tryz.prog 99 [num i, num k, .vp [num 0, num 0, tru false], .vp [num n, num n, .sl e (frs l)]] (frV (clearG n l i k)) := by
  refine ok_fn mixed Tryz.func99 (code := ?_) (h := h99) ?_ k99 ?_
  rotate_left
  · exact rfl
  unfold h99 initS
  simp -implicitDefEqProofs only [rkA, rkB, stepA, valA, simprocAttr, Tryz.ntmps99, Tryz.results99]
  unfold clearG
  refine gB_dec ?_ ?_ <;> intro hc <;> simp -implicitDefEqProofs only [hc, rkA, rkB, stepA, valA, simprocAttr]
  · have : i < k := by omega
    refine call_meth rfl rfl methOf (ok215 ⟨0, 0, false⟩ 0) ?_
    rw [if_pos this]
    simp -implicitDefEqProofs only [rkA, rkB, stepA, valA, simprocAttr]
  · have : ¬ i < k := by omega
    refine call_fn rfl rfl rfl (ok75 e n n i k l) ?_
    rw [if_neg this]
    simp -implicitDefEqProofs only [rkA, rkB, stepA, valA, simprocAttr]

theorem ok40 (n : Nat) (hn : 1 ≤ n ∧ n ≤ 16) (e : Bool) (l : List Fr) (h : l.length = n * n) : Ok Tryz.prog 40 [matV e n n (frs l)] (.tup [matV false n n (frs (clearF n l)), tru true]) := by
  have hr := right_sq hn h
  refine ok_fn mixed Tryz.func40 (code := ?_) (h := h40) ?_ k40 ?_
  rotate_left
  · exact rfl
  unfold h40 initS
  simp -implicitDefEqProofs only [rkA, rkB, stepA, valA, simprocAttr, Tryz.ntmps40, Tryz.results40]
  refine call_fn rfl rfl rfl (ok73 e n n l) ?_
  simp -implicitDefEqProofs only [hr, beq_self_eq_true, rkA, rkB, stepA, valA, simprocAttr]
  refine call_fn rfl rfl rfl (ok77 n hn _ _ (clearG n l) (fun i k _ _ => ok99 e n l i k)) ?_
  simp -implicitDefEqProofs only [rkA, rkB, stepA, valA, simprocAttr, clearF]

theorem ok40n (e : Bool) (r c : Int) (l : List Fr) (h : (right r c l.length && (r == c)) = false) : Ok Tryz.prog 40 [matV e r c (frs l)] (.tup [matNil, tru false]) := by
  refine ok_fn mixed Tryz.func40 (code := ?_) (h := h40) ?_ k40 ?_
  rotate_left
  · exact rfl
  unfold h40 initS
  simp -implicitDefEqProofs only [rkA, rkB, stepA, valA, simprocAttr, Tryz.ntmps40, Tryz.results40]
  have h904 := ok73 e r c l
  rw [h] at h904
  refine call_fn rfl rfl rfl (h904) ?_
  simp -implicitDefEqProofs only [rkA, rkB, stepA, valA, simprocAttr]

theorem ok110n (e : Bool) (r c : Int) (l : List Fr) (h : (right r c l.length && (r == c)) = false) : Ok Tryz.prog 110 [matV e r c (frs l)] (.tup [matNil, tru false]) := by
  refine ok_fn mixed Tryz.func110 (code := ?_) (h := h110) ?_ k110 ?_
  rotate_left
  · exact rfl
  unfold h110 initS
  simp -implicitDefEqProofs only [rkA, rkB, stepA, valA, simprocAttr, Tryz.ntmps110, Tryz.results110]
  have h904 := ok73 e r c l
  rw [h] at h904
  refine call_fn rfl rfl rfl (h904) ?_
  simp -implicitDefEqProofs only [rkA, rkB, stepA, valA, simprocAttr]

/-! ### The diagonal -/
def diagF (n : Nat) (l : List Fr) : List Fr := (List.range n).map fun (i : Nat) => atF n n l i i
theorem rowF_get {r c : Int} {l : List Fr} (hr : right r c l.length = true) {i k : Nat} (hi : i < r.toNat) (hk : k < c.toNat) : (frs (rowF r c l i))[k]? = some (frV (atF r c l i k)) := by
  have h0 := rowF_eq ⟨0, 0, false⟩ hr (i := i) hi
  have h1 := atF_eq hr (i := i) (k := k) hi hk
  rw [h0, List.getElem?_map, List.getElem?_map, List.getElem?_range hk, h1]
  rfl
theorem ok70 (n : Nat) (hn : 1 ≤ n ∧ n ≤ 16) (e : Bool) (l : List Fr) (h : l.length = n * n) : Ok Tryz.prog 70 [matV e n n (frs l)] (.sl false (frs (diagF n l))) := by
  have hr := right_sq hn h
  have hal : (diagF n l).length = n := by simp [diagF]
  refine ok_fn mixed Tryz.func70 (code := ?_) (h := h70) ?_ k70 ?_
  rotate_left
  · exact rfl
  unfold h70 initS
  simp -implicitDefEqProofs only [rkA, rkB, stepA, valA, simprocAttr, Tryz.ntmps70, Tryz.results70]
  refine call_fn rfl rfl rfl (ok98 e n n l) ?_
  simp -implicitDefEqProofs only [rkA, rkB, stepA, valA, simprocAttr]
  refine wp_rf' (items := rowsF n n l) rfl (it150 e n n l) (fun sv i s => i ≤ n ∧ s = ⟨[], [(1, [nt n, nt n, .v (.sl e (frs l))]), (3, [.acc 1003 (frs ((diagF n l).take i))])], [], [(2, 0), (1003, i)], sv, 0, nomem⟩) ?_ ?_ ?_
  · simp -implicitDefEqProofs only [rkA, rkB, stepA, valA, simprocAttr]
    exact Nat.zero_le _
  · rintro i x' s' R hx ⟨hi, rfl⟩ hR
    obtain ⟨hlt, rfl, hxi⟩ := rowsF_all hr hx
    have hlt' : i < n := by simpa using hlt
    refine ⟨rfl, ?_⟩
    have h904 := ok73 e n n l
    rw [hr, beq_self_eq_true] at h904
    simp -implicitDefEqProofs only [rkA, rkB, stepA, valA, simprocAttr]
    refine call_fn rfl rfl rfl (h904) ?_
    have h0 : (0 : Int) ≤ (i : Int) := by omega
    have hg := rowF_get hr hlt hlt
    have hfit : fits 3 24 (frs ((diagF n l).take i)) [frV (atF n n l i i)] = true := fits_frs (l := [atF n n l i i]) (by simp only [List.length_cons, List.length_nil, List.length_take]; omega)
    have hl : (frs ((diagF n l).take i)).length = i := by simp; omega
    simp -implicitDefEqProofs only [h0, Int.toNat_natCast, hg, hfit, hl, rkA, rkB, stepA, valA, simprocAttr]
    refine hR _ ⟨by omega, ?_⟩
    have hai : (diagF n l)[i]'(by omega) = atF n n l i i := by simp [diagF]
    rw [List.take_succ_eq_append_getElem (by omega), hai]
    simp only [frs, List.map_append, List.map_cons, List.map_nil]
  · rintro s' ⟨hi, rfl⟩
    simp -implicitDefEqProofs only [rkA, rkB, stepA, valA, simprocAttr]
    rw [rowsF_length hr, List.take_of_length_le (by simp [hal])]
theorem ok70n (e : Bool) (r c : Int) (l : List Fr) (h : (right r c l.length && (r == c)) = false) : Ok Tryz.prog 70 [matV e r c (frs l)] (.sl false []) := by
  refine ok_fn mixed Tryz.func70 (code := ?_) (h := h70) ?_ k70 ?_
  rotate_left
  · exact rfl
  unfold h70 initS
  simp -implicitDefEqProofs only [rkA, rkB, stepA, valA, simprocAttr, Tryz.ntmps70, Tryz.results70]
  refine call_fn rfl rfl rfl (ok98 e r c l) ?_
  simp -implicitDefEqProofs only [rkA, rkB, stepA, valA, simprocAttr]
  refine wp_rf' (items := rowsF r c l) rfl (it150 e r c l) (fun sv i s => s = ⟨[], [(1, [nt r, nt c, .v (.sl e (frs l))]), (3, [.acc 1003 []])], [], [(2, 0), (1003, 0)], sv, 0, nomem⟩) ?_ ?_ ?_
  · simp -implicitDefEqProofs only [rkA, rkB, stepA, valA, simprocAttr]
  · rintro i x' s' R hx rfl hR
    have hr : right r c l.length = true := by
      cases hr : right r c l.length with
      | true => rfl
      | false => simp [rowsF, hr] at hx
    obtain ⟨hlt, rfl, hxi⟩ := rowsF_all hr hx
    refine ⟨rfl, ?_⟩
    have h904 := ok73 e r c l
    rw [h] at h904
    simp -implicitDefEqProofs only [rkA, rkB, stepA, valA, simprocAttr]
    refine call_fn rfl rfl rfl (h904) ?_
    simp -implicitDefEqProofs only [rkA, rkB, stepA, valA, simprocAttr]
    exact hR _ rfl
  · rintro s' rfl
    simp -implicitDefEqProofs only [rkA, rkB, stepA, valA, simprocAttr]

/-! ### Is it a triangle? -/
theorem ok68 (e : Bool) (r c : Int) (l : List Fr) (K : Nat) (caps : List PV) (z : Fr → Bool) (b : Bool) (hz : ∀ x, Ok Tryz.prog K (frV x :: caps) (tru (z x)))
    (hb : b = true ↔ right r c l.length = true ∧ r = c ∧ ∀ i k : Nat, i < r.toNat → k < c.toNat → i < k → z (atF r c l i k) = true) : Ok Tryz.prog 68 [matV e r c (frs l), .fn (.func K) caps] (tru b) := by
  refine ok_fn mixed Tryz.func68 (code := ?_) (h := h68) ?_ k68 ?_
  rotate_left
  · exact rfl
  unfold h68 initS
  simp -implicitDefEqProofs only [rkA, rkB, stepA, valA, simprocAttr, Tryz.ntmps68, Tryz.results68]
  refine call_fn rfl rfl rfl (ok98 e r c l) ?_
  simp -implicitDefEqProofs only [rkA, rkB, stepA, valA, simprocAttr]
  refine wp_rf' (items := rowsF r c l) rfl (it150 e r c l) (fun sv i s => (∀ a k : Nat, a < i → k < c.toNat → a < k → z (atF r c l a k) = true) ∧ s = ⟨[], [(2, [nt r, nt c, .v (.sl e (frs l))]), (3, [.v (.fn (.func K) caps)]), (4, [.v (tru false)])], [], [], sv, 0, nomem⟩) ?_ ?_ ?_
  · simp -implicitDefEqProofs only [rkA, rkB, stepA, valA, simprocAttr]
    intro a k h
    omega
  · rintro i x' s' R hx ⟨hP, rfl⟩ hR
    have hr : right r c l.length = true := by
      cases hr : right r c l.length with
      | true => rfl
      | false => simp [rowsF, hr] at hx
    obtain ⟨r1, r2, c1, c2, hn⟩ := right_spec hr
    obtain ⟨hlt, rfl, hxi⟩ := rowsF_all hr hx
    refine ⟨rfl, ?_⟩
    have hw := wrapped (x := (i : Int) + 1) (by omega) (by omega)
    simp -implicitDefEqProofs only [hw, rkA, rkB, stepA, valA, simprocAttr]
    refine wp_loop (fun m s => ∃ k : Nat, i + 1 ≤ k ∧ k ≤ 17 ∧ c.toNat ≤ k + m ∧ (∀ q : Nat, i < q → q < k → q < c.toNat → z (atF r c l i q) = true) ∧ s = ⟨[jk, jk, .ptr 2 0, .ptr 3 0, .ptr 4 0, jk, .v (.sl false (frs (rowF r c l i))), nt k, jk, jk, jk, jk, jk, jk, jk, jk, jk, jk, jk, jk, jk, jk, jk, jk, jk, jk, jk, jk, jk],
      [(2, [nt r, nt c, .v (.sl e (frs l))]), (3, [.v (.fn (.func K) caps)]), (4, [.v (tru false)])], [], [], [[.v (matV e r c (frs l)), .v (.fn (.func K) caps), .ptr 2 0, .ptr 3 0, .ptr 4 0, jk, jk, jk, .v (.agg [num r, num c, .sl e (frs l)]), .v (.fn (.func 150) [.vp [num r, num c, .sl e (frs l)]]), jk, jk, jk, jk, jk, jk, jk, jk, jk, jk, jk, jk, jk, jk, jk, jk, jk, jk, jk]], 0, nomem⟩) c.toNat ?_ ?_
    · simp -implicitDefEqProofs only [rkA, rkB, stepA, valA, simprocAttr]
      exact ⟨i + 1, by omega, by omega, by omega, fun q h1 h2 => by omega, by simp only [Int.natCast_add, Int.natCast_one]⟩
    rintro m s ⟨k, hk, hk17, hm, hQ, rfl⟩
    simp -implicitDefEqProofs only [rkA, rkB, stepA, valA, simprocAttr]
    refine gB_dec ?_ ?_ <;> intro hc <;> simp -implicitDefEqProofs only [hc, rkA, rkB, stepA, valA, simprocAttr]
    · have hk' : k < c.toNat := by omega
      have h0 : (0 : Int) ≤ (k : Int) := by omega
      have hg := rowF_get hr hlt hk'
      simp -implicitDefEqProofs only [h0, Int.toNat_natCast, hg, rkA, rkB, stepA, valA, simprocAttr]
      refine call_fn rfl rfl rfl (hz (atF r c l i k)) ?_
      cases hzk : z (atF r c l i k) with
      | true =>
        have hw2 := wrapped (x := (k : Int) + 1) (by omega) (by omega)
        simp -implicitDefEqProofs only [hw2, rkA, rkB, stepA, valA, simprocAttr]
        refine loopK_of (m' := m - 1) (by omega) ?_
        simp -implicitDefEqProofs only [rkA, rkB, stepA, valA, simprocAttr]
        refine ⟨k + 1, by omega, by omega, by omega, fun q h1 h2 h3 => ?_, by simp only [Int.natCast_add, Int.natCast_one]⟩
        by_cases e : q = k
        · rw [e]; exact hzk
        · exact hQ q h1 (by omega) h3
      | false =>
        have hbf : b = false := by
          cases hbb : b with
          | false => rfl
          | true =>
            have := (hb.1 hbb).2.2 i k hlt hk' (by omega)
            rw [hzk] at this
            cases this
        subst hbf
        simp -implicitDefEqProofs only [rkA, rkB, stepA, valA, simprocAttr]
    · refine hR _ ⟨fun a q ha hq haq => ?_, rfl⟩
      by_cases e : a = i
      · subst e
        exact hQ q haq (by omega) hq
      · exact hP a q (by omega) hq haq
  · rintro s' ⟨hP, rfl⟩
    simp -implicitDefEqProofs only [rkA, rkB, stepA, valA, simprocAttr]
    refine call_fn rfl rfl rfl (ok73 e r c l) ?_
    have : (right r c l.length && (r == c)) = b := by
      rw [Bool.eq_iff_iff, hb, Bool.and_eq_true, beq_iff_eq]
      constructor
      · rintro ⟨h1, h2⟩
        refine ⟨h1, h2, fun a k ha hk hak => hP a k ?_ hk hak⟩
        rw [rowsF_length h1]
        exact ha
      · rintro ⟨h1, h2, _⟩
        exact ⟨h1, h2⟩
    rw [this]
    simp -implicitDefEqProofs only [rkA, rkB, stepA, valA, simprocAttr]
end Go.Proofs.YtbflmeomkfjikaaGreat.A

set_option linter.unusedVariables false
set_option linter.unusedSimpArgs false
set_option maxRecDepth 100000
namespace Go.Proofs.YtbflmeomkfjikaaGreat.A
open Go Go.RowKit Go.Shelf

/-! ### The document's answers, of whole numbers -/
def clearH (l : List Int) (n i k : Nat) : Int := if i < k then 0 else l.getD (i * n + k) 0
def clearI (l : List Int) (n : Nat) : List Int := gridP (clearH l n) n n 0
def turnH (l : List Int) (n k i : Nat) : Int := l.getD (i * n + k) 0
def turnI (l : List Int) (n : Nat) : List Int := gridP (turnH l n) n n 0
def squareI (l : List Int) (n : Nat) : List Int := mulI l (turnI l n) n n n

theorem ok18 (e : Bool) (l : List Int) (n : Nat) (hn : n ≤ 16) (hl : l.length = n * n) : Ok Tryz.prog 18 [.sl e (l.map num), num n] (.sl false ((clearI l n).map num)) := by
  refine ok_fn mixed Tryz.func18 (code := ?_) (h := h18) ?_ k18 ?_
  rotate_left
  · exact rfl
  unfold h18 initS
  simp -implicitDefEqProofs only [rkA, rkB, stepA, valA, simprocAttr, Tryz.ntmps18, Tryz.results18]
  have hlen := gridP_length (clearH l n) n
  have hbig : ∀ i k, i ≤ n → k ≤ n → i * n + k ≤ 272 := fun i k h1 h2 => by
    have : i * n ≤ 16 * 16 := Nat.mul_le_mul (by omega) (by omega)
    omega
  have s3 := side16 hn hn
  refine wp_loop (fun m s => ∃ i : Nat, i + m = n ∧ s = ⟨[.v (.sl e (l.map num)), .v (num n), jk, jk, jk, .acc 5 ((gridP (clearH l n) n i 0).map num), nt i, jk, jk, jk, jk, jk, jk, jk, jk, jk, jk, jk, jk, jk, jk, jk, jk, jk, jk, jk, jk, jk, jk, jk, jk, jk, jk, jk, jk, jk], [], [], [(4, 0), (5, (gridP (clearH l n) n i 0).length)], [], 0, nomem⟩) n ?_ ?_
  · simp -implicitDefEqProofs only [rkA, rkB, stepA, valA, simprocAttr]
    exact ⟨0, by simp, rfl⟩
  rintro m s ⟨i, hi, rfl⟩
  simp -implicitDefEqProofs only [rkA, rkB, stepA, valA, simprocAttr]
  refine gB_dec ?_ ?_ <;> intro hc <;> simp -implicitDefEqProofs only [hc, rkA, rkB, stepA, valA, simprocAttr]
  · refine wp_loop (fun m s => ∃ k : Nat, k + m = n ∧ s = ⟨[.v (.sl e (l.map num)), .v (num n), jk, jk, jk, .acc 5 ((gridP (clearH l n) n i k).map num), nt i, nt k, jk, jk, jk, jk, jk, jk, jk, jk, jk, jk, jk, jk, jk, jk, jk, jk, jk, jk, jk, jk, jk, jk, jk, jk, jk, jk, jk, jk], [], [], [(4, 0), (5, (gridP (clearH l n) n i k).length)], [], 0, nomem⟩) n ?_ ?_
    · simp -implicitDefEqProofs only [rkA, rkB, stepA, valA, simprocAttr]
      exact ⟨0, by simp, rfl⟩
    rintro m' s ⟨k, hk, rfl⟩
    simp -implicitDefEqProofs only [rkA, rkB, stepA, valA, simprocAttr]
    refine gB_dec ?_ ?_ <;> intro hc2 <;> simp -implicitDefEqProofs only [hc2, rkA, rkB, stepA, valA, simprocAttr]
    · have hl1 := hlen i k
      have hb := hbig i k (by omega) (by omega)
      have hfit : ∀ x : Int, fits 1 8 ((gridP (clearH l n) n i k).map num) [num x] = true := fun x => fits_num (l := [x]) (by simp only [List.length_cons, List.length_nil]; omega)
      have hl' : ((gridP (clearH l n) n i k).map num).length = (gridP (clearH l n) n i k).length := by simp
      have hw := wrapped (x := (k : Int) + 1) (by omega) (by omega)
      have t := at_table (i := i) (j := k) (n := n) (m := n) (by omega) (by omega)
      have c1 : (i : Int) * (n : Int) = ((i * n : Nat) : Int) := by simp
      have c3 : ((i * n : Nat) : Int) + (k : Int) = ((i * n + k : Nat) : Int) := by simp
      have w1 := wrapped (x := ((i * n : Nat) : Int)) (by omega) (by omega)
      have w3 := wrapped (x := ((i * n + k : Nat) : Int)) (by omega) (by omega)
      have g1 := at_num (a := l) (i := i * n + k) (by omega)
      have n1 : (0 : Int) ≤ ((i * n + k : Nat) : Int) := by omega
      refine gB_dec ?_ ?_ <;> intro hc3 <;> simp -implicitDefEqProofs only [hc3, hfit, hl', hw, rkA, rkB, stepA, valA, simprocAttr]
      · have e0 : clearH l n i k = 0 := if_pos (by omega)
        refine loopK_of (m' := m' - 1) (by omega) ?_
        simp -implicitDefEqProofs only [rkA, rkB, stepA, valA, simprocAttr]
        refine ⟨k + 1, by omega, ?_⟩
        rw [gridP_succ]
        simp only [e0, List.map_append, List.map_cons, List.map_nil, List.length_append, List.length_cons, List.length_nil, Int.natCast_add, Int.natCast_one]
      · have e0 : clearH l n i k = l.getD (i * n + k) 0 := if_neg (by omega)
        simp -implicitDefEqProofs only [c1, w1, c3, w3, n1, Int.toNat_natCast, g1, hfit, hl', hw, rkA, rkB, stepA, valA, simprocAttr]
        refine loopK_of (m' := m' - 1) (by omega) ?_
        simp -implicitDefEqProofs only [rkA, rkB, stepA, valA, simprocAttr]
        refine ⟨k + 1, by omega, ?_⟩
        rw [gridP_succ]
        simp only [e0, List.map_append, List.map_cons, List.map_nil, List.length_append, List.length_cons, List.length_nil, Int.natCast_add, Int.natCast_one]
    · have hkr : k = n := by omega
      have hw := wrapped (x := (i : Int) + 1) (by omega) (by omega)
      simp -implicitDefEqProofs only [hw, rkA, rkB, stepA, valA, simprocAttr]
      refine loopK_of (m' := m - 1) (by omega) ?_
      simp -implicitDefEqProofs only [rkA, rkB, stepA, valA, simprocAttr]
      refine ⟨i + 1, by omega, ?_⟩
      rw [hkr, gridP_next]
      simp only [Int.natCast_add, Int.natCast_one]
  · have : i = n := by omega
    subst this
    rfl
theorem ok72 (e : Bool) (l : List Int) (n : Nat) (hn : n ≤ 16) (hl : l.length = n * n) : Ok Tryz.prog 72 [.sl e (l.map num), num n] (.sl false ((turnI l n).map num)) := by
  refine ok_fn mixed Tryz.func72 (code := ?_) (h := h72) ?_ k72 ?_
  rotate_left
  · exact rfl
  unfold h72 initS
  simp -implicitDefEqProofs only [rkA, rkB, stepA, valA, simprocAttr, Tryz.ntmps72, Tryz.results72]
  have hlen := gridP_length (turnH l n) n
  have hbig : ∀ i k, i ≤ n → k ≤ n → i * n + k ≤ 272 := fun i k h1 h2 => by
    have : i * n ≤ 16 * 16 := Nat.mul_le_mul (by omega) (by omega)
    omega
  have s3 := side16 hn hn
  refine wp_loop (fun m s => ∃ i : Nat, i + m = n ∧ s = ⟨[.v (.sl e (l.map num)), .v (num n), jk, jk, jk, .acc 5 ((gridP (turnH l n) n i 0).map num), nt i, jk, jk, jk, jk, jk, jk, jk, jk, jk, jk, jk, jk, jk, jk, jk, jk, jk, jk, jk, jk, jk, jk, jk], [], [], [(4, 0), (5, (gridP (turnH l n) n i 0).length)], [], 0, nomem⟩) n ?_ ?_
  · simp -implicitDefEqProofs only [rkA, rkB, stepA, valA, simprocAttr]
    exact ⟨0, by simp, rfl⟩
  rintro m s ⟨i, hi, rfl⟩
  simp -implicitDefEqProofs only [rkA, rkB, stepA, valA, simprocAttr]
  refine gB_dec ?_ ?_ <;> intro hc <;> simp -implicitDefEqProofs only [hc, rkA, rkB, stepA, valA, simprocAttr]
  · refine wp_loop (fun m s => ∃ k : Nat, k + m = n ∧ s = ⟨[.v (.sl e (l.map num)), .v (num n), jk, jk, jk, .acc 5 ((gridP (turnH l n) n i k).map num), nt i, nt k, jk, jk, jk, jk, jk, jk, jk, jk, jk, jk, jk, jk, jk, jk, jk, jk, jk, jk, jk, jk, jk, jk], [], [], [(4, 0), (5, (gridP (turnH l n) n i k).length)], [], 0, nomem⟩) n ?_ ?_
    · simp -implicitDefEqProofs only [rkA, rkB, stepA, valA, simprocAttr]
      exact ⟨0, by simp, rfl⟩
    rintro m' s ⟨k, hk, rfl⟩
    simp -implicitDefEqProofs only [rkA, rkB, stepA, valA, simprocAttr]
    refine gB_dec ?_ ?_ <;> intro hc2 <;> simp -implicitDefEqProofs only [hc2, rkA, rkB, stepA, valA, simprocAttr]
    · have hl1 := hlen i k
      have hb := hbig i k (by omega) (by omega)
      have hfit : ∀ x : Int, fits 1 8 ((gridP (turnH l n) n i k).map num) [num x] = true := fun x => fits_num (l := [x]) (by simp only [List.length_cons, List.length_nil]; omega)
      have hl' : ((gridP (turnH l n) n i k).map num).length = (gridP (turnH l n) n i k).length := by simp
      have hw := wrapped (x := (k : Int) + 1) (by omega) (by omega)
      have t := at_table (i := k) (j := i) (n := n) (m := n) (by omega) (by omega)
      have c1 : (k : Int) * (n : Int) = ((k * n : Nat) : Int) := by simp
      have c3 : ((k * n : Nat) : Int) + (i : Int) = ((k * n + i : Nat) : Int) := by simp
      have w1 := wrapped (x := ((k * n : Nat) : Int)) (by omega) (by omega)
      have w3 := wrapped (x := ((k * n + i : Nat) : Int)) (by omega) (by omega)
      have g1 := at_num (a := l) (i := k * n + i) (by omega)
      have n1 : (0 : Int) ≤ ((k * n + i : Nat) : Int) := by omega
      simp -implicitDefEqProofs only [c1, w1, c3, w3, n1, Int.toNat_natCast, g1, hfit, hl', hw, rkA, rkB, stepA, valA, simprocAttr]
      refine loopK_of (m' := m' - 1) (by omega) ?_
      simp -implicitDefEqProofs only [rkA, rkB, stepA, valA, simprocAttr]
      refine ⟨k + 1, by omega, ?_⟩
      rw [gridP_succ]
      simp only [turnH, List.map_append, List.map_cons, List.map_nil, List.length_append, List.length_cons, List.length_nil, Int.natCast_add, Int.natCast_one]
    · have hkr : k = n := by omega
      have hw := wrapped (x := (i : Int) + 1) (by omega) (by omega)
      simp -implicitDefEqProofs only [hw, rkA, rkB, stepA, valA, simprocAttr]
      refine loopK_of (m' := m - 1) (by omega) ?_
      simp -implicitDefEqProofs only [rkA, rkB, stepA, valA, simprocAttr]
      refine ⟨i + 1, by omega, ?_⟩
      rw [hkr, gridP_next]
      simp only [Int.natCast_add, Int.natCast_one]
  · have : i = n := by omega
    subst this
    rfl
theorem ok16 (e : Bool) (l : List Int) (n : Int) : Ok Tryz.prog 16 [.sl e (l.map num), num n] (tru (decide (1 ≤ n ∧ n ≤ 5 ∧ (l.length : Int) = n * n) && fewB l)) := by
  refine ok_fn mixed Tryz.func16 (code := ?_) (h := h16) ?_ k16 ?_
  rotate_left
  · exact rfl
  unfold h16 initS
  simp -implicitDefEqProofs only [rkA, rkB, stepA, valA, simprocAttr, Tryz.ntmps16, Tryz.results16]
  refine gB_dec ?_ ?_ <;> intro h1 <;> simp -implicitDefEqProofs only [h1, rkA, rkB, stepA, valA, simprocAttr]
  · refine gB_dec ?_ ?_ <;> intro h2 <;> simp -implicitDefEqProofs only [h2, rkA, rkB, stepA, valA, simprocAttr]
    · have hb : 0 ≤ n * n ∧ n * n ≤ 25 := by
        obtain ⟨N, rfl⟩ := Int.eq_ofNat_of_zero_le (show 0 ≤ n by omega)
        have : N * N ≤ 5 * 5 := Nat.mul_le_mul (by omega) (by omega)
        rw [← Int.natCast_mul]
        omega
      have hw := wrapped (x := n * n) (by omega) (by omega)
      have hl : (l.map num).length = l.length := by simp
      simp -implicitDefEqProofs only [hw, hl, rkA, rkB, stepA, valA, simprocAttr]
      refine gB_bool ?_ ?_ <;> intro h3 <;> simp -implicitDefEqProofs only [h3, rkA, rkB, stepA, valA, simprocAttr]
      · have h3' : (l.length : Int) = n * n := by simpa using h3
        refine call_fn rfl rfl rfl (ok37 e l) ?_
        simp -implicitDefEqProofs only [rkA, rkB, stepA, valA, simprocAttr]
        have : 1 ≤ n ∧ n ≤ 5 ∧ (l.length : Int) = n * n := ⟨by omega, by omega, h3'⟩
        simp -implicitDefEqProofs only [this, rkA, rkB, stepA, valA, simprocAttr]
      · have h3' : ¬ (l.length : Int) = n * n := by simpa using h3
        simp -implicitDefEqProofs only [h3', rkA, rkB, stepA, valA, simprocAttr]
theorem ok69 (x : Fr) : Ok Tryz.prog 69 [frV x] (tru (x.n == 0)) := by
  refine ok_fn mixed Tryz.func69 (code := ?_) (h := h69) ?_ k69 ?_
  rotate_left
  · exact rfl
  unfold h69 initS
  simp -implicitDefEqProofs only [rkA, rkB, stepA, valA, simprocAttr, Tryz.ntmps69, Tryz.results69]

theorem small_turn {l : List Int} (h : small l) (n : Nat) : small (turnI l n) := by
  intro x hx
  rw [turnI, gridP_zero, List.mem_flatMap] at hx
  obtain ⟨i, _, hx⟩ := hx
  obtain ⟨k, _, rfl⟩ := List.mem_map.1 hx
  exact small_get h _
theorem ok20 (e : Bool) (l : List Int) (n : Nat) (hn : n ≤ 16) (hl : l.length = n * n) (hs : small l) : Ok Tryz.prog 20 [.sl e (l.map num), num n] (.sl false ((squareI l n).map num)) := by
  refine ok_fn mixed Tryz.func20 (code := ?_) (h := h20) ?_ k20 ?_
  rotate_left
  · exact rfl
  unfold h20 initS
  simp -implicitDefEqProofs only [rkA, rkB, stepA, valA, simprocAttr, Tryz.ntmps20, Tryz.results20]
  refine call_fn rfl rfl rfl (ok72 e l n hn hl) ?_
  simp -implicitDefEqProofs only [rkA, rkB, stepA, valA, simprocAttr]
  refine call_fn rfl rfl rfl (ok47 e false l (turnI l n) n n n hn hn hn hl (by rw [turnI, gridP_length, Nat.add_zero]) hs (small_turn hs n)) ?_
  simp -implicitDefEqProofs only [rkA, rkB, stepA, valA, simprocAttr, squareI]

/-! ### What the document fixes of a root -/
theorem ok17 : Ok Tryz.prog 17 [] (tru true) := by
  refine ok_fn mixed Tryz.func17 (code := ?_) (h := h17) ?_ k17 ?_
  rotate_left
  · exact rfl
  unfold h17 initS
  simp -implicitDefEqProofs only [rkA, rkB, stepA, valA, simprocAttr, Tryz.ntmps17, Tryz.results17]
  have h1 := ok19 2 2 true [4, 2, 2, 5] (by simp)
  rw [if_pos (by decide)] at h1
  refine call_fn rfl rfl rfl (h1) ?_
  have u1 : rootMat 2 ([4, 2, 2, 5].map (newF · 1)) = [2, 0, 1, 2].map (newF · 1) := by decide +kernel
  generalize hR : [4, 2, 2, 5].map (newF · 1) = R at *
  have lR : R.length = 4 := by subst hR; rfl
  simp -implicitDefEqProofs only [rkA, rkB, stepA, valA, simprocAttr]
  have h2 := ok21 2 (by omega) false R lR
  rw [u1] at h2
  refine call_fn rfl rfl rfl (h2) ?_
  simp -implicitDefEqProofs only [rkA, rkB, stepA, valA, simprocAttr]
  refine call_fn rfl rfl rfl (ok24 false true 2 2 ([2, 0, 1, 2].map (newF · 1)) [2, 0, 1, 2] (by simp) rfl) ?_
  simp -implicitDefEqProofs only [rkA, rkB, stepA, valA, simprocAttr]
  have hz : ∀ i k : Nat, i < Int.toNat 2 → k < Int.toNat 2 → i < k → ((atF 2 2 ([2, 0, 1, 2].map (newF · 1)) i k).n == 0) = true := by
    intro i k hi hk hik
    obtain ⟨rfl, rfl⟩ : i = 0 ∧ k = 1 := by omega
    decide +kernel
  refine call_fn rfl rfl rfl (ok68 false 2 2 ([2, 0, 1, 2].map (newF · 1)) _ [] (fun x => x.n == 0) true ok69 ⟨fun _ => ⟨by decide +kernel, rfl, hz⟩, fun _ => rfl⟩) ?_
  simp -implicitDefEqProofs only [rkA, rkB, stepA, valA, simprocAttr]
  refine call_fn rfl rfl rfl (ok70 2 (by omega) false ([2, 0, 1, 2].map (newF · 1)) (by simp)) ?_
  simp -implicitDefEqProofs only [rkA, rkB, stepA, valA, simprocAttr]
  have hd : (frs (diagF 2 [newF 2 1, newF 0 1, newF 1 1, newF 2 1])).length = 2 := by simp [diagF]
  have hd' : (diagF 2 [newF 2 1, newF 0 1, newF 1 1, newF 2 1]).length = 2 := by simp [diagF]
  simp only [hd', List.length_map]
  rfl
end Go.Proofs.YtbflmeomkfjikaaGreat.A

set_option linter.unusedVariables false
set_option linter.unusedSimpArgs false
set_option maxRecDepth 100000
namespace Go.Proofs.YtbflmeomkfjikaaGreat.A
open Go Go.RowKit Go.Shelf

/-! ### Plain laws of clearing -/
theorem grid_sq {g : Nat → Nat → Fr} {n : Nat} (hn : 1 ≤ n ∧ n ≤ 16) : right (n : Int) (n : Int) (gridP g n n 0).length = true := right_sq hn (by rw [gridP_length, Nat.add_zero])
theorem atF_grid {g : Nat → Nat → Fr} {n i k : Nat} (hn : 1 ≤ n ∧ n ≤ 16) (hi : i < n) (hk : k < n) : atF n n (gridP g n n 0) i k = g i k := by
  have h1 := atF_eq (grid_sq (g := g) hn) (i := i) (k := k) (by simpa using hi) (by simpa using hk)
  rw [h1, Int.toNat_natCast]
  exact grid_at hi hk
theorem clear_clear {n : Nat} (hn : 1 ≤ n ∧ n ≤ 16) (l : List Fr) : clearF n (clearF n l) = clearF n l := by
  refine gridP_congr fun i k hi hk => ?_
  unfold clearG
  by_cases h : i < k
  · rw [if_pos h, if_pos h]
  · rw [if_neg h, if_neg h, clearF, atF_grid hn hi hk, clearG, if_neg h]
theorem diag_clear {n : Nat} (hn : 1 ≤ n ∧ n ≤ 16) (l : List Fr) : diagF n (clearF n l) = diagF n l := by
  refine List.map_congr_left fun i hi => ?_
  have hi' := List.mem_range.1 hi
  rw [clearF, atF_grid hn hi' hi', clearG, if_neg (by omega)]

/-! ### The function TriClears -/
theorem five {n : Int} {m : Nat} (h : 1 ≤ n ∧ n ≤ 5 ∧ (m : Int) = n * n) : ∃ N : Nat, n = N ∧ 1 ≤ N ∧ N ≤ 5 ∧ m = N * N := by
  obtain ⟨N, rfl⟩ := Int.eq_ofNat_of_zero_le (show 0 ≤ n by omega)
  refine ⟨N, rfl, by omega, by omega, ?_⟩
  have := h.2.2
  rw [← Int.natCast_mul] at this
  omega
end Go.Proofs.YtbflmeomkfjikaaGreat.A

set_option linter.unusedVariables false
set_option linter.unusedSimpArgs false
set_option maxRecDepth 100000
namespace Go.Proofs.YtbflmeomkfjikaaGreat.A
open Go Go.RowKit Go.Shelf

/-! ### Plain laws of squares -/
theorem squareI_at {l : List Int} {n i k : Nat} (hi : i < n) (hk : k < n) : (squareI l n).getD (i * n + k) 0 = ((List.range n).map fun j => l.getD (i * n + j) 0 * l.getD (k * n + j) 0).sum := by
  unfold squareI mulI
  rw [grid_getD hi hk, dotI_sum]
  refine sum_congr fun j hj => ?_
  rw [turnI, grid_getD hj hk, turnH]
theorem squareI_len (l : List Int) (n : Nat) : (squareI l n).length = n * n := mulI_length _ _ _ _ _
theorem squareI_mir (l : List Int) (n : Nat) : mirI (squareI l n) n n n 0 = squareI l n := by
  have e : mirI (squareI l n) n n n 0 = gridP (fun i k => (squareI l n).getD (max i k * n + min i k) 0) n n 0 := if_pos rfl
  have e2 : squareI l n = gridP (fun i k => (squareI l n).getD (i * n + k) 0) n n 0 := by
    conv => lhs; unfold squareI mulI
    refine gridP_congr fun i k hi hk => ?_
    unfold squareI mulI
    rw [grid_getD hi hk]
  rw [e]
  conv => rhs; rw [e2]
  refine gridP_congr fun i k hi hk => ?_
  rw [squareI_at (by omega) (by omega), squareI_at hi hk]
  rcases Nat.le_total i k with h | h
  · rw [Nat.max_eq_right h, Nat.min_eq_left h]
    exact sum_congr fun j _ => Int.mul_comm _ _
  · rw [Nat.max_eq_left h, Nat.min_eq_right h]
theorem sq_whole {l : List Int} {n : Nat} (hn : 1 ≤ n ∧ n ≤ 16) (hl : l.length = n * n) (hs : small l) : sqF n (l.map (newF · 1)) = (squareI l n).map (newF · 1) := by
  have hr := right_nat (n := l.length) hn hn hl
  have ht : (turnI l n).length = n * n := by rw [turnI, gridP_length, Nat.add_zero]
  unfold sqF
  rw [turI_eq hn hn hl, show turI l n n n 0 = turnI l n from rfl, prodF_whole hr (right_nat hn hn ht) hs (small_turn hs n)]
  simp only [Int.toNat_natCast]
  have := mirI_eq (a := squareI l n) hn hn (squareI_len l n) rfl
  rw [squareI_mir] at this
  exact this
theorem squareI_bnd {l : List Int} {n : Nat} (hn : n ≤ 16) (hs : small l) : bnd 160000 (squareI l n) := by
  have := mulI_bnd (small_bnd hs) (small_bnd (small_turn hs n)) n n n
  intro x hx
  have := this x hx
  have h2 : n * (100 * 100) ≤ 16 * (100 * 100) := Nat.mul_le_mul_right _ hn
  omega
theorem sqF_len' (n : Nat) (l : List Fr) : (sqF n l).length = n * n := by rw [sqF, mirF, gridP_length]; simp
theorem sqF_mir {n : Nat} (hn : 1 ≤ n ∧ n ≤ 16) (l : List Fr) : mirF n (sqF n l) = sqF n l := by
  unfold sqF
  generalize prodF n n n l (turnF n n l) = p
  conv => lhs; unfold mirF
  conv => rhs; unfold mirF
  simp only [Int.toNat_natCast]
  refine gridP_congr fun i k hi hk => ?_
  rw [atF_grid hn (by omega) (by omega)]
  congr 1 <;> omega
theorem sqF_turn {n : Nat} (hn : 1 ≤ n ∧ n ≤ 16) (l : List Fr) : turnF n n (sqF n l) = sqF n l := by
  rw [turnF_eq (right_sq hn (sqF_len' n l))]
  unfold sqF
  generalize prodF n n n l (turnF n n l) = p
  conv => rhs; unfold mirF
  simp only [Int.toNat_natCast]
  refine gridP_congr fun i k hi hk => ?_
  unfold mirF
  simp only [Int.toNat_natCast]
  rw [atF_grid hn hk hi]
  congr 1 <;> omega
theorem diag_dot {n : Nat} (hn : 1 ≤ n ∧ n ≤ 16) {l : List Fr} (hl : l.length = n * n) {i : Nat} (hi : i < n) : atF n n (sqF n l) i i = dotF (rowF n n l i) (rowF n n l i) := by
  have hr := right_sq hn hl
  have lt : (turnF n n l).length = n * n := turnF_len hn hn hl
  have lp : (prodF n n n l (turnF n n l)).length = n * n := by rw [prodF_len]; simp
  unfold sqF
  unfold mirF
  simp only [Int.toNat_natCast]
  rw [atF_grid hn hi hi, Nat.max_self, Nat.min_self, atF_eq (right_sq hn lp) (by simpa using hi) (by simpa using hi), Int.toNat_natCast, show (⟨0, 0, false⟩ : Fr) = dz from rfl, prodF_grid hn hn hn hl lt, grid_at hi hi,
    rowF_eq dz hr (by simpa using hi), Int.toNat_natCast]
  congr 1
  refine List.map_congr_left fun j hj => ?_
  exact turn_at hn hn hl hi (List.mem_range.1 hj)
theorem sum_sq (f : Nat → Int) : ∀ n, 0 ≤ ((List.range n).map fun j => f j * f j).sum
  | 0 => by simp
  | n + 1 => by
    have h := sum_sq f n
    have h2 : 0 ≤ f n * f n := by
      rcases Int.le_total 0 (f n) with h | h
      · exact Int.mul_nonneg h h
      · have := Int.mul_nonneg (show 0 ≤ - f n by omega) (show 0 ≤ - f n by omega)
        rwa [Int.neg_mul_neg] at this
    simp only [List.range_succ, List.map_append, List.sum_append, List.map_cons, List.map_nil, List.sum_cons, List.sum_nil]
    omega
theorem sign_up {x : Int} (h0 : 0 ≤ x) (h1 : x ≤ 160000) : ¬ signF (newF x 1) < 0 := by
  have hf : few x := ⟨by omega, by omega⟩
  rw [newF_whole hf]
  unfold signF
  rw [if_neg (by rw [fine_whole hf]; simp)]
  simp only [whole]
  split
  · omega
  · rw [if_neg (by omega)]
    omega
theorem diag_sign {n : Nat} (hn : 1 ≤ n ∧ n ≤ 16) {l : List Int} (hl : l.length = n * n) (hs : small l) {i : Nat} (hi : i < n) : ¬ signF (atF n n (sqF n (l.map (newF · 1))) i i) < 0 := by
  rw [sq_whole hn hl hs]
  have hb := at_table (i := i) (j := i) (n := n) (m := n) hi hi
  have h := squareI_len l n
  rw [atF_eq (right_sq hn (by rw [List.length_map, h])) (by simpa using hi) (by simpa using hi), Int.toNat_natCast, getD_newF (by omega)]
  have e := squareI_at (l := l) hi hi
  have h0 := sum_sq (fun j => l.getD (i * n + j) 0) n
  have h1 := bnd_get (squareI_bnd hn.2 hs) (i * n + i)
  rw [← e] at h0
  exact sign_up h0 (by omega)
end Go.Proofs.YtbflmeomkfjikaaGreat.A

set_option linter.unusedVariables false
set_option linter.unusedSimpArgs false
set_option maxRecDepth 100000
namespace Go.Proofs.YtbflmeomkfjikaaGreat.A
open Go Go.RowKit Go.Shelf

/-! ### What a root is, entry by entry -/
theorem rootI_is {n : Int} (h0 : 0 ≤ n) (h : ¬ rootI n < 0) : rootI n * rootI n = n := by
  unfold rootI at h ⊢
  split at h
  · rename_i e
    rw [if_pos e, ← Int.natCast_mul, e]
    omega
  · omega
theorem rootF_is {a : Fr} (h : (rootF a).bad = false) : a.fine = true ∧ (rootF a).fine = true ∧ (rootF a).val * (rootF a).val = a.val := by
  unfold rootF at h ⊢
  split at h
  · cases h
  · rename_i e
    rw [if_neg e]
    have hf : a.fine = true := by cases hf : a.fine with | true => rfl | false => exact absurd (.inl hf) e
    have h1 : ¬ a.n < 0 := fun h => e (.inr (.inl h))
    have h2 : ¬ rootI a.n < 0 := fun h => e (.inr (.inr (.inl h)))
    have h3 : ¬ rootI a.d < 0 := fun h => e (.inr (.inr (.inr h)))
    obtain ⟨f1, f2, f3⟩ := newF_fine h
    have hd := (Fr.fine_spec hf).2.1
    have r1 := rootI_is (by omega) h2
    have r2 := rootI_is (by omega) h3
    refine ⟨hf, f1, ?_⟩
    rw [f2]
    unfold Fr.val
    generalize rootI a.n = r at *
    generalize rootI a.d = t at *
    rw [← r1, ← r2]
    have ht : (t : Rat) ≠ 0 := cast_ne f3
    rw [Rat.intCast_mul, Rat.intCast_mul]
    grind
theorem take_rowM (n : Nat) (M : Nat → Nat → Fr) (i k : Nat) (hk : k ≤ n) : (rowM n M i).take k = (List.range k).map (M i) := by
  rw [rowM, ← List.map_take, List.take_range, Nat.min_eq_left hk]
theorem leftM_congr {n : Nat} {p : List Fr} {M N : Nat → Nat → Fr} {i k : Nat} (hk : k ≤ n) (h : ∀ j, j < k → M i j = N i j ∧ M k j = N k j) : leftM n p M i k = leftM n p N i k := by
  unfold leftM
  rw [take_rowM n M i k hk, take_rowM n M k k hk, take_rowM n N i k hk, take_rowM n N k k hk]
  congr 2
  · exact List.map_congr_left fun j hj => (h j (List.mem_range.1 hj)).1
  · exact List.map_congr_left fun j hj => (h j (List.mem_range.1 hj)).2
theorem colS_other (n : Nat) (p : List Fr) (k : Nat) (M : Nat → Nat → Fr) : ∀ (j a b : Nat), b ≠ k ∨ a < k → colS n p k M j a b = M a b
  | 0, a, b, h => by
    simp only [colS, stepD, setM]
    rw [if_neg (by omega)]
  | j + 1, a, b, h => by
    simp only [colS, setM]
    rw [if_neg (by omega)]
    exact colS_other n p k M j a b h
theorem colS_diag (n : Nat) (p : List Fr) (k : Nat) (M : Nat → Nat → Fr) : ∀ j, colS n p k M j k k = rootF (leftM n p M k k)
  | 0 => by
    simp only [colS, stepD, setM]
    rw [if_pos (by simp)]
  | j + 1 => by
    simp only [colS, setM]
    rw [if_neg (by rintro ⟨h, _⟩; omega)]
    exact colS_diag n p k M j
theorem colS_low (n : Nat) (p : List Fr) (k : Nat) (M : Nat → Nat → Fr) (hk : k ≤ n) : ∀ (j t : Nat), t < j → colS n p k M j (k + 1 + t) k = divF (leftM n p M (k + 1 + t) k) (rootF (leftM n p M k k))
  | 0, t, h => by omega
  | j + 1, t, h => by
    simp only [colS, setM]
    by_cases e : t = j
    · subst e
      rw [if_pos (by simp), colS_diag]
      congr 1
      exact leftM_congr hk fun q hq => ⟨colS_other n p k M t _ _ (.inl (by omega)), colS_other n p k M t _ _ (.inl (by omega))⟩
    · rw [if_neg (by omega)]
      exact colS_low n p k M hk j t (by omega)
theorem rootS_out (n : Nat) (p : List Fr) : ∀ (k a b : Nat), k ≤ b → rootS n p k a b = newF 0 1
  | 0, a, b, h => rfl
  | k + 1, a, b, h => by
    rw [rootS, colS_other n p k _ _ _ _ (.inl (by omega))]
    exact rootS_out n p k a b (by omega)
theorem rootS_keep (n : Nat) (p : List Fr) : ∀ (k a b : Nat), b < k → rootS n p k a b = rootS n p (b + 1) a b
  | 0, a, b, h => by omega
  | k + 1, a, b, h => by
    by_cases e : b = k
    · rw [e]
    · rw [rootS, colS_other n p k _ _ _ _ (.inl (by omega))]
      exact rootS_keep n p k a b (by omega)
theorem rootS_left {n : Nat} {p : List Fr} {i k : Nat} (hk : k ≤ n) : leftM n p (rootS n p k) i k = leftM n p (rootS n p n) i k :=
  leftM_congr hk fun j hj => ⟨(rootS_keep n p k i j hj).trans (rootS_keep n p n i j (by omega)).symm, (rootS_keep n p k k j hj).trans (rootS_keep n p n k j (by omega)).symm⟩
theorem root_up {n : Nat} {p : List Fr} {i k : Nat} (h : i < k) (hk : k < n) : rootS n p n i k = newF 0 1 := by
  rw [rootS_keep n p n i k hk, rootS, colS_other n p k _ _ _ _ (.inr h)]
  exact rootS_out n p k i k (Nat.le_refl _)
theorem root_diag {n : Nat} {p : List Fr} {k : Nat} (hk : k < n) : rootS n p n k k = rootF (leftM n p (rootS n p n) k k) := by
  rw [rootS_keep n p n k k hk, rootS, colS_diag, rootS_left (by omega)]
theorem root_low {n : Nat} {p : List Fr} {i k : Nat} (h : k < i) (hi : i < n) : rootS n p n i k = divF (leftM n p (rootS n p n) i k) (rootS n p n k k) := by
  rw [rootS_keep n p n i k (by omega), rootS]
  have := colS_low n p k (rootS n p k) (by omega) (n - (k + 1)) (i - (k + 1)) (by omega)
  rw [show k + 1 + (i - (k + 1)) = i by omega] at this
  rw [this, rootS_left (by omega), rootS_left (by omega), ← root_diag (by omega)]

theorem sumR_tail (f : Nat → Rat) {k n : Nat} (hk : k ≤ n) (h : ∀ j, k ≤ j → j < n → f j = 0) : sumR n f = sumR k f := by
  induction n with
  | zero => rw [show k = 0 by omega]
  | succ n ih =>
    by_cases e : k = n + 1
    · rw [e]
    · rw [sumR, ih (by omega) (fun j h1 h2 => h j h1 (by omega)), h n (by omega) (by omega)]
      grind
theorem zero_val : (newF 0 1).val = 0 := by
  have := (whole_is (n := 0) (by unfold few; omega)).2
  rw [this]
  rfl
/-- Where nothing is Bad, the root's square is the square. -/
theorem root_sq {n : Nat} (hn : 1 ≤ n ∧ n ≤ 16) {p : List Fr} (hl : p.length = n * n) (hm : mirF n p = p) (hp : ∀ i k, i < n → k < n → (p.getD (i * n + k) dz).fine = true)
    (hb : ∀ x ∈ sqF n (rootMat n p), x.bad = false) : sqF n (rootMat n p) = p := by
  have hL : (rootMat n p).length = n * n := by rw [rootMat, gridP_length, Nat.add_zero]
  have lt := turnF_len hn hn hL
  have lp : (prodF n n n (rootMat n p) (turnF n n (rootMat n p))).length = n * n := by rw [prodF_len]; simp
  have hat : ∀ i k, i < n → k < n → (rootMat n p).getD (i * n + k) dz = rootS n p n i k := fun i k hi hk => grid_at hi hk
  have hq : ∀ i k, i < n → k < n → k ≤ i → (sqF n (rootMat n p)).getD (i * n + k) dz = dotF ((List.range n).map (rootS n p n i)) ((List.range n).map (rootS n p n k)) := fun i k hi hk hki => by
    unfold sqF
    rw [mir_at hn lp hi hk, Nat.max_eq_left hki, Nat.min_eq_right hki, prodF_grid hn hn hn hL lt, grid_at hi hk]
    congr 1
    · exact List.map_congr_left fun j hj => hat i j hi (List.mem_range.1 hj)
    · exact List.map_congr_left fun j hj => (turn_at hn hn hL hk (List.mem_range.1 hj)).trans (hat k j hk (List.mem_range.1 hj))
  have hlq := sqF_len' n (rootMat n p)
  have hnb : ∀ i k, i < n → k < n → ((sqF n (rootMat n p)).getD (i * n + k) dz).bad = false := fun i k hi hk => by
    have ht := at_table (i := i) (j := k) (n := n) (m := n) hi hk
    have hlt : i * n + k < (sqF n (rootMat n p)).length := by omega
    refine hb _ ?_
    rw [List.getD_eq_getElem?_getD, List.getElem?_eq_getElem hlt, Option.getD_some]
    exact List.getElem_mem hlt
  have hfine : ∀ i k, i < n → k < n → (rootS n p n i k).fine = true := fun i k hi hk => by
    have h := hnb i i hi hi
    rw [hq i i hi hi (Nat.le_refl _)] at h
    exact ((dot_is _ _ n h).1 k hk).1
  have hpa : ∀ i k, i < n → k < n → atF n n p i k = p.getD (i * n + k) dz := fun i k hi hk => by
    rw [atF_eq (right_sq hn hl) (by simpa using hi) (by simpa using hk), Int.toNat_natCast]
  have hval : ∀ i k, i < n → k ≤ i → (p.getD (i * n + k) dz).val = sumR n fun j => (rootS n p n i j).val * (rootS n p n k j).val := fun i k hi hki => by
    have hk : k < n := by omega
    have hz : ∀ j, k + 1 ≤ j → j < n → (rootS n p n i j).val * (rootS n p n k j).val = 0 := fun j h1 h2 => by
      rw [root_up (p := p) (i := k) (k := j) (by omega) h2, zero_val]
      grind
    rw [sumR_tail _ (by omega) hz]
    have hleft : (leftM n p (rootS n p n) i k).fine = true ∧ (leftM n p (rootS n p n) i k).val = (rootS n p n i k).val * (rootS n p n k k).val := by
      by_cases e : k = i
      · subst e
        have h1 := root_diag (p := p) hk
        have h2 := hfine k k hk hk
        rw [h1] at h2
        obtain ⟨g1, g2, g3⟩ := rootF_is (fine_bad h2)
        refine ⟨g1, ?_⟩
        rw [← g3, ← h1]
      · have h1 := root_low (p := p) (i := i) (k := k) (by omega) hi
        have h2 := hfine i k hi hk
        rw [h1] at h2
        obtain ⟨g1, g2, g3, g4⟩ := divF_is (fine_bad h2)
        refine ⟨g1, ?_⟩
        rw [h1, g4.2]
        grind
    have hl2 := hleft.1
    have e2 : leftM n p (rootS n p n) i k = subF (p.getD (i * n + k) dz) (dotF ((List.range k).map (rootS n p n i)) ((List.range k).map (rootS n p n k))) := by
      unfold leftM
      rw [take_rowM _ _ _ _ (by omega), take_rowM _ _ _ _ (by omega), hpa i k hi hk]
    rw [e2] at hl2
    obtain ⟨s1, s2, s3⟩ := subF_is (fine_bad hl2)
    have d := dot_is _ _ k (fine_bad s2)
    have v1 := hleft.2
    rw [e2, s3.2, d.2.2] at v1
    rw [sumR]
    grind
  have hsame : ∀ i k, i < n → k ≤ i → (sqF n (rootMat n p)).getD (i * n + k) dz = p.getD (i * n + k) dz := fun i k hi hki => by
    have hk : k < n := by omega
    have h := hnb i k hi hk
    rw [hq i k hi hk hki] at h ⊢
    have d := (dot_is _ _ n h).2
    exact fine_inj d.1 (hp i k hi hk) (d.2.trans (hval i k hi hki).symm)
  have hqm := sqF_mir hn (rootMat n p)
  generalize sqF n (rootMat n p) = q at hqm hsame hlq ⊢
  rw [← hqm]
  conv => rhs; rw [← hm]
  unfold mirF
  simp only [Int.toNat_natCast]
  refine gridP_congr fun i k hi hk => ?_
  have c1 := atF_eq (right_sq hn hlq) (i := max i k) (k := min i k) (by simp; omega) (by simp; omega)
  rw [Int.toNat_natCast] at c1
  rw [c1, hpa _ _ (by omega) (by omega)]
  exact hsame _ _ (by omega) (by omega)
end Go.Proofs.YtbflmeomkfjikaaGreat.A

set_option linter.unusedVariables false
set_option linter.unusedSimpArgs false
set_option maxRecDepth 100000
namespace Go.Proofs.YtbflmeomkfjikaaGreat.A.E
open Go Go.RowKit Go.Shelf

theorem take_rowM (n : Nat) (M : Nat → Nat → Fr) (i k : Nat) (hk : k ≤ n) : (rowM n M i).take k = (List.range k).map (M i) := by
  rw [rowM, ← List.map_take, List.take_range, Nat.min_eq_left hk]
theorem leftM_congr {n : Nat} {p : List Fr} {M N : Nat → Nat → Fr} {i k : Nat} (hk : k ≤ n) (h : ∀ j, j < k → M i j = N i j ∧ M k j = N k j) : leftM n p M i k = leftM n p N i k := by
  unfold leftM
  rw [take_rowM n M i k hk, take_rowM n M k k hk, take_rowM n N i k hk, take_rowM n N k k hk]
  congr 2
  · exact List.map_congr_left fun j hj => (h j (List.mem_range.1 hj)).1
  · exact List.map_congr_left fun j hj => (h j (List.mem_range.1 hj)).2
theorem colS_other (n : Nat) (p : List Fr) (k : Nat) (M : Nat → Nat → Fr) : ∀ (j a b : Nat), b ≠ k ∨ a < k → colS n p k M j a b = M a b
  | 0, a, b, h => by
    simp only [colS, stepD, setM]
    rw [if_neg (by omega)]
  | j + 1, a, b, h => by
    simp only [colS, setM]
    rw [if_neg (by omega)]
    exact colS_other n p k M j a b h
theorem colS_diag (n : Nat) (p : List Fr) (k : Nat) (M : Nat → Nat → Fr) : ∀ j, colS n p k M j k k = rootF (leftM n p M k k)
  | 0 => by
    simp only [colS, stepD, setM]
    rw [if_pos (by simp)]
  | j + 1 => by
    simp only [colS, setM]
    rw [if_neg (by rintro ⟨h, _⟩; omega)]
    exact colS_diag n p k M j
theorem colS_low (n : Nat) (p : List Fr) (k : Nat) (M : Nat → Nat → Fr) (hk : k ≤ n) : ∀ (j t : Nat), t < j → colS n p k M j (k + 1 + t) k = divF (leftM n p M (k + 1 + t) k) (rootF (leftM n p M k k))
  | 0, t, h => by omega
  | j + 1, t, h => by
    simp only [colS, setM]
    by_cases e : t = j
    · subst e
      rw [if_pos (by simp), colS_diag]
      congr 1
      exact leftM_congr hk fun q hq => ⟨colS_other n p k M t _ _ (.inl (by omega)), colS_other n p k M t _ _ (.inl (by omega))⟩
    · rw [if_neg (by omega)]
      exact colS_low n p k M hk j t (by omega)
theorem rootS_out (n : Nat) (p : List Fr) : ∀ (k a b : Nat), k ≤ b → rootS n p k a b = newF 0 1
  | 0, a, b, h => rfl
  | k + 1, a, b, h => by
    rw [rootS, colS_other n p k _ _ _ _ (.inl (by omega))]
    exact rootS_out n p k a b (by omega)
theorem rootS_keep (n : Nat) (p : List Fr) : ∀ (k a b : Nat), b < k → rootS n p k a b = rootS n p (b + 1) a b
  | 0, a, b, h => by omega
  | k + 1, a, b, h => by
    by_cases e : b = k
    · rw [e]
    · rw [rootS, colS_other n p k _ _ _ _ (.inl (by omega))]
      exact rootS_keep n p k a b (by omega)
theorem rootS_left {n : Nat} {p : List Fr} {i k : Nat} (hk : k ≤ n) : leftM n p (rootS n p k) i k = leftM n p (rootS n p n) i k :=
  leftM_congr hk fun j hj => ⟨(rootS_keep n p k i j hj).trans (rootS_keep n p n i j (by omega)).symm, (rootS_keep n p k k j hj).trans (rootS_keep n p n k j (by omega)).symm⟩
theorem root_up {n : Nat} {p : List Fr} {i k : Nat} (h : i < k) (hk : k < n) : rootS n p n i k = newF 0 1 := by
  rw [rootS_keep n p n i k hk, rootS, colS_other n p k _ _ _ _ (.inr h)]
  exact rootS_out n p k i k (Nat.le_refl _)
theorem root_diag {n : Nat} {p : List Fr} {k : Nat} (hk : k < n) : rootS n p n k k = rootF (leftM n p (rootS n p n) k k) := by
  rw [rootS_keep n p n k k hk, rootS, colS_diag, rootS_left (by omega)]
theorem root_low {n : Nat} {p : List Fr} {i k : Nat} (h : k < i) (hi : i < n) : rootS n p n i k = divF (leftM n p (rootS n p n) i k) (rootS n p n k k) := by
  rw [rootS_keep n p n i k (by omega), rootS]
  have := colS_low n p k (rootS n p k) (by omega) (n - (k + 1)) (i - (k + 1)) (by omega)
  rw [show k + 1 + (i - (k + 1)) = i by omega] at this
  rw [this, rootS_left (by omega), rootS_left (by omega), ← root_diag (by omega)]

end Go.Proofs.YtbflmeomkfjikaaGreat.A.E


set_option linter.unusedVariables false
set_option linter.unusedSimpArgs false
set_option maxRecDepth 100000
namespace Go.Proofs.YtbflmeomkfjikaaGreat.A
open Go Go.RowKit Go.Shelf

/-! ### Nothing's triangles -/
theorem ok40_nil : Ok Tryz.prog 40 [matNil] (.tup [matNil, tru false]) := (ok40n false 0 0 [] (by decide)).args fun I vs h => Cs.mat_nil h fun us h => h
theorem ok110_nil : Ok Tryz.prog 110 [matNil] (.tup [matNil, tru false]) := (ok110n false 0 0 [] (by decide)).args fun I vs h => Cs.mat_nil h fun us h => h
theorem ok70_nil : Ok Tryz.prog 70 [matNil] (.sl false []) := (ok70n false 0 0 [] (by decide)).args fun I vs h => Cs.mat_nil h fun us h => h
theorem ok68n (e : Bool) (r c : Int) (l : List Fr) (K : Nat) (caps : List PV) (hz : ∀ x, Ok Tryz.prog K (frV x :: caps) (tru true)) (h : ¬ (right r c l.length = true ∧ r = c)) : Ok Tryz.prog 68 [matV e r c (frs l), .fn (.func K) caps] (tru false) :=
  ok68 e r c l K caps (fun _ => true) false hz ⟨fun h => (by cases h), fun h' => absurd ⟨h'.1, h'.2.1⟩ h⟩
theorem ok68_nil (K : Nat) (caps : List PV) (hz : ∀ x, Ok Tryz.prog K (frV x :: caps) (tru true)) : Ok Tryz.prog 68 [matNil, .fn (.func K) caps] (tru false) := (ok68n false 0 0 [] K caps hz (fun h => by simp [right] at h)).args fun I vs h => Cs.mat_nil h fun us h => h

/-! ### Plain laws of clearing, of whole numbers -/
theorem atF_whole {l : List Int} {n i k : Nat} (hn : 1 ≤ n ∧ n ≤ 16) (hl : l.length = n * n) (hi : i < n) (hk : k < n) : atF n n (l.map (newF · 1)) i k = newF (l.getD (i * n + k) 0) 1 := by
  have hb := at_table (i := i) (j := k) (n := n) (m := n) hi hk
  rw [atF_eq (right_sq hn (by rw [List.length_map, hl])) (by simpa using hi) (by simpa using hk), Int.toNat_natCast, getD_newF (by omega)]
theorem clear_whole {l : List Int} {n : Nat} (hn : 1 ≤ n ∧ n ≤ 16) (hl : l.length = n * n) : clearF n (l.map (newF · 1)) = (clearI l n).map (newF · 1) := by
  unfold clearF clearI
  rw [gridP_map]
  refine gridP_congr fun i k hi hk => ?_
  unfold clearG clearH
  by_cases h : i < k
  · rw [if_pos h, if_pos h]
  · rw [if_neg h, if_neg h, atF_whole hn hl hi hk]
theorem whole_zero {x : Int} (h : -100 ≤ x ∧ x ≤ 100) : ((newF x 1).n == 0) = decide (x = 0) := by
  rw [newF_whole ⟨by omega, by omega⟩]
  simp only [whole]
  by_cases h : x = 0 <;> simp [h]

/-! ### The function TriTells -/
end Go.Proofs.YtbflmeomkfjikaaGreat.A

set_option linter.unusedVariables false
set_option linter.unusedSimpArgs false
set_option maxRecDepth 100000
namespace Go.Proofs.YtbflmeomkfjikaaGreat.A
open Go Go.RowKit Go.Shelf

/-! ### Sums of whole numbers -/
def sumZ : Nat → (Nat → Int) → Int
  | 0, _ => 0
  | n + 1, f => sumZ n f + f n
theorem sumZ_congr {f g : Nat → Int} : ∀ {n : Nat}, (∀ j, j < n → f j = g j) → sumZ n f = sumZ n g
  | 0, _ => rfl
  | n + 1, h => by rw [sumZ, sumZ, sumZ_congr fun j hj => h j (by omega), h n (by omega)]
theorem sumZ_list (f : Nat → Int) : ∀ n, ((List.range n).map f).sum = sumZ n f
  | 0 => rfl
  | n + 1 => by rw [List.range_succ, List.map_append, List.sum_append, sumZ_list f n, sumZ]; simp
theorem sumZ_tail {f : Nat → Int} {k n : Nat} (hk : k ≤ n) (h : ∀ j, k ≤ j → j < n → f j = 0) : sumZ n f = sumZ k f := by
  induction n with
  | zero => rw [show k = 0 by omega]
  | succ n ih =>
    by_cases e : k = n + 1
    · rw [e]
    · rw [sumZ, ih (by omega) (fun j h1 h2 => h j h1 (by omega)), h n (by omega) (by omega), Int.add_zero]
theorem sumZ_bnd {f : Nat → Int} {B : Int} (hB : 0 ≤ B) (hf : ∀ j, -B ≤ f j ∧ f j ≤ B) : ∀ n : Nat, -((n : Int) * B) ≤ sumZ n f ∧ sumZ n f ≤ (n : Int) * B
  | 0 => by simp [sumZ]
  | n + 1 => by
    have h := sumZ_bnd hB hf n
    have h2 := hf n
    have e : ((n + 1 : Nat) : Int) * B = (n : Int) * B + B := by rw [Int.natCast_add, Int.add_mul]; simp
    rw [sumZ, e]
    omega
theorem sumZ_cast (f : Nat → Int) : ∀ n, ((sumZ n f : Int) : Rat) = sumR n fun j => (f j : Rat)
  | 0 => rfl
  | n + 1 => by rw [sumZ, Rat.intCast_add, sumZ_cast f n, sumR]
/-- The dot of whole numbers. -/
theorem dot_whole {f g : Nat → Int} (hf : ∀ j, -100 ≤ f j ∧ f j ≤ 100) (hg : ∀ j, -100 ≤ g j ∧ g j ≤ 100) {n : Nat} (hn : n ≤ 16) :
    dotF ((List.range n).map fun j => newF (f j) 1) ((List.range n).map fun j => newF (g j) 1) = newF (sumZ n fun j => f j * g j) 1 := by
  have hb : ∀ j, -10000 ≤ f j * g j ∧ f j * g j ≤ 10000 := fun j => prod_small (hf j) (hg j)
  have hs : ∀ j, j ≤ 16 → few (sumZ j fun j => f j * g j) := fun j hj => by
    have := sumZ_bnd (B := 10000) (by omega) hb j
    unfold few
    omega
  unfold dotF
  rw [newF_whole (hs n hn), List.zipWith_map, List.zipWith_self]
  have e : ∀ j, mulF (newF (f j) 1) (newF (g j) 1) = whole (f j * g j) := fun j => by
    have h3 := hb j
    rw [newF_whole (few_small (hf j)), newF_whole (few_small (hg j)), mulF_whole (few_small (hf j)) (few_small (hg j)) (by unfold few; omega)]
  simp only [e]
  exact sumF_whole (fun j => f j * g j) (fun j => sumZ j fun j => f j * g j) rfl (fun j => rfl) n (fun j _ => by have := hb j; unfold few; omega) (fun j hj => hs j (by omega)) n (Nat.le_refl _)

/-! ### Roots of squares of whole triangles -/
theorem rootI_sq {s : Int} (h : 0 ≤ s ∧ s ≤ 100) : rootI (s * s) = s := by
  obtain ⟨S, rfl⟩ : ∃ S : Nat, s = S := ⟨s.toNat, by omega⟩
  have e : ((S : Int) * S).toNat = S * S := by rw [← Int.natCast_mul, Int.toNat_natCast]
  have hs : S < 2 ^ 16 := by omega
  unfold rootI
  rw [e, rtB_sq hs, if_pos rfl]
theorem root_whole {s : Int} (h : 0 ≤ s ∧ s ≤ 100) : rootF (newF (s * s) 1) = newF s 1 := by
  have hb : 0 ≤ s * s ∧ s * s ≤ 10000 := ⟨Int.mul_nonneg h.1 h.1, (prod_small ⟨by omega, h.2⟩ ⟨by omega, h.2⟩).2⟩
  have hf : few (s * s) := by unfold few; omega
  rw [newF_whole hf]
  unfold rootF
  have r1 := rootI_sq h
  have r2 : rootI 1 = 1 := by decide +kernel
  simp only [fine_whole hf]
  show (if true = false ∨ s * s < 0 ∨ rootI (s * s) < 0 ∨ rootI 1 < 0 then Fr.wrong else newF (rootI (s * s)) (rootI 1)) = _
  rw [r1, r2, if_neg (by rintro (h1 | h1 | h1 | h1) <;> first | cases h1 | omega)]
theorem div_whole {a b : Int} (ha : -100 ≤ a ∧ a ≤ 100) (hb : 1 ≤ b ∧ b ≤ 100) : divF (newF (a * b) 1) (newF b 1) = newF a 1 := by
  have hp := prod_small (x := a) (y := b) ha ⟨by omega, hb.2⟩
  have f1 : few (a * b) := by unfold few; omega
  have f2 : few b := by unfold few; omega
  have f3 : few a := by unfold few; omega
  rw [newF_whole f1, newF_whole f2]
  unfold divF
  rw [fine_whole f1, fine_whole f2, if_neg (by simp)]
  simp only [whole]
  rw [Int.mul_one, Int.one_mul]
  have h1 : newF (a * b) b = newF a 1 := by
    have hb0 : b ≠ 0 := by omega
    have i1 : Is (newF (a * b) b) (a : Rat) := by
      have hg : Int.gcd (a * b) b = b.natAbs := by
        show Nat.gcd (a * b).natAbs b.natAbs = _
        rw [Int.natAbs_mul]
        exact Nat.gcd_eq_right (Nat.dvd_mul_left _ _)
      have hq : (newF (a * b) b).bad = false := by
        unfold newF
        rw [if_neg (by omega)]
        simp only [show ¬ b < 0 by omega, if_false, hg]
        have e1 : ((b.natAbs : Nat) : Int) = b := by omega
        rw [e1, Int.mul_tdiv_cancel _ hb0, Int.tdiv_self hb0, if_neg (by omega)]
      obtain ⟨g1, g2, g3⟩ := newF_fine hq
      refine ⟨g1, g2.trans ?_⟩
      have := cast_ne hb0
      rw [Rat.intCast_mul]
      grind
    exact i1.inj (whole_is f3)
  exact h1
section
variable {n : Nat} {L : Nat → Nat → Int}
/-- A lower triangle of small whole numbers, its diagonal above 0. -/
structure LowTri (n : Nat) (L : Nat → Nat → Int) : Prop where
  small : ∀ i k, -100 ≤ L i k ∧ L i k ≤ 100
  zero : ∀ i k, i < k → k < n → L i k = 0
  diag : ∀ k, k < n → 1 ≤ L k k
theorem LowTri.sum (h : LowTri n L) {i k : Nat} (hk : k < n) (hki : k ≤ i) : sumZ n (fun j => L i j * L k j) = sumZ k (fun j => L i j * L k j) + L i k * L k k := by
  have : sumZ n (fun j => L i j * L k j) = sumZ (k + 1) (fun j => L i j * L k j) := sumZ_tail (by omega) fun j h1 h2 => by rw [h.zero k j (by omega) h2, Int.mul_zero]
  rw [this, sumZ]
theorem LowTri.left (hn : 1 ≤ n ∧ n ≤ 16) (h : LowTri n L) {p : List Fr} (hp : ∀ i k, i < n → k < n → atF n n p i k = newF (sumZ n fun j => L i j * L k j) 1) {S : Nat → Nat → Fr} {i k : Nat} (hk : k < n) (hki : k ≤ i) (hi : i < n)
    (hS : ∀ j, j < k → S i j = newF (L i j) 1 ∧ S k j = newF (L k j) 1) : leftM n p S i k = newF (L i k * L k k) 1 := by
  unfold leftM
  rw [take_rowM n S i k (by omega), take_rowM n S k k (by omega), hp i k hi hk, h.sum hk hki]
  have e1 : (List.range k).map (S i) = (List.range k).map fun j => newF (L i j) 1 := List.map_congr_left fun j hj => (hS j (List.mem_range.1 hj)).1
  have e2 : (List.range k).map (S k) = (List.range k).map fun j => newF (L k j) 1 := List.map_congr_left fun j hj => (hS j (List.mem_range.1 hj)).2
  rw [e1, e2, dot_whole (h.small i) (h.small k) (by omega)]
  have hb : ∀ j, -10000 ≤ L i j * L k j ∧ L i j * L k j ≤ 10000 := fun j => prod_small (h.small i j) (h.small k j)
  have hs := sumZ_bnd (B := 10000) (by omega) hb k
  have hk' := hb k
  generalize sumZ k (fun j => L i j * L k j) = s at *
  rw [newF_whole (n := s + L i k * L k k) (by unfold few; omega), newF_whole (n := s) (by unfold few; omega), subF_whole (by unfold few; omega) (by unfold few; omega) (by unfold few; omega), newF_whole (by unfold few; omega)]
  congr 1
  omega
theorem LowTri.root (hn : 1 ≤ n ∧ n ≤ 16) (h : LowTri n L) {p : List Fr} (hp : ∀ i k, i < n → k < n → atF n n p i k = newF (sumZ n fun j => L i j * L k j) 1) : ∀ k i, k < n → i < n → rootS n p n i k = newF (L i k) 1 := by
  intro k
  induction k using Nat.strongRecOn with
  | ind k ih =>
    intro i hk hi
    have hdiag : rootS n p n k k = newF (L k k) 1 := by
      rw [root_diag hk, LowTri.left hn h hp hk (Nat.le_refl _) hk (fun j hj => ⟨ih j hj k (by omega) hk, ih j hj k (by omega) hk⟩)]
      exact root_whole ⟨by have := h.diag k hk; omega, (h.small k k).2⟩
    rcases Nat.lt_trichotomy i k with h1 | h1 | h1
    · rw [root_up h1 hk, h.zero i k h1 hk]
    · rw [h1]; exact hdiag
    · rw [root_low h1 hi, hdiag, LowTri.left hn h hp hk (by omega) hi (fun j hj => ⟨ih j hj i (by omega) hi, ih j hj k (by omega) hk⟩)]
      exact div_whole (h.small i k) ⟨h.diag k hk, (h.small k k).2⟩
end
end Go.Proofs.YtbflmeomkfjikaaGreat.A

set_option linter.unusedVariables false
set_option linter.unusedSimpArgs false
set_option maxRecDepth 100000
namespace Go.Proofs.YtbflmeomkfjikaaGreat.A.E
open Go Go.RowKit Go.Shelf

/-! ### Roots of squares of whole triangles, enclosed -/
section
variable {n : Nat} {L : Nat → Nat → Int}
theorem few_h {x : Int} (h : -100 ≤ x ∧ x ≤ 100) : few x := by unfold few; omega
theorem low_left (hn : 1 ≤ n ∧ n ≤ 16) (h : LowTri n L) {p : List Fr} (hp : ∀ i k, i < n → k < n → atF n n p i k = newF (sumZ n fun j => L i j * L k j) 1) {S : Nat → Nat → Fr} {i k : Nat} (hk : k < n) (hki : k ≤ i) (hi : i < n)
    (hS : ∀ j, j < k → Rq (S i j) (L i j : Rat) ∧ Rq (S k j) (L k j : Rat)) : Rq (leftM n p S i k) ((L i k : Rat) * (L k k : Rat)) := by
  unfold leftM
  rw [take_rowM n S i k (by omega), take_rowM n S k k (by omega), hp i k hi hk, h.sum hk hki]
  have hb : ∀ j, -10000 ≤ L i j * L k j ∧ L i j * L k j ≤ 10000 := fun j => prod_small (h.small i j) (h.small k j)
  have hs := sumZ_bnd (B := 10000) (by omega) hb k
  have hk' := hb k
  have hw := Rq.whole (n := sumZ k (fun j => L i j * L k j) + L i k * L k k) (by unfold few; omega)
  have hd : Rq (dotF ((List.range k).map (S i)) ((List.range k).map (S k))) (sumR k fun j => (L i j : Rat) * (L k j : Rat)) := Rq.dot (fun j hj => (hS j hj).1) (fun j hj => (hS j hj).2)
  have := hw.sub hd
  have e : ((sumZ k (fun j => L i j * L k j) + L i k * L k k : Int) : Rat) - (sumR k fun j => (L i j : Rat) * (L k j : Rat)) = (L i k : Rat) * (L k k : Rat) := by
    rw [Rat.intCast_add, sumZ_cast, Rat.intCast_mul]
    simp only [Rat.intCast_mul]
    grind
  rw [e] at this
  exact this
theorem low_root (hn : 1 ≤ n ∧ n ≤ 16) (h : LowTri n L) {p : List Fr} (hp : ∀ i k, i < n → k < n → atF n n p i k = newF (sumZ n fun j => L i j * L k j) 1) : ∀ k i, k < n → i < n → Rq (rootS n p n i k) (L i k : Rat) := by
  intro k
  induction k using Nat.strongRecOn with
  | ind k ih =>
    intro i hk hi
    have hdg := h.diag k hk
    have hdiag : Rq (rootS n p n k k) (L k k : Rat) := by
      rw [root_diag hk]
      exact Rq.root (low_left hn h hp hk (Nat.le_refl _) hk (fun j hj => ⟨ih j hj k (by omega) hk, ih j hj k (by omega) hk⟩)) (by
        have : ((0 : Int) : Rat) ≤ (L k k : Rat) := Rat.intCast_le_intCast.2 (by omega)
        simpa using this) rfl
    rcases Nat.lt_trichotomy i k with h1 | h1 | h1
    · rw [root_up h1 hk, h.zero i k h1 hk]
      exact Rq.zero
    · rw [h1]; exact hdiag
    · rw [root_low h1 hi]
      have := (low_left hn h hp hk (by omega) hi (fun j hj => ⟨ih j hj i (by omega) hi, ih j hj k (by omega) hk⟩)).div hdiag
      have hne : (L k k : Rat) ≠ 0 := A.cast_ne (by omega)
      have e : (L i k : Rat) * (L k k : Rat) / (L k k : Rat) = (L i k : Rat) := by grind
      rw [e] at this
      exact this
end
theorem encl_int {x : Fr} {n : Int} (h : Enc x (n : Rat)) (hn : -1000000 ≤ n ∧ n ≤ 1000000) : enclB x n 1 = true := by
  obtain ⟨hf, h1, h2⟩ := h
  unfold enclB
  have hr : rightW n = true := by unfold rightW; rw [decide_eq_true_eq]; omega
  have hr1 : rightW 1 = true := by decide
  have e : (n : Rat) * 16777216 = ((n * 16777216 : Int) : Rat) := by rw [Rat.intCast_mul]; rfl
  rw [e] at h1 h2
  have i1 := Rat.intCast_le_intCast.1 h1
  have i2 := Rat.intCast_le_intCast.1 h2
  rw [hf, hr, hr1, cmpF_is, cmpF_is]
  simp only [Int.mul_one, Bool.true_and, Bool.and_eq_true, decide_eq_true_eq]
  refine ⟨by omega, ?_, ?_⟩
  · split
    · omega
    · rw [if_neg (by omega)]; omega
  · split
    · omega
    · rw [if_neg (by omega)]; omega
theorem root_snd (a : Fr) : SndE (rootF a) := fun h => by
  have hb := h
  unfold rootF at hb
  obtain ⟨k1, k2, k3, k4, k5⟩ := made_is hb
  obtain ⟨_, _, _, q1, q2⟩ := fine_is.1 k1
  have p1 := k4 (a.lo, a.lo) (by simp)
  have p2 := k4 (a.hi, a.hi) (by simp)
  unfold rootF
  refine (made_enc (w := ((rtX a.lo 1).1 : Rat) / 16777216) hb (fun x y m hh => (by obtain ⟨r, R, e1, _, e3, _⟩ := rt_spec hh; rw [e1]; exact e3)) ⟨(a.lo, a.lo), by simp, ?_⟩ ⟨(a.hi, a.hi), by simp, ?_⟩
    ⟨(a.lo, a.lo), by simp, rt_lohi p1.1 k3 q1⟩ ⟨(a.hi, a.hi), by simp, rt_hilo k3 p2.2 q2⟩).1
  · grind
  · have e : ((rtX a.lo 1).1 : Rat) / 16777216 * 16777216 = ((rtX a.lo 1).1 : Rat) := by grind
    rw [e]
    exact Rat.intCast_le_intCast.2 (Int.le_trans (rt_lohi p1.1 k3 q1) (rt_hilo k3 p2.2 q2))
theorem point0_fine : (newF 0 1).fine = true := (whole_enc (n := 0) (by unfold few; omega)).1
end Go.Proofs.YtbflmeomkfjikaaGreat.A.E

set_option linter.unusedVariables false
set_option linter.unusedSimpArgs false
set_option maxRecDepth 100000
namespace Go.Proofs.YtbflmeomkfjikaaGreat.A.E
open Go Go.RowKit Go.Shelf

abbrev dz : Fr := ⟨0, 0, 0, false⟩
theorem list_range {l : List Fr} {n : Nat} (h : l.length = n) : l = (List.range n).map fun j => l.getD j dz := by
  apply List.ext_getElem
  · simp [h]
  · intro j h1 h2
    simp [h1]
theorem prodF_grid {R M K : Nat} {a b : List Fr} (hR : 1 ≤ R ∧ R ≤ 16) (hM : 1 ≤ M ∧ M ≤ 16) (hK : 1 ≤ K ∧ K ≤ 16) (la : a.length = R * M) (lb : b.length = M * K) :
    prodF R M K a b = gridP (fun i k => dotF ((List.range M).map fun j => a.getD (i * M + j) dz) ((List.range M).map fun j => b.getD (j * K + k) dz)) K R 0 := by
  have h1 := right_nat (n := a.length) hR hM la
  have h2 := right_nat (n := b.length) hM hK lb
  have h3 := right_turn h2
  unfold prodF allF
  rw [gridP_zero, List.flatMap_map, Int.toNat_natCast, Int.toNat_natCast]
  apply flatMap_same
  intro i hi
  rw [List.mem_range] at hi
  rw [List.map_map]
  apply List.map_congr_left
  intro k hk
  rw [List.mem_range] at hk
  simp only [Function.comp]
  rw [rowF_eq dz h1 (by simpa using hi), rowF_eq dz h3 (by simpa using hk), Int.toNat_natCast]
  congr 1
  apply List.map_congr_left
  intro j hj
  rw [List.mem_range] at hj
  rw [turnF_eq h2, Int.toNat_natCast, Int.toNat_natCast, List.getD_eq_getElem?_getD, gridP_get _ _ _ _ _ hk hj, Option.getD_some, atF_eq h2 (by simpa using hj) (by simpa using hk), Int.toNat_natCast]
theorem grid_at {g : Nat → Nat → Fr} {n N i k : Nat} (hi : i < N) (hk : k < n) : (gridP g n N 0).getD (i * n + k) dz = g i k := by
  rw [List.getD_eq_getElem?_getD, gridP_get _ _ _ _ _ hi hk, Option.getD_some]
theorem turn_at {R K : Nat} {l : List Fr} (hR : 1 ≤ R ∧ R ≤ 16) (hK : 1 ≤ K ∧ K ≤ 16) (hl : l.length = R * K) {i k : Nat} (hi : i < R) (hk : k < K) : (turnF R K l).getD (k * R + i) dz = l.getD (i * K + k) dz := by
  have h := right_nat (n := l.length) hR hK hl
  rw [turnF_eq h, Int.toNat_natCast, Int.toNat_natCast, grid_at hk hi, atF_eq h (by simpa using hi) (by simpa using hk), Int.toNat_natCast]
theorem turnF_len {R K : Nat} {l : List Fr} (hR : 1 ≤ R ∧ R ≤ 16) (hK : 1 ≤ K ∧ K ≤ 16) (hl : l.length = R * K) : (turnF R K l).length = K * R := by
  rw [turnF_length (right_nat hR hK hl)]; simp
theorem mir_at {n : Nat} {l : List Fr} (hn : 1 ≤ n ∧ n ≤ 16) (hl : l.length = n * n) {i k : Nat} (hi : i < n) (hk : k < n) : (mirF n l).getD (i * n + k) dz = l.getD (max i k * n + min i k) dz := by
  have h := right_nat (n := l.length) hn hn hl
  rw [mirF, Int.toNat_natCast, grid_at hi hk, atF_eq h (by simp; omega) (by simp; omega), Int.toNat_natCast]
theorem zip_at {f : Fr → Fr → Fr} {a b : List Fr} {j : Nat} (ha : j < a.length) (hb : j < b.length) : (List.zipWith f a b).getD j dz = f (a.getD j dz) (b.getD j dz) := by
  rw [List.getD_eq_getElem?_getD, List.getElem?_zipWith]
  simp [List.getElem?_eq_getElem ha, List.getElem?_eq_getElem hb]
theorem map_at {f : Fr → Fr} {a : List Fr} {j : Nat} (ha : j < a.length) : (a.map f).getD j dz = f (a.getD j dz) := by
  simp [List.getElem?_eq_getElem ha]
theorem apply_at {n : Nat} {l v : List Fr} (hn : 1 ≤ n ∧ n ≤ 16) (hl : l.length = n * n) {i : Nat} (hi : i < n) : (applyF n n l v).getD i dz = dotF ((List.range n).map fun j => l.getD (i * n + j) dz) v := by
  have h := right_nat (n := l.length) hn hn hl
  unfold applyF allF
  rw [List.map_map, Int.toNat_natCast]
  simp [hi]
  rw [rowF_eq dz h (by simpa using hi), Int.toNat_natCast]
  simp
end Go.Proofs.YtbflmeomkfjikaaGreat.A.E

set_option linter.unusedVariables false
set_option linter.unusedSimpArgs false
set_option maxRecDepth 100000
namespace Go.Proofs.YtbflmeomkfjikaaGreat.A.E
open Go Go.RowKit Go.Shelf

theorem rowF_get {r c : Int} {l : List Fr} (hr : right r c l.length = true) {i k : Nat} (hi : i < r.toNat) (hk : k < c.toNat) : (frs (rowF r c l i))[k]? = some (frV (atF r c l i k)) := by
  have h0 := rowF_eq ⟨0, 0, 0, false⟩ hr (i := i) hi
  have h1 := atF_eq hr (i := i) (k := k) hi hk
  rw [h0, List.getElem?_map, List.getElem?_map, List.getElem?_range hk, h1]
  rfl
theorem slice_to {l : List Fr} {ex : Bool} {k : Nat} (h : k ≤ l.length) : sliceA 4 (frs l) ex none (some k) none = some (.sl (exA none ex k (frs l).length) (frs (l.take k))) := by
  unfold sliceA
  have hc : ((frs l).all fun e => e.cells.length == 4) = true := by simp [PV.cells]
  simp only [Option.getD_some, Option.getD_none]
  rw [if_pos ⟨by omega, by simpa using h, by simp, hc⟩]
  simp [List.map_take]
def solveP (n : Nat) (l b : List Fr) : Nat → List Fr
  | 0 => []
  | i + 1 => solveP n l b i ++ [divF (subF (b.getD i ⟨0, 0, 0, false⟩) (dotF ((rowF n n l i).take i) (solveP n l b i))) (atF n n l i i)]
theorem solveP_len (n : Nat) (l b : List Fr) : ∀ i, (solveP n l b i).length = i
  | 0 => rfl
  | i + 1 => by rw [solveP, List.length_append, solveP_len n l b i]; rfl
theorem ok42n (e eb : Bool) (r c : Int) (l b : List Fr) (h : ¬ (right r c l.length = true ∧ r = c ∧ (b.length : Int) = r)) : Ok Tryz.prog 42 [matV e r c (frs l), .sl eb (frs b)] (.tup [.sl false [], tru false]) := by
  refine ok_fn mixed Tryz.func42 (code := ?_) (h := h42) ?_ k42 ?_
  rotate_left
  · exact rfl
  unfold h42 initS
  simp -implicitDefEqProofs only [rkA, rkB, stepA, valA, simprocAttr, Tryz.ntmps42, Tryz.results42]
  refine call_fn rfl rfl rfl (ok79 e r c l) ?_
  have lb : (frs b).length = b.length := by simp
  cases hq : (right r c l.length && (r == c)) with
  | false => simp -implicitDefEqProofs only [rkA, rkB, stepA, valA, simprocAttr]
  | true =>
    rw [Bool.and_eq_true, beq_iff_eq] at hq
    have hne : ((b.length : Int) != r) = true := by
      have : ¬ (b.length : Int) = r := fun e => h ⟨hq.1, hq.2, e⟩
      simpa using this
    simp -implicitDefEqProofs only [lb, hne, rkA, rkB, stepA, valA, simprocAttr]
theorem ok42 (e eb : Bool) (n : Nat) (hn : 1 ≤ n ∧ n ≤ 16) (l b : List Fr) (h : l.length = n * n) (hb : b.length = n) : Ok Tryz.prog 42 [matV e n n (frs l), .sl eb (frs b)] (.tup [.sl false (frs (solveP n l b n)), tru true]) := by
  have hr := right_sq hn h
  have lb : (frs b).length = n := by simp [hb]
  refine ok_fn mixed Tryz.func42 (code := ?_) (h := h42) ?_ k42 ?_
  rotate_left
  · exact rfl
  unfold h42 initS
  simp -implicitDefEqProofs only [rkA, rkB, stepA, valA, simprocAttr, Tryz.ntmps42, Tryz.results42]
  refine call_fn rfl rfl rfl (ok79 e n n l) ?_
  simp -implicitDefEqProofs only [hr, beq_self_eq_true, lb, bne_self_eq_false, rkA, rkB, stepA, valA, simprocAttr]
  refine call_fn rfl rfl rfl (ok90 e n n l) ?_
  simp -implicitDefEqProofs only [rkA, rkB, stepA, valA, simprocAttr]
  refine wp_rf' (items := rowsF n n l) rfl (it142 e n n l) (fun sv i s => i ≤ n ∧ s = ⟨[], [(2, [nt n, nt n, .v (.sl e (frs l))]), (3, [.v (.sl eb (frs b))]), (6, [.acc 1006 (frs (solveP n l b i))])], [], [(4, 0), (1006, i)], sv, 0, nomem⟩) ?_ ?_ ?_
  · simp -implicitDefEqProofs only [rkA, rkB, stepA, valA, simprocAttr]
    exact ⟨Nat.zero_le _, rfl⟩
  · rintro i x' s' R hx ⟨hi, rfl⟩ hR
    obtain ⟨hlt, rfl, hxi⟩ := rowsF_all hr hx
    have hlt' : i < n := by simpa using hlt
    refine ⟨rfl, ?_⟩
    have h0 : (0 : Int) ≤ (i : Int) := by omega
    have hg : (frs b)[i]? = some (frV (b.getD i ⟨0, 0, 0, false⟩)) := by
      have : i < b.length := by omega
      simp [this]
    have hrl := rowF_len hr hlt
    rw [Int.toNat_natCast] at hrl
    have hs := slice_to (l := rowF n n l i) (ex := false) (k := i) (by omega)
    have hgr := rowF_get hr hlt hlt
    have lS := solveP_len n l b i
    simp -implicitDefEqProofs only [h0, Int.toNat_natCast, hg, hs, rkA, rkB, stepA, valA, simprocAttr]
    refine call_fn rfl rfl rfl (ok81 false false ((rowF n n l i).take i) (solveP n l b i) (by rw [List.length_take]; omega) (by omega)) ?_
    simp -implicitDefEqProofs only [rkA, rkB, stepA, valA, simprocAttr]
    refine call_meth rfl rfl methSub (ok97 _ _) ?_
    simp -implicitDefEqProofs only [h0, Int.toNat_natCast, hgr, rkA, rkB, stepA, valA, simprocAttr]
    refine call_meth rfl rfl methDiv (ok228 _ _) ?_
    have hfit : fits 4 32 (frs (solveP n l b i)) [frV (divF (subF (b.getD i ⟨0, 0, 0, false⟩) (dotF ((rowF n n l i).take i) (solveP n l b i))) (atF n n l i i))] = true := fits_frs (l := [_]) (by simp only [List.length_cons, List.length_nil]; omega)
    have hlS : (frs (solveP n l b i)).length = i := by simp [lS]
    simp -implicitDefEqProofs only [hfit, hlS, rkA, rkB, stepA, valA, simprocAttr]
    refine hR _ ⟨by omega, ?_⟩
    rw [solveP]
    simp only [frs, List.map_append, List.map_cons, List.map_nil]
  · rintro s' ⟨hi, rfl⟩
    simp -implicitDefEqProofs only [rkA, rkB, stepA, valA, simprocAttr]
    rw [rowsF_length hr, Int.toNat_natCast]
end Go.Proofs.YtbflmeomkfjikaaGreat.A.E

set_option linter.unusedVariables false
set_option linter.unusedSimpArgs false
set_option maxRecDepth 100000
namespace Go.Proofs.YtbflmeomkfjikaaGreat.A
open Go Go.RowKit Go.Shelf

/-! ### What a triangle times it is a row -/
def solveP (n : Nat) (l b : List Fr) : Nat → List Fr
  | 0 => []
  | i + 1 => solveP n l b i ++ [divF (subF (b.getD i ⟨0, 0, false⟩) (dotF ((rowF n n l i).take i) (solveP n l b i))) (atF n n l i i)]
theorem solveP_len (n : Nat) (l b : List Fr) : ∀ i, (solveP n l b i).length = i
  | 0 => rfl
  | i + 1 => by rw [solveP, List.length_append, solveP_len n l b i]; rfl
theorem ok38n (e eb : Bool) (r c : Int) (l b : List Fr) (h : ¬ (right r c l.length = true ∧ r = c ∧ (b.length : Int) = r)) : Ok Tryz.prog 38 [matV e r c (frs l), .sl eb (frs b)] (.tup [.sl false [], tru false]) := by
  refine ok_fn mixed Tryz.func38 (code := ?_) (h := h38) ?_ k38 ?_
  rotate_left
  · exact rfl
  unfold h38 initS
  simp -implicitDefEqProofs only [rkA, rkB, stepA, valA, simprocAttr, Tryz.ntmps38, Tryz.results38]
  refine call_fn rfl rfl rfl (ok73 e r c l) ?_
  have lb : (frs b).length = b.length := by simp
  cases hq : (right r c l.length && (r == c)) with
  | false => simp -implicitDefEqProofs only [rkA, rkB, stepA, valA, simprocAttr]
  | true =>
    rw [Bool.and_eq_true, beq_iff_eq] at hq
    have hne : ((b.length : Int) != r) = true := by
      have : ¬ (b.length : Int) = r := fun e => h ⟨hq.1, hq.2, e⟩
      simpa using this
    simp -implicitDefEqProofs only [lb, hne, rkA, rkB, stepA, valA, simprocAttr]
theorem ok38 (e eb : Bool) (n : Nat) (hn : 1 ≤ n ∧ n ≤ 16) (l b : List Fr) (h : l.length = n * n) (hb : b.length = n) : Ok Tryz.prog 38 [matV e n n (frs l), .sl eb (frs b)] (.tup [.sl false (frs (solveP n l b n)), tru true]) := by
  have hr := right_sq hn h
  have lb : (frs b).length = n := by simp [hb]
  refine ok_fn mixed Tryz.func38 (code := ?_) (h := h38) ?_ k38 ?_
  rotate_left
  · exact rfl
  unfold h38 initS
  simp -implicitDefEqProofs only [rkA, rkB, stepA, valA, simprocAttr, Tryz.ntmps38, Tryz.results38]
  refine call_fn rfl rfl rfl (ok73 e n n l) ?_
  simp -implicitDefEqProofs only [hr, beq_self_eq_true, lb, bne_self_eq_false, rkA, rkB, stepA, valA, simprocAttr]
  refine call_fn rfl rfl rfl (ok98 e n n l) ?_
  simp -implicitDefEqProofs only [rkA, rkB, stepA, valA, simprocAttr]
  refine wp_rf' (items := rowsF n n l) rfl (it150 e n n l) (fun sv i s => i ≤ n ∧ s = ⟨[], [(2, [nt n, nt n, .v (.sl e (frs l))]), (3, [.v (.sl eb (frs b))]), (6, [.acc 1006 (frs (solveP n l b i))])], [], [(4, 0), (1006, i)], sv, 0, nomem⟩) ?_ ?_ ?_
  · simp -implicitDefEqProofs only [rkA, rkB, stepA, valA, simprocAttr]
    exact ⟨Nat.zero_le _, rfl⟩
  · rintro i x' s' R hx ⟨hi, rfl⟩ hR
    obtain ⟨hlt, rfl, hxi⟩ := rowsF_all hr hx
    have hlt' : i < n := by simpa using hlt
    refine ⟨rfl, ?_⟩
    have h0 : (0 : Int) ≤ (i : Int) := by omega
    have hg : (frs b)[i]? = some (frV (b.getD i ⟨0, 0, false⟩)) := by
      have : i < b.length := by omega
      simp [this]
    have hrl := rowF_len hr hlt
    rw [Int.toNat_natCast] at hrl
    have hs := slice_to (l := rowF n n l i) (ex := false) (k := i) (by omega)
    have hgr := rowF_get hr hlt hlt
    have lS := solveP_len n l b i
    simp -implicitDefEqProofs only [h0, Int.toNat_natCast, hg, hs, rkA, rkB, stepA, valA, simprocAttr]
    refine call_fn rfl rfl rfl (ok76 false false ((rowF n n l i).take i) (solveP n l b i) (by rw [List.length_take]; omega) (by omega)) ?_
    simp -implicitDefEqProofs only [rkA, rkB, stepA, valA, simprocAttr]
    refine call_meth rfl rfl methSub (ok218 _ _) ?_
    simp -implicitDefEqProofs only [h0, Int.toNat_natCast, hgr, rkA, rkB, stepA, valA, simprocAttr]
    refine call_meth rfl rfl methDiv (ok211 _ _) ?_
    have hfit : fits 3 24 (frs (solveP n l b i)) [frV (divF (subF (b.getD i ⟨0, 0, false⟩) (dotF ((rowF n n l i).take i) (solveP n l b i))) (atF n n l i i))] = true := fits_frs (l := [_]) (by simp only [List.length_cons, List.length_nil]; omega)
    have hlS : (frs (solveP n l b i)).length = i := by simp [lS]
    simp -implicitDefEqProofs only [hfit, hlS, rkA, rkB, stepA, valA, simprocAttr]
    refine hR _ ⟨by omega, ?_⟩
    rw [solveP]
    simp only [frs, List.map_append, List.map_cons, List.map_nil]
  · rintro s' ⟨hi, rfl⟩
    simp -implicitDefEqProofs only [rkA, rkB, stepA, valA, simprocAttr]
    rw [rowsF_length hr, Int.toNat_natCast]
end Go.Proofs.YtbflmeomkfjikaaGreat.A

set_option linter.unusedVariables false
set_option linter.unusedSimpArgs false
set_option maxRecDepth 100000
namespace Go.Proofs.YtbflmeomkfjikaaGreat.A.E
open Go Go.RowKit Go.Shelf

/-! ### What is solved: enclosed beside fractions -/
theorem divF_snd (a b : Fr) : SndE (divF a b) := fun h => by
  have hf : a.fine = true ∧ b.fine = true := by
    unfold divF at h
    split at h
    · cases h
    · exact ⟨(made_is h).1, (made_is h).2.1⟩
  exact (divF_enc (fun _ => self_enc hf.1) (fun _ => self_enc hf.2) h).1
theorem divA_snd (a b : A.Fr) : SndA (A.divF a b) := fun h => (A.divF_is h).2.2.2.1
theorem solve_rl {l b : List Fr} {l' b' : List A.Fr} (hl : RL l l') (hb : RL b b') (n : Nat) : ∀ i, RL (solveP n l b i) (A.solveP n l' b' i)
  | 0 => RL.nil
  | i + 1 => RL.append (solve_rl hl hb n i) (RL.cons (((hb.2 i).sub (dot_rl (RL.take (row_rl hl _ _ _) _) (solve_rl hl hb n i))).div (at_rl hl _ _ _ _)) RL.nil)
theorem solve_snd (n : Nat) (l b : List Fr) : ∀ i, ∀ x ∈ solveP n l b i, SndE x
  | 0, x, h => by cases h
  | i + 1, x, h => by
    rw [solveP, List.mem_append] at h
    rcases h with h | h
    · exact solve_snd n l b i x h
    · rw [List.mem_singleton] at h
      subst h
      exact divF_snd _ _
theorem solveA_snd (n : Nat) (l b : List A.Fr) : ∀ i, ∀ x ∈ A.solveP n l b i, SndA x
  | 0, x, h => by cases h
  | i + 1, x, h => by
    rw [A.solveP, List.mem_append] at h
    rcases h with h | h
    · exact solveA_snd n l b i x h
    · rw [List.mem_singleton] at h
      subst h
      exact divA_snd _ _
end Go.Proofs.YtbflmeomkfjikaaGreat.A.E


set_option linter.unusedVariables false
set_option linter.unusedSimpArgs false
set_option maxRecDepth 100000
namespace Go.Proofs.YtbflmeomkfjikaaGreat.A.E
open Go Go.RowKit Go.Shelf

/-! ### The function TriRoots -/
theorem clear_small {l : List Int} (h : small l) (n : Nat) : small (clearI l n) := by
  intro x hx
  rw [clearI, gridP_zero, List.mem_flatMap] at hx
  obtain ⟨i, _, hx⟩ := hx
  obtain ⟨k, _, rfl⟩ := List.mem_map.1 hx
  unfold clearH
  split
  · omega
  · exact small_get h _
theorem clear_low {l : List Int} (h : small l) {n : Nat} (hd : ∀ k, k < n → 1 ≤ (clearI l n).getD (k * n + k) 0) : LowTri n (clearH l n) where
  small := fun i k => by
    unfold clearH
    split
    · omega
    · exact small_get h _
  zero := fun i k h1 h2 => if_pos h1
  diag := fun k hk => by
    have := hd k hk
    rwa [clearI, grid_getD hk hk] at this
theorem clear_sq {l : List Int} {n i k : Nat} (hi : i < n) (hk : k < n) : (squareI (clearI l n) n).getD (i * n + k) 0 = sumZ n fun j => clearH l n i j * clearH l n k j := by
  rw [squareI_at hi hk, sumZ_list]
  exact sumZ_congr fun j hj => by rw [clearI, grid_getD hi hj, grid_getD hk hj]
theorem clear_len (l : List Int) (n : Nat) : (clearI l n).length = n * n := by rw [clearI, gridP_length, Nat.add_zero]
theorem rootS_snd {n : Nat} {p : List Fr} {i k : Nat} (hi : i < n) (hk : k < n) : SndE (rootS n p n i k) := by
  rcases Nat.lt_trichotomy i k with h1 | h1 | h1
  · rw [root_up h1 hk]; exact fun _ => point0_fine
  · subst h1; rw [root_diag hi]; exact root_snd _
  · rw [root_low h1 hi]; exact divF_snd _ _
set_option maxHeartbeats 4000000 in
theorem ok3 (e : Bool) (l : List Int) (n : Int) : Ok Tryz.prog 3 [.sl e (l.map num), num n] (tru true) := by
  refine ok_fn mixed Tryz.func3 (code := ?_) (h := h3) ?_ k3 ?_
  rotate_left
  · exact rfl
  unfold h3 initS
  simp -implicitDefEqProofs (maxSteps := 10000000) only [rkA, rkB, stepA, valA, simprocAttr, Tryz.ntmps3, Tryz.results3]
  have out : True := trivial
  by_cases hn : 1 ≤ n ∧ n ≤ 5
  · have h1 : ¬ n < 1 := by omega
    have h2 : ¬ n > 5 := by omega
    simp -implicitDefEqProofs (maxSteps := 10000000) only [h1, h2, rkA, rkB, stepA, valA, simprocAttr]
    refine call_fn rfl rfl rfl (ok16 e l n) ?_
    cases hq : (decide (1 ≤ n ∧ n ≤ 5 ∧ (l.length : Int) = n * n) && fewB l) with
    | false =>
      simp -implicitDefEqProofs (maxSteps := 10000000) only [rkA, rkB, stepA, valA, simprocAttr]
      refine call_fn rfl rfl rfl (ok17) ?_
      simp -implicitDefEqProofs (maxSteps := 10000000) only [rkA, rkB, stepA, valA, simprocAttr]
    | true =>
      obtain ⟨h3, h4⟩ := Bool.and_eq_true_iff.1 hq
      obtain ⟨N, rfl, n1, n5, hl⟩ := five (of_decide_eq_true h3)
      have hs : small l := (of_decide_eq_true h4).2
      clear hq h3 h4
      simp -implicitDefEqProofs (maxSteps := 10000000) only [rkA, rkB, stepA, valA, simprocAttr]
      refine call_fn rfl rfl rfl (ok18 e l N (by omega) hl) ?_
      simp -implicitDefEqProofs (maxSteps := 10000000) only [rkA, rkB, stepA, valA, simprocAttr]
      have lC := clear_len l N
      have sC := clear_small hs N
      refine wp_loop (fun m s => ∃ k : Nat, k + m = N ∧ (∀ j, j < k → 1 ≤ (clearI l N).getD (j * N + j) 0) ∧ s = ⟨[jk, .v (num N), jk, jk, jk, .v (.sl false ((clearI l N).map num)), jk, jk, jk, jk, jk, jk, jk, jk, jk, jk, jk, jk, jk, jk, jk, jk, jk, jk, jk, jk, jk, jk, jk, jk, jk, jk, jk, .v (num N), nt k, jk, jk, jk, jk, jk, jk, jk, jk, jk, jk, jk, jk, jk, jk, jk, jk, jk, jk, jk, jk, jk, jk, jk, jk, jk, jk, jk, jk, jk, jk, jk, jk, jk, jk, jk, jk, jk, jk, jk, jk, jk, jk, jk, jk, jk, jk, jk, jk, jk, jk, jk, jk, jk, jk, jk, jk, jk, jk, jk, jk, jk, jk, jk, jk, jk, jk, jk, jk, jk, jk, jk, jk, jk, jk, jk, jk, jk, jk, jk, jk, jk, jk, jk, jk, jk, jk, jk, jk, jk, jk, jk, jk, jk, jk], [], [], [], [], 0, nomem⟩) N ?_ ?_
      · simp -implicitDefEqProofs (maxSteps := 10000000) only [rkA, rkB, stepA, valA, simprocAttr]
        exact ⟨0, by simp, fun j h => by omega, rfl⟩
      rintro m s ⟨k, hk, hd, rfl⟩
      simp -implicitDefEqProofs (maxSteps := 10000000) only [rkA, rkB, stepA, valA, simprocAttr]
      refine gB_dec ?_ ?_ <;> intro hc <;> simp -implicitDefEqProofs (maxSteps := 10000000) only [hc, rkA, rkB, stepA, valA, simprocAttr]
      · have t := at_table (i := k) (j := k) (n := N) (m := N) (by omega) (by omega)
        have hNN : N * N ≤ 5 * 5 := Nat.mul_le_mul n5 n5
        have c1 : (k : Int) * (N : Int) = ((k * N : Nat) : Int) := by simp
        have c3 : ((k * N : Nat) : Int) + (k : Int) = ((k * N + k : Nat) : Int) := by simp
        have w1 := wrapped (x := ((k * N : Nat) : Int)) (by omega) (by omega)
        have w3 := wrapped (x := ((k * N + k : Nat) : Int)) (by omega) (by omega)
        have w4 := wrapped (x := (k : Int) + 1) (by omega) (by omega)
        have g1 := at_num (a := clearI l N) (i := k * N + k) (by omega)
        have n1 : (0 : Int) ≤ ((k * N + k : Nat) : Int) := by omega
        simp -implicitDefEqProofs (maxSteps := 10000000) only [c1, w1, c3, w3, n1, Int.toNat_natCast, g1, rkA, rkB, stepA, valA, simprocAttr]
        refine gB_dec ?_ ?_ <;> intro hlt <;> simp -implicitDefEqProofs (maxSteps := 10000000) only [hlt, rkA, rkB, stepA, valA, simprocAttr]
        · refine call_fn rfl rfl rfl (ok17) ?_
          simp -implicitDefEqProofs (maxSteps := 10000000) only [rkA, rkB, stepA, valA, simprocAttr]
        · simp -implicitDefEqProofs (maxSteps := 10000000) only [w4, rkA, rkB, stepA, valA, simprocAttr]
          refine loopK_of (m' := m - 1) (by omega) ?_
          simp -implicitDefEqProofs (maxSteps := 10000000) only [rkA, rkB, stepA, valA, simprocAttr]
          refine ⟨k + 1, by omega, fun j hj => ?_, by simp only [Int.natCast_add, Int.natCast_one]⟩
          by_cases e : j = k
          · subst e; omega
          · exact hd j (by omega)
      · have hkN : k = N := by omega
        subst hkN
        have hL := clear_low hs hd
        have sq := @clear_sq l k
        have lq : (squareI (clearI l k) k).length = k * k := squareI_len _ _
        have hNN : k * k ≤ 5 * 5 := Nat.mul_le_mul n5 n5
        have hn' : 1 ≤ k ∧ k ≤ 16 := by omega
        refine call_fn rfl rfl rfl (ok20 false (clearI l k) k (by omega) lC sC) ?_
        simp -implicitDefEqProofs (maxSteps := 10000000) only [rkA, rkB, stepA, valA, simprocAttr]
        have h12 := A.ok19 k k false (squareI (clearI l k) k) (by omega)
        rw [if_pos (right_nat hn' hn' lq)] at h12
        refine call_fn rfl rfl rfl (h12) ?_
        simp -implicitDefEqProofs (maxSteps := 10000000) only [rkA, rkB, stepA, valA, simprocAttr]
        refine call_fn rfl rfl rfl (A.ok21 k hn' false _ (by rw [List.length_map, lq])) ?_
        simp -implicitDefEqProofs (maxSteps := 10000000) only [rkA, rkB, stepA, valA, simprocAttr]
        refine call_fn rfl rfl rfl (ok20 false (clearI l k) k (by omega) lC sC) ?_
        simp -implicitDefEqProofs (maxSteps := 10000000) only [rkA, rkB, stepA, valA, simprocAttr]
        have h29 := ok22 k k false (squareI (clearI l k) k) (by omega)
        rw [if_pos (right_nat hn' hn' lq)] at h29
        refine call_fn rfl rfl rfl (h29) ?_
        simp -implicitDefEqProofs (maxSteps := 10000000) only [rkA, rkB, stepA, valA, simprocAttr]
        refine call_fn rfl rfl rfl (ok23 k hn' false _ (by rw [List.length_map, lq])) ?_
        have hex : A.rootMat k ((squareI (clearI l k) k).map (A.newF · 1)) = (clearI l k).map (A.newF · 1) := by
          unfold A.rootMat
          conv => rhs; rw [clearI, A.gridP_map]
          refine gridP_congr fun i j hi hj => ?_
          refine LowTri.root hn' hL (fun i j hi hj => ?_) j i hj hi
          rw [A.atF_whole hn' lq hi hj, ← sq hi hj]
        have hen : ∀ i j, i < k → j < k → Rq (rootS k ((squareI (clearI l k) k).map (newF · 1)) k i j) (clearH l k i j : Rat) := fun i j hi hj => by
          refine low_root hn' hL (fun i j hi hj => ?_) j i hj hi
          have hb := at_table (i := i) (j := j) (n := k) (m := k) hi hj
          rw [atF_eq (right_sq hn' (by rw [List.length_map, lq])) (by simpa using hi) (by simpa using hj), Int.toNat_natCast, getD_newF (by omega), sq hi hj]
        have lE : (rootMat k ((squareI (clearI l k) k).map (newF · 1))).length = k * k := by rw [rootMat, gridP_length, Nat.add_zero]
        have lE' : (frs (rootMat k ((squareI (clearI l k) k).map (newF · 1)))).length = k * k := by rw [List.length_map, lE]
        have hfit : ∀ j (hj : j < (rootMat k ((squareI (clearI l k) k).map (newF · 1))).length), (rootMat k ((squareI (clearI l k) k).map (newF · 1)))[j].bad = false → enclB (rootMat k ((squareI (clearI l k) k).map (newF · 1)))[j] ((clearI l k).getD j 0) 1 = true := fun j hj hb => by
          have hj' : j < k * k := by omega
          have hq : j / k < k := Nat.div_lt_of_lt_mul hj'
          have hr : j % k < k := Nat.mod_lt _ (by omega)
          have ej : j / k * k + j % k = j := by rw [Nat.mul_comm]; exact Nat.div_add_mod j k
          have eE : (rootMat k ((squareI (clearI l k) k).map (newF · 1)))[j] = rootS k ((squareI (clearI l k) k).map (newF · 1)) k (j / k) (j % k) := by
            have := grid_at (g := rootS k ((squareI (clearI l k) k).map (newF · 1)) k) hq hr
            rw [ej, List.getD_eq_getElem?_getD] at this
            rw [← this]
            show _ = ((rootMat k ((squareI (clearI l k) k).map (newF · 1)))[j]?).getD dz
            rw [List.getElem?_eq_getElem hj, Option.getD_some]
          have eC : (clearI l k).getD j 0 = clearH l k (j / k) (j % k) := by
            have := grid_getD (g := clearH l k) hq hr
            rw [ej] at this
            exact this
          rw [eE] at hb ⊢
          rw [eC]
          have hsm := hL.small (j / k) (j % k)
          exact encl_int (hen _ _ hq hr (rootS_snd hq hr hb)) (by omega)
        rw [hex]
        generalize rootMat k ((squareI (clearI l k) k).map (newF · 1)) = E at *
        have cN : (k : Int) * (k : Int) = ((k * k : Nat) : Int) := by simp
        have wN := wrapped (x := ((k * k : Nat) : Int)) (by omega) (by omega)
        simp -implicitDefEqProofs (maxSteps := 10000000) only [lE', cN, wN, bne_self_eq_false, rkA, rkB, stepA, valA, simprocAttr]
        refine call_fn rfl rfl rfl (A.ok24 false false k k _ (clearI l k) (by omega) rfl) ?_
        simp -implicitDefEqProofs (maxSteps := 10000000) only [lE', rkA, rkB, stepA, valA, simprocAttr]
        refine wp_loop (fun m s => ∃ j : Nat, j + m = k * k ∧ s = ⟨[jk, jk, jk, jk, jk, .v (.sl false ((clearI l k).map num)), jk, jk, jk, jk, jk, jk, jk, jk, jk, jk, jk, jk, jk, jk, jk, jk, jk, jk, jk, jk, jk, jk, jk, jk, jk, jk, jk, jk, jk, jk, jk, jk, jk, jk, jk, jk, jk, jk, jk, jk, jk, jk, jk, jk, jk, jk, jk, jk, jk, jk, jk, jk, jk, jk, jk, jk, jk, jk, jk, jk, jk, jk, jk, jk, jk, jk, jk, jk, jk, jk, jk, jk, jk, jk, jk, jk, jk, jk, jk, jk, jk, jk, jk, jk, jk, jk, jk, jk, jk, jk, jk, jk, jk, jk, jk, jk, jk, jk, jk, jk, jk, jk, .v (.sl false (frs E)), nt ((k * k : Nat) : Int), nt j, jk, jk, jk, jk, jk, jk, jk, jk, jk, jk, jk, jk, jk, jk, jk, jk, jk, jk],
          [(7, [.v (num k), .v (num k), .v (.sl false (A.frs ((squareI (clearI l k) k).map (A.newF · 1))))]), (9, [.v (num k), .v (num k), .v (.sl false (A.frs ((clearI l k).map (A.newF · 1))))]), (11, [.v (num k), .v (num k), .v (.sl false (frs ((squareI (clearI l k) k).map (newF · 1))))]), (13, [.v (num k), .v (num k), .v (.sl false (frs E))])], [], [(3007, 0), (3009, 0), (3011, 0), (3013, 0)], [], 0, nomem⟩) (k * k) ?_ ?_
        · simp -implicitDefEqProofs (maxSteps := 10000000) only [rkA, rkB, stepA, valA, simprocAttr]
          exact ⟨0, by simp, rfl⟩
        rintro m s ⟨j, hj, rfl⟩
        simp -implicitDefEqProofs (maxSteps := 10000000) only [rkA, rkB, stepA, valA, simprocAttr]
        refine gB_dec ?_ ?_ <;> intro hc <;> simp -implicitDefEqProofs (maxSteps := 10000000) only [hc, rkA, rkB, stepA, valA, simprocAttr]
        · have hlt : j < k * k := by omega
          have hltE : j < E.length := by omega
          have h0 : (0 : Int) ≤ (j : Int) := by omega
          have gE : (frs E)[j]? = some (frV E[j]) := by simp [hltE]
          have gC := at_num (a := clearI l k) (i := j) (by omega)
          have hw := wrapped (x := (j : Int) + 1) (by omega) (by omega)
          have hfj := hfit j hltE
          simp -implicitDefEqProofs (maxSteps := 10000000) only [h0, Int.toNat_natCast, gE, rkA, rkB, stepA, valA, simprocAttr]
          cases hb : E[j].bad with
          | true =>
            simp -implicitDefEqProofs (maxSteps := 10000000) only [hw, rkA, rkB, stepA, valA, simprocAttr]
            refine loopK_of (m' := m - 1) (by omega) ?_
            simp -implicitDefEqProofs (maxSteps := 10000000) only [rkA, rkB, stepA, valA, simprocAttr]
            exact ⟨j + 1, by omega, by simp only [Int.natCast_add, Int.natCast_one]⟩
          | false =>
            simp -implicitDefEqProofs (maxSteps := 10000000) only [h0, Int.toNat_natCast, gC, rkA, rkB, stepA, valA, simprocAttr]
            have h31 := ok25 E[j] ((clearI l k).getD j 0) 1
            rw [hfj hb] at h31
            simp only [frV, hb] at h31
            refine call_fn rfl rfl rfl (h31) ?_
            simp -implicitDefEqProofs (maxSteps := 10000000) only [hw, rkA, rkB, stepA, valA, simprocAttr]
            refine loopK_of (m' := m - 1) (by omega) ?_
            simp -implicitDefEqProofs (maxSteps := 10000000) only [rkA, rkB, stepA, valA, simprocAttr]
            exact ⟨j + 1, by omega, by simp only [Int.natCast_add, Int.natCast_one]⟩
        · refine call_fn rfl rfl rfl (ok17) ?_
          simp -implicitDefEqProofs (maxSteps := 10000000) only [rkA, rkB, stepA, valA, simprocAttr]
  · repeat' (refine gB_dec ?_ ?_ <;> intro hc <;> first | (exfalso; omega) | simp -implicitDefEqProofs (maxSteps := 10000000) only [hc, rkA, rkB, stepA, valA, simprocAttr])
    all_goals (refine call_fn rfl rfl rfl (ok17) ?_; simp -implicitDefEqProofs (maxSteps := 10000000) only [rkA, rkB, stepA, valA, simprocAttr])
end Go.Proofs.YtbflmeomkfjikaaGreat.A.E

