import Derived.Test.YtbflmeomkfjikaaGreatM5
import Derived.Test.YtbflmeomkfjikaaGreatM4
set_option linter.unusedVariables false
set_option linter.unusedSimpArgs false
set_option maxRecDepth 100000
namespace Go.Proofs.YtbflmeomkfjikaaGreat.A
open Go Go.RowKit Go.Shelf

theorem bitLenAux_spec : ∀ (f x : Nat), x < 2 ^ f → 0 < x → 1 ≤ Lib.bitLenAux f x ∧ Lib.bitLenAux f x ≤ f ∧ 2 ^ (Lib.bitLenAux f x - 1) ≤ x ∧ x < 2 ^ Lib.bitLenAux f x
  | 0, x, h, h0 => by simp at h; omega
  | f + 1, x, h, h0 => by
    unfold Lib.bitLenAux
    rw [if_neg (by omega)]
    by_cases h1 : x / 2 = 0
    · have : Lib.bitLenAux f (x / 2) = 0 := by rw [h1]; cases f <;> simp [Lib.bitLenAux]
      rw [this]
      simp
      omega
    · obtain ⟨k1, k2, k3, k4⟩ := bitLenAux_spec f (x / 2) (by rw [Nat.pow_succ] at h; omega) (by omega)
      generalize Lib.bitLenAux f (x / 2) = n at *
      refine ⟨by omega, by omega, ?_, ?_⟩
      · have e : 1 + n - 1 = (n - 1) + 1 := by omega
        rw [e, Nat.pow_succ]
        omega
      · rw [Nat.add_comm, Nat.pow_succ]
        omega
/-- How far a word is shifted till its highest bit is the highest one. -/
theorem norm_spec {y : Nat} (h0 : 0 < y) (h1 : y < 18446744073709551616) : ∃ s : Nat, s ≤ 63 ∧ (64 - (Lib.bitLen y : Int)) = (s : Int) ∧ 9223372036854775808 ≤ y * 2 ^ s ∧ y * 2 ^ s < 18446744073709551616 := by
  obtain ⟨k1, k2, k3, k4⟩ := bitLenAux_spec 64 y (by simpa using h1) h0
  have e : Lib.bitLen y = Lib.bitLenAux 64 y := rfl
  rw [e]
  generalize Lib.bitLenAux 64 y = n at *
  refine ⟨64 - n, by omega, by omega, ?_, ?_⟩
  · have h2 : 2 ^ (n - 1) * 2 ^ (64 - n) ≤ y * 2 ^ (64 - n) := Nat.mul_le_mul_right _ k3
    rw [← Nat.pow_add, show n - 1 + (64 - n) = 63 by omega] at h2
    simpa using h2
  · have h2 : y * 2 ^ (64 - n) < 2 ^ n * 2 ^ (64 - n) := Nat.mul_lt_mul_of_pos_right k4 (Nat.two_pow_pos _)
    rw [← Nat.pow_add, show n + (64 - n) = 64 by omega] at h2
    simpa using h2
theorem shlN (a : Nat) {k : Nat} (hk : k ≤ 64) : IntKind.wrap .u64 ((a : Int) * 2 ^ min k (IntKind.bits .u64)) = ((a * 2 ^ k % 18446744073709551616 : Nat) : Int) := by
  rw [bitsU, Nat.min_eq_left hk]
  have : ((2 : Int) ^ k) = ((2 ^ k : Nat) : Int) := by simp
  rw [this, mulN, wrapM]
theorem orN {a b k : Nat} (hb : b < 2 ^ k) (h : a * 2 ^ k + b < 18446744073709551616) : IntKind.wrap .u64 ((BitVec.ofInt (IntKind.bits .u64) ((a * 2 ^ k : Nat) : Int) ||| BitVec.ofInt (IntKind.bits .u64) (b : Int)).toNat : Int) = ((a * 2 ^ k + b : Nat) : Int) := by
  have e : (BitVec.ofInt 64 ((a * 2 ^ k : Nat) : Int) ||| BitVec.ofInt 64 (b : Int)).toNat = a * 2 ^ k + b := by
    rw [ofIntN, ofIntN, BitVec.toNat_or, BitVec.toNat_ofNat, BitVec.toNat_ofNat, Nat.mod_eq_of_lt (by omega), Nat.mod_eq_of_lt (by omega), Nat.mul_comm, Nat.two_pow_add_eq_or_of_lt hb]
  rw [bitsU, e, wrapN (by omega)]
theorem subN {a b : Nat} (h : b ≤ a) : (a : Int) - (b : Int) = ((a - b : Nat) : Int) := by omega
theorem tdivN (a b : Nat) : ((a : Int)).tdiv (b : Int) = ((a / b : Nat) : Int) := by rw [Int.tdiv_eq_ediv_of_nonneg (by omega), ← Int.natCast_ediv]
theorem tmodN (a b : Nat) : ((a : Int)).tmod (b : Int) = ((a % b : Nat) : Int) := by rw [Int.tmod_eq_emod_of_nonneg (by omega), ← Int.natCast_emod]
set_option maxHeartbeats 4000000 in
/-- Div64: quotient, and rest, of two words by one. -/
theorem ok179 (hi lo y : Nat) (hh : hi < y) (hy : y < 18446744073709551616) (hl : lo < 18446744073709551616) :
    Ok Tryz.prog 179 [uw hi, uw lo, uw y] (.tup [uw ((hi * 18446744073709551616 + lo) / y), uw ((hi * 18446744073709551616 + lo) % y)]) := by
  obtain ⟨s, hs, es, v1, v2⟩ := norm_spec (y := y) (by omega) hy
  have h132 := ok188 (x := y) (by omega)
  rw [es] at h132
  refine ok_fn mixed Tryz.func179 (code := ?_) (h := h179) ?_ k179 ?_
  rotate_left
  · exact rfl
  unfold h179 initS
  simp -implicitDefEqProofs only [rkA, rkB, stepA, valA, simprocAttr, Tryz.ntmps179, Tryz.results179]
  have c1 : ((y : Int) == 0) = false := by simp; omega
  have c2 : ¬ ((y : Int) ≤ (hi : Int)) := by omega
  simp -implicitDefEqProofs only [c1, c2, rkA, rkB, stepA, valA, simprocAttr]
  by_cases h0 : hi = 0
  · subst h0
    have c3 : ((y : Int) ≠ 0) := by omega
    have w1 := Nat.div_le_self lo y
    simp -implicitDefEqProofs only [Int.natCast_zero, c3, beq_self_eq_true, tdivN, tmodN, wrapN (show lo / y < 18446744073709551616 by omega), Nat.zero_mul, Nat.zero_add, rkA, rkB, stepA, valA, simprocAttr]
  · have c3 : ((hi : Int) == 0) = false := by simp; omega
    simp -implicitDefEqProofs only [c3, rkA, rkB, stepA, valA, simprocAttr]
    refine call_fn rfl rfl rfl (h132) ?_
    have s0 : (0 : Int) ≤ (s : Int) := by omega
    have e64 : IntKind.wrap .u64 (64 - (s : Int)) = ((64 - s : Nat) : Int) := by rw [wrapU]; omega
    have e640 : (0 : Int) ≤ ((64 - s : Nat) : Int) := by omega
    simp -implicitDefEqProofs only [wrapN (show s < 18446744073709551616 by omega), s0, e64, e640, Int.toNat_natCast, shlN _ (show s ≤ 64 by omega), shrN _ (show 64 - s ≤ 64 by omega), shr32, rkA, rkB, stepA, valA, simprocAttr]
    have hpow : 2 ^ s * 2 ^ (64 - s) = 18446744073709551616 := by rw [← Nat.pow_add, show s + (64 - s) = 64 by omega]
    have hp := Nat.two_pow_pos s
    have hb : lo / 2 ^ (64 - s) < 2 ^ s := by
      refine Nat.div_lt_of_lt_mul ?_
      rw [Nat.mul_comm, hpow]
      exact hl
    have hhs : (hi + 1) * 2 ^ s ≤ y * 2 ^ s := Nat.mul_le_mul_right _ hh
    rw [Nat.add_mul, Nat.one_mul] at hhs
    have hu : hi * 2 ^ s + lo / 2 ^ (64 - s) < y * 2 ^ s := by omega
    have m1 : y * 2 ^ s % 18446744073709551616 = y * 2 ^ s := Nat.mod_eq_of_lt v2
    have m2 : hi * 2 ^ s % 18446744073709551616 = hi * 2 ^ s := Nat.mod_eq_of_lt (by omega)
    have hlo : lo * 2 ^ s = lo / 2 ^ (64 - s) * 18446744073709551616 + lo * 2 ^ s % 18446744073709551616 := by
      have e1 : lo * 2 ^ s / 18446744073709551616 = lo / 2 ^ (64 - s) := by
        rw [← hpow, Nat.mul_comm (2 ^ s) (2 ^ (64 - s)), Nat.mul_div_mul_right _ _ hp]
      have := Nat.div_add_mod (lo * 2 ^ s) 18446744073709551616
      rw [e1] at this
      omega
    have a3 : lo * 2 ^ s % 18446744073709551616 < 18446744073709551616 := Nat.mod_lt _ (by omega)
    have fin := shifted (N := hi * 18446744073709551616 + lo) (y := y) (s := s) (by omega)
    have eN : (hi * 18446744073709551616 + lo) * 2 ^ s = (hi * 2 ^ s + lo / 2 ^ (64 - s)) * 18446744073709551616 + lo * 2 ^ s % 18446744073709551616 := by
      rw [Nat.add_mul, Nat.add_mul, hlo, Nat.mul_right_comm]
      omega
    rw [eN] at fin
    simp only [m1, m2, orN hb (show hi * 2 ^ s + lo / 2 ^ (64 - s) < 18446744073709551616 by omega), and32 v2, and32 a3]
    generalize hi * 2 ^ s + lo / 2 ^ (64 - s) = u at *
    generalize lo * 2 ^ s % 18446744073709551616 = z at *
    generalize y * 2 ^ s = v at *
    have ez := Nat.div_add_mod z 4294967296
    have evv := Nat.div_add_mod v 4294967296
    have z0 : z % 4294967296 < 4294967296 := Nat.mod_lt _ (by omega)
    have w0 : v % 4294967296 < 4294967296 := Nat.mod_lt _ (by omega)
    have z1 : z / 4294967296 < 4294967296 := by omega
    have w1 : 2147483648 ≤ v / 4294967296 ∧ v / 4294967296 < 4294967296 := by omega
    generalize z / 4294967296 = x1 at *
    generalize z % 4294967296 = x0 at *
    generalize v / 4294967296 = d1 at *
    generalize v % 4294967296 = d0 at *
    have d1n : ¬ ((d1 : Int) = 0) := by omega
    have hdv : v = d1 * 4294967296 + d0 := by omega
    have q1 := Nat.div_le_self u d1
    have q2 := Nat.div_add_mod u d1
    have q3 := Nat.mod_lt u (show 0 < d1 by omega)
    have q4 : u / d1 * d1 ≤ u := Nat.div_mul_le_self u d1
    have q5 : u - u / d1 * d1 = u % d1 := by rw [Nat.mul_comm]; omega
    simp -implicitDefEqProofs only [d1n, tdivN, mulN, wrapN (show u / d1 < 18446744073709551616 by omega), wrapN (show u / d1 * d1 < 18446744073709551616 by omega), subN q4, q5, wrapN (show u % d1 < 18446744073709551616 by omega), rkA, rkB, stepA, valA, simprocAttr]
    have d0v : 0 < v := by omega
    obtain ⟨W, hW⟩ : ∃ W, W = u * 4294967296 + x1 := ⟨_, rfl⟩
    have f1 : W / v < 4294967296 := by rw [hW]; exact dig_small hu z1
    have f2 : W / v ≤ u / d1 := by rw [hW, hdv]; exact dig_ge (by omega) z1
    have f3 : u / d1 ≤ 4294967297 := dig_first w1.1 w0 (by omega)
    have f4 : ∀ q r : Nat, q * d1 + r = u → (q * d0 > 4294967296 * r + x1 ↔ q * v > W) := fun q r h => by rw [hW, hdv]; exact dig_gt h
    have f5 : ∀ q r : Nat, q * d1 + r = u → 4294967296 ≤ r → q ≤ W / v := fun q r h hr => dig_le d0v (by rw [hW, hdv]; exact dig_big h (by omega) w0 hr)
    have f6 := two_digits (W := W) (v := v) (b := x0) (K := 4294967296) d0v
    have f7 : W * 4294967296 + x0 = u * 18446744073709551616 + z := by omega
    rw [f7, fin.1] at f6
    have f8 := Nat.mod_lt W d0v
    have f9 := Nat.div_add_mod W v
    have f10 : ∀ q, W / v < q ↔ q * v > W := fun q => by rw [Nat.div_lt_iff_lt_mul d0v]
    obtain ⟨Q, hQd⟩ : ∃ Q, Q = W / v := ⟨_, rfl⟩
    obtain ⟨R, hRd⟩ : ∃ R, R = W % v := ⟨_, rfl⟩
    rw [← hQd] at f1 f2 f6 f9
    simp only [← hQd] at f5 f10
    rw [← hRd] at f6 f8 f9
    obtain ⟨W2, hW2⟩ : ∃ W2, W2 = R * 4294967296 + x0 := ⟨_, rfl⟩
    have g1 : W2 / v < 4294967296 := by rw [hW2]; exact dig_small f8 z0
    have g2 : W2 / v ≤ R / d1 := by rw [hW2, hdv]; exact dig_ge (by omega) z0
    have g3 : R / d1 ≤ 4294967297 := dig_first w1.1 w0 (by omega)
    have g4 : ∀ q r : Nat, q * d1 + r = R → (q * d0 > 4294967296 * r + x0 ↔ q * v > W2) := fun q r h => by rw [hW2, hdv]; exact dig_gt h
    have g5 : ∀ q r : Nat, q * d1 + r = R → 4294967296 ≤ r → q ≤ W2 / v := fun q r h hr => dig_le d0v (by rw [hW2, hdv]; exact dig_big h (by omega) w0 hr)
    have g8 := Nat.mod_lt W2 d0v
    have g9 := Nat.div_add_mod W2 v
    have g10 : ∀ q, W2 / v < q ↔ q * v > W2 := fun q => by rw [Nat.div_lt_iff_lt_mul d0v]
    rw [← hW2] at f6
    obtain ⟨Q2, hQd2⟩ : ∃ Q2, Q2 = W2 / v := ⟨_, rfl⟩
    obtain ⟨R2, hRd2⟩ : ∃ R2, R2 = W2 % v := ⟨_, rfl⟩
    rw [← hQd2] at g1 g2 f6 g9
    simp only [← hQd2] at g5 g10
    rw [← hRd2] at g8 g9 f6
    have hmul : ∀ q : Nat, q ≤ 4294967297 → q * d0 < 18446744073709551616 := fun q h => by
      have : q * d0 ≤ 4294967297 * 4294967295 := Nat.mul_le_mul h (by omega)
      omega
    have hrest : IntKind.wrap .u64 (IntKind.wrap .u64 (IntKind.wrap .u64 ((u : Int) * 4294967296) + (x1 : Int)) - IntKind.wrap .u64 ((Q : Int) * (v : Int))) = (R : Int) := by
      rw [Nat.mul_comm] at f9
      rw [mulN]
      generalize Q * v = B at *
      simp only [wrapU]
      omega
    have hrest2 : IntKind.wrap .u64 (IntKind.wrap .u64 (IntKind.wrap .u64 ((R : Int) * 4294967296) + (x0 : Int)) - IntKind.wrap .u64 ((Q2 : Int) * (v : Int))) = (R2 : Int) := by
      rw [Nat.mul_comm] at g9
      rw [mulN]
      generalize Q2 * v = B at *
      simp only [wrapU]
      omega
    have hdn : ∀ q m : Nat, q < m → m * d1 = (m - 1) * d1 + d1 := fun q m h => by
      obtain ⟨k, rfl⟩ : ∃ k, m = k + 1 := ⟨m - 1, by omega⟩
      rw [Nat.add_mul, Nat.one_mul]; rfl
    refine wp_loop (fun m s' => ∃ q r : Nat, m = q ∧ q * d1 + r = u ∧ Q ≤ q ∧ q ≤ 4294967297 ∧ r < 4294967296 ∧ s' = ⟨[jk, jk, ut v, jk, jk, jk, jk, jk, ut s, ut d1, ut d0, ut u, jk, ut x1, ut x0, ut q, ut r, jk, jk, jk, jk, jk, jk, jk, jk, jk, jk, jk, jk, jk, jk, jk, jk, jk, jk, jk, jk, jk, jk, jk, jk, jk, jk, jk, jk, jk, jk, jk, jk, jk, jk, jk, jk, jk, jk, jk, jk, jk, jk, jk, jk, jk, jk, jk, jk, jk, jk, jk, jk, jk, jk, jk, jk, jk, jk, jk, jk, jk, jk, jk, jk, jk, jk, jk, jk, jk, jk, jk, jk, jk, jk, jk, jk, jk, jk, jk, jk, jk, jk, jk, jk, jk, jk, jk, jk, jk, jk, jk, jk, jk, jk, jk, jk, jk, jk, jk, jk, jk, jk, jk, jk, jk, jk, jk, jk, jk, jk, jk, jk, jk, jk, jk, jk, jk, jk], [], [], [], [], 0, nomem⟩) (u / d1) ?_ ?_
    · simp -implicitDefEqProofs only [rkA, rkB, stepA, valA, simprocAttr]
      exact ⟨u / d1, u % d1, rfl, by rw [Nat.mul_comm]; exact q2, f2, f3, by omega, rfl⟩
    rintro m s' ⟨q, r, rfl, k1, k2, k3, k4, rfl⟩
    have b1 := hmul m k3
    have e4 : IntKind.wrap .u64 (IntKind.wrap .u64 (4294967296 * (r : Int)) + (x1 : Int)) = ((4294967296 * r + x1 : Nat) : Int) := by rw [wrapU, wrapU]; omega
    have e5 : IntKind.wrap .u64 ((r : Int) + (d1 : Int)) = ((r + d1 : Nat) : Int) := by rw [wrapU]; omega
    simp -implicitDefEqProofs only [rkA, rkB, stepA, valA, simprocAttr]
    refine gB_dec ?_ ?_ <;> intro hc <;> simp -implicitDefEqProofs only [hc, rkA, rkB, stepA, valA, simprocAttr]
    · have hlt : Q < m := by omega
      have hm := hdn Q m hlt
      have e6 : IntKind.wrap .u64 ((m : Int) - 1) = ((m - 1 : Nat) : Int) := by rw [wrapU]; omega
      simp -implicitDefEqProofs only [e6, e5, rkA, rkB, stepA, valA, simprocAttr]
      refine gB_dec ?_ ?_ <;> intro hc2 <;> simp -implicitDefEqProofs only [hc2, rkA, rkB, stepA, valA, simprocAttr]
      · have hq : m - 1 = Q := by have := f5 (m - 1) (r + d1) (by omega) (by omega); omega
        rw [hq]
        simp -implicitDefEqProofs only [hrest, rkA, rkB, stepA, valA, simprocAttr]
        have p1 := Nat.div_le_self R d1
        have p2 := Nat.div_add_mod R d1
        have p3 := Nat.mod_lt R (show 0 < d1 by omega)
        have p4 : R / d1 * d1 ≤ R := Nat.div_mul_le_self R d1
        have p5 : R - R / d1 * d1 = R % d1 := by rw [Nat.mul_comm]; omega
        simp -implicitDefEqProofs only [d1n, tdivN, mulN, wrapN (show R / d1 < 18446744073709551616 by omega), wrapN (show R / d1 * d1 < 18446744073709551616 by omega), subN p4, p5, wrapN (show R % d1 < 18446744073709551616 by omega), rkA, rkB, stepA, valA, simprocAttr]
        refine wp_loop (fun m s' => ∃ q r : Nat, m = q ∧ q * d1 + r = R ∧ Q2 ≤ q ∧ q ≤ 4294967297 ∧ r < 4294967296 ∧ s' = ⟨[jk, jk, ut v, jk, jk, jk, jk, jk, ut s, ut d1, ut d0, jk, jk, jk, ut x0, ut Q, ut r, ut R, ut q, jk, jk, jk, jk, jk, jk, jk, jk, jk, jk, jk, jk, jk, jk, jk, jk, jk, jk, jk, jk, jk, jk, jk, jk, jk, jk, jk, jk, jk, jk, jk, jk, jk, jk, jk, jk, jk, jk, jk, jk, jk, jk, jk, jk, jk, jk, jk, jk, jk, jk, jk, jk, jk, jk, jk, jk, jk, jk, jk, jk, jk, jk, jk, jk, jk, jk, jk, jk, jk, jk, jk, jk, jk, jk, jk, jk, jk, jk, jk, jk, jk, jk, jk, jk, jk, jk, jk, jk, jk, jk, jk, jk, jk, jk, jk, jk, jk, jk, jk, jk, jk, jk, jk, jk, jk, jk, jk, jk, jk, jk, jk, jk, jk, jk, jk, jk], [], [], [], [], 0, nomem⟩) (R / d1) ?_ ?_
        · simp -implicitDefEqProofs only [rkA, rkB, stepA, valA, simprocAttr]
          exact ⟨R / d1, R % d1, rfl, by rw [Nat.mul_comm]; exact p2, g2, g3, by omega, rfl⟩
        rintro m' s' ⟨q, r', rfl, l1, l2, l3, l4, rfl⟩
        have b1' := hmul m' l3
        have e4' : IntKind.wrap .u64 (IntKind.wrap .u64 (4294967296 * (r' : Int)) + (x0 : Int)) = ((4294967296 * r' + x0 : Nat) : Int) := by rw [wrapU, wrapU]; omega
        have e5' : IntKind.wrap .u64 ((r' : Int) + (d1 : Int)) = ((r' + d1 : Nat) : Int) := by rw [wrapU]; omega
        have efin : IntKind.wrap .u64 (IntKind.wrap .u64 ((Q : Int) * 4294967296) + (Q2 : Int)) = (((hi * 18446744073709551616 + lo) / y : Nat) : Int) := by rw [← f6.1, wrapU, wrapU]; omega
        have efin2 : ((R2 : Int)).fdiv (2 ^ min s (IntKind.bits .u64)) = (((hi * 18446744073709551616 + lo) % y : Nat) : Int) := by rw [shrN _ (show s ≤ 64 by omega), f6.2, fin.2]
        simp -implicitDefEqProofs only [rkA, rkB, stepA, valA, simprocAttr]
        refine gB_dec ?_ ?_ <;> intro hc5 <;> simp -implicitDefEqProofs only [hc5, rkA, rkB, stepA, valA, simprocAttr]
        · have hlt : Q2 < m' := by omega
          have hm := hdn Q2 m' hlt
          have e6 : IntKind.wrap .u64 ((m' : Int) - 1) = ((m' - 1 : Nat) : Int) := by rw [wrapU]; omega
          simp -implicitDefEqProofs only [e6, e5', rkA, rkB, stepA, valA, simprocAttr]
          refine gB_dec ?_ ?_ <;> intro hc6 <;> simp -implicitDefEqProofs only [hc6, rkA, rkB, stepA, valA, simprocAttr]
          · have hq : m' - 1 = Q2 := by have := g5 (m' - 1) (r' + d1) (by omega) (by omega); omega
            rw [hq]
            simp -implicitDefEqProofs only [hrest2, s0, Int.toNat_natCast, efin, efin2, rkA, rkB, stepA, valA, simprocAttr]
          · refine loopK_of (m' := m' - 1) (by omega) ?_
            simp -implicitDefEqProofs only [rkA, rkB, stepA, valA, simprocAttr]
            exact ⟨m' - 1, r' + d1, rfl, by omega, by omega, by omega, by omega, rfl⟩
        · simp -implicitDefEqProofs only [mulN, wrapN b1', e4', rkA, rkB, stepA, valA, simprocAttr]
          refine gB_dec ?_ ?_ <;> intro hc6 <;> simp -implicitDefEqProofs only [hc6, rkA, rkB, stepA, valA, simprocAttr]
          · have hlt : Q2 < m' := (g10 m').2 ((g4 _ _ l1).1 (by omega))
            have hm := hdn Q2 m' hlt
            have e6 : IntKind.wrap .u64 ((m' : Int) - 1) = ((m' - 1 : Nat) : Int) := by rw [wrapU]; omega
            simp -implicitDefEqProofs only [e6, e5', rkA, rkB, stepA, valA, simprocAttr]
            refine gB_dec ?_ ?_ <;> intro hc7 <;> simp -implicitDefEqProofs only [hc7, rkA, rkB, stepA, valA, simprocAttr]
            · have hq : m' - 1 = Q2 := by have := g5 (m' - 1) (r' + d1) (by omega) (by omega); omega
              rw [hq]
              simp -implicitDefEqProofs only [hrest2, s0, Int.toNat_natCast, efin, efin2, rkA, rkB, stepA, valA, simprocAttr]
            · refine loopK_of (m' := m' - 1) (by omega) ?_
              simp -implicitDefEqProofs only [rkA, rkB, stepA, valA, simprocAttr]
              exact ⟨m' - 1, r' + d1, rfl, by omega, by omega, by omega, by omega, rfl⟩
          · have hq : m' = Q2 := by
              have h1 : ¬ Q2 < m' := fun h => by have := (g4 _ _ l1).2 ((g10 m').1 h); omega
              omega
            rw [hq]
            simp -implicitDefEqProofs only [hrest2, s0, Int.toNat_natCast, efin, efin2, rkA, rkB, stepA, valA, simprocAttr]
      · refine loopK_of (m' := m - 1) (by omega) ?_
        simp -implicitDefEqProofs only [rkA, rkB, stepA, valA, simprocAttr]
        exact ⟨m - 1, r + d1, rfl, by omega, by omega, by omega, by omega, rfl⟩
    · simp -implicitDefEqProofs only [mulN, wrapN b1, e4, rkA, rkB, stepA, valA, simprocAttr]
      refine gB_dec ?_ ?_ <;> intro hc2 <;> simp -implicitDefEqProofs only [hc2, rkA, rkB, stepA, valA, simprocAttr]
      · have hlt : Q < m := (f10 m).2 ((f4 _ _ k1).1 (by omega))
        have hm := hdn Q m hlt
        have e6 : IntKind.wrap .u64 ((m : Int) - 1) = ((m - 1 : Nat) : Int) := by rw [wrapU]; omega
        simp -implicitDefEqProofs only [e6, e5, rkA, rkB, stepA, valA, simprocAttr]
        refine gB_dec ?_ ?_ <;> intro hc3 <;> simp -implicitDefEqProofs only [hc3, rkA, rkB, stepA, valA, simprocAttr]
        · have hq : m - 1 = Q := by have := f5 (m - 1) (r + d1) (by omega) (by omega); omega
          rw [hq]
          simp -implicitDefEqProofs only [hrest, rkA, rkB, stepA, valA, simprocAttr]
          have p1 := Nat.div_le_self R d1
          have p2 := Nat.div_add_mod R d1
          have p3 := Nat.mod_lt R (show 0 < d1 by omega)
          have p4 : R / d1 * d1 ≤ R := Nat.div_mul_le_self R d1
          have p5 : R - R / d1 * d1 = R % d1 := by rw [Nat.mul_comm]; omega
          simp -implicitDefEqProofs only [d1n, tdivN, mulN, wrapN (show R / d1 < 18446744073709551616 by omega), wrapN (show R / d1 * d1 < 18446744073709551616 by omega), subN p4, p5, wrapN (show R % d1 < 18446744073709551616 by omega), rkA, rkB, stepA, valA, simprocAttr]
          refine wp_loop (fun m s' => ∃ q r : Nat, m = q ∧ q * d1 + r = R ∧ Q2 ≤ q ∧ q ≤ 4294967297 ∧ r < 4294967296 ∧ s' = ⟨[jk, jk, ut v, jk, jk, jk, jk, jk, ut s, ut d1, ut d0, jk, jk, jk, ut x0, ut Q, ut r, ut R, ut q, jk, jk, jk, jk, jk, jk, jk, jk, jk, jk, jk, jk, jk, jk, jk, jk, jk, jk, jk, jk, jk, jk, jk, jk, jk, jk, jk, jk, jk, jk, jk, jk, jk, jk, jk, jk, jk, jk, jk, jk, jk, jk, jk, jk, jk, jk, jk, jk, jk, jk, jk, jk, jk, jk, jk, jk, jk, jk, jk, jk, jk, jk, jk, jk, jk, jk, jk, jk, jk, jk, jk, jk, jk, jk, jk, jk, jk, jk, jk, jk, jk, jk, jk, jk, jk, jk, jk, jk, jk, jk, jk, jk, jk, jk, jk, jk, jk, jk, jk, jk, jk, jk, jk, jk, jk, jk, jk, jk, jk, jk, jk, jk, jk, jk, jk, jk], [], [], [], [], 0, nomem⟩) (R / d1) ?_ ?_
          · simp -implicitDefEqProofs only [rkA, rkB, stepA, valA, simprocAttr]
            exact ⟨R / d1, R % d1, rfl, by rw [Nat.mul_comm]; exact p2, g2, g3, by omega, rfl⟩
          rintro m' s' ⟨q, r', rfl, l1, l2, l3, l4, rfl⟩
          have b1' := hmul m' l3
          have e4' : IntKind.wrap .u64 (IntKind.wrap .u64 (4294967296 * (r' : Int)) + (x0 : Int)) = ((4294967296 * r' + x0 : Nat) : Int) := by rw [wrapU, wrapU]; omega
          have e5' : IntKind.wrap .u64 ((r' : Int) + (d1 : Int)) = ((r' + d1 : Nat) : Int) := by rw [wrapU]; omega
          have efin : IntKind.wrap .u64 (IntKind.wrap .u64 ((Q : Int) * 4294967296) + (Q2 : Int)) = (((hi * 18446744073709551616 + lo) / y : Nat) : Int) := by rw [← f6.1, wrapU, wrapU]; omega
          have efin2 : ((R2 : Int)).fdiv (2 ^ min s (IntKind.bits .u64)) = (((hi * 18446744073709551616 + lo) % y : Nat) : Int) := by rw [shrN _ (show s ≤ 64 by omega), f6.2, fin.2]
          simp -implicitDefEqProofs only [rkA, rkB, stepA, valA, simprocAttr]
          refine gB_dec ?_ ?_ <;> intro hc5 <;> simp -implicitDefEqProofs only [hc5, rkA, rkB, stepA, valA, simprocAttr]
          · have hlt : Q2 < m' := by omega
            have hm := hdn Q2 m' hlt
            have e6 : IntKind.wrap .u64 ((m' : Int) - 1) = ((m' - 1 : Nat) : Int) := by rw [wrapU]; omega
            simp -implicitDefEqProofs only [e6, e5', rkA, rkB, stepA, valA, simprocAttr]
            refine gB_dec ?_ ?_ <;> intro hc6 <;> simp -implicitDefEqProofs only [hc6, rkA, rkB, stepA, valA, simprocAttr]
            · have hq : m' - 1 = Q2 := by have := g5 (m' - 1) (r' + d1) (by omega) (by omega); omega
              rw [hq]
              simp -implicitDefEqProofs only [hrest2, s0, Int.toNat_natCast, efin, efin2, rkA, rkB, stepA, valA, simprocAttr]
            · refine loopK_of (m' := m' - 1) (by omega) ?_
              simp -implicitDefEqProofs only [rkA, rkB, stepA, valA, simprocAttr]
              exact ⟨m' - 1, r' + d1, rfl, by omega, by omega, by omega, by omega, rfl⟩
          · simp -implicitDefEqProofs only [mulN, wrapN b1', e4', rkA, rkB, stepA, valA, simprocAttr]
            refine gB_dec ?_ ?_ <;> intro hc6 <;> simp -implicitDefEqProofs only [hc6, rkA, rkB, stepA, valA, simprocAttr]
            · have hlt : Q2 < m' := (g10 m').2 ((g4 _ _ l1).1 (by omega))
              have hm := hdn Q2 m' hlt
              have e6 : IntKind.wrap .u64 ((m' : Int) - 1) = ((m' - 1 : Nat) : Int) := by rw [wrapU]; omega
              simp -implicitDefEqProofs only [e6, e5', rkA, rkB, stepA, valA, simprocAttr]
              refine gB_dec ?_ ?_ <;> intro hc7 <;> simp -implicitDefEqProofs only [hc7, rkA, rkB, stepA, valA, simprocAttr]
              · have hq : m' - 1 = Q2 := by have := g5 (m' - 1) (r' + d1) (by omega) (by omega); omega
                rw [hq]
                simp -implicitDefEqProofs only [hrest2, s0, Int.toNat_natCast, efin, efin2, rkA, rkB, stepA, valA, simprocAttr]
              · refine loopK_of (m' := m' - 1) (by omega) ?_
                simp -implicitDefEqProofs only [rkA, rkB, stepA, valA, simprocAttr]
                exact ⟨m' - 1, r' + d1, rfl, by omega, by omega, by omega, by omega, rfl⟩
            · have hq : m' = Q2 := by
                have h1 : ¬ Q2 < m' := fun h => by have := (g4 _ _ l1).2 ((g10 m').1 h); omega
                omega
              rw [hq]
              simp -implicitDefEqProofs only [hrest2, s0, Int.toNat_natCast, efin, efin2, rkA, rkB, stepA, valA, simprocAttr]
        · refine loopK_of (m' := m - 1) (by omega) ?_
          simp -implicitDefEqProofs only [rkA, rkB, stepA, valA, simprocAttr]
          exact ⟨m - 1, r + d1, rfl, by omega, by omega, by omega, by omega, rfl⟩
      · have hq : m = Q := by
          have h1 : ¬ Q < m := fun h => by have := (f4 _ _ k1).2 ((f10 m).1 h); omega
          omega
        rw [hq]
        simp -implicitDefEqProofs only [hrest, rkA, rkB, stepA, valA, simprocAttr]
        have p1 := Nat.div_le_self R d1
        have p2 := Nat.div_add_mod R d1
        have p3 := Nat.mod_lt R (show 0 < d1 by omega)
        have p4 : R / d1 * d1 ≤ R := Nat.div_mul_le_self R d1
        have p5 : R - R / d1 * d1 = R % d1 := by rw [Nat.mul_comm]; omega
        simp -implicitDefEqProofs only [d1n, tdivN, mulN, wrapN (show R / d1 < 18446744073709551616 by omega), wrapN (show R / d1 * d1 < 18446744073709551616 by omega), subN p4, p5, wrapN (show R % d1 < 18446744073709551616 by omega), rkA, rkB, stepA, valA, simprocAttr]
        refine wp_loop (fun m s' => ∃ q r : Nat, m = q ∧ q * d1 + r = R ∧ Q2 ≤ q ∧ q ≤ 4294967297 ∧ r < 4294967296 ∧ s' = ⟨[jk, jk, ut v, jk, jk, jk, jk, jk, ut s, ut d1, ut d0, jk, jk, jk, ut x0, ut Q, ut r, ut R, ut q, jk, jk, jk, jk, jk, jk, jk, jk, jk, jk, jk, jk, jk, jk, jk, jk, jk, jk, jk, jk, jk, jk, jk, jk, jk, jk, jk, jk, jk, jk, jk, jk, jk, jk, jk, jk, jk, jk, jk, jk, jk, jk, jk, jk, jk, jk, jk, jk, jk, jk, jk, jk, jk, jk, jk, jk, jk, jk, jk, jk, jk, jk, jk, jk, jk, jk, jk, jk, jk, jk, jk, jk, jk, jk, jk, jk, jk, jk, jk, jk, jk, jk, jk, jk, jk, jk, jk, jk, jk, jk, jk, jk, jk, jk, jk, jk, jk, jk, jk, jk, jk, jk, jk, jk, jk, jk, jk, jk, jk, jk, jk, jk, jk, jk, jk, jk], [], [], [], [], 0, nomem⟩) (R / d1) ?_ ?_
        · simp -implicitDefEqProofs only [rkA, rkB, stepA, valA, simprocAttr]
          exact ⟨R / d1, R % d1, rfl, by rw [Nat.mul_comm]; exact p2, g2, g3, by omega, rfl⟩
        rintro m' s' ⟨q, r', rfl, l1, l2, l3, l4, rfl⟩
        have b1' := hmul m' l3
        have e4' : IntKind.wrap .u64 (IntKind.wrap .u64 (4294967296 * (r' : Int)) + (x0 : Int)) = ((4294967296 * r' + x0 : Nat) : Int) := by rw [wrapU, wrapU]; omega
        have e5' : IntKind.wrap .u64 ((r' : Int) + (d1 : Int)) = ((r' + d1 : Nat) : Int) := by rw [wrapU]; omega
        have efin : IntKind.wrap .u64 (IntKind.wrap .u64 ((Q : Int) * 4294967296) + (Q2 : Int)) = (((hi * 18446744073709551616 + lo) / y : Nat) : Int) := by rw [← f6.1, wrapU, wrapU]; omega
        have efin2 : ((R2 : Int)).fdiv (2 ^ min s (IntKind.bits .u64)) = (((hi * 18446744073709551616 + lo) % y : Nat) : Int) := by rw [shrN _ (show s ≤ 64 by omega), f6.2, fin.2]
        simp -implicitDefEqProofs only [rkA, rkB, stepA, valA, simprocAttr]
        refine gB_dec ?_ ?_ <;> intro hc5 <;> simp -implicitDefEqProofs only [hc5, rkA, rkB, stepA, valA, simprocAttr]
        · have hlt : Q2 < m' := by omega
          have hm := hdn Q2 m' hlt
          have e6 : IntKind.wrap .u64 ((m' : Int) - 1) = ((m' - 1 : Nat) : Int) := by rw [wrapU]; omega
          simp -implicitDefEqProofs only [e6, e5', rkA, rkB, stepA, valA, simprocAttr]
          refine gB_dec ?_ ?_ <;> intro hc6 <;> simp -implicitDefEqProofs only [hc6, rkA, rkB, stepA, valA, simprocAttr]
          · have hq : m' - 1 = Q2 := by have := g5 (m' - 1) (r' + d1) (by omega) (by omega); omega
            rw [hq]
            simp -implicitDefEqProofs only [hrest2, s0, Int.toNat_natCast, efin, efin2, rkA, rkB, stepA, valA, simprocAttr]
          · refine loopK_of (m' := m' - 1) (by omega) ?_
            simp -implicitDefEqProofs only [rkA, rkB, stepA, valA, simprocAttr]
            exact ⟨m' - 1, r' + d1, rfl, by omega, by omega, by omega, by omega, rfl⟩
        · simp -implicitDefEqProofs only [mulN, wrapN b1', e4', rkA, rkB, stepA, valA, simprocAttr]
          refine gB_dec ?_ ?_ <;> intro hc6 <;> simp -implicitDefEqProofs only [hc6, rkA, rkB, stepA, valA, simprocAttr]
          · have hlt : Q2 < m' := (g10 m').2 ((g4 _ _ l1).1 (by omega))
            have hm := hdn Q2 m' hlt
            have e6 : IntKind.wrap .u64 ((m' : Int) - 1) = ((m' - 1 : Nat) : Int) := by rw [wrapU]; omega
            simp -implicitDefEqProofs only [e6, e5', rkA, rkB, stepA, valA, simprocAttr]
            refine gB_dec ?_ ?_ <;> intro hc7 <;> simp -implicitDefEqProofs only [hc7, rkA, rkB, stepA, valA, simprocAttr]
            · have hq : m' - 1 = Q2 := by have := g5 (m' - 1) (r' + d1) (by omega) (by omega); omega
              rw [hq]
              simp -implicitDefEqProofs only [hrest2, s0, Int.toNat_natCast, efin, efin2, rkA, rkB, stepA, valA, simprocAttr]
            · refine loopK_of (m' := m' - 1) (by omega) ?_
              simp -implicitDefEqProofs only [rkA, rkB, stepA, valA, simprocAttr]
              exact ⟨m' - 1, r' + d1, rfl, by omega, by omega, by omega, by omega, rfl⟩
          · have hq : m' = Q2 := by
              have h1 : ¬ Q2 < m' := fun h => by have := (g4 _ _ l1).2 ((g10 m').1 h); omega
              omega
            rw [hq]
            simp -implicitDefEqProofs only [hrest2, s0, Int.toNat_natCast, efin, efin2, rkA, rkB, stepA, valA, simprocAttr]
end Go.Proofs.YtbflmeomkfjikaaGreat.A



set_option linter.unusedVariables false
set_option linter.unusedSimpArgs false
set_option maxRecDepth 100000
namespace Go.Proofs.YtbflmeomkfjikaaGreat.A
open Go Go.RowKit Go.Shelf

/-! ### Products, divided -/
def rightW (n : Int) : Bool := decide (-4611686018427387903 ≤ n ∧ n ≤ 4611686018427387903)
theorem ok85' (n : Int) : Ok Tryz.prog 85 [num n] (tru (rightW n)) := ok85 n
theorem ok137 (n : Int) (h : rightW n = true) : Ok Tryz.prog 137 [num n] (uw n.natAbs) := by
  simp only [rightW, decide_eq_true_eq] at h
  have w1 := wrapped (x := 0 - n) (by omega) (by omega)
  refine ok_fn mixed Tryz.func137 (code := ?_) (h := h137) ?_ k137 ?_
  rotate_left
  · exact rfl
  unfold h137 initS
  simp -implicitDefEqProofs (maxSteps := 10000000) only [rkA, rkB, stepA, valA, simprocAttr, Tryz.ntmps137, Tryz.results137]
  simp -implicitDefEqProofs (maxSteps := 10000000) only [w1, rkA, rkB, stepA, valA, simprocAttr]
  have e : IntKind.wrap .u64 (if n < 0 - n then 0 - n else n) = (n.natAbs : Int) := by rw [wrapU]; split <;> omega
  first | rw [e] | (simp -implicitDefEqProofs (maxSteps := 10000000) only [e, rkA, rkB, stepA, valA, simprocAttr])
theorem ok136 (a b : Nat) (ha : a < 18446744073709551616) (hb : b < 18446744073709551616) : Ok Tryz.prog 136 [uw a, uw b] (.agg [uw (a * b / 18446744073709551616), uw (a * b % 18446744073709551616)]) := by
  refine ok_fn mixed Tryz.func136 (code := ?_) (h := h136) ?_ k136 ?_
  rotate_left
  · exact rfl
  unfold h136 initS
  simp -implicitDefEqProofs (maxSteps := 10000000) only [rkA, rkB, stepA, valA, simprocAttr, Tryz.ntmps136, Tryz.results136]
  refine call_fn rfl rfl rfl (ok169 a b ha hb) ?_
  simp -implicitDefEqProofs (maxSteps := 10000000) only [rkA, rkB, stepA, valA, simprocAttr]
theorem ok178 (m : Int) : Ok Tryz.prog 178 [num m] (tru (decide (0 ≤ m ∧ m ≤ 2))) := by
  refine ok_fn mixed Tryz.func178 (code := ?_) (h := h178) ?_ k178 ?_
  rotate_left
  · exact rfl
  unfold h178 initS
  simp -implicitDefEqProofs (maxSteps := 10000000) only [rkA, rkB, stepA, valA, simprocAttr, Tryz.ntmps178, Tryz.results178]
  by_cases h : m ≥ 0
  · simp -implicitDefEqProofs (maxSteps := 10000000) only [h, rkA, rkB, stepA, valA, simprocAttr]
  · simp -implicitDefEqProofs (maxSteps := 10000000) only [h, rkA, rkB, stepA, valA, simprocAttr]

theorem and1 {a : Nat} (ha : a < 18446744073709551616) : IntKind.wrap .u64 ((BitVec.ofInt (IntKind.bits .u64) (a : Int) &&& BitVec.ofInt (IntKind.bits .u64) 1).toNat : Int) = ((a % 2 : Nat) : Int) := by
  have e : (BitVec.ofInt 64 (a : Int) &&& BitVec.ofInt 64 1).toNat = a % 2 := by
    have : (1 : Int) = ((1 : Nat) : Int) := rfl
    rw [this, ofIntN, ofIntN, BitVec.toNat_and, BitVec.toNat_ofNat, BitVec.toNat_ofNat]
    have h1 : a % 2 ^ 64 = a := Nat.mod_eq_of_lt (by omega)
    have h2 : 1 % 2 ^ 64 = 2 ^ 1 - 1 := by decide
    rw [h1, h2, Nat.and_two_pow_sub_one_eq_mod]
  rw [bitsU, e, wrapN (by omega)]
theorem toI {q : Nat} (h : q ≤ 4611686018427387903) : IntKind.wrap .i64 (q : Int) = (q : Int) ∧ IntKind.wrap .i64 (0 - (q : Int)) = -(q : Int) := by
  refine ⟨wrapped (by omega) (by omega), ?_⟩
  rw [wrapped (by omega) (by omega)]
  omega
def moreF (mode : Int) (q r d : Nat) (minus : Bool) : Bool :=
  if r = 0 then false else if mode = 0 then (decide (r > d - r) || (decide (r = d - r) && decide (q % 2 = 1))) else (decide (mode = 2) != minus)
def minus3 (a b c : Int) : Bool := (decide (a < 0) != decide (b < 0)) != decide (c < 0)
def mdN (a b c mode : Int) : Nat := a.natAbs * b.natAbs / c.natAbs + (if moreF mode (a.natAbs * b.natAbs / c.natAbs) (a.natAbs * b.natAbs % c.natAbs) c.natAbs (minus3 a b c) = true then 1 else 0)
def mdOk (a b c mode : Int) : Bool := rightW a && (rightW b && (rightW c && (decide (c ≠ 0) && (decide (0 ≤ mode ∧ mode ≤ 2) && decide (mdN a b c mode ≤ 4611686018427387903)))))
/-- A product, divided, and rounded; false: it may not be. -/
def mdF (a b c mode : Int) : Int × Bool := if mdOk a b c mode = true then (if minus3 a b c = true then -(mdN a b c mode : Int) else (mdN a b c mode : Int), true) else (0, false)

theorem nb1 : (!(true == false)) = true := rfl
theorem nb2 : (!(true == true)) = false := rfl
theorem nb3 : (!(false == true)) = true := rfl
theorem nb4 : (!(false == false)) = false := rfl
set_option maxHeartbeats 4000000 in
theorem ok155 (a b c mode : Int) : Ok Tryz.prog 155 [num a, num b, num c, num mode] (.tup [num (mdF a b c mode).1, tru (mdF a b c mode).2]) := by
  have bad : mdOk a b c mode = false → mdF a b c mode = (0, false) := fun h => by unfold mdF; rw [h]; rfl
  refine ok_fn mixed Tryz.func155 (code := ?_) (h := h155) ?_ k155 ?_
  rotate_left
  · exact rfl
  unfold h155 initS
  simp -implicitDefEqProofs (maxSteps := 10000000) only [rkA, rkB, stepA, valA, simprocAttr, Tryz.ntmps155, Tryz.results155]
  refine call_fn rfl rfl rfl (ok85' a) ?_
  cases ha : rightW a with
  | false => 
    rw [bad (by simp [mdOk, ha])]
    simp -implicitDefEqProofs (maxSteps := 10000000) only [rkA, rkB, stepA, valA, simprocAttr]
  | true =>
    simp -implicitDefEqProofs (maxSteps := 10000000) only [rkA, rkB, stepA, valA, simprocAttr]
    refine call_fn rfl rfl rfl (ok85' b) ?_
    cases hb : rightW b with
    | false => 
      rw [bad (by simp [mdOk, hb])]
      simp -implicitDefEqProofs (maxSteps := 10000000) only [rkA, rkB, stepA, valA, simprocAttr]
    | true =>
      simp -implicitDefEqProofs (maxSteps := 10000000) only [rkA, rkB, stepA, valA, simprocAttr]
      refine call_fn rfl rfl rfl (ok85' c) ?_
      cases hc : rightW c with
      | false => 
        rw [bad (by simp [mdOk, hc])]
        simp -implicitDefEqProofs (maxSteps := 10000000) only [rkA, rkB, stepA, valA, simprocAttr]
      | true =>
        simp -implicitDefEqProofs (maxSteps := 10000000) only [rkA, rkB, stepA, valA, simprocAttr]
        by_cases c0 : c = 0
        · rw [bad (by simp [mdOk, c0])]
          simp -implicitDefEqProofs (maxSteps := 10000000) only [c0, beq_self_eq_true, rkA, rkB, stepA, valA, simprocAttr]
        · have c0' : (c == 0) = false := by simp [c0]
          simp -implicitDefEqProofs (maxSteps := 10000000) only [c0', rkA, rkB, stepA, valA, simprocAttr]
          refine call_fn rfl rfl rfl (ok178 mode) ?_
          by_cases hm : 0 ≤ mode ∧ mode ≤ 2
          · simp -implicitDefEqProofs (maxSteps := 10000000) only [hm, rkA, rkB, stepA, valA, simprocAttr]
            refine call_fn rfl rfl rfl (ok137 a ha) ?_
            simp -implicitDefEqProofs (maxSteps := 10000000) only [rkA, rkB, stepA, valA, simprocAttr]
            refine call_fn rfl rfl rfl (ok137 b hb) ?_
            simp only [rightW, decide_eq_true_eq] at ha hb
            simp -implicitDefEqProofs (maxSteps := 10000000) only [rkA, rkB, stepA, valA, simprocAttr]
            refine call_fn rfl rfl rfl (ok136 a.natAbs b.natAbs (by omega) (by omega)) ?_
            simp -implicitDefEqProofs (maxSteps := 10000000) only [rkA, rkB, stepA, valA, simprocAttr]
            refine call_fn rfl rfl rfl (ok137 c hc) ?_
            have hc' := hc
            simp only [rightW, decide_eq_true_eq] at hc'
            simp -implicitDefEqProofs (maxSteps := 10000000) only [rkA, rkB, stepA, valA, simprocAttr]
            have hd : 0 < c.natAbs := by omega
            have e2 : ((2 : Nat) : Int) = 2 := rfl
            have p1 := Nat.div_add_mod (a.natAbs * b.natAbs) 18446744073709551616
            have p2 := Nat.mod_lt (a.natAbs * b.natAbs) (show 0 < 18446744073709551616 by omega)
            refine gB_dec ?_ ?_ <;> intro hg <;> simp -implicitDefEqProofs (maxSteps := 10000000) only [hg, e2, rkA, rkB, stepA, valA, simprocAttr]
            · have hq : 18446744073709551616 ≤ a.natAbs * b.natAbs / c.natAbs := by
                rw [Nat.le_div_iff_mul_le hd]
                have : c.natAbs * 18446744073709551616 ≤ a.natAbs * b.natAbs / 18446744073709551616 * 18446744073709551616 := Nat.mul_le_mul_right _ (by omega)
                rw [Nat.mul_comm 18446744073709551616]
                omega
              have hn : ¬ mdN a b c mode ≤ 4611686018427387903 := by
                unfold mdN
                generalize a.natAbs * b.natAbs / c.natAbs = q at *
                split <;> omega
              rw [bad (by simp only [mdOk, hn, decide_false, Bool.and_false])]
            · have h131 := ok179 (a.natAbs * b.natAbs / 18446744073709551616) (a.natAbs * b.natAbs % 18446744073709551616) c.natAbs (by omega) (by omega) p2
              rw [Nat.mul_comm _ 18446744073709551616, p1] at h131
              refine call_fn rfl rfl rfl (h131) ?_
              have q1 := Nat.mod_lt (a.natAbs * b.natAbs) hd
              simp -implicitDefEqProofs (maxSteps := 10000000) only [rkA, rkB, stepA, valA, simprocAttr]
              have q2 : a.natAbs * b.natAbs / c.natAbs < 18446744073709551616 := by
                refine Nat.div_lt_of_lt_mul ?_
                have : (a.natAbs * b.natAbs / 18446744073709551616 + 1) * 18446744073709551616 ≤ c.natAbs * 18446744073709551616 := Nat.mul_le_mul_right _ (by omega)
                omega
              have hmin : (!((!(decide (a < 0) == decide (b < 0))) == decide (c < 0))) = minus3 a b c := rfl
              have spec : ∀ mo, moreF mode (a.natAbs * b.natAbs / c.natAbs) (a.natAbs * b.natAbs % c.natAbs) c.natAbs (minus3 a b c) = mo → mdF a b c mode = if a.natAbs * b.natAbs / c.natAbs + (if mo = true then 1 else 0) ≤ 4611686018427387903 then
                  (if minus3 a b c = true then -((a.natAbs * b.natAbs / c.natAbs + (if mo = true then 1 else 0) : Nat) : Int) else ((a.natAbs * b.natAbs / c.natAbs + (if mo = true then 1 else 0) : Nat) : Int), true) else (0, false) := by
                have r1 : rightW a = true := by simp only [rightW, decide_eq_true_eq]; exact ha
                have r2 : rightW b = true := by simp only [rightW, decide_eq_true_eq]; exact hb
                have r3 : decide (0 ≤ mode ∧ mode ≤ 2) = true := decide_eq_true hm
                intro mo h
                unfold mdF mdOk
                rw [r1, r2, hc, r3, decide_eq_true (show c ≠ 0 from c0)]
                simp only [Bool.true_and, decide_eq_true_eq]
                unfold mdN
                rw [h]
              simp only [hmin]
              clear bad
              have dN : c.natAbs < 18446744073709551616 := by omega
              generalize a.natAbs * b.natAbs / c.natAbs = q at *
              generalize a.natAbs * b.natAbs % c.natAbs = r at *
              generalize minus3 a b c = mi at *
              generalize c.natAbs = d at *
              by_cases r0 : r = 0
              · subst r0
                have hmo : moreF mode q 0 d mi = false := rfl
                simp -implicitDefEqProofs (maxSteps := 10000000) only [Int.natCast_zero, beq_self_eq_true, rkA, rkB, stepA, valA, simprocAttr]
                by_cases big : q > 4611686018427387903
                · have big' : (q : Int) > 4611686018427387903 := by omega
                  rw [(spec false hmo).trans (if_neg (by simp; omega))]
                  simp -implicitDefEqProofs (maxSteps := 10000000) only [big', rkA, rkB, stepA, valA, simprocAttr]
                · have big' : ¬ (q : Int) > 4611686018427387903 := by omega
                  rw [(spec false hmo).trans (if_pos (by simp; omega))]
                  obtain ⟨t1, t2⟩ := toI (q := q) (by omega)
                  simp -implicitDefEqProofs (maxSteps := 10000000) only [big', Nat.add_zero, rkA, rkB, stepA, valA, simprocAttr]
                  first
                    | (cases mi with
                       | true => simp -implicitDefEqProofs (maxSteps := 10000000) only [t1, t2, rkA, rkB, stepA, valA, simprocAttr]
                       | false => simp -implicitDefEqProofs (maxSteps := 10000000) only [t1, t2, rkA, rkB, stepA, valA, simprocAttr])
                    | simp -implicitDefEqProofs (maxSteps := 10000000) only [t1, t2, rkA, rkB, stepA, valA, simprocAttr]
              · have r0' : ((r : Int) == 0) = false := by simp; omega
                simp -implicitDefEqProofs (maxSteps := 10000000) only [r0', rkA, rkB, stepA, valA, simprocAttr]
                by_cases m0 : mode = 0
                · have m0' : (mode == 0) = true := by simp [m0]
                  have hsub : IntKind.wrap .u64 ((d : Int) - (r : Int)) = ((d - r : Nat) : Int) := by rw [wrapU]; omega
                  simp -implicitDefEqProofs (maxSteps := 10000000) only [m0', hsub, rkA, rkB, stepA, valA, simprocAttr]
                  by_cases h1 : r > d - r
                  · have hmo : moreF mode q r d mi = true := by simp [moreF, r0, m0, h1]
                    have h1' : (r : Int) > ((d - r : Nat) : Int) := by omega
                    simp -implicitDefEqProofs (maxSteps := 10000000) only [h1', hsub, rkA, rkB, stepA, valA, simprocAttr]
                    by_cases big : q > 4611686018427387903
                    · have big' : (q : Int) > 4611686018427387903 := by omega
                      rw [(spec true hmo).trans (if_neg (by simp; omega))]
                      simp -implicitDefEqProofs (maxSteps := 10000000) only [big', rkA, rkB, stepA, valA, simprocAttr]
                    · have big' : ¬ (q : Int) > 4611686018427387903 := by omega
                      by_cases edge : q = 4611686018427387903
                      · have edge' : ((q : Int) == 4611686018427387903) = true := by simp; omega
                        rw [(spec true hmo).trans (if_neg (by simp; omega))]
                        simp -implicitDefEqProofs (maxSteps := 10000000) only [big', edge', rkA, rkB, stepA, valA, simprocAttr]
                      · have edge' : ((q : Int) == 4611686018427387903) = false := by simp; omega
                        have hw : IntKind.wrap .u64 ((q : Int) + 1) = ((q + 1 : Nat) : Int) := by rw [wrapU]; omega
                        rw [(spec true hmo).trans (if_pos (by simp; omega))]
                        obtain ⟨t1, t2⟩ := toI (q := q + 1) (by omega)
                        simp -implicitDefEqProofs (maxSteps := 10000000) only [big', edge', hw, rkA, rkB, stepA, valA, simprocAttr]
                        first
                          | (cases mi with
                             | true => simp -implicitDefEqProofs (maxSteps := 10000000) only [t1, t2, rkA, rkB, stepA, valA, simprocAttr]
                             | false => simp -implicitDefEqProofs (maxSteps := 10000000) only [t1, t2, rkA, rkB, stepA, valA, simprocAttr])
                          | simp -implicitDefEqProofs (maxSteps := 10000000) only [t1, t2, rkA, rkB, stepA, valA, simprocAttr]
                  · have h1' : ¬ (r : Int) > ((d - r : Nat) : Int) := by omega
                    simp -implicitDefEqProofs (maxSteps := 10000000) only [h1', hsub, rkA, rkB, stepA, valA, simprocAttr]
                    by_cases h2 : r = d - r
                    · have h2' : ((r : Int) == ((d - r : Nat) : Int)) = true := by simp; omega
                      simp -implicitDefEqProofs (maxSteps := 10000000) only [h2', and1 q2, rkA, rkB, stepA, valA, simprocAttr]
                      by_cases h3 : q % 2 = 1
                      · have hmo : moreF mode q r d mi = true := by simp [moreF, r0, m0, h3]; omega
                        have h3' : (((q % 2 : Nat) : Int) == 1) = true := by simp; omega
                        simp -implicitDefEqProofs (maxSteps := 10000000) only [h3', rkA, rkB, stepA, valA, simprocAttr]
                        by_cases big : q > 4611686018427387903
                        · have big' : (q : Int) > 4611686018427387903 := by omega
                          rw [(spec true hmo).trans (if_neg (by simp; omega))]
                          simp -implicitDefEqProofs (maxSteps := 10000000) only [big', rkA, rkB, stepA, valA, simprocAttr]
                        · have big' : ¬ (q : Int) > 4611686018427387903 := by omega
                          by_cases edge : q = 4611686018427387903
                          · have edge' : ((q : Int) == 4611686018427387903) = true := by simp; omega
                            rw [(spec true hmo).trans (if_neg (by simp; omega))]
                            simp -implicitDefEqProofs (maxSteps := 10000000) only [big', edge', rkA, rkB, stepA, valA, simprocAttr]
                          · have edge' : ((q : Int) == 4611686018427387903) = false := by simp; omega
                            have hw : IntKind.wrap .u64 ((q : Int) + 1) = ((q + 1 : Nat) : Int) := by rw [wrapU]; omega
                            rw [(spec true hmo).trans (if_pos (by simp; omega))]
                            obtain ⟨t1, t2⟩ := toI (q := q + 1) (by omega)
                            simp -implicitDefEqProofs (maxSteps := 10000000) only [big', edge', hw, rkA, rkB, stepA, valA, simprocAttr]
                            first
                              | (cases mi with
                                 | true => simp -implicitDefEqProofs (maxSteps := 10000000) only [t1, t2, rkA, rkB, stepA, valA, simprocAttr]
                                 | false => simp -implicitDefEqProofs (maxSteps := 10000000) only [t1, t2, rkA, rkB, stepA, valA, simprocAttr])
                              | simp -implicitDefEqProofs (maxSteps := 10000000) only [t1, t2, rkA, rkB, stepA, valA, simprocAttr]
                      · have hmo : moreF mode q r d mi = false := by simp only [moreF, r0, m0, h1, h3]; simp
                        have h3' : (((q % 2 : Nat) : Int) == 1) = false := by simp; omega
                        simp -implicitDefEqProofs (maxSteps := 10000000) only [h3', rkA, rkB, stepA, valA, simprocAttr]
                        by_cases big : q > 4611686018427387903
                        · have big' : (q : Int) > 4611686018427387903 := by omega
                          rw [(spec false hmo).trans (if_neg (by simp; omega))]
                          simp -implicitDefEqProofs (maxSteps := 10000000) only [big', rkA, rkB, stepA, valA, simprocAttr]
                        · have big' : ¬ (q : Int) > 4611686018427387903 := by omega
                          rw [(spec false hmo).trans (if_pos (by simp; omega))]
                          obtain ⟨t1, t2⟩ := toI (q := q) (by omega)
                          simp -implicitDefEqProofs (maxSteps := 10000000) only [big', Nat.add_zero, rkA, rkB, stepA, valA, simprocAttr]
                          first
                            | (cases mi with
                               | true => simp -implicitDefEqProofs (maxSteps := 10000000) only [t1, t2, rkA, rkB, stepA, valA, simprocAttr]
                               | false => simp -implicitDefEqProofs (maxSteps := 10000000) only [t1, t2, rkA, rkB, stepA, valA, simprocAttr])
                            | simp -implicitDefEqProofs (maxSteps := 10000000) only [t1, t2, rkA, rkB, stepA, valA, simprocAttr]
                    · have h2' : ((r : Int) == ((d - r : Nat) : Int)) = false := by simp; omega
                      have hmo : moreF mode q r d mi = false := by simp only [moreF, r0, m0, h1, h2]; simp
                      simp -implicitDefEqProofs (maxSteps := 10000000) only [h2', rkA, rkB, stepA, valA, simprocAttr]
                      by_cases big : q > 4611686018427387903
                      · have big' : (q : Int) > 4611686018427387903 := by omega
                        rw [(spec false hmo).trans (if_neg (by simp; omega))]
                        simp -implicitDefEqProofs (maxSteps := 10000000) only [big', rkA, rkB, stepA, valA, simprocAttr]
                      · have big' : ¬ (q : Int) > 4611686018427387903 := by omega
                        rw [(spec false hmo).trans (if_pos (by simp; omega))]
                        obtain ⟨t1, t2⟩ := toI (q := q) (by omega)
                        simp -implicitDefEqProofs (maxSteps := 10000000) only [big', Nat.add_zero, rkA, rkB, stepA, valA, simprocAttr]
                        first
                          | (cases mi with
                             | true => simp -implicitDefEqProofs (maxSteps := 10000000) only [t1, t2, rkA, rkB, stepA, valA, simprocAttr]
                             | false => simp -implicitDefEqProofs (maxSteps := 10000000) only [t1, t2, rkA, rkB, stepA, valA, simprocAttr])
                          | simp -implicitDefEqProofs (maxSteps := 10000000) only [t1, t2, rkA, rkB, stepA, valA, simprocAttr]
                · have m0' : (mode == 0) = false := by simp [m0]
                  simp -implicitDefEqProofs (maxSteps := 10000000) only [m0', rkA, rkB, stepA, valA, simprocAttr]
                  by_cases m2 : mode = 2
                  · have m2' : (mode == 2) = true := by simp [m2]
                    cases mi with
                    | true =>
                      have hmo : moreF mode q r d true = false := by simp [moreF, r0, m2]
                      simp -implicitDefEqProofs (maxSteps := 10000000) only [m2', nb1, nb2, nb3, nb4, rkA, rkB, stepA, valA, simprocAttr]
                      by_cases big : q > 4611686018427387903
                      · have big' : (q : Int) > 4611686018427387903 := by omega
                        rw [(spec false hmo).trans (if_neg (by simp; omega))]
                        simp -implicitDefEqProofs (maxSteps := 10000000) only [big', rkA, rkB, stepA, valA, simprocAttr]
                      · have big' : ¬ (q : Int) > 4611686018427387903 := by omega
                        rw [(spec false hmo).trans (if_pos (by simp; omega))]
                        obtain ⟨t1, t2⟩ := toI (q := q) (by omega)
                        simp -implicitDefEqProofs (maxSteps := 10000000) only [big', Nat.add_zero, rkA, rkB, stepA, valA, simprocAttr]
                        first
                          | (cases mi with
                             | true => simp -implicitDefEqProofs (maxSteps := 10000000) only [t1, t2, rkA, rkB, stepA, valA, simprocAttr]
                             | false => simp -implicitDefEqProofs (maxSteps := 10000000) only [t1, t2, rkA, rkB, stepA, valA, simprocAttr])
                          | simp -implicitDefEqProofs (maxSteps := 10000000) only [t1, t2, rkA, rkB, stepA, valA, simprocAttr]
                    | false =>
                      have hmo : moreF mode q r d false = true := by simp [moreF, r0, m2]
                      simp -implicitDefEqProofs (maxSteps := 10000000) only [m2', nb1, nb2, nb3, nb4, rkA, rkB, stepA, valA, simprocAttr]
                      by_cases big : q > 4611686018427387903
                      · have big' : (q : Int) > 4611686018427387903 := by omega
                        rw [(spec true hmo).trans (if_neg (by simp; omega))]
                        simp -implicitDefEqProofs (maxSteps := 10000000) only [big', rkA, rkB, stepA, valA, simprocAttr]
                      · have big' : ¬ (q : Int) > 4611686018427387903 := by omega
                        by_cases edge : q = 4611686018427387903
                        · have edge' : ((q : Int) == 4611686018427387903) = true := by simp; omega
                          rw [(spec true hmo).trans (if_neg (by simp; omega))]
                          simp -implicitDefEqProofs (maxSteps := 10000000) only [big', edge', rkA, rkB, stepA, valA, simprocAttr]
                        · have edge' : ((q : Int) == 4611686018427387903) = false := by simp; omega
                          have hw : IntKind.wrap .u64 ((q : Int) + 1) = ((q + 1 : Nat) : Int) := by rw [wrapU]; omega
                          rw [(spec true hmo).trans (if_pos (by simp; omega))]
                          obtain ⟨t1, t2⟩ := toI (q := q + 1) (by omega)
                          simp -implicitDefEqProofs (maxSteps := 10000000) only [big', edge', hw, rkA, rkB, stepA, valA, simprocAttr]
                          first
                            | (cases mi with
                               | true => simp -implicitDefEqProofs (maxSteps := 10000000) only [t1, t2, rkA, rkB, stepA, valA, simprocAttr]
                               | false => simp -implicitDefEqProofs (maxSteps := 10000000) only [t1, t2, rkA, rkB, stepA, valA, simprocAttr])
                            | simp -implicitDefEqProofs (maxSteps := 10000000) only [t1, t2, rkA, rkB, stepA, valA, simprocAttr]
                  · have m2' : (mode == 2) = false := by simp [m2]
                    cases mi with
                    | true =>
                      have hmo : moreF mode q r d true = true := by simp [moreF, r0, m0, m2]
                      simp -implicitDefEqProofs (maxSteps := 10000000) only [m2', nb1, nb2, nb3, nb4, rkA, rkB, stepA, valA, simprocAttr]
                      by_cases big : q > 4611686018427387903
                      · have big' : (q : Int) > 4611686018427387903 := by omega
                        rw [(spec true hmo).trans (if_neg (by simp; omega))]
                        simp -implicitDefEqProofs (maxSteps := 10000000) only [big', rkA, rkB, stepA, valA, simprocAttr]
                      · have big' : ¬ (q : Int) > 4611686018427387903 := by omega
                        by_cases edge : q = 4611686018427387903
                        · have edge' : ((q : Int) == 4611686018427387903) = true := by simp; omega
                          rw [(spec true hmo).trans (if_neg (by simp; omega))]
                          simp -implicitDefEqProofs (maxSteps := 10000000) only [big', edge', rkA, rkB, stepA, valA, simprocAttr]
                        · have edge' : ((q : Int) == 4611686018427387903) = false := by simp; omega
                          have hw : IntKind.wrap .u64 ((q : Int) + 1) = ((q + 1 : Nat) : Int) := by rw [wrapU]; omega
                          rw [(spec true hmo).trans (if_pos (by simp; omega))]
                          obtain ⟨t1, t2⟩ := toI (q := q + 1) (by omega)
                          simp -implicitDefEqProofs (maxSteps := 10000000) only [big', edge', hw, rkA, rkB, stepA, valA, simprocAttr]
                          first
                            | (cases mi with
                               | true => simp -implicitDefEqProofs (maxSteps := 10000000) only [t1, t2, rkA, rkB, stepA, valA, simprocAttr]
                               | false => simp -implicitDefEqProofs (maxSteps := 10000000) only [t1, t2, rkA, rkB, stepA, valA, simprocAttr])
                            | simp -implicitDefEqProofs (maxSteps := 10000000) only [t1, t2, rkA, rkB, stepA, valA, simprocAttr]
                    | false =>
                      have hmo : moreF mode q r d false = false := by simp [moreF, r0, m0, m2]
                      simp -implicitDefEqProofs (maxSteps := 10000000) only [m2', nb1, nb2, nb3, nb4, rkA, rkB, stepA, valA, simprocAttr]
                      by_cases big : q > 4611686018427387903
                      · have big' : (q : Int) > 4611686018427387903 := by omega
                        rw [(spec false hmo).trans (if_neg (by simp; omega))]
                        simp -implicitDefEqProofs (maxSteps := 10000000) only [big', rkA, rkB, stepA, valA, simprocAttr]
                      · have big' : ¬ (q : Int) > 4611686018427387903 := by omega
                        rw [(spec false hmo).trans (if_pos (by simp; omega))]
                        obtain ⟨t1, t2⟩ := toI (q := q) (by omega)
                        simp -implicitDefEqProofs (maxSteps := 10000000) only [big', Nat.add_zero, rkA, rkB, stepA, valA, simprocAttr]
                        first
                          | (cases mi with
                             | true => simp -implicitDefEqProofs (maxSteps := 10000000) only [t1, t2, rkA, rkB, stepA, valA, simprocAttr]
                             | false => simp -implicitDefEqProofs (maxSteps := 10000000) only [t1, t2, rkA, rkB, stepA, valA, simprocAttr])
                          | simp -implicitDefEqProofs (maxSteps := 10000000) only [t1, t2, rkA, rkB, stepA, valA, simprocAttr]
          · rw [bad (by simp only [mdOk, hm, decide_false, Bool.and_false, Bool.false_and])]
            simp -implicitDefEqProofs (maxSteps := 10000000) only [hm, rkA, rkB, stepA, valA, simprocAttr]
end Go.Proofs.YtbflmeomkfjikaaGreat.A



set_option linter.unusedVariables false
set_option linter.unusedSimpArgs false
set_option maxRecDepth 100000
namespace Go.Proofs.YtbflmeomkfjikaaGreat.A
open Go Go.RowKit Go.Shelf

/-! ### Numbers in units -/
def rightX (n : Int) : Bool := decide (-1125899906842624 ≤ n ∧ n ≤ 1125899906842624)
theorem ok111 (n : Int) : Ok Tryz.prog 111 [num n] (tru (rightX n)) := by
  refine ok_fn mixed Tryz.func111 (code := ?_) (h := h111) ?_ k111 ?_
  rotate_left
  · exact rfl
  unfold h111 initS
  simp -implicitDefEqProofs (maxSteps := 10000000) only [rkA, rkB, stepA, valA, simprocAttr, Tryz.ntmps111, Tryz.results111]
  by_cases h : n ≥ -1125899906842624
  · simp -implicitDefEqProofs (maxSteps := 10000000) only [h, rightX, rkA, rkB, stepA, valA, simprocAttr]
  · simp -implicitDefEqProofs (maxSteps := 10000000) only [h, rightX, rkA, rkB, stepA, valA, simprocAttr]
def toldF (n : Int) (is : Bool) (l : List Int) : Int × Bool := if is = true ∧ (l ++ [n]).all rightX = true then (n, true) else (0, false)
theorem ok156 (n : Int) (is : Bool) (l : List Int) (hl : l.length ≤ 2) : Ok Tryz.prog 156 [num n, tru is, .sl true (l.map num)] (.tup [num (toldF n is l).1, tru (toldF n is l).2]) := by
  have hfit : fits 1 8 (l.map num) [num n] = true := fits_num (l := [n]) (by simp; omega)
  refine ok_fn mixed Tryz.func156 (code := ?_) (h := h156) ?_ k156 ?_
  rotate_left
  · exact rfl
  unfold h156 initS
  simp -implicitDefEqProofs (maxSteps := 10000000) only [rkA, rkB, stepA, valA, simprocAttr, Tryz.ntmps156, Tryz.results156]
  simp -implicitDefEqProofs (maxSteps := 10000000) only [hfit, rkA, rkB, stepA, valA, simprocAttr]
  have e : l.map num ++ [num n] = (l ++ [n]).map num := by simp
  simp only [e]
  have hres : toldF n is l = if is = true ∧ (l ++ [n]).all rightX = true then (n, true) else (0, false) := rfl
  have hlen : (l ++ [n]).length ≤ 3 := by simp; omega
  have hne : 0 < (l ++ [n]).length := by simp
  generalize toldF n is l = R at *
  generalize l ++ [n] = L at *
  have hL : (L.map num).length = L.length := by simp
  refine wp_loop (fun m s => ∃ i : Nat, i + m = L.length ∧ (0 < i → is = true) ∧ (L.take i).all rightX = true ∧ s = ⟨[nt n, .v (tru is), jk, jk, jk, jk, jk, jk, jk, jk, jk, jk, jk, .v (.sl false (L.map num)), nt L.length, nt i, jk, jk, jk, jk, jk, jk, jk, jk, jk, jk, jk, jk], [], [], [], [], 0, nomem⟩) L.length ?_ ?_
  · simp -implicitDefEqProofs (maxSteps := 10000000) only [hL, rkA, rkB, stepA, valA, simprocAttr]
    exact ⟨0, by simp, by simp, by simp, rfl⟩
  rintro m s ⟨i, hi, h1, h2, rfl⟩
  simp -implicitDefEqProofs (maxSteps := 10000000) only [rkA, rkB, stepA, valA, simprocAttr]
  refine gB_dec ?_ ?_ <;> intro hc <;> simp -implicitDefEqProofs (maxSteps := 10000000) only [hc, rkA, rkB, stepA, valA, simprocAttr]
  · have hlt : i < L.length := by omega
    have h0 : (0 : Int) ≤ (i : Int) := by omega
    have hg : (L.map num)[i]? = some (num L[i]) := by simp [hlt]
    have hno : rightX L[i] = false → L.all rightX = false := fun h => by
      rw [List.all_eq_false]
      exact ⟨L[i], List.getElem_mem hlt, by simp [h]⟩
    simp -implicitDefEqProofs (maxSteps := 10000000) only [h0, Int.toNat_natCast, hg, rkA, rkB, stepA, valA, simprocAttr]
    cases is with
    | false =>
      rw [hres, if_neg (by simp)]
      simp -implicitDefEqProofs (maxSteps := 10000000) only [rkA, rkB, stepA, valA, simprocAttr]
    | true =>
      simp -implicitDefEqProofs (maxSteps := 10000000) only [rkA, rkB, stepA, valA, simprocAttr]
      refine call_fn rfl rfl rfl (ok111 L[i]) ?_
      cases hr : rightX L[i] with
      | false =>
        rw [hres, if_neg (by rw [hno hr]; simp)]
        simp -implicitDefEqProofs (maxSteps := 10000000) only [rkA, rkB, stepA, valA, simprocAttr]
      | true =>
        have hw := wrapped (x := (i : Int) + 1) (by omega) (by omega)
        simp -implicitDefEqProofs (maxSteps := 10000000) only [rkA, rkB, stepA, valA, simprocAttr]
        simp -implicitDefEqProofs (maxSteps := 10000000) only [hw, rkA, rkB, stepA, valA, simprocAttr]
        refine loopK_of (m' := m - 1) (by omega) ?_
        simp -implicitDefEqProofs (maxSteps := 10000000) only [rkA, rkB, stepA, valA, simprocAttr]
        refine ⟨i + 1, by omega, by simp, ?_, by simp only [Int.natCast_add, Int.natCast_one]⟩
        rw [List.take_succ_eq_append_getElem hlt, List.all_append, h2]
        simp [hr]
  · have hin : i = L.length := by omega
    subst hin
    rw [List.take_length] at h2
    rw [hres, if_pos ⟨h1 hne, h2⟩]
theorem ok156_nil (n : Int) (is : Bool) : Ok Tryz.prog 156 [num n, tru is, .s (.slice none 0 0)] (.tup [num (toldF n is []).1, tru (toldF n is []).2]) :=
  (ok156 n is [] (by simp)).args fun I vs h => Cs.keep h fun us h => Cs.keep h fun us h => Cs.nil_of h fun us h => h

def ofX (n : Int) : Int × Bool := toldF (mdF n 16777216 1 0).1 (mdF n 16777216 1 0).2 []
theorem ok117 (n : Int) : Ok Tryz.prog 117 [num n] (.tup [num (ofX n).1, tru (ofX n).2]) := by
  refine ok_fn mixed Tryz.func117 (code := ?_) (h := h117) ?_ k117 ?_
  rotate_left
  · exact rfl
  unfold h117 initS
  simp -implicitDefEqProofs (maxSteps := 10000000) only [rkA, rkB, stepA, valA, simprocAttr, Tryz.ntmps117, Tryz.results117]
  refine call_fn rfl rfl rfl (ok155 n 16777216 1 0) ?_
  simp -implicitDefEqProofs (maxSteps := 10000000) only [rkA, rkB, stepA, valA, simprocAttr]
  refine call_fn rfl rfl rfl (ok156_nil _ _) ?_
  simp -implicitDefEqProofs (maxSteps := 10000000) only [rkA, rkB, stepA, valA, simprocAttr, ofX]
def addX (a b : Int) : Int × Bool := if rightX a = true ∧ rightX b = true then toldF (a + b) true [] else (0, false)
def subX (a b : Int) : Int × Bool := if rightX a = true ∧ rightX b = true then toldF (a - b) true [] else (0, false)
theorem ok231 (a b : Int) : Ok Tryz.prog 231 [num a, num b] (.tup [num (addX a b).1, tru (addX a b).2]) := by
  refine ok_fn mixed Tryz.func231 (code := ?_) (h := h231) ?_ k231 ?_
  rotate_left
  · exact rfl
  unfold h231 initS
  simp -implicitDefEqProofs (maxSteps := 10000000) only [rkA, rkB, stepA, valA, simprocAttr, Tryz.ntmps231, Tryz.results231]
  refine call_fn rfl rfl rfl (ok111 a) ?_
  cases ha : rightX a with
  | false =>
    rw [show addX a b = (0, false) from if_neg (by simp [ha])]
    simp -implicitDefEqProofs (maxSteps := 10000000) only [rkA, rkB, stepA, valA, simprocAttr]
  | true =>
    simp -implicitDefEqProofs (maxSteps := 10000000) only [rkA, rkB, stepA, valA, simprocAttr]
    refine call_fn rfl rfl rfl (ok111 b) ?_
    cases hb : rightX b with
    | false =>
      rw [show addX a b = (0, false) from if_neg (by simp [hb])]
      simp -implicitDefEqProofs (maxSteps := 10000000) only [rkA, rkB, stepA, valA, simprocAttr]
    | true =>
      rw [show addX a b = toldF (a + b) true [] from if_pos ⟨ha, hb⟩]
      simp only [rightX, decide_eq_true_eq] at ha hb
      have hw := wrapped (x := a + b) (by omega) (by omega)
      simp -implicitDefEqProofs (maxSteps := 10000000) only [rkA, rkB, stepA, valA, simprocAttr]
      simp -implicitDefEqProofs (maxSteps := 10000000) only [hw, rkA, rkB, stepA, valA, simprocAttr]
      refine call_fn rfl rfl rfl (ok156_nil (a + b) true) ?_
      simp -implicitDefEqProofs (maxSteps := 10000000) only [rkA, rkB, stepA, valA, simprocAttr]
theorem ok149 (a b : Int) : Ok Tryz.prog 149 [num a, num b] (.tup [num (subX a b).1, tru (subX a b).2]) := by
  refine ok_fn mixed Tryz.func149 (code := ?_) (h := h149) ?_ k149 ?_
  rotate_left
  · exact rfl
  unfold h149 initS
  simp -implicitDefEqProofs (maxSteps := 10000000) only [rkA, rkB, stepA, valA, simprocAttr, Tryz.ntmps149, Tryz.results149]
  refine call_fn rfl rfl rfl (ok111 a) ?_
  cases ha : rightX a with
  | false =>
    rw [show subX a b = (0, false) from if_neg (by simp [ha])]
    simp -implicitDefEqProofs (maxSteps := 10000000) only [rkA, rkB, stepA, valA, simprocAttr]
  | true =>
    simp -implicitDefEqProofs (maxSteps := 10000000) only [rkA, rkB, stepA, valA, simprocAttr]
    refine call_fn rfl rfl rfl (ok111 b) ?_
    cases hb : rightX b with
    | false =>
      rw [show subX a b = (0, false) from if_neg (by simp [hb])]
      simp -implicitDefEqProofs (maxSteps := 10000000) only [rkA, rkB, stepA, valA, simprocAttr]
    | true =>
      rw [show subX a b = toldF (a - b) true [] from if_pos ⟨ha, hb⟩]
      simp only [rightX, decide_eq_true_eq] at ha hb
      have hw := wrapped (x := a - b) (by omega) (by omega)
      simp -implicitDefEqProofs (maxSteps := 10000000) only [rkA, rkB, stepA, valA, simprocAttr]
      simp -implicitDefEqProofs (maxSteps := 10000000) only [hw, rkA, rkB, stepA, valA, simprocAttr]
      refine call_fn rfl rfl rfl (ok156_nil (a - b) true) ?_
      simp -implicitDefEqProofs (maxSteps := 10000000) only [rkA, rkB, stepA, valA, simprocAttr]
def mulX (a b mode : Int) : Int × Bool := toldF (mdF a b 16777216 mode).1 (mdF a b 16777216 mode).2 [a, b]
def divX (a b mode : Int) : Int × Bool := toldF (mdF a 16777216 b mode).1 (mdF a 16777216 b mode).2 [a, b]
theorem ok104 (a b mode : Int) : Ok Tryz.prog 104 [num a, num b, num mode] (.tup [num (mulX a b mode).1, tru (mulX a b mode).2]) := by
  refine ok_fn mixed Tryz.func104 (code := ?_) (h := h104) ?_ k104 ?_
  rotate_left
  · exact rfl
  unfold h104 initS
  simp -implicitDefEqProofs (maxSteps := 10000000) only [rkA, rkB, stepA, valA, simprocAttr, Tryz.ntmps104, Tryz.results104]
  refine call_fn rfl rfl rfl (ok155 a b 16777216 mode) ?_
  simp -implicitDefEqProofs (maxSteps := 10000000) only [rkA, rkB, stepA, valA, simprocAttr]
  refine call_fn rfl rfl rfl (ok156 _ _ [a, b] (by simp)) ?_
  simp -implicitDefEqProofs (maxSteps := 10000000) only [rkA, rkB, stepA, valA, simprocAttr, mulX]
theorem ok232 (a b mode : Int) : Ok Tryz.prog 232 [num a, num b, num mode] (.tup [num (divX a b mode).1, tru (divX a b mode).2]) := by
  refine ok_fn mixed Tryz.func232 (code := ?_) (h := h232) ?_ k232 ?_
  rotate_left
  · exact rfl
  unfold h232 initS
  simp -implicitDefEqProofs (maxSteps := 10000000) only [rkA, rkB, stepA, valA, simprocAttr, Tryz.ntmps232, Tryz.results232]
  refine call_fn rfl rfl rfl (ok155 a 16777216 b mode) ?_
  simp -implicitDefEqProofs (maxSteps := 10000000) only [rkA, rkB, stepA, valA, simprocAttr]
  refine call_fn rfl rfl rfl (ok156 _ _ [a, b] (by simp)) ?_
  simp -implicitDefEqProofs (maxSteps := 10000000) only [rkA, rkB, stepA, valA, simprocAttr, divX]
end Go.Proofs.YtbflmeomkfjikaaGreat.A



set_option linter.unusedVariables false
set_option linter.unusedSimpArgs false
set_option maxRecDepth 100000
namespace Go.Proofs.YtbflmeomkfjikaaGreat.A.E
open Go Go.RowKit Go.Shelf

/-! ### Enclosed numbers -/
structure Fr where
  v : Int
  lo : Int
  hi : Int
  bad : Bool
  deriving DecidableEq
abbrev frV (x : Fr) : PV := .agg [num x.v, num x.lo, num x.hi, tru x.bad]
abbrev Fr.wrong : Fr := ⟨0, 0, 0, true⟩
def Fr.fine (x : Fr) : Bool := !x.bad && (rightX x.lo && (rightX x.hi && (decide (x.lo ≤ x.v) && decide (x.v ≤ x.hi))))
theorem ok84 (x : Fr) : Ok Tryz.prog 84 [frV x] (tru x.fine) := by
  refine ok_fn mixed Tryz.func84 (code := ?_) (h := h84) ?_ k84 ?_
  rotate_left
  · exact rfl
  unfold h84 initS
  simp -implicitDefEqProofs (maxSteps := 10000000) only [rkA, rkB, stepA, valA, simprocAttr, Tryz.ntmps84, Tryz.results84]
  cases hb : x.bad with
  | true => simp -implicitDefEqProofs (maxSteps := 10000000) only [Fr.fine, hb, rkA, rkB, stepA, valA, simprocAttr]
  | false =>
    simp -implicitDefEqProofs (maxSteps := 10000000) only [rkA, rkB, stepA, valA, simprocAttr]
    refine call_fn rfl rfl rfl (ok111 x.lo) ?_
    cases h1 : rightX x.lo with
    | false => simp -implicitDefEqProofs (maxSteps := 10000000) only [Fr.fine, hb, h1, rkA, rkB, stepA, valA, simprocAttr]
    | true =>
      simp -implicitDefEqProofs (maxSteps := 10000000) only [rkA, rkB, stepA, valA, simprocAttr]
      refine call_fn rfl rfl rfl (ok111 x.hi) ?_
      cases h2 : rightX x.hi with
      | false => simp -implicitDefEqProofs (maxSteps := 10000000) only [Fr.fine, hb, h1, h2, rkA, rkB, stepA, valA, simprocAttr]
      | true =>
        simp -implicitDefEqProofs (maxSteps := 10000000) only [rkA, rkB, stepA, valA, simprocAttr]
        by_cases h3 : x.lo ≤ x.v
        · simp -implicitDefEqProofs (maxSteps := 10000000) only [Fr.fine, hb, h1, h2, h3, rkA, rkB, stepA, valA, simprocAttr]
        · simp -implicitDefEqProofs (maxSteps := 10000000) only [Fr.fine, hb, h1, h2, h3, rkA, rkB, stepA, valA, simprocAttr]
theorem ok112 : Ok Tryz.prog 112 [] (frV .wrong) := by
  refine ok_fn mixed Tryz.func112 (code := ?_) (h := h112) ?_ k112 ?_
  rotate_left
  · exact rfl
  unfold h112 initS
  simp -implicitDefEqProofs (maxSteps := 10000000) only [rkA, rkB, stepA, valA, simprocAttr, Tryz.ntmps112, Tryz.results112]
def point (n : Int) : Fr := if rightX n = true then ⟨n, n, n, false⟩ else .wrong
theorem ok53 (n : Int) : Ok Tryz.prog 53 [num n] (frV (point n)) := by
  refine ok_fn mixed Tryz.func53 (code := ?_) (h := h53) ?_ k53 ?_
  rotate_left
  · exact rfl
  unfold h53 initS
  simp -implicitDefEqProofs (maxSteps := 10000000) only [rkA, rkB, stepA, valA, simprocAttr, Tryz.ntmps53, Tryz.results53]
  refine call_fn rfl rfl rfl (ok111 n) ?_
  cases h : rightX n with
  | false =>
    simp -implicitDefEqProofs (maxSteps := 10000000) only [rkA, rkB, stepA, valA, simprocAttr]
    refine call_fn rfl rfl rfl (ok112) ?_
    simp -implicitDefEqProofs (maxSteps := 10000000) only [point, h, rkA, rkB, stepA, valA, simprocAttr]
  | true => simp -implicitDefEqProofs (maxSteps := 10000000) only [point, h, rkA, rkB, stepA, valA, simprocAttr]
/-- A whole number. -/
def newF (n _d : Int) : Fr := if (ofX n).2 = true then point (ofX n).1 else .wrong
theorem ok56 (a : Fr) (n : Int) : Ok Tryz.prog 56 [frV a, num n] (frV (newF n 1)) := by
  refine ok_fn mixed Tryz.func56 (code := ?_) (h := h56) ?_ k56 ?_
  rotate_left
  · exact rfl
  unfold h56 initS
  simp -implicitDefEqProofs (maxSteps := 10000000) only [rkA, rkB, stepA, valA, simprocAttr, Tryz.ntmps56, Tryz.results56]
  refine call_fn rfl rfl rfl (ok117 n) ?_
  simp -implicitDefEqProofs (maxSteps := 10000000) only [rkA, rkB, stepA, valA, simprocAttr]
  cases h : (ofX n).2 with
  | false =>
    simp -implicitDefEqProofs (maxSteps := 10000000) only [rkA, rkB, stepA, valA, simprocAttr]
    refine call_fn rfl rfl rfl (ok112) ?_
    simp -implicitDefEqProofs (maxSteps := 10000000) only [newF, h, rkA, rkB, stepA, valA, simprocAttr]
  | true =>
    simp -implicitDefEqProofs (maxSteps := 10000000) only [rkA, rkB, stepA, valA, simprocAttr]
    refine call_fn rfl rfl rfl (ok53 (ofX n).1) ?_
    simp -implicitDefEqProofs (maxSteps := 10000000) only [newF, h, rkA, rkB, stepA, valA, simprocAttr]

def minL : List Int → Int
  | [] => 0
  | x :: l => l.foldl (fun m y => if y < m then y else m) x
def maxL : List Int → Int
  | [] => 0
  | x :: l => l.foldl (fun m y => if m < y then y else m) x
theorem ok153 (ex : Bool) (l : List Int) (h : l ≠ []) (hl : l.length ≤ 1000) : Ok Tryz.prog 153 [.sl ex (l.map num)] (num (minL l)) := by
  obtain ⟨x, l, rfl⟩ : ∃ x t, l = x :: t := by cases l with | nil => exact absurd rfl h | cons x t => exact ⟨x, t, rfl⟩
  simp only [List.length_cons] at hl
  have c : ¬ (((l.length + 1 : Nat) : Int) < 1) := by omega
  have hlen : ((x :: l).map num).length = l.length + 1 := by simp
  have g0 : ((x :: l).map num)[0]? = some (num x) := rfl
  have hres : minL (x :: l) = l.foldl (fun m y => if y < m then y else m) x := rfl
  generalize hL : (x :: l).map num = L at *
  refine ok_fn mixed Tryz.func153 (code := ?_) (h := h153) ?_ k153 ?_
  rotate_left
  · exact rfl
  unfold h153 initS
  simp -implicitDefEqProofs (maxSteps := 10000000) only [rkA, rkB, stepA, valA, simprocAttr, Tryz.ntmps153, Tryz.results153]
  simp -implicitDefEqProofs (maxSteps := 10000000) only [hlen, c, g0, rkA, rkB, stepA, valA, simprocAttr]
  refine wp_loop (fun m s => ∃ i : Nat, i + m = l.length ∧ s = ⟨[.v (.sl ex L), jk, jk, nt ((l.take i).foldl (fun m y => if y < m then y else m) x), nt ((i + 1 : Nat) : Int), jk, jk, jk, jk, jk, jk, jk, jk, jk, jk, jk, jk, jk, jk, jk, jk, jk, jk, jk, jk], [], [], [], [], 0, nomem⟩) l.length ?_ ?_
  · simp -implicitDefEqProofs (maxSteps := 10000000) only [rkA, rkB, stepA, valA, simprocAttr]
    exact ⟨0, by simp, rfl⟩
  rintro m s ⟨i, hi, rfl⟩
  simp -implicitDefEqProofs (maxSteps := 10000000) only [hlen, rkA, rkB, stepA, valA, simprocAttr]
  refine gB_dec ?_ ?_ <;> intro hc <;> simp -implicitDefEqProofs (maxSteps := 10000000) only [hc, rkA, rkB, stepA, valA, simprocAttr]
  · have hlt : i < l.length := by omega
    have h0 : (0 : Int) ≤ ((i + 1 : Nat) : Int) := by omega
    have hg : L[i + 1]? = some (num l[i]) := by rw [← hL]; simp [hlt]
    have hw := wrapped (x := ((i + 1 : Nat) : Int) + 1) (by omega) (by omega)
    simp -implicitDefEqProofs (maxSteps := 10000000) only [h0, Int.toNat_natCast, hg, rkA, rkB, stepA, valA, simprocAttr]
    simp -implicitDefEqProofs (maxSteps := 10000000) only [hw, rkA, rkB, stepA, valA, simprocAttr]
    refine loopK_of (m' := m - 1) (by omega) ?_
    simp -implicitDefEqProofs (maxSteps := 10000000) only [rkA, rkB, stepA, valA, simprocAttr]
    refine ⟨i + 1, by omega, ?_⟩
    rw [List.take_succ_eq_append_getElem hlt, List.foldl_append]
    simp only [List.foldl_cons, List.foldl_nil, Int.natCast_add, Int.natCast_one]
  · have hin : l.length ≤ i := by omega
    rw [List.take_of_length_le hin, hres]
theorem ok154 (ex : Bool) (l : List Int) (h : l ≠ []) (hl : l.length ≤ 1000) : Ok Tryz.prog 154 [.sl ex (l.map num)] (num (maxL l)) := by
  obtain ⟨x, l, rfl⟩ : ∃ x t, l = x :: t := by cases l with | nil => exact absurd rfl h | cons x t => exact ⟨x, t, rfl⟩
  simp only [List.length_cons] at hl
  have c : ¬ (((l.length + 1 : Nat) : Int) < 1) := by omega
  have hlen : ((x :: l).map num).length = l.length + 1 := by simp
  have g0 : ((x :: l).map num)[0]? = some (num x) := rfl
  have hres : maxL (x :: l) = l.foldl (fun m y => if m < y then y else m) x := rfl
  generalize hL : (x :: l).map num = L at *
  refine ok_fn mixed Tryz.func154 (code := ?_) (h := h154) ?_ k154 ?_
  rotate_left
  · exact rfl
  unfold h154 initS
  simp -implicitDefEqProofs (maxSteps := 10000000) only [rkA, rkB, stepA, valA, simprocAttr, Tryz.ntmps154, Tryz.results154]
  simp -implicitDefEqProofs (maxSteps := 10000000) only [hlen, c, g0, rkA, rkB, stepA, valA, simprocAttr]
  refine wp_loop (fun m s => ∃ i : Nat, i + m = l.length ∧ s = ⟨[.v (.sl ex L), jk, jk, nt ((l.take i).foldl (fun m y => if m < y then y else m) x), nt ((i + 1 : Nat) : Int), jk, jk, jk, jk, jk, jk, jk, jk, jk, jk, jk, jk, jk, jk, jk, jk, jk, jk, jk, jk], [], [], [], [], 0, nomem⟩) l.length ?_ ?_
  · simp -implicitDefEqProofs (maxSteps := 10000000) only [rkA, rkB, stepA, valA, simprocAttr]
    exact ⟨0, by simp, rfl⟩
  rintro m s ⟨i, hi, rfl⟩
  simp -implicitDefEqProofs (maxSteps := 10000000) only [hlen, rkA, rkB, stepA, valA, simprocAttr]
  refine gB_dec ?_ ?_ <;> intro hc <;> simp -implicitDefEqProofs (maxSteps := 10000000) only [hc, rkA, rkB, stepA, valA, simprocAttr]
  · have hlt : i < l.length := by omega
    have h0 : (0 : Int) ≤ ((i + 1 : Nat) : Int) := by omega
    have hg : L[i + 1]? = some (num l[i]) := by rw [← hL]; simp [hlt]
    have hw := wrapped (x := ((i + 1 : Nat) : Int) + 1) (by omega) (by omega)
    simp -implicitDefEqProofs (maxSteps := 10000000) only [h0, Int.toNat_natCast, hg, rkA, rkB, stepA, valA, simprocAttr]
    simp -implicitDefEqProofs (maxSteps := 10000000) only [hw, rkA, rkB, stepA, valA, simprocAttr]
    refine loopK_of (m' := m - 1) (by omega) ?_
    simp -implicitDefEqProofs (maxSteps := 10000000) only [rkA, rkB, stepA, valA, simprocAttr]
    refine ⟨i + 1, by omega, ?_⟩
    rw [List.take_succ_eq_append_getElem hlt, List.foldl_append]
    simp only [List.foldl_cons, List.foldl_nil, Int.natCast_add, Int.natCast_one]
  · have hin : l.length ≤ i := by omega
    rw [List.take_of_length_le hin, hres]

/-! ### What is told of values, and of pairs of bounds -/
abbrev prV (p : Int × Int) : PV := .agg [num p.1, num p.2]
def okP (F : Int → Int → Int → Int × Bool) (p : Int × Int) : Bool := (F p.1 p.2 1).2 && (F p.1 p.2 2).2
def madeE (F : Int → Int → Int → Int × Bool) (a b : Fr) (ps : List (Int × Int)) : Fr :=
  if ((F a.v b.v 0).2 && ps.all (okP F)) = true ∧ a.fine = true ∧ b.fine = true then ⟨(F a.v b.v 0).1, minL (ps.map fun p => (F p.1 p.2 1).1), maxL (ps.map fun p => (F p.1 p.2 2).1), false⟩ else .wrong
theorem ok103 (k : Nat) (F : Int → Int → Int → Int × Bool) (hF : ∀ x y m, Ok Tryz.prog k [num x, num y, num m] (.tup [num (F x y m).1, tru (F x y m).2])) (a b : Fr) (ex : Bool) (ps : List (Int × Int)) (h1 : ps ≠ []) (h2 : ps.length ≤ 4) :
    Ok Tryz.prog 103 [frV a, frV b, .fn (.func k) [], .sl ex (ps.map prV)] (frV (madeE F a b ps)) := by
  have hl : (ps.map prV).length = ps.length := by simp
  refine ok_fn mixed Tryz.func103 (code := ?_) (h := h103) ?_ k103 ?_
  rotate_left
  · exact rfl
  unfold h103 initS
  simp -implicitDefEqProofs (maxSteps := 10000000) only [rkA, rkB, stepA, valA, simprocAttr, Tryz.ntmps103, Tryz.results103]
  refine call_fn rfl rfl rfl (hF a.v b.v 0) ?_
  simp -implicitDefEqProofs (maxSteps := 10000000) only [rkA, rkB, stepA, valA, simprocAttr]
  refine wp_loop (fun m s => ∃ i : Nat, i + m = ps.length ∧ s = ⟨[jk, jk, .v (.fn (.func k) []), jk, .ptr 4 0, .ptr 5 0, jk, jk, .ptr 8 0, nt (F a.v b.v 0).1, .v (tru ((F a.v b.v 0).2 && (ps.take i).all (okP F))), .acc 11 ((ps.take i).map fun p => num (F p.1 p.2 1).1), .acc 12 ((ps.take i).map fun p => num (F p.1 p.2 2).1), jk, jk, jk, jk, jk, jk, jk, jk, jk, jk, jk, jk, jk, jk, jk, .v (.sl ex (ps.map prV)), nt ps.length, nt i, jk, jk, jk, jk, jk, jk, jk, jk, jk, jk, jk, jk, jk, jk, jk, jk, jk, jk, jk, jk, jk, jk, jk, jk, jk, jk, jk, jk, jk, jk, jk, jk, jk, jk, jk, jk, jk, jk, jk, jk, jk, jk, jk, jk, jk, jk, jk, jk, jk, jk, jk, jk, jk, jk, jk, jk],
    [(4, [nt a.v, nt a.lo, nt a.hi, .v (tru a.bad)]), (5, [nt b.v, nt b.lo, nt b.hi, .v (tru b.bad)]), (8, [nt 0, nt 0, nt 0, .v (tru false)])], [], [(11, i), (12, i)], [], 0, nomem⟩) ps.length ?_ ?_
  · simp -implicitDefEqProofs (maxSteps := 10000000) only [hl, rkA, rkB, stepA, valA, simprocAttr]
    refine ⟨0, by simp, ?_⟩
    simp
  rintro m s ⟨i, hi, rfl⟩
  simp -implicitDefEqProofs (maxSteps := 10000000) only [rkA, rkB, stepA, valA, simprocAttr]
  refine gB_dec ?_ ?_ <;> intro hc <;> simp -implicitDefEqProofs (maxSteps := 10000000) only [hc, rkA, rkB, stepA, valA, simprocAttr]
  · have hlt : i < ps.length := by omega
    have h0 : (0 : Int) ≤ (i : Int) := by omega
    have hg : (ps.map prV)[i]? = some (prV ps[i]) := by simp [hlt]
    simp -implicitDefEqProofs (maxSteps := 10000000) only [h0, Int.toNat_natCast, hg, rkA, rkB, stepA, valA, simprocAttr]
    refine call_fn rfl rfl rfl (hF ps[i].1 ps[i].2 1) ?_
    simp -implicitDefEqProofs (maxSteps := 10000000) only [rkA, rkB, stepA, valA, simprocAttr]
    refine call_fn rfl rfl rfl (hF ps[i].1 ps[i].2 2) ?_
    simp -implicitDefEqProofs (maxSteps := 10000000) only [rkA, rkB, stepA, valA, simprocAttr]
    have f1 : fits 1 8 ((ps.take i).map fun p => num (F p.1 p.2 1).1) [num (F ps[i].1 ps[i].2 1).1] = true := by
      have := fits_num (k := (ps.take i).map fun p => (F p.1 p.2 1).1) (l := [(F ps[i].1 ps[i].2 1).1]) (by simp; omega)
      simpa [Function.comp_def] using this
    have f2 : fits 1 8 ((ps.take i).map fun p => num (F p.1 p.2 2).1) [num (F ps[i].1 ps[i].2 2).1] = true := by
      have := fits_num (k := (ps.take i).map fun p => (F p.1 p.2 2).1) (l := [(F ps[i].1 ps[i].2 2).1]) (by simp; omega)
      simpa [Function.comp_def] using this
    have l1 : ((ps.take i).map fun p => num (F p.1 p.2 1).1).length = i := by simp; omega
    have l2 : ((ps.take i).map fun p => num (F p.1 p.2 2).1).length = i := by simp; omega
    have hw := wrapped (x := (i : Int) + 1) (by omega) (by omega)
    have hall : (ps.take (i + 1)).all (okP F) = ((ps.take i).all (okP F) && ((F ps[i].1 ps[i].2 1).2 && (F ps[i].1 ps[i].2 2).2)) := by
      rw [List.take_succ_eq_append_getElem hlt, List.all_append]
      simp [okP]
    have hnew : ((F a.v b.v 0).2 && (ps.take (i + 1)).all (okP F)) = (((F a.v b.v 0).2 && (ps.take i).all (okP F)) && ((F ps[i].1 ps[i].2 1).2 && (F ps[i].1 ps[i].2 2).2)) := by rw [hall, Bool.and_assoc]
    clear hall
    generalize ((F a.v b.v 0).2 && (ps.take i).all (okP F)) = b0 at *
    have htk := List.take_succ_eq_append_getElem hlt
    generalize (F ps[i].1 ps[i].2 1).2 = b1 at *
    generalize (F ps[i].1 ps[i].2 2).2 = b2 at *
    cases b0 with
    | false =>
      simp -implicitDefEqProofs (maxSteps := 10000000) only [f1, f2, l1, l2, rkA, rkB, stepA, valA, simprocAttr]
      simp -implicitDefEqProofs (maxSteps := 10000000) only [hw, rkA, rkB, stepA, valA, simprocAttr]
      refine loopK_of (m' := m - 1) (by omega) ?_
      simp -implicitDefEqProofs (maxSteps := 10000000) only [rkA, rkB, stepA, valA, simprocAttr]
      refine ⟨i + 1, by omega, ?_⟩
      rw [hnew, htk]
      simp only [Bool.false_and, Bool.true_and, List.map_append, List.map_cons, List.map_nil, Int.natCast_add, Int.natCast_one]
    | true =>
      cases b1 with
      | false =>
        simp -implicitDefEqProofs (maxSteps := 10000000) only [f1, f2, l1, l2, rkA, rkB, stepA, valA, simprocAttr]
        simp -implicitDefEqProofs (maxSteps := 10000000) only [hw, rkA, rkB, stepA, valA, simprocAttr]
        refine loopK_of (m' := m - 1) (by omega) ?_
        simp -implicitDefEqProofs (maxSteps := 10000000) only [rkA, rkB, stepA, valA, simprocAttr]
        refine ⟨i + 1, by omega, ?_⟩
        rw [hnew, htk]
        simp only [Bool.false_and, Bool.true_and, List.map_append, List.map_cons, List.map_nil, Int.natCast_add, Int.natCast_one]
      | true =>
        simp -implicitDefEqProofs (maxSteps := 10000000) only [f1, f2, l1, l2, rkA, rkB, stepA, valA, simprocAttr]
        simp -implicitDefEqProofs (maxSteps := 10000000) only [hw, rkA, rkB, stepA, valA, simprocAttr]
        refine loopK_of (m' := m - 1) (by omega) ?_
        simp -implicitDefEqProofs (maxSteps := 10000000) only [rkA, rkB, stepA, valA, simprocAttr]
        refine ⟨i + 1, by omega, ?_⟩
        rw [hnew, htk]
        simp only [Bool.false_and, Bool.true_and, List.map_append, List.map_cons, List.map_nil, Int.natCast_add, Int.natCast_one]
  · have hin : i = ps.length := by omega
    subst hin
    simp only [List.take_length]
    have m1 : (ps.map fun p => num (F p.1 p.2 1).1) = (ps.map fun p => (F p.1 p.2 1).1).map num := by simp
    have m2 : (ps.map fun p => num (F p.1 p.2 2).1) = (ps.map fun p => (F p.1 p.2 2).1).map num := by simp
    have n1 : (ps.map fun p => (F p.1 p.2 1).1) ≠ [] := by simpa using h1
    have n2 : (ps.map fun p => (F p.1 p.2 2).1) ≠ [] := by simpa using h1
    have k1 : (ps.map fun p => (F p.1 p.2 1).1).length ≤ 1000 := by simp; omega
    have k2 : (ps.map fun p => (F p.1 p.2 2).1).length ≤ 1000 := by simp; omega
    rw [m1, m2]
    have hres : madeE F a b ps = if ((F a.v b.v 0).2 && ps.all (okP F)) = true ∧ a.fine = true ∧ b.fine = true then ⟨(F a.v b.v 0).1, minL (ps.map fun p => (F p.1 p.2 1).1), maxL (ps.map fun p => (F p.1 p.2 2).1), false⟩ else .wrong := rfl
    generalize ((F a.v b.v 0).2 && ps.all (okP F)) = b0 at *
    cases b0 with
    | false =>
      rw [hres, if_neg (by simp)]
      simp -implicitDefEqProofs (maxSteps := 10000000) only [rkA, rkB, stepA, valA, simprocAttr]
      refine call_fn rfl rfl rfl (ok112) ?_
      simp -implicitDefEqProofs (maxSteps := 10000000) only [rkA, rkB, stepA, valA, simprocAttr]
    | true =>
      simp -implicitDefEqProofs (maxSteps := 10000000) only [rkA, rkB, stepA, valA, simprocAttr]
      refine call_fn rfl rfl rfl (ok84 a) ?_
      cases ha : a.fine with
      | false =>
        rw [hres, if_neg (by simp [ha])]
        simp -implicitDefEqProofs (maxSteps := 10000000) only [rkA, rkB, stepA, valA, simprocAttr]
        refine call_fn rfl rfl rfl (ok112) ?_
        simp -implicitDefEqProofs (maxSteps := 10000000) only [rkA, rkB, stepA, valA, simprocAttr]
      | true =>
        simp -implicitDefEqProofs (maxSteps := 10000000) only [rkA, rkB, stepA, valA, simprocAttr]
        refine call_fn rfl rfl rfl (ok84 b) ?_
        cases hb : b.fine with
        | false =>
          rw [hres, if_neg (by simp [hb])]
          simp -implicitDefEqProofs (maxSteps := 10000000) only [rkA, rkB, stepA, valA, simprocAttr]
          refine call_fn rfl rfl rfl (ok112) ?_
          simp -implicitDefEqProofs (maxSteps := 10000000) only [rkA, rkB, stepA, valA, simprocAttr]
        | true =>
          rw [hres, if_pos ⟨rfl, ha, hb⟩]
          simp -implicitDefEqProofs (maxSteps := 10000000) only [rkA, rkB, stepA, valA, simprocAttr]
          refine call_fn rfl rfl rfl (ok153 _ _ n1 k1) ?_
          simp -implicitDefEqProofs (maxSteps := 10000000) only [rkA, rkB, stepA, valA, simprocAttr]
          refine call_fn rfl rfl rfl (ok154 _ _ n2 k2) ?_
          simp -implicitDefEqProofs (maxSteps := 10000000) only [rkA, rkB, stepA, valA, simprocAttr]

/-! ### Sums, products .. -/
def allP (a b : Fr) : List (Int × Int) := [(a.lo, b.lo), (a.lo, b.hi), (a.hi, b.lo), (a.hi, b.hi)]
def addF (a b : Fr) : Fr := madeE (fun x y _ => addX x y) a b [(a.lo, b.lo), (a.hi, b.hi)]
def subF (a b : Fr) : Fr := madeE (fun x y _ => subX x y) a b [(a.lo, b.hi), (a.hi, b.lo)]
def mulF (a b : Fr) : Fr := madeE mulX a b (allP a b)
def divF (a b : Fr) : Fr := if b.lo ≤ 0 ∧ b.hi ≥ 0 then .wrong else madeE divX a b (allP a b)
theorem ok105 (a b : Fr) : Ok Tryz.prog 105 [frV a, frV b] (.sl true ((allP a b).map prV)) := by
  refine ok_fn mixed Tryz.func105 (code := ?_) (h := h105) ?_ k105 ?_
  rotate_left
  · exact rfl
  unfold h105 initS
  simp -implicitDefEqProofs (maxSteps := 10000000) only [rkA, rkB, stepA, valA, simprocAttr, Tryz.ntmps105, Tryz.results105]
  rfl
theorem ok230 (x y m : Int) : Ok Tryz.prog 230 [num x, num y, num m] (.tup [num (addX x y).1, tru (addX x y).2]) := by
  refine ok_fn mixed Tryz.func230 (code := ?_) (h := h230) ?_ k230 ?_
  rotate_left
  · exact rfl
  unfold h230 initS
  simp -implicitDefEqProofs (maxSteps := 10000000) only [rkA, rkB, stepA, valA, simprocAttr, Tryz.ntmps230, Tryz.results230]
  refine call_fn rfl rfl rfl (ok231 x y) ?_
  simp -implicitDefEqProofs (maxSteps := 10000000) only [rkA, rkB, stepA, valA, simprocAttr]
theorem ok148 (x y m : Int) : Ok Tryz.prog 148 [num x, num y, num m] (.tup [num (subX x y).1, tru (subX x y).2]) := by
  refine ok_fn mixed Tryz.func148 (code := ?_) (h := h148) ?_ k148 ?_
  rotate_left
  · exact rfl
  unfold h148 initS
  simp -implicitDefEqProofs (maxSteps := 10000000) only [rkA, rkB, stepA, valA, simprocAttr, Tryz.ntmps148, Tryz.results148]
  refine call_fn rfl rfl rfl (ok149 x y) ?_
  simp -implicitDefEqProofs (maxSteps := 10000000) only [rkA, rkB, stepA, valA, simprocAttr]
theorem ok227 (a b : Fr) : Ok Tryz.prog 227 [frV a, frV b] (frV (addF a b)) := by
  have h := ok103 _ _ (fun x y m => ok230 x y m) a b true [(a.lo, b.lo), (a.hi, b.hi)] (by simp) (by simp)
  refine ok_fn mixed Tryz.func227 (code := ?_) (h := h227) ?_ k227 ?_
  rotate_left
  · exact rfl
  unfold h227 initS
  simp -implicitDefEqProofs (maxSteps := 10000000) only [rkA, rkB, stepA, valA, simprocAttr, Tryz.ntmps227, Tryz.results227]
  refine call_fn rfl rfl rfl (h) ?_
  simp -implicitDefEqProofs (maxSteps := 10000000) only [rkA, rkB, stepA, valA, simprocAttr, addF]
theorem ok97 (a b : Fr) : Ok Tryz.prog 97 [frV a, frV b] (frV (subF a b)) := by
  have h := ok103 _ _ (fun x y m => ok148 x y m) a b true [(a.lo, b.hi), (a.hi, b.lo)] (by simp) (by simp)
  refine ok_fn mixed Tryz.func97 (code := ?_) (h := h97) ?_ k97 ?_
  rotate_left
  · exact rfl
  unfold h97 initS
  simp -implicitDefEqProofs (maxSteps := 10000000) only [rkA, rkB, stepA, valA, simprocAttr, Tryz.ntmps97, Tryz.results97]
  refine call_fn rfl rfl rfl (h) ?_
  simp -implicitDefEqProofs (maxSteps := 10000000) only [rkA, rkB, stepA, valA, simprocAttr, subF]
theorem ok45 (a b : Fr) : Ok Tryz.prog 45 [frV a, frV b] (frV (mulF a b)) := by
  have h := ok103 _ _ ok104 a b true (allP a b) (by simp [allP]) (by simp [allP])
  refine ok_fn mixed Tryz.func45 (code := ?_) (h := h45) ?_ k45 ?_
  rotate_left
  · exact rfl
  unfold h45 initS
  simp -implicitDefEqProofs (maxSteps := 10000000) only [rkA, rkB, stepA, valA, simprocAttr, Tryz.ntmps45, Tryz.results45]
  refine call_fn rfl rfl rfl (ok105 a b) ?_
  simp -implicitDefEqProofs (maxSteps := 10000000) only [rkA, rkB, stepA, valA, simprocAttr]
  refine call_fn rfl rfl rfl (h) ?_
  simp -implicitDefEqProofs (maxSteps := 10000000) only [rkA, rkB, stepA, valA, simprocAttr, mulF]
theorem ok228 (a b : Fr) : Ok Tryz.prog 228 [frV a, frV b] (frV (divF a b)) := by
  have h := ok103 _ _ ok232 a b true (allP a b) (by simp [allP]) (by simp [allP])
  refine ok_fn mixed Tryz.func228 (code := ?_) (h := h228) ?_ k228 ?_
  rotate_left
  · exact rfl
  unfold h228 initS
  simp -implicitDefEqProofs (maxSteps := 10000000) only [rkA, rkB, stepA, valA, simprocAttr, Tryz.ntmps228, Tryz.results228]
  by_cases h1 : b.lo ≤ 0
  · by_cases h2 : b.hi ≥ 0
    · simp -implicitDefEqProofs (maxSteps := 10000000) only [h1, h2, rkA, rkB, stepA, valA, simprocAttr]
      refine call_fn rfl rfl rfl (ok112) ?_
      simp -implicitDefEqProofs (maxSteps := 10000000) only [divF, h1, h2, rkA, rkB, stepA, valA, simprocAttr]
    · simp -implicitDefEqProofs (maxSteps := 10000000) only [h1, h2, rkA, rkB, stepA, valA, simprocAttr]
      refine call_fn rfl rfl rfl (ok105 a b) ?_
      simp -implicitDefEqProofs (maxSteps := 10000000) only [rkA, rkB, stepA, valA, simprocAttr]
      refine call_fn rfl rfl rfl (h) ?_
      simp -implicitDefEqProofs (maxSteps := 10000000) only [divF, h2, rkA, rkB, stepA, valA, simprocAttr]
  · simp -implicitDefEqProofs (maxSteps := 10000000) only [h1, rkA, rkB, stepA, valA, simprocAttr]
    refine call_fn rfl rfl rfl (ok105 a b) ?_
    simp -implicitDefEqProofs (maxSteps := 10000000) only [rkA, rkB, stepA, valA, simprocAttr]
    refine call_fn rfl rfl rfl (h) ?_
    simp -implicitDefEqProofs (maxSteps := 10000000) only [divF, h1, rkA, rkB, stepA, valA, simprocAttr]
end Go.Proofs.YtbflmeomkfjikaaGreat.A.E


set_option linter.unusedVariables false
set_option linter.unusedSimpArgs false
set_option maxRecDepth 100000
namespace Go.Proofs.YtbflmeomkfjikaaGreat.A.E
open Go Go.RowKit Go.Shelf

theorem ok139 (n : Int) : Ok Tryz.prog 139 [num n] (tru (decide (1 ≤ n ∧ n ≤ 16))) := by
  refine ok_fn mixed Tryz.func139 (code := ?_) (h := h139) ?_ k139 ?_
  rotate_left
  · exact rfl
  unfold h139 initS
  simp -implicitDefEqProofs only [rkA, rkB, stepA, valA, simprocAttr, Tryz.ntmps139, Tryz.results139]
  repeat' (refine gB_dec ?_ ?_ <;> intro hc <;> first | (exfalso; omega) | simp -implicitDefEqProofs only [hc, rkA, rkB, stepA, valA, simprocAttr])

end Go.Proofs.YtbflmeomkfjikaaGreat.A.E


set_option linter.unusedVariables false
set_option linter.unusedSimpArgs false
set_option maxRecDepth 100000
namespace Go.Proofs.YtbflmeomkfjikaaGreat.A.E
open Go Go.RowKit Go.Shelf

abbrev frs (l : List Fr) : List PV := l.map frV

theorem fits_frs {k l : List Fr} (h : k.length + l.length ≤ 4398046511104) : fits 4 32 (frs k) (frs l) = true := by
  simp [fits, PV.cells, PV.ok, PV.cell, Value.oneCell']
  omega

theorem ok87 (ex : Bool) (l : List Fr) (h : l.length ≤ 4398046511104) : Ok Tryz.prog 87 [.sl ex (frs l)] (.sl false (frs l)) := by
  have hfit : fits 4 32 [] (frs l) = true := fits_frs (k := []) (l := l) (by simpa using h)
  refine ok_fn mixed Tryz.func87 (code := ?_) (h := h87) ?_ k87 ?_
  rotate_left
  · exact rfl
  unfold h87 initS
  simp -implicitDefEqProofs only [rkA, rkB, stepA, valA, simprocAttr, Tryz.ntmps87, Tryz.results87]
  refine nilA_sl (some 4) (.tmp 3) rfl ?_
  intro b hb
  cases b with
  | true =>
    simp -implicitDefEqProofs only [rkA, rkB, stepA, valA, simprocAttr]
    have : l = [] := by
      cases l with
      | nil => rfl
      | cons x l => simp at hb
    subst this
    simp
  | false =>
    simp -implicitDefEqProofs only [hfit, rkA, rkB, stepA, valA, simprocAttr]

theorem ok88 (ex : Bool) (r c : Int) (l : List PV) : Ok Tryz.prog 88 [matV ex r c l] (tru (right r c l.length)) := by
  refine ok_fn mixed Tryz.func88 (code := ?_) (h := h88) ?_ k88 ?_
  rotate_left
  · exact rfl
  unfold h88 initS
  simp -implicitDefEqProofs only [rkA, rkB, stepA, valA, simprocAttr, Tryz.ntmps88, Tryz.results88]
  refine call_fn rfl rfl rfl (ok139 r) ?_
  by_cases hr : 1 ≤ r ∧ r ≤ 16
  · simp -implicitDefEqProofs only [hr, rkA, rkB, stepA, valA, simprocAttr]
    refine call_fn rfl rfl rfl (ok139 c) ?_
    by_cases hc : 1 ≤ c ∧ c ≤ 16
    · have hm : 0 ≤ r * c ∧ r * c ≤ 256 := by
        have h1 : (r * c).natAbs = r.natAbs * c.natAbs := Int.natAbs_mul r c
        have h2 : r.natAbs * c.natAbs ≤ 16 * 16 := Nat.mul_le_mul (by omega) (by omega)
        have h3 : 0 ≤ r * c := Int.mul_nonneg (by omega) (by omega)
        omega
      have w := wrapped (x := r * c) (by omega) (by omega)
      simp -implicitDefEqProofs only [hc, w, rkA, rkB, stepA, valA, simprocAttr]
      simp [right, hr, hc]
    · simp -implicitDefEqProofs only [hc, rkA, rkB, stepA, valA, simprocAttr]
      simp [right, hr, hc]
  · simp -implicitDefEqProofs only [hr, rkA, rkB, stepA, valA, simprocAttr]
    simp [right, hr]

theorem ok26 (r c : Int) (ex : Bool) (l : List Fr) (h : l.length ≤ 4398046511104) :
    Ok Tryz.prog 26 [num r, num c, .sl ex (frs l)] (if right r c l.length = true then .tup [matV false r c (frs l), tru true] else .tup [matNil, tru false]) := by
  refine ok_fn mixed Tryz.func26 (code := ?_) (h := h26) ?_ k26 ?_
  rotate_left
  · exact rfl
  unfold h26 initS
  simp -implicitDefEqProofs only [rkA, rkB, stepA, valA, simprocAttr, Tryz.ntmps26, Tryz.results26]
  refine call_fn rfl rfl rfl (ok87 ex l h) ?_
  simp -implicitDefEqProofs only [rkA, rkB, stepA, valA, simprocAttr]
  refine call_fn rfl rfl rfl (ok88 false r c (frs l)) ?_
  have e : (frs l).length = l.length := by simp
  rw [e]
  cases hr : right r c l.length with
  | true => simp -implicitDefEqProofs only [rkA, rkB, stepA, valA, simprocAttr]
  | false => simp -implicitDefEqProofs only [rkA, rkB, stepA, valA, simprocAttr]

theorem methOf : Meth Tryz.prog 40 "Of" 56 := by
  intro v xs w
  rfl

theorem ok43 (ex : Bool) (xs : List Int) (h : xs.length ≤ 4398046511104) : Ok Tryz.prog 43 [.sl ex (xs.map num)] (.sl false (frs (xs.map (newF · 1)))) := by
  refine ok_fn mixed Tryz.func43 (code := ?_) (h := h43) ?_ k43 ?_
  rotate_left
  · exact rfl
  unfold h43 initS
  simp -implicitDefEqProofs only [rkA, rkB, stepA, valA, simprocAttr, Tryz.ntmps43, Tryz.results43]
  refine wp_loop (fun m s => ∃ i, i + m = xs.length ∧ s = ⟨[jk, jk, jk, .acc 3 (frs ((xs.take i).map (newF · 1))), .ptr 4 0, jk, jk, .v (.sl ex (xs.map num)), nt xs.length, nt i, jk, jk, jk, jk, jk, jk, jk, jk, jk, jk, jk, jk],
    [(4, [nt 0, nt 0, nt 0, .v (tru false)])], [], [(2, 0), (3, i)], [], 0, nomem⟩) xs.length ?_ ?_
  · simp -implicitDefEqProofs only [rkA, rkB, stepA, valA, simprocAttr]
    refine ⟨0, by simp, ?_⟩
    simp
  rintro m s ⟨i, hi, rfl⟩
  simp -implicitDefEqProofs only [rkA, rkB, stepA, valA, simprocAttr]
  refine gB_dec ?_ ?_ <;> intro hc <;> simp -implicitDefEqProofs only [hc, rkA, rkB, stepA, valA, simprocAttr]
  · have hlt : i < xs.length := by omega
    have h0 : (0 : Int) ≤ (i : Int) := by omega
    have hg : (xs.map num)[i]? = some (num xs[i]) := by simp [hlt]
    simp -implicitDefEqProofs only [h0, Int.toNat_natCast, hg, rkA, rkB, stepA, valA, simprocAttr]
    refine call_meth rfl rfl methOf (ok56 ⟨0, 0, 0, false⟩ xs[i]) ?_
    have hfit : fits 4 32 (frs ((xs.take i).map (newF · 1))) [frV (newF xs[i] 1)] = true := fits_frs (l := [newF xs[i] 1]) (by simp; omega)
    have hw := wrapped (x := (i : Int) + 1) (by omega) (by omega)
    have hl : (frs ((xs.take i).map (newF · 1))).length = i := by simp; omega
    simp -implicitDefEqProofs only [hfit, hl, hw, rkA, rkB, stepA, valA, simprocAttr]
    refine loopK_of (m' := m - 1) (by omega) ?_
    simp -implicitDefEqProofs only [rkA, rkB, stepA, valA, simprocAttr]
    refine ⟨i + 1, by omega, ?_⟩
    rw [List.take_succ_eq_append_getElem hlt]
    simp only [frs, List.map_append, List.map_cons, List.map_nil, Int.natCast_add, Int.natCast_one]
  · have : xs.length ≤ i := by omega
    rw [List.take_of_length_le this]

theorem ok22 (r c : Int) (ex : Bool) (xs : List Int) (h : xs.length ≤ 4398046511104) :
    Ok Tryz.prog 22 [num r, num c, .sl ex (xs.map num)] (if right r c xs.length = true then .tup [matV false r c (frs (xs.map (newF · 1))), tru true] else .tup [matNil, tru false]) := by
  refine ok_fn mixed Tryz.func22 (code := ?_) (h := h22) ?_ k22 ?_
  rotate_left
  · exact rfl
  unfold h22 initS
  simp -implicitDefEqProofs only [rkA, rkB, stepA, valA, simprocAttr, Tryz.ntmps22, Tryz.results22]
  refine call_fn rfl rfl rfl (ok43 ex xs h) ?_
  simp -implicitDefEqProofs only [rkA, rkB, stepA, valA, simprocAttr]
  refine call_fn rfl rfl rfl (ok26 r c false (xs.map (newF · 1)) (by simpa using h)) ?_
  simp only [List.length_map]
  cases hr : right r c xs.length with
  | true => simp -implicitDefEqProofs only [rkA, rkB, stepA, valA, simprocAttr]
  | false => simp -implicitDefEqProofs only [rkA, rkB, stepA, valA, simprocAttr]

/-- What stands in a row, or 0 fraction. -/
def atF (r c : Int) (l : List Fr) (i k : Int) : Fr := if right r c l.length = true ∧ 0 ≤ i ∧ i < r ∧ 0 ≤ k ∧ k < c then l.getD (i * c + k).toNat ⟨0, 0, 0, false⟩ else ⟨0, 0, 0, false⟩

theorem ok35 (ex : Bool) (r c i k : Int) (l : List Fr) : Ok Tryz.prog 35 [matV ex r c (frs l), num i, num k] (frV (atF r c l i k)) := by
  refine ok_fn mixed Tryz.func35 (code := ?_) (h := h35) ?_ k35 ?_
  rotate_left
  · exact rfl
  unfold h35 initS
  simp -implicitDefEqProofs only [rkA, rkB, stepA, valA, simprocAttr, Tryz.ntmps35, Tryz.results35]
  refine call_fn rfl rfl rfl (ok88 ex r c (frs l)) ?_
  have e : (frs l).length = l.length := by simp
  rw [e]
  cases hr : right r c l.length with
  | false =>
    simp -implicitDefEqProofs only [rkA, rkB, stepA, valA, simprocAttr]
    simp [atF, hr]
  | true =>
    obtain ⟨r1, r2, c1, c2, hn⟩ := right_spec hr
    simp -implicitDefEqProofs only [rkA, rkB, stepA, valA, simprocAttr]
    repeat' (refine gB_dec ?_ ?_ <;> intro hc <;> first | (exfalso; omega) | simp -implicitDefEqProofs only [hc, rkA, rkB, stepA, valA, simprocAttr])
    · rw [show atF r c l i k = ⟨0, 0, 0, false⟩ from if_neg (fun ⟨_, _, _, _, _⟩ => by omega)]
    · rw [show atF r c l i k = ⟨0, 0, 0, false⟩ from if_neg (fun ⟨_, _, _, _, _⟩ => by omega)]
    · rw [show atF r c l i k = ⟨0, 0, 0, false⟩ from if_neg (fun ⟨_, _, _, _, _⟩ => by omega)]
    · rw [show atF r c l i k = ⟨0, 0, 0, false⟩ from if_neg (fun ⟨_, _, _, _, _⟩ => by omega)]
    · obtain ⟨b1, b2, b3, b4, b5⟩ := at_bound (i := i) (k := k) r2 ⟨c1, c2⟩ (by omega) (by omega)
      have w1 := wrapped (x := i * c) (by omega) (by omega)
      have w2 := wrapped (x := i * c + k) (by omega) (by omega)
      have hlt : (i * c + k).toNat < l.length := by omega
      have hg : (frs l)[(i * c + k).toNat]? = some (frV l[(i * c + k).toNat]) := by simp [hlt]
      have ha : atF r c l i k = l[(i * c + k).toNat] := by
        unfold atF
        rw [if_pos ⟨hr, by omega, by omega, by omega, by omega⟩, List.getD_eq_getElem?_getD, List.getElem?_eq_getElem hlt]
        rfl
      simp -implicitDefEqProofs only [w1, w2, b2, hg, ha, rkA, rkB, stepA, valA, simprocAttr]
end Go.Proofs.YtbflmeomkfjikaaGreat.A.E


set_option linter.unusedVariables false
set_option linter.unusedSimpArgs false
set_option maxRecDepth 100000
namespace Go.Proofs.YtbflmeomkfjikaaGreat.A.E
open Go Go.RowKit Go.Shelf

theorem methAdd : Meth Tryz.prog 40 "Add" 227 := by
  intro v xs w
  rfl
theorem methMul : Meth Tryz.prog 40 "Mul" 45 := by
  intro v xs w
  rfl

def sumF (l : List Fr) : Fr := l.foldl addF (newF 0 1)

theorem ok132 (ex : Bool) (l : List Fr) (h : l.length ≤ 4398046511104) : Ok Tryz.prog 132 [.sl ex (frs l)] (frV (sumF l)) := by
  refine ok_fn mixed Tryz.func132 (code := ?_) (h := h132) ?_ k132 ?_
  rotate_left
  · exact rfl
  unfold h132 initS
  simp -implicitDefEqProofs only [rkA, rkB, stepA, valA, simprocAttr, Tryz.ntmps132, Tryz.results132]
  refine call_meth rfl rfl methOf (ok56 ⟨0, 0, 0, false⟩ 0) ?_
  simp -implicitDefEqProofs only [rkA, rkB, stepA, valA, simprocAttr]
  refine wp_loop (fun m s => ∃ i, i + m = l.length ∧ s = ⟨[jk, jk, .ptr 2 0, jk, .ptr 4 0, jk, jk, jk, jk, jk, .v (.sl ex (frs l)), nt l.length, nt i, jk, jk, jk, jk, jk, jk, jk, jk, jk],
    [(2, [nt 0, nt 0, nt 0, .v (tru false)]), (3, [nt 0, nt 0, nt 0, .v (tru false)]), (4, [nt (sumF (l.take i)).v, nt (sumF (l.take i)).lo, nt (sumF (l.take i)).hi, .v (tru (sumF (l.take i)).bad)])], [], [], [], 0, nomem⟩) l.length ?_ ?_
  · simp -implicitDefEqProofs only [rkA, rkB, stepA, valA, simprocAttr]
    refine ⟨0, by simp, ?_⟩
    simp [sumF]
  rintro m s ⟨i, hi, rfl⟩
  simp -implicitDefEqProofs only [rkA, rkB, stepA, valA, simprocAttr]
  refine gB_dec ?_ ?_ <;> intro hc <;> simp -implicitDefEqProofs only [hc, rkA, rkB, stepA, valA, simprocAttr]
  · have hlt : i < l.length := by omega
    have h0 : (0 : Int) ≤ (i : Int) := by omega
    have hg : (frs l)[i]? = some (frV l[i]) := by simp [hlt]
    simp -implicitDefEqProofs only [h0, Int.toNat_natCast, hg, rkA, rkB, stepA, valA, simprocAttr]
    refine call_meth rfl rfl methAdd (ok227 (sumF (l.take i)) l[i]) ?_
    have hw := wrapped (x := (i : Int) + 1) (by omega) (by omega)
    simp -implicitDefEqProofs only [hw, rkA, rkB, stepA, valA, simprocAttr]
    refine loopK_of (m' := m - 1) (by omega) ?_
    simp -implicitDefEqProofs only [rkA, rkB, stepA, valA, simprocAttr]
    refine ⟨i + 1, by omega, ?_⟩
    have e : sumF (l.take (i + 1)) = addF (sumF (l.take i)) l[i] := by
      unfold sumF
      rw [List.take_succ_eq_append_getElem hlt, List.foldl_append]
      rfl
    rw [e]
    simp only [Int.natCast_add, Int.natCast_one]
  · have : l.length ≤ i := by omega
    rw [List.take_of_length_le this]

theorem ok134 (a b : Fr) : Ok Tryz.prog 134 [frV a, frV b] (frV (mulF a b)) := by
  refine ok_fn mixed Tryz.func134 (code := ?_) (h := h134) ?_ k134 ?_
  rotate_left
  · exact rfl
  unfold h134 initS
  simp -implicitDefEqProofs only [rkA, rkB, stepA, valA, simprocAttr, Tryz.ntmps134, Tryz.results134]
  refine call_meth rfl rfl methMul (ok45 a b) ?_
  simp -implicitDefEqProofs only [rkA, rkB, stepA, valA, simprocAttr]

theorem sl_frs {ex : Bool} {l : List Fr} {a b : Nat} (h1 : a ≤ b) (h2 : b ≤ l.length) : sliceA 4 (frs l) ex (some a) (some b) none = some (.sl (exA none ex b (frs l).length) (frs ((l.take b).drop a))) := by
  unfold sliceA
  simp only [Option.getD_some]
  rw [if_pos ⟨h1, by simpa using h2, by simp, by simp [PV.cells]⟩]
  simp

/-- A row. -/
def rowF (r c : Int) (l : List Fr) (i : Int) : List Fr := if right r c l.length = true ∧ 0 ≤ i ∧ i < r then (l.take ((i + 1) * c).toNat).drop (i * c).toNat else []

theorem ok143 (ex : Bool) (r c i : Int) (l : List Fr) : Ok Tryz.prog 143 [matV ex r c (frs l), num i] (.sl false (frs (rowF r c l i))) := by
  refine ok_fn mixed Tryz.func143 (code := ?_) (h := h143) ?_ k143 ?_
  rotate_left
  · exact rfl
  unfold h143 initS
  simp -implicitDefEqProofs only [rkA, rkB, stepA, valA, simprocAttr, Tryz.ntmps143, Tryz.results143]
  refine call_fn rfl rfl rfl (ok88 ex r c (frs l)) ?_
  have e : (frs l).length = l.length := by simp
  rw [e]
  cases hr : right r c l.length with
  | false =>
    simp -implicitDefEqProofs only [rkA, rkB, stepA, valA, simprocAttr]
    simp [rowF, hr]
  | true =>
    obtain ⟨r1, r2, c1, c2, hn⟩ := right_spec hr
    simp -implicitDefEqProofs only [rkA, rkB, stepA, valA, simprocAttr]
    repeat' (refine gB_dec ?_ ?_ <;> intro hc <;> first | (exfalso; omega) | simp -implicitDefEqProofs only [hc, rkA, rkB, stepA, valA, simprocAttr])
    · rw [show rowF r c l i = [] from if_neg (fun ⟨_, _, _⟩ => by omega)]; rfl
    · rw [show rowF r c l i = [] from if_neg (fun ⟨_, _, _⟩ => by omega)]; rfl
    · obtain ⟨b1, b2, b3, b4, b5⟩ := at_bound (i := i) (k := 0) r2 ⟨c1, c2⟩ (by omega) (by omega)
      have b6 : (i + 1) * c = i * c + c := by rw [Int.add_mul, Int.one_mul]
      have b7 : (i + 1) * c ≤ r * c := Int.mul_le_mul_of_nonneg_right (by omega) (by omega)
      have w1 := wrapped (x := i * c) (by omega) (by omega)
      have w2 := wrapped (x := i + 1) (by omega) (by omega)
      have w3 := wrapped (x := (i + 1) * c) (by omega) (by omega)
      have h3 : 0 ≤ (i + 1) * c := by omega
      have hs := sl_frs (ex := ex) (l := l) (a := (i * c).toNat) (b := ((i + 1) * c).toNat) (by omega) (by omega)
      have hrow : rowF r c l i = (l.take ((i + 1) * c).toNat).drop (i * c).toNat := if_pos ⟨hr, by omega, by omega⟩
      rw [hrow]
      simp -implicitDefEqProofs only [w1, w2, w3, b1, h3, hs, rkA, rkB, stepA, valA, simprocAttr]
      refine call_fn rfl rfl rfl (ok87 _ _ (by simp; omega)) ?_
      simp -implicitDefEqProofs only [rkA, rkB, stepA, valA, simprocAttr]
end Go.Proofs.YtbflmeomkfjikaaGreat.A.E


set_option linter.unusedVariables false
set_option linter.unusedSimpArgs false
set_option maxRecDepth 100000
namespace Go.Proofs.YtbflmeomkfjikaaGreat.A.E
open Go Go.RowKit Go.Shelf

def rowsF (r c : Int) (l : List Fr) : List (List PV) := if right r c l.length = true then (List.range r.toNat).map fun (i : Nat) => [num (i : Int), .sl false (frs (rowF r c l (i : Int)))] else []

theorem it142 (ex : Bool) (r c : Int) (l : List Fr) : IterOk Tryz.prog (.fn (.func 142) [.vp [num r, num c, .sl ex (frs l)]]) (rowsF r c l) := by
  refine iter_fn mixed Tryz.func142 (code := ?_) (h := h142) ?_ k142 ?_ ?_
  rotate_left
  · exact rfl
  · exact rfl
  intro yl
  unfold h142 initS
  simp -implicitDefEqProofs only [rkA, rkB, stepA, valA, simprocAttr, Tryz.ntmps142]
  refine wp_loop (fun m s => ∃ i : Nat, i + m = (rowsF r c l).length ∧ s = ⟨[.v (.fn (.yield yl) []), .v (.vp [num r, num c, .sl ex (frs l)]), jk, nt i, jk, jk, jk, jk, jk, jk, jk, jk, jk, jk, jk, jk, jk, jk, jk, jk, jk], [], [], [], [], i, nomem⟩) (rowsF r c l).length ?_ ?_
  · simp -implicitDefEqProofs only [rkA, rkB, stepA, valA, simprocAttr]
    exact ⟨0, by simp, rfl⟩
  rintro m s ⟨i, hi, rfl⟩
  simp -implicitDefEqProofs only [rkA, rkB, stepA, valA, simprocAttr]
  refine call_fn rfl rfl rfl (ok88 ex r c (frs l)) ?_
  have e : (frs l).length = l.length := by simp
  rw [e]
  cases hr : right r c l.length with
  | false =>
    simp -implicitDefEqProofs only [rkA, rkB, stepA, valA, simprocAttr]
    have hl : (rowsF r c l).length = 0 := by simp [rowsF, hr]
    omega
  | true =>
    obtain ⟨r1, r2, c1, c2, hn⟩ := right_spec hr
    have hl : (rowsF r c l).length = r.toNat := by simp [rowsF, hr]
    simp -implicitDefEqProofs only [rkA, rkB, stepA, valA, simprocAttr]
    refine gB_dec ?_ ?_ <;> intro hc <;> simp -implicitDefEqProofs only [hc, rkA, rkB, stepA, valA, simprocAttr]
    · refine call_fn rfl rfl rfl (ok143 ex r c i l) ?_
      simp -implicitDefEqProofs only [rkA, rkB, stepA, valA, simprocAttr]
      have hx : (rowsF r c l)[i]? = some [num (i : Int), .sl false (frs (rowF r c l i))] := by
        have : i < r.toNat := by omega
        simp [rowsF, hr, this]
      have hw := wrapped (x := (i : Int) + 1) (by omega) (by omega)
      refine call_yield rfl rfl rfl rfl rfl hx ?_ ?_
      · simp -implicitDefEqProofs only [hw, rkA, rkB, stepA, valA, simprocAttr]
        refine loopK_of (m' := m - 1) (by omega) ?_
        simp -implicitDefEqProofs only [rkA, rkB, stepA, valA, simprocAttr]
        exact ⟨i + 1, by omega, by simp only [Int.natCast_add, Int.natCast_one]⟩
      · simp -implicitDefEqProofs only [rkA, rkB, stepA, valA, simprocAttr]
        exact .inr trivial
    · omega

theorem ok90 (ex : Bool) (r c : Int) (l : List Fr) : Ok Tryz.prog 90 [matV ex r c (frs l)] (.fn (.func 142) [.vp [num r, num c, .sl ex (frs l)]]) := by
  refine ok_fn mixed Tryz.func90 (code := ?_) (h := h90) ?_ k90 ?_
  rotate_left
  · exact rfl
  unfold h90 initS
  simp -implicitDefEqProofs only [rkA, rkB, stepA, valA, simprocAttr, Tryz.ntmps90, Tryz.results90]

def pairsF (a b : List Fr) : List (List PV) := (List.zip a b).map fun p => [frV p.1, frV p.2]

theorem it182 (ea eb : Bool) (a b : List Fr) (ha : a.length ≤ 4398046511104) (hb : b.length ≤ 4398046511104) : IterOk Tryz.prog (.fn (.func 182) [.vp [.sl ea (frs a)], .vp [.sl eb (frs b)]]) (pairsF a b) := by
  refine iter_fn mixed Tryz.func182 (code := ?_) (h := h182) ?_ k182 ?_ ?_
  rotate_left
  · exact rfl
  · exact rfl
  intro yl
  unfold h182 initS
  simp -implicitDefEqProofs only [rkA, rkB, stepA, valA, simprocAttr, Tryz.ntmps182]
  have hl : (pairsF a b).length = min a.length b.length := by simp [pairsF]
  have hx0 : ∀ (i : Nat) (ha : i < a.length) (hb : i < b.length), (pairsF a b)[i]? = some [frV a[i], frV b[i]] := fun i h1 h2 => by
    rw [pairsF, List.getElem?_map, List.getElem?_eq_getElem (by simp; omega), Option.map_some, List.getElem_zip]
  have hmin : (if ((frs b).length : Int) < ((frs a).length : Int) then ((frs b).length : Int) else ((frs a).length : Int)) = ((min a.length b.length : Nat) : Int) := by
    simp only [List.length_map]
    split <;> omega
  simp only [hmin]
  refine wp_loop (fun m s => ∃ i : Nat, i + m = (pairsF a b).length ∧ s = ⟨[.v (.fn (.yield yl) []), .v (.vp [.sl ea (frs a)]), .v (.vp [.sl eb (frs b)]), jk, jk, jk, jk, jk, jk, nt ((min a.length b.length : Nat) : Int), nt i, jk, jk, jk, jk, jk, jk, jk, jk, jk, jk, jk, jk, jk, jk], [], [], [], [], i, nomem⟩) (pairsF a b).length ?_ ?_
  · simp -implicitDefEqProofs only [rkA, rkB, stepA, valA, simprocAttr]
    exact ⟨0, by simp, rfl⟩
  rintro m s ⟨i, hi, rfl⟩
  simp -implicitDefEqProofs only [rkA, rkB, stepA, valA, simprocAttr]
  refine gB_dec ?_ ?_ <;> intro hc <;> simp -implicitDefEqProofs only [hc, rkA, rkB, stepA, valA, simprocAttr]
  · have h1 : i < a.length := by omega
    have h2 : i < b.length := by omega
    have h0 : (0 : Int) ≤ (i : Int) := by omega
    have g1 : (frs a)[i]? = some (frV a[i]) := by simp [h1]
    have g2 : (frs b)[i]? = some (frV b[i]) := by simp [h2]
    simp -implicitDefEqProofs only [h0, Int.toNat_natCast, g1, g2, rkA, rkB, stepA, valA, simprocAttr]
    have hw := wrapped (x := (i : Int) + 1) (by omega) (by omega)
    refine call_yield rfl rfl rfl rfl rfl (hx0 i h1 h2) ?_ ?_
    · simp -implicitDefEqProofs only [hw, rkA, rkB, stepA, valA, simprocAttr]
      refine loopK_of (m' := m - 1) (by omega) ?_
      simp -implicitDefEqProofs only [rkA, rkB, stepA, valA, simprocAttr]
      exact ⟨i + 1, by omega, by simp only [Int.natCast_add, Int.natCast_one]⟩
    · simp -implicitDefEqProofs only [rkA, rkB, stepA, valA, simprocAttr]
      exact .inr trivial
  · omega

theorem ok168 (ea eb : Bool) (a b : List Fr) : Ok Tryz.prog 168 [.sl ea (frs a), .sl eb (frs b)] (.fn (.func 182) [.vp [.sl ea (frs a)], .vp [.sl eb (frs b)]]) := by
  refine ok_fn mixed Tryz.func168 (code := ?_) (h := h168) ?_ k168 ?_
  rotate_left
  · exact rfl
  unfold h168 initS
  simp -implicitDefEqProofs only [rkA, rkB, stepA, valA, simprocAttr, Tryz.ntmps168, Tryz.results168]
end Go.Proofs.YtbflmeomkfjikaaGreat.A.E


set_option linter.unusedVariables false
set_option linter.unusedSimpArgs false
set_option maxRecDepth 100000
namespace Go.Proofs.YtbflmeomkfjikaaGreat.A.E
open Go Go.RowKit Go.Shelf

theorem ok133 (k : Nat) (F : Fr → Fr → Fr) (hF : ∀ x y, Ok Tryz.prog k [frV x, frV y] (frV (F x y))) (ea eb : Bool) (a b : List Fr) (ha : a.length ≤ 4398046511104) (hb : b.length ≤ 4398046511104) :
    Ok Tryz.prog 133 [.sl ea (frs a), .sl eb (frs b), .fn (.func k) []] (.sl false (frs (List.zipWith F a b))) := by
  refine ok_fn mixed Tryz.func133 (code := ?_) (h := h133) ?_ k133 ?_
  rotate_left
  · exact rfl
  unfold h133 initS
  simp -implicitDefEqProofs only [rkA, rkB, stepA, valA, simprocAttr, Tryz.ntmps133, Tryz.results133]
  refine call_fn rfl rfl rfl (ok168 ea eb a b) ?_
  simp -implicitDefEqProofs only [rkA, rkB, stepA, valA, simprocAttr]
  have hlz : (List.zipWith F a b).length = min a.length b.length := by simp
  have hpl : (pairsF a b).length = min a.length b.length := by simp [pairsF]
  refine wp_rf (items := pairsF a b) rfl (it182 ea eb a b ha hb) (fun i s => i ≤ (pairsF a b).length ∧ s = ⟨[], [(5, [.v (.fn (.func k) [])]), (7, [.acc 1007 (frs ((List.zipWith F a b).take i))])], [], [(6, 0), (1007, i)],
    [[.v (.sl ea (frs a)), .v (.sl eb (frs b)), .v (.fn (.func k) []), jk, jk, .ptr 5 0, .acc 6 [], .ptr 7 0, jk, jk, .v (.sl ea (frs a)), .v (.sl eb (frs b)), .v (.fn (.func 182) [.vp [.sl ea (frs a)], .vp [.sl eb (frs b)]]), jk, jk, jk, jk, jk, jk, jk, jk, jk, jk]], 0, nomem⟩) ?_ ?_ ?_
  · simp -implicitDefEqProofs only [rkA, rkB, stepA, valA, simprocAttr]
    exact Nat.zero_le _
  · rintro i x' s' R hx ⟨hi, rfl⟩ hR
    have hlt : i < (pairsF a b).length := (List.getElem?_eq_some_iff.1 hx).1
    have h1 : i < a.length := by omega
    have h2 : i < b.length := by omega
    have hx' : x' = [frV a[i], frV b[i]] := by
      rw [pairsF, List.getElem?_map, List.getElem?_eq_getElem (by simp; omega), Option.map_some, List.getElem_zip] at hx
      exact (Option.some.inj hx).symm
    subst hx'
    refine ⟨rfl, ?_⟩
    simp -implicitDefEqProofs only [rkA, rkB, stepA, valA, simprocAttr]
    refine call_fn rfl rfl rfl (hF a[i] b[i]) ?_
    have hfit : fits 4 32 (frs ((List.zipWith F a b).take i)) [frV (F a[i] b[i])] = true := fits_frs (l := [F a[i] b[i]]) (by simp; omega)
    have hl : (frs ((List.zipWith F a b).take i)).length = i := by simp; omega
    simp -implicitDefEqProofs only [hfit, hl, rkA, rkB, stepA, valA, simprocAttr]
    refine hR _ ⟨by omega, ?_⟩
    rw [List.take_succ_eq_append_getElem (by simp; omega)]
    simp only [frs, List.map_append, List.map_cons, List.map_nil, List.getElem_zipWith]
  · rintro s' ⟨hi, rfl⟩
    simp -implicitDefEqProofs only [rkA, rkB, stepA, valA, simprocAttr]
    rw [List.take_of_length_le (by simp; omega)]

def dotF (a b : List Fr) : Fr := sumF (List.zipWith mulF a b)

theorem ok81 (ea eb : Bool) (a b : List Fr) (ha : a.length ≤ 4398046511104) (hb : b.length ≤ 4398046511104) : Ok Tryz.prog 81 [.sl ea (frs a), .sl eb (frs b)] (frV (dotF a b)) := by
  refine ok_fn mixed Tryz.func81 (code := ?_) (h := h81) ?_ k81 ?_
  rotate_left
  · exact rfl
  unfold h81 initS
  simp -implicitDefEqProofs only [rkA, rkB, stepA, valA, simprocAttr, Tryz.ntmps81, Tryz.results81]
  refine call_fn rfl rfl rfl (ok133 134 mulF ok134 ea eb a b ha hb) ?_
  simp -implicitDefEqProofs only [rkA, rkB, stepA, valA, simprocAttr]
  refine call_fn rfl rfl rfl (ok132 false (List.zipWith mulF a b) (by simp; omega)) ?_
  simp -implicitDefEqProofs only [rkA, rkB, stepA, valA, simprocAttr, dotF]

/-- A matrix, turned. -/
def turnF (r c : Int) (l : List Fr) : List Fr := if right r c l.length = true then (List.range c.toNat).flatMap fun (k : Nat) => (List.range r.toNat).map fun (i : Nat) => atF r c l i k else []

/-- Of a turned matrix, what is told so far. -/
def turnP (r c : Int) (l : List Fr) (k i : Nat) : List Fr := (List.range k).flatMap (fun (k : Nat) => (List.range r.toNat).map fun (i : Nat) => atF r c l i k) ++ (List.range i).map fun (i : Nat) => atF r c l i k
theorem turnP_succ (r c : Int) (l : List Fr) (k i : Nat) : turnP r c l k (i + 1) = turnP r c l k i ++ [atF r c l i k] := by
  simp [turnP, List.range_succ]
theorem turnP_next (r c : Int) (l : List Fr) (k : Nat) : turnP r c l k r.toNat = turnP r c l (k + 1) 0 := by
  simp [turnP, List.range_succ]
theorem turnP_length (r c : Int) (l : List Fr) (k i : Nat) : (turnP r c l k i).length = k * r.toNat + i := by
  simp [turnP, List.length_flatMap, List.map_const', List.sum_replicate_nat]

theorem ok107 (ex : Bool) (r c : Int) (l : List Fr) : Ok Tryz.prog 107 [matV ex r c (frs l)] (if right r c l.length = true then matV false c r (frs (turnF r c l)) else matNil) := by
  refine ok_fn mixed Tryz.func107 (code := ?_) (h := h107) ?_ k107 ?_
  rotate_left
  · exact rfl
  unfold h107 initS
  simp -implicitDefEqProofs only [rkA, rkB, stepA, valA, simprocAttr, Tryz.ntmps107, Tryz.results107]
  refine call_fn rfl rfl rfl (ok88 ex r c (frs l)) ?_
  have e : (frs l).length = l.length := by simp
  rw [e]
  cases hr : right r c l.length with
  | false => simp -implicitDefEqProofs only [rkA, rkB, stepA, valA, simprocAttr]
  | true =>
    obtain ⟨r1, r2, c1, c2, hn⟩ := right_spec hr
    simp -implicitDefEqProofs only [rkA, rkB, stepA, valA, simprocAttr]
    refine wp_loop (fun m s => ∃ k : Nat, k + m = c.toNat ∧ s = ⟨[jk, .ptr 1 0, .ptr 2 0, .ptr 3 0, jk, jk, jk, jk, jk, jk, jk, jk, jk, jk, jk, jk, .v (num c), nt k, jk, jk, jk, jk, jk, jk, jk, jk, jk, jk, jk, jk, jk, jk, jk, jk, jk, jk, jk], [(1, [.v (num r), .v (num c), .v (.sl ex (frs l))]), (2, [nt 0, nt 0, .acc 3002 []]), (3, [nt c, nt r, .acc 15003 (frs (turnP r c l k 0))])], [],
      [(3002, 0), (3003, 0), (15003, (turnP r c l k 0).length)], [], 0, nomem⟩) c.toNat ?_ ?_
    · simp -implicitDefEqProofs only [rkA, rkB, stepA, valA, simprocAttr]
      exact ⟨0, by simp, rfl⟩
    rintro m s ⟨k, hk, rfl⟩
    simp -implicitDefEqProofs only [rkA, rkB, stepA, valA, simprocAttr]
    refine gB_dec ?_ ?_ <;> intro hc <;> simp -implicitDefEqProofs only [hc, rkA, rkB, stepA, valA, simprocAttr]
    · refine wp_loop (fun m s => ∃ i : Nat, i + m = r.toNat ∧ s = ⟨[jk, .ptr 1 0, .ptr 2 0, .ptr 3 0, nt k, jk, jk, jk, jk, jk, jk, jk, jk, jk, jk, jk, .v (num c), nt k, jk, jk, jk, nt r, nt i, jk, jk, jk, jk, jk, jk, jk, jk, jk, jk, jk, jk, jk, jk], [(1, [.v (num r), .v (num c), .v (.sl ex (frs l))]), (2, [nt 0, nt 0, .acc 3002 []]), (3, [nt c, nt r, .acc 15003 (frs (turnP r c l k i))])], [],
        [(3002, 0), (3003, 0), (15003, (turnP r c l k i).length)], [], 0, nomem⟩) r.toNat ?_ ?_
      · simp -implicitDefEqProofs only [rkA, rkB, stepA, valA, simprocAttr]
        exact ⟨0, by simp, rfl⟩
      rintro m' s ⟨i, hi, rfl⟩
      simp -implicitDefEqProofs only [rkA, rkB, stepA, valA, simprocAttr]
      have hlen := turnP_length r c l k i
      have hb : k * r.toNat + i ≤ 256 := by
        have : (k + 1) * r.toNat ≤ 16 * 16 := Nat.mul_le_mul (by omega) (by omega)
        rw [Nat.add_mul] at this
        omega
      refine gB_dec ?_ ?_ <;> intro hc2 <;> simp -implicitDefEqProofs only [hc2, rkA, rkB, stepA, valA, simprocAttr]
      · refine call_fn rfl rfl rfl (ok35 ex r c i k l) ?_
        have hfit : fits 4 32 (frs (turnP r c l k i)) [frV (atF r c l i k)] = true := fits_frs (l := [atF r c l i k]) (by simp only [List.length_cons, List.length_nil]; omega)
        have hl : (frs (turnP r c l k i)).length = (turnP r c l k i).length := by simp
        have hw := wrapped (x := (i : Int) + 1) (by omega) (by omega)
        simp -implicitDefEqProofs only [hfit, hl, hw, rkA, rkB, stepA, valA, simprocAttr]
        refine loopK_of (m' := m' - 1) (by omega) ?_
        simp -implicitDefEqProofs only [rkA, rkB, stepA, valA, simprocAttr]
        refine ⟨i + 1, by omega, ?_⟩
        rw [turnP_succ]
        simp only [frs, List.map_append, List.map_cons, List.map_nil, List.length_append, List.length_cons, List.length_nil, Int.natCast_add, Int.natCast_one]
      · have hw := wrapped (x := (k : Int) + 1) (by omega) (by omega)
        simp -implicitDefEqProofs only [hw, rkA, rkB, stepA, valA, simprocAttr]
        refine loopK_of (m' := m - 1) (by omega) ?_
        simp -implicitDefEqProofs only [rkA, rkB, stepA, valA, simprocAttr]
        refine ⟨k + 1, by omega, ?_⟩
        have hi2 : i = r.toNat := by omega
        rw [hi2, turnP_next]
        simp only [Int.natCast_add, Int.natCast_one]
    · have hk2 : k = c.toNat := by omega
      have : turnF r c l = turnP r c l k 0 := by
        rw [hk2]
        simp [turnF, hr, turnP]
      rw [this]
end Go.Proofs.YtbflmeomkfjikaaGreat.A.E


set_option linter.unusedVariables false
set_option linter.unusedSimpArgs false
set_option maxRecDepth 100000
namespace Go.Proofs.YtbflmeomkfjikaaGreat.A.E
open Go Go.RowKit Go.Shelf

theorem turnF_length {r c : Int} {l : List Fr} (h : right r c l.length = true) : (turnF r c l).length = c.toNat * r.toNat := by
  have : turnF r c l = turnP r c l c.toNat 0 := by simp [turnF, h, turnP]
  rw [this, turnP_length, Nat.add_zero]

theorem right_turn {r c : Int} {l : List Fr} (h : right r c l.length = true) : right c r (turnF r c l).length = true := by
  obtain ⟨r1, r2, c1, c2, hn⟩ := right_spec h
  rw [turnF_length h]
  simp only [right, Bool.and_eq_true, decide_eq_true_eq, beq_iff_eq]
  refine ⟨by omega, by omega, ?_⟩
  rw [Int.natCast_mul, Int.toNat_of_nonneg (by omega), Int.toNat_of_nonneg (by omega)]

section
variable {α β : Type} (f : α → α → β)
end

/-- All rows. -/
def allF (r c : Int) (l : List Fr) : List (List Fr) := (List.range r.toNat).map fun (i : Nat) => rowF r c l (i : Int)
def prodF (r m c : Int) (a b : List Fr) : List Fr := (allF r m a).flatMap fun x => (allF c m (turnF m c b)).map (dotF x)

theorem allF_length (r c : Int) (l : List Fr) : (allF r c l).length = r.toNat := by simp [allF]
theorem rowsF_all {r c : Int} {l : List Fr} (h : right r c l.length = true) {i : Nat} {x : List PV} (hx : (rowsF r c l)[i]? = some x) : i < r.toNat ∧ x = [num i, .sl false (frs (rowF r c l i))] ∧ (allF r c l)[i]? = some (rowF r c l i) := by
  obtain ⟨hi, rfl⟩ := List.getElem?_eq_some_iff.1 hx
  have hi' : i < r.toNat := by simpa [rowsF, h] using hi
  refine ⟨hi', by simp [rowsF, h], by simp [allF, hi']⟩
theorem rowsF_length {r c : Int} {l : List Fr} (h : right r c l.length = true) : (rowsF r c l).length = r.toNat := by simp [rowsF, h]
theorem rowF_length {r c : Int} {l : List Fr} (i : Int) : (rowF r c l i).length ≤ l.length := by
  unfold rowF
  split <;> simp <;> omega

theorem ok106 (ea eb : Bool) (r m m2 c : Int) (a b : List Fr) : Ok Tryz.prog 106 [matV ea r m (frs a), matV eb m2 c (frs b)]
    (if right r m a.length = true ∧ right m2 c b.length = true ∧ m = m2 then .tup [matV false r c (frs (prodF r m c a b)), tru true] else .tup [matNil, tru false]) := by
  refine ok_fn mixed Tryz.func106 (code := ?_) (h := h106) ?_ k106 ?_
  rotate_left
  · exact rfl
  unfold h106 initS
  simp -implicitDefEqProofs only [rkA, rkB, stepA, valA, simprocAttr, Tryz.ntmps106, Tryz.results106]
  refine call_fn rfl rfl rfl (ok88 ea r m (frs a)) ?_
  have e : (frs a).length = a.length := by simp
  have e' : (frs b).length = b.length := by simp
  rw [e]
  cases hr : right r m a.length with
  | false =>
    simp -implicitDefEqProofs only [rkA, rkB, stepA, valA, simprocAttr]
  | true =>
    simp -implicitDefEqProofs only [rkA, rkB, stepA, valA, simprocAttr]
    refine call_fn rfl rfl rfl (ok88 eb m2 c (frs b)) ?_
    rw [e']
    cases hr2 : right m2 c b.length with
    | false => simp -implicitDefEqProofs only [rkA, rkB, stepA, valA, simprocAttr]
    | true =>
      obtain ⟨r1, r2, c1, c2, hn⟩ := right_spec hr
      obtain ⟨m1, m3, d1, d2, hn2⟩ := right_spec hr2
      simp -implicitDefEqProofs only [rkA, rkB, stepA, valA, simprocAttr]
      refine gB_bool ?_ ?_ <;> intro hb
      · have hm : m ≠ m2 := by simpa using hb
        simp -implicitDefEqProofs only [hm, rkA, rkB, stepA, valA, simprocAttr]
      · have hm : m = m2 := by simpa using hb
        clear hb
        subst hm
        simp -implicitDefEqProofs only [rkA, rkB, stepA, valA, simprocAttr]
        have h25 := ok107 eb m c b
        rw [if_pos hr2] at h25
        refine call_fn rfl rfl rfl (h25) ?_
        simp -implicitDefEqProofs only [rkA, rkB, stepA, valA, simprocAttr]
        refine call_fn rfl rfl rfl (ok90 ea r m a) ?_
        simp -implicitDefEqProofs only [rkA, rkB, stepA, valA, simprocAttr]
        have hrt := right_turn hr2
        have hpl : ∀ i k, i < r.toNat → k ≤ c.toNat → (prodP dotF (allF r m a) (allF c m (turnF m c b)) i k).length = i * c.toNat + k := fun i k hi hk => by
          rw [prodP_length dotF (by rw [allF_length]; exact hi) (by rw [allF_length]; exact hk), allF_length]
        have hbig : ∀ i k, i < r.toNat → k ≤ c.toNat → i * c.toNat + k ≤ 256 := fun i k hi hk => by
          have : (i + 1) * c.toNat ≤ 16 * 16 := Nat.mul_le_mul (by omega) (by omega)
          rw [Nat.add_mul] at this
          omega
        have hal : a.length ≤ 256 := by
          have : r * m ≤ 16 * 16 := Int.mul_le_mul r2 c2 (by omega) (by omega)
          omega
        have hbl : (turnF m c b).length ≤ 256 := by
          have h1 := turnF_length hr2
          have : c.toNat * m.toNat ≤ 16 * 16 := Nat.mul_le_mul (by omega) (by omega)
          omega
        refine wp_rf' (items := rowsF r m a) rfl (it142 ea r m a) (fun sv i s => i ≤ r.toNat ∧ s = ⟨[], [(2, [nt r, nt m, .v (.sl ea (frs a))]), (3, [nt m, nt c, .v (.sl eb (frs b))]), (4, [nt 0, nt 0, .acc 3004 []]), (6, [nt r, nt c, .acc 15006 (frs (prodP dotF (allF r m a) (allF c m (turnF m c b)) i 0))]),
          (7, [nt c, nt m, .v (.sl false (frs (turnF m c b)))])], [], [(1009, 0), (3004, 0), (3006, 0), (3007, 0), (15006, (prodP dotF (allF r m a) (allF c m (turnF m c b)) i 0).length)], sv, 0, nomem⟩) ?_ ?_ ?_
        · simp -implicitDefEqProofs only [rkA, rkB, stepA, valA, simprocAttr]
          exact ⟨Nat.zero_le _, by rw [prodP_zero]; exact rfl⟩
        · rintro i x' s' R hx ⟨hi, rfl⟩ hR
          obtain ⟨hlt, rfl, hxi⟩ := rowsF_all hr hx
          refine ⟨rfl, ?_⟩
          simp -implicitDefEqProofs only [rkA, rkB, stepA, valA, simprocAttr]
          refine call_fn rfl rfl rfl (ok90 false c m (turnF m c b)) ?_
          simp -implicitDefEqProofs only [rkA, rkB, stepA, valA, simprocAttr]
          refine wp_rf' (items := rowsF c m (turnF m c b)) rfl (it142 false c m (turnF m c b)) (fun sv k s => k ≤ c.toNat ∧ s = ⟨[], [(2, [nt r, nt m, .v (.sl ea (frs a))]), (3, [nt m, nt c, .v (.sl eb (frs b))]), (4, [nt 0, nt 0, .acc 3004 []]), (6, [nt r, nt c, .acc 15006 (frs (prodP dotF (allF r m a) (allF c m (turnF m c b)) i k))]),
            (7, [nt c, nt m, .v (.sl false (frs (turnF m c b)))]), (9, [.v (.sl false (frs (rowF r m a i)))])], [], [(1009, 0), (3004, 0), (3006, 0), (3007, 0), (15006, (prodP dotF (allF r m a) (allF c m (turnF m c b)) i k).length)], sv, 0, nomem⟩) ?_ ?_ ?_
          · simp -implicitDefEqProofs only [rkA, rkB, stepA, valA, simprocAttr]
            exact Nat.zero_le _
          · rintro k x' s' R2 hx2 ⟨hk, rfl⟩ hR2
            obtain ⟨hlt2, rfl, hyk⟩ := rowsF_all hrt hx2
            refine ⟨rfl, ?_⟩
            simp -implicitDefEqProofs only [rkA, rkB, stepA, valA, simprocAttr]
            have hra := rowF_length (r := r) (c := m) (l := a) i
            have hrb := rowF_length (r := c) (c := m) (l := turnF m c b) k
            refine call_fn rfl rfl rfl (ok81 false false (rowF r m a i) (rowF c m (turnF m c b) k) (by omega) (by omega)) ?_
            have h1 := hpl i k hlt (by omega)
            have h2 := hbig i k hlt (by omega)
            have hfit : fits 4 32 (frs (prodP dotF (allF r m a) (allF c m (turnF m c b)) i k)) [frV (dotF (rowF r m a i) (rowF c m (turnF m c b) k))] = true := fits_frs (l := [dotF (rowF r m a i) (rowF c m (turnF m c b) k)]) (by simp only [List.length_cons, List.length_nil]; omega)
            have hl : (frs (prodP dotF (allF r m a) (allF c m (turnF m c b)) i k)).length = (prodP dotF (allF r m a) (allF c m (turnF m c b)) i k).length := by simp
            simp -implicitDefEqProofs only [hfit, hl, rkA, rkB, stepA, valA, simprocAttr]
            refine hR2 _ ⟨by omega, ?_⟩
            rw [prodP_succ dotF hxi hyk]
            simp only [frs, List.map_append, List.map_cons, List.map_nil, List.length_append, List.length_cons, List.length_nil]
          · rintro s' ⟨hk, rfl⟩
            simp -implicitDefEqProofs only [rkA, rkB, stepA, valA, simprocAttr]
            refine hR _ ⟨by omega, ?_⟩
            have hnx := prodP_next dotF (xs := allF r m a) (ys := allF c m (turnF m c b)) (i := i) (by rw [allF_length]; exact hlt)
            rw [allF_length] at hnx
            rw [rowsF_length hrt, hnx]
        · rintro s' ⟨hi, rfl⟩
          simp -implicitDefEqProofs only [rkA, rkB, stepA, valA, simprocAttr]
          have : prodF r m c a b = prodP dotF (allF r m a) (allF c m (turnF m c b)) (rowsF r m a).length 0 := by
            rw [prodP_zero, rowsF_length hr, ← allF_length r m a, List.take_length]
            rfl
          rw [this]
end Go.Proofs.YtbflmeomkfjikaaGreat.A.E


set_option linter.unusedVariables false
set_option linter.unusedSimpArgs false
namespace Go.Proofs.YtbflmeomkfjikaaGreat.A.E
open Go Go.RowKit Go.Shelf

theorem rowF_eq {r c : Int} {l : List Fr} (d : Fr) (h : right r c l.length = true) {i : Nat} (hi : i < r.toNat) : rowF r c l i = (List.range c.toNat).map fun j => l.getD (i * c.toNat + j) d := by
  obtain ⟨r1, r2, c1, c2, hn⟩ := right_spec h
  obtain ⟨R, rfl⟩ := Int.eq_ofNat_of_zero_le (show 0 ≤ r by omega)
  obtain ⟨K, rfl⟩ := Int.eq_ofNat_of_zero_le (show 0 ≤ c by omega)
  simp only [Int.toNat_natCast] at hi ⊢
  unfold rowF
  rw [if_pos ⟨h, by omega, by omega⟩]
  have e1 : (((i : Int) + 1) * (K : Int)).toNat = (i + 1) * K := by
    have : ((i : Int) + 1) * (K : Int) = (((i + 1) * K : Nat) : Int) := by simp
    rw [this, Int.toNat_natCast]
  have e2 : ((i : Int) * (K : Int)).toNat = i * K := by
    have : (i : Int) * (K : Int) = ((i * K : Nat) : Int) := by simp
    rw [this, Int.toNat_natCast]
  rw [e1, e2]
  refine stretch l d i K ?_
  have h1 : (i + 1) * K ≤ R * K := Nat.mul_le_mul_right _ hi
  have h2 : ((R * K : Nat) : Int) = (l.length : Int) := by rw [hn]; simp
  omega

theorem atF_eq {r c : Int} {l : List Fr} (h : right r c l.length = true) {i k : Nat} (hi : i < r.toNat) (hk : k < c.toNat) : atF r c l i k = l.getD (i * c.toNat + k) ⟨0, 0, 0, false⟩ := by
  obtain ⟨r1, r2, c1, c2, hn⟩ := right_spec h
  unfold atF
  rw [if_pos ⟨h, by omega, by omega, by omega, by omega⟩]
  congr 1
  obtain ⟨K, rfl⟩ := Int.eq_ofNat_of_zero_le (show 0 ≤ c by omega)
  have : (i : Int) * (K : Int) + (k : Int) = ((i * K + k : Nat) : Int) := by simp
  rw [this, Int.toNat_natCast, Int.toNat_natCast]

theorem turnF_eq {r c : Int} {l : List Fr} (h : right r c l.length = true) : turnF r c l = gridP (fun k i => atF r c l (i : Int) (k : Int)) r.toNat c.toNat 0 := by
  rw [gridP_zero]
  simp [turnF, h]

end Go.Proofs.YtbflmeomkfjikaaGreat.A.E


set_option linter.unusedVariables false
set_option linter.unusedSimpArgs false
set_option maxRecDepth 100000
namespace Go.Proofs.YtbflmeomkfjikaaGreat.A.E
open Go Go.RowKit Go.Shelf

/-- A matrix applied to a row. -/
def applyF (r c : Int) (l v : List Fr) : List Fr := (allF r c l).map (dotF · v)

end Go.Proofs.YtbflmeomkfjikaaGreat.A.E


set_option linter.unusedVariables false
set_option linter.unusedSimpArgs false
set_option maxRecDepth 100000
namespace Go.Proofs.YtbflmeomkfjikaaGreat.A.E
open Go Go.RowKit Go.Shelf

theorem methSub : Meth Tryz.prog 40 "Sub" 97 := by
  intro v xs w
  rfl

theorem ok159 (a b : Fr) : Ok Tryz.prog 159 [frV a, frV b] (frV (addF a b)) := by
  refine ok_fn mixed Tryz.func159 (code := ?_) (h := h159) ?_ k159 ?_
  rotate_left
  · exact rfl
  unfold h159 initS
  simp -implicitDefEqProofs only [rkA, rkB, stepA, valA, simprocAttr, Tryz.ntmps159, Tryz.results159]
  refine call_meth rfl rfl methAdd (ok227 a b) ?_
  simp -implicitDefEqProofs only [rkA, rkB, stepA, valA, simprocAttr]
theorem ok115 (ea eb : Bool) (a b : List Fr) (ha : a.length ≤ 4398046511104) (hb : b.length ≤ 4398046511104) : Ok Tryz.prog 115 [.sl ea (frs a), .sl eb (frs b)] (.sl false (frs (List.zipWith addF a b))) := by
  refine ok_fn mixed Tryz.func115 (code := ?_) (h := h115) ?_ k115 ?_
  rotate_left
  · exact rfl
  unfold h115 initS
  simp -implicitDefEqProofs only [rkA, rkB, stepA, valA, simprocAttr, Tryz.ntmps115, Tryz.results115]
  refine call_fn rfl rfl rfl (ok133 159 addF ok159 ea eb a b ha hb) ?_
  simp -implicitDefEqProofs only [rkA, rkB, stepA, valA, simprocAttr]
theorem rowF_len {r c : Int} {l : List Fr} (h : right r c l.length = true) {i : Nat} (hi : i < r.toNat) : (rowF r c l i).length = c.toNat := by
  rw [rowF_eq ⟨0, 0, 0, false⟩ h hi]
  simp
def mirF (r : Int) (l : List Fr) : List Fr := gridP (fun i k => atF r r l (max i k : Nat) (min i k : Nat)) r.toNat r.toNat 0
theorem ok108 (ex : Bool) (r c : Int) (l : List Fr) : Ok Tryz.prog 108 [matV ex r c (frs l)] (if right r c l.length = true ∧ r = c then .tup [matV false r c (frs (mirF r l)), tru true] else .tup [matNil, tru false]) := by
  refine ok_fn mixed Tryz.func108 (code := ?_) (h := h108) ?_ k108 ?_
  rotate_left
  · exact rfl
  unfold h108 initS
  simp -implicitDefEqProofs only [rkA, rkB, stepA, valA, simprocAttr, Tryz.ntmps108, Tryz.results108]
  refine call_fn rfl rfl rfl (ok88 ex r c (frs l)) ?_
  have e : (frs l).length = l.length := by simp
  rw [e]
  cases hr : right r c l.length with
  | false => simp -implicitDefEqProofs only [rkA, rkB, stepA, valA, simprocAttr]
  | true =>
    obtain ⟨r1, r2, c1, c2, hn⟩ := right_spec hr
    simp -implicitDefEqProofs only [rkA, rkB, stepA, valA, simprocAttr]
    by_cases h1 : r = c
    · subst h1
      simp -implicitDefEqProofs only [bne_self_eq_false, rkA, rkB, stepA, valA, simprocAttr]
      have hlen := gridP_length (fun i k => atF r r l (max i k : Nat) (min i k : Nat)) r.toNat
      refine wp_loop (fun m s => ∃ i : Nat, i + m = r.toNat ∧ s = ⟨[jk, .ptr 1 0, .ptr 2 0, jk, .ptr 4 0, jk, jk, jk, jk, jk, jk, jk, jk, jk, jk, jk, jk, jk, jk, jk, jk, jk, jk, jk, nt r, nt i, jk, jk, jk, jk, jk, jk, jk, jk, jk, jk, jk, jk, jk, jk, jk, jk, jk, jk, jk, jk, jk, jk, jk], [(1, [nt r, nt r, .v (.sl ex (frs l))]), (2, [nt 0, nt 0, .acc 3002 []]), (4, [nt r, nt r, .acc 15004 (frs (gridP (fun i k => atF r r l (max i k : Nat) (min i k : Nat)) r.toNat i 0))])], [],
        [(3002, 0), (3004, 0), (15004, (gridP (fun i k => atF r r l (max i k : Nat) (min i k : Nat)) r.toNat i 0).length)], [], 0, nomem⟩) r.toNat ?_ ?_
      · simp -implicitDefEqProofs only [rkA, rkB, stepA, valA, simprocAttr]
        exact ⟨0, by simp, rfl⟩
      rintro m s ⟨i, hi, rfl⟩
      simp -implicitDefEqProofs only [rkA, rkB, stepA, valA, simprocAttr]
      refine gB_dec ?_ ?_ <;> intro hc <;> simp -implicitDefEqProofs only [hc, rkA, rkB, stepA, valA, simprocAttr]
      · refine wp_loop (fun m s => ∃ k : Nat, k + m = r.toNat ∧ s = ⟨[jk, .ptr 1 0, .ptr 2 0, jk, .ptr 4 0, nt i, jk, jk, jk, jk, jk, jk, jk, jk, jk, jk, jk, jk, jk, jk, jk, jk, jk, jk, nt r, nt i, jk, jk, jk, nt r, nt k, jk, jk, jk, jk, jk, jk, jk, jk, jk, jk, jk, jk, jk, jk, jk, jk, jk, jk], [(1, [nt r, nt r, .v (.sl ex (frs l))]), (2, [nt 0, nt 0, .acc 3002 []]), (4, [nt r, nt r, .acc 15004 (frs (gridP (fun i k => atF r r l (max i k : Nat) (min i k : Nat)) r.toNat i k))])], [],
          [(3002, 0), (3004, 0), (15004, (gridP (fun i k => atF r r l (max i k : Nat) (min i k : Nat)) r.toNat i k).length)], [], 0, nomem⟩) r.toNat ?_ ?_
        · simp -implicitDefEqProofs only [rkA, rkB, stepA, valA, simprocAttr]
          exact ⟨0, by simp, rfl⟩
        rintro m' s ⟨k, hk, rfl⟩
        simp -implicitDefEqProofs only [rkA, rkB, stepA, valA, simprocAttr]
        refine gB_dec ?_ ?_ <;> intro hc2 <;> simp -implicitDefEqProofs only [hc2, rkA, rkB, stepA, valA, simprocAttr]
        · have hb : i * r.toNat + k ≤ 256 := by
            have : (i + 1) * r.toNat ≤ 16 * 16 := Nat.mul_le_mul (by omega) (by omega)
            rw [Nat.add_mul] at this
            omega
          have m1 : (if (i : Int) < (k : Int) then (k : Int) else (i : Int)) = ((max i k : Nat) : Int) := by split <;> omega
          have m2 : (if (k : Int) < (i : Int) then (k : Int) else (i : Int)) = ((min i k : Nat) : Int) := by split <;> omega
          simp only [m1, m2]
          refine call_fn rfl rfl rfl (ok35 ex r r (max i k : Nat) (min i k : Nat) l) ?_
          have hl1 := hlen i k
          have hfit : fits 4 32 (frs (gridP (fun i k => atF r r l (max i k : Nat) (min i k : Nat)) r.toNat i k)) [frV (atF r r l (max i k : Nat) (min i k : Nat))] = true := fits_frs (l := [atF r r l (max i k : Nat) (min i k : Nat)]) (by simp only [List.length_cons, List.length_nil]; omega)
          have hl : (frs (gridP (fun i k => atF r r l (max i k : Nat) (min i k : Nat)) r.toNat i k)).length = (gridP (fun i k => atF r r l (max i k : Nat) (min i k : Nat)) r.toNat i k).length := by simp
          have hw := wrapped (x := (k : Int) + 1) (by omega) (by omega)
          simp -implicitDefEqProofs only [hfit, hl, hw, rkA, rkB, stepA, valA, simprocAttr]
          refine loopK_of (m' := m' - 1) (by omega) ?_
          simp -implicitDefEqProofs only [rkA, rkB, stepA, valA, simprocAttr]
          refine ⟨k + 1, by omega, ?_⟩
          rw [gridP_succ]
          simp only [frs, List.map_append, List.map_cons, List.map_nil, List.length_append, List.length_cons, List.length_nil, Int.natCast_add, Int.natCast_one]
        · have hkr : k = r.toNat := by omega
          have hw := wrapped (x := (i : Int) + 1) (by omega) (by omega)
          simp -implicitDefEqProofs only [hw, rkA, rkB, stepA, valA, simprocAttr]
          refine loopK_of (m' := m - 1) (by omega) ?_
          simp -implicitDefEqProofs only [rkA, rkB, stepA, valA, simprocAttr]
          refine ⟨i + 1, by omega, ?_⟩
          rw [hkr, gridP_next]
          simp only [Int.natCast_add, Int.natCast_one]
      · have : i = r.toNat := by omega
        subst this
        simp only [mirF]
    · have hne : (r != c) = true := by simp [h1]
      simp -implicitDefEqProofs only [hne, h1, rkA, rkB, stepA, valA, simprocAttr]

end Go.Proofs.YtbflmeomkfjikaaGreat.A.E


set_option linter.unusedVariables false
set_option linter.unusedSimpArgs false
set_option maxRecDepth 100000
namespace Go.Proofs.YtbflmeomkfjikaaGreat.A.E
open Go Go.RowKit Go.Shelf

theorem frs_cells (l : List Fr) : ∀ e ∈ frs l, e.cells.length = 4 := fun e he => by
  obtain ⟨x, _, rfl⟩ := List.mem_map.1 he
  rfl
theorem RFs_frs : ∀ (l : List Fr), RFs (flat (frs l)) = true
  | [] => rfl
  | x :: l => by
    have h := RFs_frs l
    simp only [frs, List.map_cons, flat, List.flatMap_cons, PV.cells, List.cons_append, List.nil_append, RFs, RF, Bool.true_and] at h ⊢
    exact h

theorem okn87 (ex : Bool) (l : List Fr) (hl : l ≠ []) (h : l.length ≤ 4398046511104) : OkN Tryz.prog 87 [.sl ex (frs l)] (frs l) := by
  have hfit : fits 4 32 [] (frs l) = true := by
    have := fits_frs (k := []) (l := l) (by simpa using h)
    simpa using this
  have he : (frs l).isEmpty = false := by cases l <;> simp_all
  refine okn_fn mixed Tryz.func87 (code := ?_) (h := hN87) ?_ kN87 rfl (RFs_frs l) ?_
  rotate_left
  · exact rfl
  unfold hN87 initS
  simp -implicitDefEqProofs only [rkA, rkB, stepA, valA, simprocAttr, Tryz.ntmps87, Tryz.results87]
  refine nilA_sl _ _ rfl fun b hb => ?_
  have hb' := hb he
  subst hb'
  simp -implicitDefEqProofs only [hfit, he, rkA, rkB, stepA, valA, simprocAttr]
  refine .inl ⟨7, ?_⟩
  simp -implicitDefEqProofs only [rkA, rkB, stepA, valA, simprocAttr]

theorem tell_row {m : Mem} {b cap q : Nat} {l : List Fr} (hm : m b = some (flat (frs l) ++ List.replicate q .junk)) (hc : (frs l).length ≤ cap) : Tell m (.s (.slice (some ⟨b, 0, none⟩) (frs l).length cap)) (.sl false (frs l)) := by
  refine .row hm (frs_cells l) rfl (by simp) hc (fun h => by cases h) ?_
  rw [List.drop_zero, List.take_left]
  exact Tells.same _ _

theorem okm26 (r c : Int) (ex : Bool) (l : List Fr) (hr : right r c l.length = true) : OkM Tryz.prog 26 [num r, num c, .sl ex (frs l)] nomem (NewMat r c (frs l)) := by
  have hn := right_le hr
  have hpos := right_spec hr
  have hl : l ≠ [] := by
    intro h
    subst h
    have h1 : r * c = 0 := by have := hpos.2.2.2.2; simpa using this.symm
    rcases Int.mul_eq_zero.1 h1 with h | h <;> omega
  refine okm_fn mixed Tryz.func26 (code := ?_) (h := hN26) ?_ kN26 ?_
  rotate_left
  · exact rfl
  unfold hN26 initS
  simp -implicitDefEqProofs only [rkA, rkB, stepA, valA, simprocAttr, Tryz.ntmps26, Tryz.results26]
  refine newRow_fn rfl rfl (Tells.same _ _) (okn87 ex l hl (by omega)) (RFs_frs l) (by simpa using hl) ?_
  intro b cap q hb hcap
  simp -implicitDefEqProofs only [rkA, rkB, stepA, valA, simprocAttr]
  have e : (frs l).length = l.length := by simp
  have h17 := ok88 false r c (frs l)
  rw [e, hr] at h17
  refine lend_fn rfl rfl (.cons (.agg (.cons (.same _) (.cons (.same _) (.cons (tell_row (Mem.put_same _ _ _) hcap) .nil)))) .nil) (h17) rfl ?_
  simp -implicitDefEqProofs only [rkA, rkB, stepA, valA, simprocAttr]
  exact ⟨_, rfl, b, cap, q, hcap, rfl, rfl⟩
end Go.Proofs.YtbflmeomkfjikaaGreat.A.E


set_option linter.unusedVariables false
set_option linter.unusedSimpArgs false
set_option maxRecDepth 100000
namespace Go.Proofs.YtbflmeomkfjikaaGreat.A.E
open Go Go.RowKit Go.Shelf

/-- A square matrix, number by number. -/
theorem okm82 (n : Nat) (hn : 1 ≤ n ∧ n ≤ 16) (K : Nat) (caps : List PV) (g : Nat → Nat → Fr) (hg : ∀ i k : Nat, i < n → k < n → Ok Tryz.prog K (num i :: num k :: caps) (frV (g i k))) :
    OkM Tryz.prog 82 [num n, .fn (.func K) caps] nomem (NewMat n n (frs (gridP g n n 0))) := by
  have hlen := gridP_length g n
  have hbig : ∀ i k, i ≤ n → k ≤ n → i * n + k ≤ 272 := fun i k h1 h2 => by
    have : i * n ≤ 16 * 16 := Nat.mul_le_mul (by omega) (by omega)
    omega
  refine okm_fn mixed Tryz.func82 (code := ?_) (h := h82) ?_ k82 ?_
  rotate_left
  · exact rfl
  unfold h82 initS
  simp -implicitDefEqProofs only [rkA, rkB, stepA, valA, simprocAttr, Tryz.ntmps82, Tryz.results82]
  refine wp_loop (fun m s => ∃ i : Nat, i + m = n ∧ s = ⟨[.v (num n), .v (.fn (.func K) caps), jk, jk, .ptr 4 0, jk, .acc 6 (frs (gridP g n i 0)), jk, jk, .v (num n), nt i, jk, jk, jk, jk, jk, jk, jk, jk, jk, jk, jk, jk, jk, jk, jk, jk, jk, jk, jk, jk, jk], [(4, [nt 0, nt 0, .acc 3004 []])], [],
    [(6, (gridP g n i 0).length), (3004, 0)], [], 0, nomem⟩) n ?_ ?_
  · simp -implicitDefEqProofs only [rkA, rkB, stepA, valA, simprocAttr]
    exact ⟨0, by simp, rfl⟩
  rintro m s ⟨i, hi, rfl⟩
  simp -implicitDefEqProofs only [rkA, rkB, stepA, valA, simprocAttr]
  refine gB_dec ?_ ?_ <;> intro hc <;> simp -implicitDefEqProofs only [hc, rkA, rkB, stepA, valA, simprocAttr]
  · refine wp_loop (fun m s => ∃ k : Nat, k + m = n ∧ s = ⟨[.v (num n), .v (.fn (.func K) caps), jk, jk, .ptr 4 0, jk, .acc 6 (frs (gridP g n i k)), nt i, jk, .v (num n), nt i, jk, jk, .v (num n), nt k, jk, jk, jk, jk, jk, jk, jk, jk, jk, jk, jk, jk, jk, jk, jk, jk, jk], [(4, [nt 0, nt 0, .acc 3004 []])], [],
      [(6, (gridP g n i k).length), (3004, 0)], [], 0, nomem⟩) n ?_ ?_
    · simp -implicitDefEqProofs only [rkA, rkB, stepA, valA, simprocAttr]
      exact ⟨0, by simp, rfl⟩
    rintro m' s ⟨k, hk, rfl⟩
    simp -implicitDefEqProofs only [rkA, rkB, stepA, valA, simprocAttr]
    refine gB_dec ?_ ?_ <;> intro hc2 <;> simp -implicitDefEqProofs only [hc2, rkA, rkB, stepA, valA, simprocAttr]
    · refine call_fn rfl rfl rfl (hg i k (by omega) (by omega)) ?_
      have hl1 := hlen i k
      have hb := hbig i k (by omega) (by omega)
      have hfit : fits 4 32 (frs (gridP g n i k)) [frV (g i k)] = true := fits_frs (l := [g i k]) (by simp only [List.length_cons, List.length_nil]; omega)
      have hl : (frs (gridP g n i k)).length = (gridP g n i k).length := by simp
      have hw := wrapped (x := (k : Int) + 1) (by omega) (by omega)
      simp -implicitDefEqProofs only [hfit, hl, hw, rkA, rkB, stepA, valA, simprocAttr]
      refine loopK_of (m' := m' - 1) (by omega) ?_
      simp -implicitDefEqProofs only [rkA, rkB, stepA, valA, simprocAttr]
      refine ⟨k + 1, by omega, ?_⟩
      rw [gridP_succ]
      simp only [frs, List.map_append, List.map_cons, List.map_nil, List.length_append, List.length_cons, List.length_nil, Int.natCast_add, Int.natCast_one]
    · have hkr : k = n := by omega
      have hw := wrapped (x := (i : Int) + 1) (by omega) (by omega)
      simp -implicitDefEqProofs only [hw, rkA, rkB, stepA, valA, simprocAttr]
      refine loopK_of (m' := m - 1) (by omega) ?_
      simp -implicitDefEqProofs only [rkA, rkB, stepA, valA, simprocAttr]
      refine ⟨i + 1, by omega, ?_⟩
      rw [hkr, gridP_next]
      simp only [Int.natCast_add, Int.natCast_one]
  · have : i = n := by omega
    subst this
    have hr : right (i : Int) (i : Int) (gridP g i i 0).length = true := by
      rw [hlen, Nat.add_zero]
      simp only [right, Bool.and_eq_true, decide_eq_true_eq, beq_iff_eq]
      exact ⟨⟨by omega, by omega⟩, ⟨by omega, by omega⟩, Int.natCast_mul i i⟩
    refine lendNew_fn rfl rfl (Tells.same _ _) (okm26 i i false (gridP g i i 0) hr) ?_ ?_
    · rintro r m' ⟨b, cap, q, h1, rfl, rfl⟩
      refine ⟨rfl, fun c cells hc => ?_⟩
      by_cases e : c = b
      · subst e
        rw [Mem.put_same] at hc
        cases hc
        exact RFs_append (RFs_frs _) (RFs_junk q)
      · rw [Mem.put_other _ _ e] at hc
        cases hc
    · rintro r m' ⟨b, cap, q, h1, rfl, rfl⟩ hfr
      simp -implicitDefEqProofs only [rkA, rkB, stepA, valA, simprocAttr]
      exact ⟨_, rfl, b, cap, q, h1, rfl, rfl⟩
end Go.Proofs.YtbflmeomkfjikaaGreat.A.E



set_option linter.unusedVariables false
set_option linter.unusedSimpArgs false
set_option maxRecDepth 100000
namespace Go.Proofs.YtbflmeomkfjikaaGreat.A
open Go Go.RowKit Go.Shelf

/-! ### Products of two words, compared -/
abbrev prW (p : Nat) : PV := .agg [uw (p / 18446744073709551616), uw (p % 18446744073709551616)]
theorem eq_prW (p q : Nat) : cellsEq [some .u64, some .u64] [uw (p / 18446744073709551616), uw (p % 18446744073709551616)] [uw (q / 18446744073709551616), uw (q % 18446744073709551616)] = some (decide (p = q)) := by
  have e : (p = q) ↔ (((p / 18446744073709551616 : Nat) : Int) = ((q / 18446744073709551616 : Nat) : Int) ∧ ((p % 18446744073709551616 : Nat) : Int) = ((q % 18446744073709551616 : Nat) : Int)) := by omega
  unfold uw
  generalize ((p / 18446744073709551616 : Nat) : Int) = A at *
  generalize ((q / 18446744073709551616 : Nat) : Int) = B at *
  generalize ((p % 18446744073709551616 : Nat) : Int) = C at *
  generalize ((q % 18446744073709551616 : Nat) : Int) = D at *
  simp only [cellsEq, e]
  by_cases h1 : A = B <;> by_cases h2 : C = D <;> simp [h1, h2]
theorem ok138 (p q : Nat) : Ok Tryz.prog 138 [prW p, prW q] (tru (decide (p < q))) := by
  refine ok_fn mixed Tryz.func138 (code := ?_) (h := h138) ?_ k138 ?_
  rotate_left
  · exact rfl
  unfold h138 initS
  simp -implicitDefEqProofs (maxSteps := 10000000) only [rkA, rkB, stepA, valA, simprocAttr, Tryz.ntmps138, Tryz.results138]
  have e1 := Nat.div_add_mod p 18446744073709551616
  have e2 := Nat.div_add_mod q 18446744073709551616
  have l1 := Nat.mod_lt p (show 0 < 18446744073709551616 by omega)
  have l2 := Nat.mod_lt q (show 0 < 18446744073709551616 by omega)
  refine gB_dec ?_ ?_ <;> intro h1
  · have : p < q := by omega
    simp -implicitDefEqProofs (maxSteps := 10000000) only [this, h1, rkA, rkB, stepA, valA, simprocAttr]
  · simp -implicitDefEqProofs (maxSteps := 10000000) only [h1, rkA, rkB, stepA, valA, simprocAttr]
    refine gB_bool ?_ ?_ <;> intro h2 <;> simp -implicitDefEqProofs (maxSteps := 10000000) only [h2, rkA, rkB, stepA, valA, simprocAttr]
    · have h3 : ((p / 18446744073709551616 : Nat) : Int) = ((q / 18446744073709551616 : Nat) : Int) := by simpa using h2
      have : (((p % 18446744073709551616 : Nat) : Int) < ((q % 18446744073709551616 : Nat) : Int)) = (p < q) := by apply propext; omega
      simp only [this]
    · have h3 : ¬ ((p / 18446744073709551616 : Nat) : Int) = ((q / 18446744073709551616 : Nat) : Int) := by simpa using h2
      have : ¬ p < q := by omega
      simp -implicitDefEqProofs (maxSteps := 10000000) only [this, rkA, rkB, stepA, valA, simprocAttr]

def sgn2 (a b : Int) : Int := if a = 0 ∨ b = 0 then 0 else if (decide (a < 0) != decide (b < 0)) = true then -1 else 1
theorem ok135 (a b : Int) : Ok Tryz.prog 135 [num a, num b] (num (sgn2 a b)) := by
  refine ok_fn mixed Tryz.func135 (code := ?_) (h := h135) ?_ k135 ?_
  rotate_left
  · exact rfl
  unfold h135 initS
  simp -implicitDefEqProofs (maxSteps := 10000000) only [rkA, rkB, stepA, valA, simprocAttr, Tryz.ntmps135, Tryz.results135]
  unfold sgn2
  refine gB_bool ?_ ?_ <;> intro h1 <;> simp -implicitDefEqProofs (maxSteps := 10000000) only [h1, rkA, rkB, stepA, valA, simprocAttr]
  · have h1' : a = 0 := by simpa using h1
    rw [if_pos (.inl h1')]
  · have h1' : ¬ a = 0 := by simpa using h1
    refine gB_bool ?_ ?_ <;> intro h2 <;> simp -implicitDefEqProofs (maxSteps := 10000000) only [h2, rkA, rkB, stepA, valA, simprocAttr]
    · have h2' : b = 0 := by simpa using h2
      rw [if_pos (.inr h2')]
    · have h2' : ¬ b = 0 := by simpa using h2
      rw [if_neg (by omega)]
      refine gB_bool ?_ ?_ <;> intro h3 <;> simp -implicitDefEqProofs (maxSteps := 10000000) only [h3, rkA, rkB, stepA, valA, simprocAttr]
      · rw [show (decide (a < 0) != decide (b < 0)) = true from h3, if_pos rfl]
      · rw [show (decide (a < 0) != decide (b < 0)) = false from h3, if_neg (by simp)]

def cmpF (a b c d : Int) : Int :=
  if sgn2 a b < sgn2 c d ∨ (sgn2 a b = sgn2 c d ∧ 0 < sgn2 a b ∧ a.natAbs * b.natAbs < c.natAbs * d.natAbs) ∨ (sgn2 a b = sgn2 c d ∧ sgn2 a b < 0 ∧ c.natAbs * d.natAbs < a.natAbs * b.natAbs) then -1
  else if sgn2 c d < sgn2 a b ∨ (a.natAbs * b.natAbs ≠ c.natAbs * d.natAbs ∧ sgn2 a b ≠ 0) then 1 else 0
theorem natAbs_lt {n : Int} (h : rightW n = true) : n.natAbs < 18446744073709551616 := by
  unfold rightW at h
  rw [decide_eq_true_eq] at h
  omega
set_option maxHeartbeats 4000000 in
theorem ok86 (a b c d : Int) (ha : rightW a = true) (hb : rightW b = true) (hc : rightW c = true) (hd : rightW d = true) : Ok Tryz.prog 86 [num a, num b, num c, num d] (num (cmpF a b c d)) := by
  have w0 : IntKind.wrap .i64 ((0 : Int) + 1) = 1 := by decide
  have w1 : IntKind.wrap .i64 ((1 : Int) + 1) = 2 := by decide
  have w2 : IntKind.wrap .i64 ((2 : Int) + 1) = 3 := by decide
  have w3 : IntKind.wrap .i64 ((3 : Int) + 1) = 4 := by decide
  have n4 : ((4 : Nat) : Int) = 4 := rfl
  refine ok_fn mixed Tryz.func86 (code := ?_) (h := h86) ?_ k86 ?_
  rotate_left
  · exact rfl
  unfold h86 initS
  simp -implicitDefEqProofs (maxSteps := 10000000) only [rkA, rkB, stepA, valA, simprocAttr, Tryz.ntmps86, Tryz.results86]
  refine wp_loop (fun m s => ∃ k : Int, ((k = 0 ∧ m = 4) ∨ (k = 1 ∧ m = 3) ∨ (k = 2 ∧ m = 2) ∨ (k = 3 ∧ m = 1) ∨ (k = 4 ∧ m = 0)) ∧ s = ⟨[.v (num a), .v (num b), .v (num c), .v (num d), jk, jk, jk, jk, jk, jk, jk, jk, jk, jk, jk, jk, jk, jk, jk, jk, .v (.agg [num a, num b, num c, num d]), nt k, jk, jk, jk, jk, jk, jk, jk, jk, jk, jk, jk, jk, jk, jk, jk, jk, jk, jk, jk, jk, jk, jk, jk, jk, jk, jk, jk, jk, jk, jk, jk, jk, jk, jk, jk, jk, jk, jk, jk, jk, jk, jk, jk, jk, jk, jk, jk, jk, jk, jk, jk, jk, jk, jk, jk, jk, jk, jk, jk, jk, jk, jk, jk], [], [], [], [], 0, nomem⟩) 4 ?_ ?_
  · simp -implicitDefEqProofs (maxSteps := 10000000) only [rkA, rkB, stepA, valA, simprocAttr]
    exact ⟨0, by omega, rfl⟩
  rintro m s ⟨k, ⟨rfl, rfl⟩ | ⟨rfl, rfl⟩ | ⟨rfl, rfl⟩ | ⟨rfl, rfl⟩ | ⟨rfl, rfl⟩, rfl⟩
  · simp -implicitDefEqProofs (maxSteps := 10000000) only [n4, rkA, rkB, stepA, valA, simprocAttr]
    refine call_fn rfl rfl rfl (ok85' a) ?_
    simp -implicitDefEqProofs (maxSteps := 10000000) only [ha, w0, rkA, rkB, stepA, valA, simprocAttr]
    refine loopK_of (m' := 3) (by omega) ?_
    simp -implicitDefEqProofs (maxSteps := 10000000) only [rkA, rkB, stepA, valA, simprocAttr]
    exact ⟨1, by omega, rfl⟩
  · simp -implicitDefEqProofs (maxSteps := 10000000) only [n4, rkA, rkB, stepA, valA, simprocAttr]
    refine call_fn rfl rfl rfl (ok85' b) ?_
    simp -implicitDefEqProofs (maxSteps := 10000000) only [hb, w1, rkA, rkB, stepA, valA, simprocAttr]
    refine loopK_of (m' := 2) (by omega) ?_
    simp -implicitDefEqProofs (maxSteps := 10000000) only [rkA, rkB, stepA, valA, simprocAttr]
    exact ⟨2, by omega, rfl⟩
  · simp -implicitDefEqProofs (maxSteps := 10000000) only [n4, rkA, rkB, stepA, valA, simprocAttr]
    refine call_fn rfl rfl rfl (ok85' c) ?_
    simp -implicitDefEqProofs (maxSteps := 10000000) only [hc, w2, rkA, rkB, stepA, valA, simprocAttr]
    refine loopK_of (m' := 1) (by omega) ?_
    simp -implicitDefEqProofs (maxSteps := 10000000) only [rkA, rkB, stepA, valA, simprocAttr]
    exact ⟨3, by omega, rfl⟩
  · simp -implicitDefEqProofs (maxSteps := 10000000) only [n4, rkA, rkB, stepA, valA, simprocAttr]
    refine call_fn rfl rfl rfl (ok85' d) ?_
    simp -implicitDefEqProofs (maxSteps := 10000000) only [hd, w3, rkA, rkB, stepA, valA, simprocAttr]
    refine loopK_of (m' := 0) (by omega) ?_
    simp -implicitDefEqProofs (maxSteps := 10000000) only [rkA, rkB, stepA, valA, simprocAttr]
    exact ⟨4, by omega, rfl⟩
  · simp -implicitDefEqProofs (maxSteps := 10000000) only [rkA, rkB, stepA, valA, simprocAttr]
    refine call_fn rfl rfl rfl (ok135 a b) ?_
    simp -implicitDefEqProofs (maxSteps := 10000000) only [rkA, rkB, stepA, valA, simprocAttr]
    refine call_fn rfl rfl rfl (ok135 c d) ?_
    simp -implicitDefEqProofs (maxSteps := 10000000) only [rkA, rkB, stepA, valA, simprocAttr]
    refine call_fn rfl rfl rfl (ok137 a ha) ?_
    simp -implicitDefEqProofs (maxSteps := 10000000) only [rkA, rkB, stepA, valA, simprocAttr]
    refine call_fn rfl rfl rfl (ok137 b hb) ?_
    simp -implicitDefEqProofs (maxSteps := 10000000) only [rkA, rkB, stepA, valA, simprocAttr]
    refine call_fn rfl rfl rfl (ok136 _ _ (natAbs_lt ha) (natAbs_lt hb)) ?_
    simp -implicitDefEqProofs (maxSteps := 10000000) only [rkA, rkB, stepA, valA, simprocAttr]
    refine call_fn rfl rfl rfl (ok137 c hc) ?_
    simp -implicitDefEqProofs (maxSteps := 10000000) only [rkA, rkB, stepA, valA, simprocAttr]
    refine call_fn rfl rfl rfl (ok137 d hd) ?_
    simp -implicitDefEqProofs (maxSteps := 10000000) only [rkA, rkB, stepA, valA, simprocAttr]
    refine call_fn rfl rfl rfl (ok136 _ _ (natAbs_lt hc) (natAbs_lt hd)) ?_
    unfold cmpF
    generalize sgn2 a b = x
    generalize sgn2 c d = y
    generalize a.natAbs * b.natAbs = p
    generalize c.natAbs * d.natAbs = q
    generalize hF : (if x < y ∨ (x = y ∧ 0 < x ∧ p < q) ∨ (x = y ∧ x < 0 ∧ q < p) then (-1 : Int) else if y < x ∨ (p ≠ q ∧ x ≠ 0) then 1 else 0) = r
    simp -implicitDefEqProofs (maxSteps := 10000000) only [rkA, rkB, stepA, valA, simprocAttr]
    repeat' (first
      | (refine gB_bool ?_ ?_ <;> intro hx <;> simp -implicitDefEqProofs (maxSteps := 10000000) only [hx, eq_prW, rkA, rkB, stepA, valA, simprocAttr])
      | (refine call_fn rfl rfl rfl (ok138 p q) ?_; simp -implicitDefEqProofs (maxSteps := 10000000) only [rkA, rkB, stepA, valA, simprocAttr])
      | (refine call_fn rfl rfl rfl (ok138 q p) ?_; simp -implicitDefEqProofs (maxSteps := 10000000) only [rkA, rkB, stepA, valA, simprocAttr]))
    all_goals clear ha hb hc hd w0 w1 w2 w3 n4
    all_goals simp only [decide_eq_true_eq, decide_eq_false_iff_not, beq_iff_eq, beq_eq_false_iff_ne, bne_iff_ne, bne_eq_false_iff_eq, Bool.not_eq_true', Bool.not_eq_false'] at *
    all_goals first
      | (rw [← hF, if_pos (by omega)]; done)
      | (rw [← hF, if_neg (by omega), if_pos (by omega)]; done)
      | (rw [← hF, if_neg (by omega), if_neg (by omega)]; done)
      | (exfalso; omega)
end Go.Proofs.YtbflmeomkfjikaaGreat.A



set_option linter.unusedVariables false
set_option linter.unusedSimpArgs false
set_option maxRecDepth 100000
namespace Go.Proofs.YtbflmeomkfjikaaGreat.A
open Go Go.RowKit Go.Shelf

/-! ### Roots of products, bit by bit -/
def rtW (p : Nat) : Nat := rtB p 63 63
def upW (p : Nat) (mode : Int) : Bool := decide (rtW p * rtW p ≠ p) && (decide (mode = 2) || (decide (mode = 0) && decide (rtW p * (rtW p + 1) < p)))
def wRootN (p : Nat) (mode : Int) : Nat := if upW p mode = true then rtW p + 1 else rtW p
def wRootOk (a b mode : Int) : Bool := rightW a && (rightW b && (decide (0 ≤ mode ∧ mode ≤ 2) && !((decide (a ≠ 0) && decide (b ≠ 0)) && (decide (a < 0) != decide (b < 0)))))
def wRoot (a b mode : Int) : Int × Bool := if wRootOk a b mode = true then ((wRootN (a.natAbs * b.natAbs) mode : Int), true) else (0, false)
theorem rtB_step {n K j : Nat} (hn : n < 2 ^ K * 2 ^ K) (hj : j < K) : ∃ q, rtB n K j = q * 2 ^ (K - j) ∧ rtB n K j + 2 ^ (K - j) ≤ 2 ^ K := by
  obtain ⟨_, _, ⟨q, hq⟩, h4⟩ := rtB_spec hn j (by omega)
  exact ⟨q, by rw [hq, Nat.mul_comm], h4⟩
theorem abs_right {n : Int} (h : rightW n = true) : n.natAbs ≤ 4611686018427387903 := by
  unfold rightW at h
  rw [decide_eq_true_eq] at h
  omega
theorem wRoot_no {a b mode : Int} (h : wRootOk a b mode = false) : wRoot a b mode = (0, false) := by unfold wRoot; rw [h]; rfl
theorem wRoot_yes {a b mode : Int} (h : wRootOk a b mode = true) : wRoot a b mode = ((wRootN (a.natAbs * b.natAbs) mode : Int), true) := by unfold wRoot; rw [if_pos h]
theorem rtW_spec {p : Nat} (hp : p ≤ 4611686018427387903 * 4611686018427387903) : rtW p * rtW p ≤ p ∧ p < (rtW p + 1) * (rtW p + 1) ∧ rtW p ≤ 4611686018427387903 := by
  have hp2 : p < 2 ^ 63 * 2 ^ 63 := by omega
  obtain ⟨f1, f2, f3⟩ := rtB_final hp2
  refine ⟨f1, f2, ?_⟩
  have f1' : rtW p * rtW p ≤ p := f1
  rcases Nat.lt_or_ge 4611686018427387903 (rtW p) with h | h
  · have := Nat.mul_lt_mul'' h h
    omega
  · exact h
set_option maxHeartbeats 4000000 in
theorem ok235 (a b mode : Int) : Ok Tryz.prog 235 [num a, num b, num mode] (.tup [num (wRoot a b mode).1, tru (wRoot a b mode).2]) := by
  refine ok_fn mixed Tryz.func235 (code := ?_) (h := h235) ?_ k235 ?_
  rotate_left
  · exact rfl
  unfold h235 initS
  simp -implicitDefEqProofs (maxSteps := 10000000) only [rkA, rkB, stepA, valA, simprocAttr, Tryz.ntmps235, Tryz.results235]
  refine call_fn rfl rfl rfl (ok85' a) ?_
  cases ha : rightW a with
  | false =>
    rw [wRoot_no (by unfold wRootOk; rw [ha]; rfl)]
    simp -implicitDefEqProofs (maxSteps := 10000000) only [rkA, rkB, stepA, valA, simprocAttr]
  | true =>
    simp -implicitDefEqProofs (maxSteps := 10000000) only [rkA, rkB, stepA, valA, simprocAttr]
    refine call_fn rfl rfl rfl (ok85' b) ?_
    cases hb : rightW b with
    | false =>
      rw [wRoot_no (by unfold wRootOk; rw [ha, hb]; rfl)]
      simp -implicitDefEqProofs (maxSteps := 10000000) only [rkA, rkB, stepA, valA, simprocAttr]
    | true =>
      simp -implicitDefEqProofs (maxSteps := 10000000) only [rkA, rkB, stepA, valA, simprocAttr]
      refine call_fn rfl rfl rfl (ok178 mode) ?_
      by_cases hm : 0 ≤ mode ∧ mode ≤ 2
      · have hm' : decide (0 ≤ mode ∧ mode ≤ 2) = true := decide_eq_true hm
        have hb1 := abs_right ha
        have hb2 := abs_right hb
        have hp : a.natAbs * b.natAbs ≤ 4611686018427387903 * 4611686018427387903 := Nat.mul_le_mul hb1 hb2
        simp -implicitDefEqProofs (maxSteps := 10000000) only [hm', rkA, rkB, stepA, valA, simprocAttr]
        have cs : (a = 0) ∨ (a ≠ 0 ∧ b = 0) ∨ (a ≠ 0 ∧ b ≠ 0 ∧ (decide (a < 0) != decide (b < 0)) = true) ∨ (a ≠ 0 ∧ b ≠ 0 ∧ (decide (a < 0) != decide (b < 0)) = false) := by
          cases (decide (a < 0) != decide (b < 0)) <;> simp <;> omega
        rcases cs with h1 | ⟨h1, h2⟩ | ⟨h1, h2, h3⟩ | ⟨h1, h2, h3⟩
        rotate_left 2
        · have n1 : (a != 0) = true := by simpa using h1
          have n2 : (b != 0) = true := by simpa using h2
          rw [wRoot_no (by unfold wRootOk; rw [ha, hb, hm', h3, decide_eq_true h1, decide_eq_true h2]; rfl)]
          have n3 : (!(decide (a < 0) == decide (b < 0))) = true := h3
          simp -implicitDefEqProofs (maxSteps := 10000000) only [n1, n2, n3, rkA, rkB, stepA, valA, simprocAttr]
        have hr := wRoot_yes (a := a) (b := b) (mode := mode) (by unfold wRootOk; rw [ha, hb, hm', h3]; simp)
        have n1 : (a != 0) = true := by simpa using h1
        have n2 : (b != 0) = true := by simpa using h2
        have n3 : (!(decide (a < 0) == decide (b < 0))) = false := h3
        simp -implicitDefEqProofs (maxSteps := 10000000) only [n1, n2, n3, rkA, rkB, stepA, valA, simprocAttr]
        clear h1 h2 h3 n1 n2 n3
        rotate_left
        have hr := wRoot_yes (a := a) (b := b) (mode := mode) (by unfold wRootOk; rw [ha, hb, hm', decide_eq_false (p := a ≠ 0) (by simpa using h1)]; rfl)
        have n1 : (a != 0) = false := by simpa using h1
        simp -implicitDefEqProofs (maxSteps := 10000000) only [n1, rkA, rkB, stepA, valA, simprocAttr]
        clear h1 n1
        rotate_left
        have hr := wRoot_yes (a := a) (b := b) (mode := mode) (by unfold wRootOk; rw [ha, hb, hm', decide_eq_false (p := b ≠ 0) (by simpa using h2)]; simp)
        have n1 : (a != 0) = true := by simpa using h1
        have n2 : (b != 0) = false := by simpa using h2
        simp -implicitDefEqProofs (maxSteps := 10000000) only [n1, n2, rkA, rkB, stepA, valA, simprocAttr]
        clear h1 h2 n1 n2
        all_goals
          rw [hr]
          clear hr
          refine call_fn rfl rfl rfl (ok137 a ha) ?_
          simp -implicitDefEqProofs (maxSteps := 10000000) only [rkA, rkB, stepA, valA, simprocAttr]
          refine call_fn rfl rfl rfl (ok137 b hb) ?_
          simp -implicitDefEqProofs (maxSteps := 10000000) only [rkA, rkB, stepA, valA, simprocAttr]
          refine call_fn rfl rfl rfl (ok136 a.natAbs b.natAbs (by omega) (by omega)) ?_
          simp -implicitDefEqProofs (maxSteps := 10000000) only [rkA, rkB, stepA, valA, simprocAttr]
          generalize a.natAbs * b.natAbs = p at *
          have hp2 : p < 2 ^ 63 * 2 ^ 63 := by omega
          refine wp_loop (fun m s => ∃ j : Nat, j + m = 63 ∧ s = ⟨[jk, jk, .v (num mode), jk, jk, jk, jk, jk, .ptr 8 0, ut (rtB p 63 j), jk, jk, jk, jk, jk, jk, jk, jk, jk, jk, jk, jk, jk, jk, jk, jk, jk, jk, jk, jk, jk, jk, jk, jk, jk, jk, jk, jk, jk, jk, jk, jk, jk, jk, jk, jk, jk, nt j, jk, jk, jk, jk, jk, jk, jk, jk, jk, jk, jk, jk, jk, jk, jk, jk, jk, jk, jk, jk, jk, jk, jk, jk, jk, jk, jk, jk, jk, jk, jk, jk, jk, jk, jk, jk, jk, jk, jk, jk, jk, jk, jk],
            [(8, [ut (p / 18446744073709551616), ut (p % 18446744073709551616)])], [], [], [], 0, nomem⟩) 63 ?_ ?_
          · simp -implicitDefEqProofs (maxSteps := 10000000) only [rkA, rkB, stepA, valA, simprocAttr]
            exact ⟨0, rfl, rfl⟩
          rintro m s ⟨j, hj, rfl⟩
          simp -implicitDefEqProofs (maxSteps := 10000000) only [rkA, rkB, stepA, valA, simprocAttr]
          refine gB_dec ?_ ?_ <;> intro hc <;> simp -implicitDefEqProofs (maxSteps := 10000000) only [hc, rkA, rkB, stepA, valA, simprocAttr]
          · obtain ⟨q, hq, hq2⟩ := rtB_step hp2 (show j < 63 by omega)
            obtain ⟨t, ht⟩ : ∃ t, 63 - j = t + 1 := ⟨62 - j, by omega⟩
            have ht2 : 63 - 1 - j = t := by omega
            have hti : (62 : Int) - (j : Int) = ((t : Nat) : Int) := by omega
            have h0t : (0 : Int) ≤ ((t : Nat) : Int) := by omega
            have hwt := wrapped (x := ((t : Nat) : Int)) (by omega) (by omega)
            have hshl := shlN 1 (k := t) (by omega)
            rw [ht] at hq hq2
            have hpt : 2 ^ t < 2 ^ (t + 1) := Nat.pow_lt_pow_right (by omega) (by omega)
            have hpt2 : 2 ^ (t + 1) ≤ 2 ^ 63 := Nat.pow_le_pow_right (by omega) (by omega)
            have hor := orN (a := q) (b := 2 ^ t) (k := t + 1) hpt (by rw [← hq]; omega)
            rw [← hq] at hor
            rw [Nat.one_mul, Nat.mod_eq_of_lt (by omega)] at hshl
            have e1 : ((1 : Nat) : Int) = 1 := rfl
            rw [e1] at hshl
            have hx : rtB p 63 j + 2 ^ t < 18446744073709551616 := by omega
            simp -implicitDefEqProofs (maxSteps := 10000000) only [hti, h0t, hwt, Int.toNat_natCast, hshl, hor, rkA, rkB, stepA, valA, simprocAttr]
            refine call_fn rfl rfl rfl (ok136 (rtB p 63 j + 2 ^ t) (rtB p 63 j + 2 ^ t) hx hx) ?_
            simp -implicitDefEqProofs (maxSteps := 10000000) only [rkA, rkB, stepA, valA, simprocAttr]
            refine call_fn rfl rfl rfl (ok138 p ((rtB p 63 j + 2 ^ t) * (rtB p 63 j + 2 ^ t))) ?_
            have hstep : rtB p 63 (j + 1) = if (rtB p 63 j + 2 ^ t) * (rtB p 63 j + 2 ^ t) ≤ p then rtB p 63 j + 2 ^ t else rtB p 63 j := by rw [rtB, ht2]
            have hw2 := wrapped (x := (j : Int) + 1) (by omega) (by omega)
            by_cases hlt : p < (rtB p 63 j + 2 ^ t) * (rtB p 63 j + 2 ^ t)
            · rw [if_neg (by omega)] at hstep
              simp -implicitDefEqProofs (maxSteps := 10000000) only [hlt, hw2, rkA, rkB, stepA, valA, simprocAttr]
              refine loopK_of (m' := m - 1) (by omega) ?_
              simp -implicitDefEqProofs (maxSteps := 10000000) only [rkA, rkB, stepA, valA, simprocAttr]
              exact ⟨j + 1, by omega, by rw [hstep, show ((j + 1 : Nat) : Int) = (j : Int) + 1 from rfl]⟩
            · rw [if_pos (by omega)] at hstep
              simp -implicitDefEqProofs (maxSteps := 10000000) only [hlt, hw2, rkA, rkB, stepA, valA, simprocAttr]
              refine loopK_of (m' := m - 1) (by omega) ?_
              simp -implicitDefEqProofs (maxSteps := 10000000) only [rkA, rkB, stepA, valA, simprocAttr]
              exact ⟨j + 1, by omega, by rw [hstep, show ((j + 1 : Nat) : Int) = (j : Int) + 1 from rfl]⟩
          · have hj' : j = 63 := by omega
            subst hj'
            obtain ⟨f1, f2, f3⟩ := rtW_spec hp
            have er : rtB p 63 63 = rtW p := by unfold rtW; rfl
            rw [er]
            clear er hp2
            unfold wRootN upW
            generalize rtW p = r at *
            have h64 : r < 18446744073709551616 := by omega
            have h65 : r + 1 < 18446744073709551616 := by omega
            have hw1 := wrapN (n := r + 1) h65
            have ea : ((r : Nat) : Int) + 1 = ((r + 1 : Nat) : Int) := by simp
            refine call_fn rfl rfl rfl (ok136 (r) (r) h64 h64) ?_
            simp -implicitDefEqProofs (maxSteps := 10000000) only [eq_prW, ea, hw1, rkA, rkB, stepA, valA, simprocAttr]
            refine call_fn rfl rfl rfl (ok136 (r) (r + 1) h64 h65) ?_
            simp -implicitDefEqProofs (maxSteps := 10000000) only [rkA, rkB, stepA, valA, simprocAttr]
            refine call_fn rfl rfl rfl (ok138 (r * (r + 1)) p) ?_
            simp -implicitDefEqProofs (maxSteps := 10000000) only [rkA, rkB, stepA, valA, simprocAttr]
            have hwi : IntKind.wrap .i64 ((r : Nat) : Int) = ((r : Nat) : Int) := wrapped (by omega) (by omega)
            have hwi2 : IntKind.wrap .i64 ((r + 1 : Nat) : Int) = ((r + 1 : Nat) : Int) := wrapped (by omega) (by omega)
            by_cases q1 : r * r = p
            · have d1 : decide (r * r = p) = true := decide_eq_true q1
              have d2 : decide (r * r ≠ p) = false := decide_eq_false (by simpa using q1)
              simp -implicitDefEqProofs (maxSteps := 10000000) only [d1, d2, hwi, rkA, rkB, stepA, valA, simprocAttr]
            · have d1 : decide (r * r = p) = false := decide_eq_false q1
              have d2 : decide (r * r ≠ p) = true := decide_eq_true q1
              have m2 : (mode == 2) = decide (mode = 2) := by by_cases h : mode = 2 <;> simp [h]
              have m0 : (mode == 0) = decide (mode = 0) := by by_cases h : mode = 0 <;> simp [h]
              by_cases q2 : mode = 2
              · have d3 : decide (mode = 2) = true := decide_eq_true q2
                simp -implicitDefEqProofs (maxSteps := 10000000) only [d1, d2, d3, m2, rkA, rkB, stepA, valA, simprocAttr]
                simp -implicitDefEqProofs (maxSteps := 10000000) only [ea, hw1, hwi2, rkA, rkB, stepA, valA, simprocAttr]
              · have d3 : decide (mode = 2) = false := decide_eq_false q2
                by_cases q3 : mode = 0
                · have d4 : decide (mode = 0) = true := decide_eq_true q3
                  by_cases q4 : r * (r + 1) < p
                  · have d5 : decide (r * (r + 1) < p) = true := decide_eq_true q4
                    simp -implicitDefEqProofs (maxSteps := 10000000) only [d1, d2, d3, d4, d5, m2, m0, rkA, rkB, stepA, valA, simprocAttr]
                    simp -implicitDefEqProofs (maxSteps := 10000000) only [ea, hw1, hwi2, rkA, rkB, stepA, valA, simprocAttr]
                  · have d5 : decide (r * (r + 1) < p) = false := decide_eq_false q4
                    simp -implicitDefEqProofs (maxSteps := 10000000) only [d1, d2, d3, d4, d5, m2, m0, hwi, rkA, rkB, stepA, valA, simprocAttr]
                · have d4 : decide (mode = 0) = false := decide_eq_false q3
                  simp -implicitDefEqProofs (maxSteps := 10000000) only [d1, d2, d3, d4, m2, m0, hwi, rkA, rkB, stepA, valA, simprocAttr]
      · have hm' : decide (0 ≤ mode ∧ mode ≤ 2) = false := decide_eq_false hm
        rw [wRoot_no (by unfold wRootOk; rw [ha, hb, hm']; rfl)]
        simp -implicitDefEqProofs (maxSteps := 10000000) only [hm', rkA, rkB, stepA, valA, simprocAttr]
end Go.Proofs.YtbflmeomkfjikaaGreat.A



set_option linter.unusedVariables false
set_option linter.unusedSimpArgs false
set_option maxRecDepth 100000
namespace Go.Proofs.YtbflmeomkfjikaaGreat.A
open Go Go.RowKit Go.Shelf

/-! ### Roots of rounded numbers -/
def rtX (a mode : Int) : Int × Bool := toldF (wRoot a 16777216 mode).1 (wRoot a 16777216 mode).2 [a]
theorem ok234 (a mode : Int) : Ok Tryz.prog 234 [num a, num mode] (.tup [num (rtX a mode).1, tru (rtX a mode).2]) := by
  refine ok_fn mixed Tryz.func234 (code := ?_) (h := h234) ?_ k234 ?_
  rotate_left
  · exact rfl
  unfold h234 initS
  simp -implicitDefEqProofs (maxSteps := 10000000) only [rkA, rkB, stepA, valA, simprocAttr, Tryz.ntmps234, Tryz.results234]
  refine call_fn rfl rfl rfl (ok235 a 16777216 mode) ?_
  simp -implicitDefEqProofs (maxSteps := 10000000) only [rkA, rkB, stepA, valA, simprocAttr]
  refine call_fn rfl rfl rfl (ok156 _ _ [a] (by simp)) ?_
  simp -implicitDefEqProofs (maxSteps := 10000000) only [rkA, rkB, stepA, valA, simprocAttr, rtX]
theorem ok233 (x y m : Int) : Ok Tryz.prog 233 [num x, num y, num m] (.tup [num (rtX x m).1, tru (rtX x m).2]) := by
  refine ok_fn mixed Tryz.func233 (code := ?_) (h := h233) ?_ k233 ?_
  rotate_left
  · exact rfl
  unfold h233 initS
  simp -implicitDefEqProofs (maxSteps := 10000000) only [rkA, rkB, stepA, valA, simprocAttr, Tryz.ntmps233, Tryz.results233]
  refine call_fn rfl rfl rfl (ok234 x m) ?_
  simp -implicitDefEqProofs (maxSteps := 10000000) only [rkA, rkB, stepA, valA, simprocAttr]
end Go.Proofs.YtbflmeomkfjikaaGreat.A
namespace Go.Proofs.YtbflmeomkfjikaaGreat.A.E
open Go Go.RowKit Go.Shelf

/-! ### Roots, signs of enclosed numbers -/
def rootF (a : Fr) : Fr := madeE (fun x _ m => rtX x m) a a [(a.lo, a.lo), (a.hi, a.hi)]
theorem ok229 (a : Fr) : Ok Tryz.prog 229 [frV a] (frV (rootF a)) := by
  have h := ok103 _ (fun x _ m => rtX x m) (fun x y m => ok233 x y m) a a true [(a.lo, a.lo), (a.hi, a.hi)] (by simp) (by simp)
  refine ok_fn mixed Tryz.func229 (code := ?_) (h := h229) ?_ k229 ?_
  rotate_left
  · exact rfl
  unfold h229 initS
  simp -implicitDefEqProofs (maxSteps := 10000000) only [rkA, rkB, stepA, valA, simprocAttr, Tryz.ntmps229, Tryz.results229]
  refine call_fn rfl rfl rfl (h) ?_
  simp -implicitDefEqProofs (maxSteps := 10000000) only [rkA, rkB, stepA, valA, simprocAttr, rootF]
def negF (a : Fr) : Fr := subF (point 0) a
def signF (a : Fr) : Int := if a.bad = true ∨ a.v = 0 then 0 else if a.v < 0 then -1 else 1
theorem methRoot : Meth Tryz.prog 40 "Root" 229 := by
  intro v xs w
  rfl
end Go.Proofs.YtbflmeomkfjikaaGreat.A.E


set_option linter.unusedVariables false
set_option linter.unusedSimpArgs false
set_option maxRecDepth 100000
namespace Go.Proofs.YtbflmeomkfjikaaGreat.A.E
open Go Go.RowKit Go.Shelf

end Go.Proofs.YtbflmeomkfjikaaGreat.A.E


set_option linter.unusedVariables false
set_option linter.unusedSimpArgs false
set_option maxRecDepth 100000
namespace Go.Proofs.YtbflmeomkfjikaaGreat.A.E
open Go Go.RowKit Go.Shelf

theorem methDiv : Meth Tryz.prog 40 "Div" 228 := by
  intro v xs w
  rfl

theorem ok116 (ex : Bool) (l : List Fr) (y : Fr) (h : l.length ≤ 4398046511104) : Ok Tryz.prog 116 [.sl ex (frs l), frV y] (.sl false (frs (l.map (mulF · y)))) := by
  refine ok_fn mixed Tryz.func116 (code := ?_) (h := h116) ?_ k116 ?_
  rotate_left
  · exact rfl
  unfold h116 initS
  simp -implicitDefEqProofs only [rkA, rkB, stepA, valA, simprocAttr, Tryz.ntmps116, Tryz.results116]
  refine wp_loop (fun m s => ∃ i : Nat, i + m = l.length ∧ s = ⟨[jk, jk, jk, .ptr 3 0, jk, .acc 5 (frs ((l.take i).map (mulF · y))), jk, jk, .v (.sl ex (frs l)), nt (frs l).length, nt i, jk, jk, jk, jk, jk, jk, jk, jk, jk, jk, jk, jk], [(3, [nt y.v, nt y.lo, nt y.hi, .v (tru y.bad)])], [], [(4, 0), (5, i)], [], 0, nomem⟩) l.length ?_ ?_
  · simp -implicitDefEqProofs only [rkA, rkB, stepA, valA, simprocAttr]
    exact ⟨0, by simp, rfl⟩
  rintro m s ⟨i, hi, rfl⟩
  simp -implicitDefEqProofs only [rkA, rkB, stepA, valA, simprocAttr]
  refine gB_dec ?_ ?_ <;> intro hc <;> simp -implicitDefEqProofs only [hc, rkA, rkB, stepA, valA, simprocAttr]
  · have hlt : i < l.length := by simpa using hc
    have h0 : (0 : Int) ≤ (i : Int) := by omega
    have hg : (frs l)[i]? = some (frV l[i]) := by simp [hlt]
    simp -implicitDefEqProofs only [h0, Int.toNat_natCast, hg, rkA, rkB, stepA, valA, simprocAttr]
    refine call_meth rfl rfl methMul (ok45 l[i] y) ?_
    have hfit : fits 4 32 (frs ((l.take i).map (mulF · y))) [frV (mulF l[i] y)] = true := fits_frs (l := [mulF l[i] y]) (by simp; omega)
    have hw := wrapped (x := (i : Int) + 1) (by omega) (by omega)
    have hl : (frs ((l.take i).map (mulF · y))).length = i := by simp; omega
    simp -implicitDefEqProofs only [hfit, hl, hw, rkA, rkB, stepA, valA, simprocAttr]
    refine loopK_of (m' := m - 1) (by omega) ?_
    simp -implicitDefEqProofs only [rkA, rkB, stepA, valA, simprocAttr]
    refine ⟨i + 1, by omega, ?_⟩
    rw [List.take_succ_eq_append_getElem hlt]
    simp only [frs, List.map_append, List.map_cons, List.map_nil, Int.natCast_add, Int.natCast_one]
  · have : l.length ≤ i := by simp only [List.length_map] at hc; omega
    rw [List.take_of_length_le this]

theorem ok79 (ex : Bool) (r c : Int) (l : List Fr) : Ok Tryz.prog 79 [matV ex r c (frs l)] (tru (right r c l.length && (r == c))) := by
  refine ok_fn mixed Tryz.func79 (code := ?_) (h := h79) ?_ k79 ?_
  rotate_left
  · exact rfl
  unfold h79 initS
  simp -implicitDefEqProofs only [rkA, rkB, stepA, valA, simprocAttr, Tryz.ntmps79, Tryz.results79]
  refine call_fn rfl rfl rfl (ok88 ex r c (frs l)) ?_
  have e : (frs l).length = l.length := by simp
  rw [e]
  cases hr : right r c l.length with
  | false => simp -implicitDefEqProofs only [rkA, rkB, stepA, valA, simprocAttr]
  | true => simp -implicitDefEqProofs only [rkA, rkB, stepA, valA, simprocAttr]

/-- A square. -/
def sqF (r : Int) (l : List Fr) : List Fr := mirF r (prodF r r r l (turnF r r l))
theorem prodF_len {r m c : Int} {a b : List Fr} : (prodF r m c a b).length = r.toNat * c.toNat := by
  unfold prodF
  simp only [List.length_flatMap, List.length_map, allF, List.length_range, List.map_map]
  have e : ∀ l : List Nat, (l.map ((fun _ => c.toNat) ∘ fun (i : Nat) => rowF r m a (i : Int))).sum = l.length * c.toNat := fun l => by
    induction l with
    | nil => simp
    | cons x l ih => rw [List.map_cons, List.sum_cons, ih, List.length_cons, Nat.add_mul, Nat.one_mul, Nat.add_comm]; rfl
  rw [e, List.length_range]
theorem right_sq {n : Nat} (hn : 1 ≤ n ∧ n ≤ 16) {l : List Fr} (h : l.length = n * n) : right (n : Int) (n : Int) l.length = true := right_nat hn hn h
theorem ok46 (n : Nat) (hn : 1 ≤ n ∧ n ≤ 16) (ex : Bool) (l : List Fr) (h : l.length = n * n) : Ok Tryz.prog 46 [matV ex n n (frs l)] (.tup [matV false n n (frs (sqF n l)), tru true]) := by
  have hr := right_sq hn h
  refine ok_fn mixed Tryz.func46 (code := ?_) (h := h46) ?_ k46 ?_
  rotate_left
  · exact rfl
  unfold h46 initS
  simp -implicitDefEqProofs only [rkA, rkB, stepA, valA, simprocAttr, Tryz.ntmps46, Tryz.results46]
  refine call_fn rfl rfl rfl (ok79 ex n n l) ?_
  simp -implicitDefEqProofs only [hr, beq_self_eq_true, rkA, rkB, stepA, valA, simprocAttr]
  have h25 := ok107 ex n n l
  rw [if_pos hr] at h25
  refine call_fn rfl rfl rfl (h25) ?_
  simp -implicitDefEqProofs only [rkA, rkB, stepA, valA, simprocAttr]
  have hrt := right_turn hr
  have h13 := ok106 ex false n n n n l (turnF n n l)
  rw [if_pos ⟨hr, hrt, rfl⟩] at h13
  refine call_fn rfl rfl rfl (h13) ?_
  simp -implicitDefEqProofs only [rkA, rkB, stepA, valA, simprocAttr]
  have h33 := ok108 false n n (prodF n n n l (turnF n n l))
  have hp : right (n : Int) (n : Int) (prodF n n n l (turnF n n l)).length = true := right_sq hn (by rw [prodF_len]; simp)
  rw [if_pos ⟨hp, rfl⟩] at h33
  refine call_fn rfl rfl rfl (h33) ?_
  simp -implicitDefEqProofs only [rkA, rkB, stepA, valA, simprocAttr, sqF]
end Go.Proofs.YtbflmeomkfjikaaGreat.A.E


set_option linter.unusedVariables false
set_option linter.unusedSimpArgs false
set_option maxRecDepth 100000
namespace Go.Proofs.YtbflmeomkfjikaaGreat.A.E
open Go Go.RowKit Go.Shelf

def rowM (n : Nat) (M : Nat → Nat → Fr) (i : Nat) : List Fr := (List.range n).map (M i)
def setM (M : Nat → Nat → Fr) (i k : Nat) (x : Fr) : Nat → Nat → Fr := fun a b => if a = i ∧ b = k then x else M a b
theorem rowM_length (n : Nat) (M : Nat → Nat → Fr) (i : Nat) : (rowM n M i).length = n := by simp [rowM]
theorem rowM_get {n : Nat} {M : Nat → Nat → Fr} {i k : Nat} (h : k < n) : (rowM n M i)[k]? = some (M i k) := by simp [rowM, h]
theorem rowM_set {n : Nat} {M : Nat → Nat → Fr} {i k : Nat} {x : Fr} (h : k < n) : (rowM n M i).set k x = rowM n (setM M i k x) i := by
  apply List.ext_getElem?
  intro j
  rw [List.getElem?_set]
  by_cases hj : j < n
  · by_cases e : k = j
    · subst e
      rw [if_pos rfl, if_pos (by rw [rowM_length]; exact h), rowM_get h]
      simp [setM]
    · rw [if_neg e, rowM_get hj, rowM_get hj]
      have : ¬ (j = k) := fun h => e h.symm
      simp [setM, this]
  · rw [if_neg (by omega), List.getElem?_eq_none (by rw [rowM_length]; omega), List.getElem?_eq_none (by rw [rowM_length]; omega)]
theorem rowM_other {n : Nat} {M : Nat → Nat → Fr} {i j k : Nat} {x : Fr} (h : j ≠ i) : rowM n (setM M i k x) j = rowM n M j := by
  simp [rowM, setM, h]

structure RowsIn (m : Mem) (R : Nat) (c : Nat → Nat) (n b : Nat) (M : Nat → Nat → Fr) : Prop where
  head : m R = some (headR n b c)
  row : ∀ i, i < b → m (c i) = some (flat (frs (rowM n M i)))
  ne : ∀ i, i < b → c i ≠ R
  inj : ∀ i j, i < b → j < b → c i = c j → i = j

theorem ldM_fr {l : List Fr} {k : Nat} {x : Fr} (h : l[k]? = some x) : ldM true 4 (k * 4) (flat (frs l)) = some (.v (frV x)) := by
  have := ldM_elem (els := frs l) (sz := 4) (k := k) (e := frV x) (frs_cells l) (by simp [h]) []
  rwa [List.append_nil] at this
theorem RowsIn.store {m : Mem} {R : Nat} {c : Nat → Nat} {n b : Nat} {M : Nat → Nat → Fr} (h : RowsIn m R c n b M) {i k : Nat} (hi : i < b) (hk : k < n) (x : Fr) :
    RowsIn (m.put (c i) (flat (frs ((rowM n M i).set k x)))) R c n b (setM M i k x) where
  head := by rw [Mem.put_other _ _ (fun e => h.ne i hi e.symm)]; exact h.head
  row := fun j hj => by
    by_cases e : j = i
    · subst e
      rw [Mem.put_same, rowM_set hk]
    · rw [Mem.put_other _ _ (fun e' => e (h.inj j i hj hi e')), rowM_other e]
      exact h.row j hj
  ne := h.ne
  inj := h.inj

/-- The rows, as values. -/
abbrev rowsV (n : Nat) (M : Nat → Nat → Fr) : PV := .sl true ((List.range n).map fun i => .sl false (frs (rowM n M i)))
theorem RowsIn.tell {m : Mem} {R : Nat} {c : Nat → Nat} {n : Nat} {M : Nat → Nat → Fr} (h : RowsIn m R c n n M) : Tell m (rawRow R n) (rowsV n M) := by
  have hf : flat ((List.range n).map fun i => PV.sl false (frs (rowM n M i))) = (List.range n).map fun i => PV.sl false (frs (rowM n M i)) := flat_one fun x hx => by
    obtain ⟨i, _, rfl⟩ := List.mem_map.1 hx
    rfl
  refine .row (sz := 1) h.head (fun x hx => ?_) (by simp) (by rw [hf, headR_length]; simp) (Nat.le_refl _) (fun _ => rfl) ?_
  · obtain ⟨i, _, rfl⟩ := List.mem_map.1 hx
    rfl
  · rw [hf, List.drop_zero, List.take_of_length_le (by rw [headR_length]; simp)]
    refine tells_map fun i hi => ?_
    have hi' := List.mem_range.1 hi
    rw [if_pos hi']
    have e := h.row i hi'
    rw [← List.append_nil (flat _)] at e
    have := tell_row (m := m) (b := c i) (cap := n) (q := 0) (l := rowM n M i) e (by simp [rowM_length])
    simpa [rowM_length] using this

def leftM (n : Nat) (p : List Fr) (M : Nat → Nat → Fr) (i k : Nat) : Fr := subF (atF n n p i k) (dotF ((rowM n M i).take k) ((rowM n M k).take k))

def stepD (n : Nat) (p : List Fr) (M : Nat → Nat → Fr) (k : Nat) : Nat → Nat → Fr := setM M k k (rootF (leftM n p M k k))
/-- One column: k + 1 rows below its diagonal are done for every one counted. -/
def colS (n : Nat) (p : List Fr) (k : Nat) (M : Nat → Nat → Fr) : Nat → Nat → Nat → Fr
  | 0 => stepD n p M k
  | j + 1 => setM (colS n p k M j) (k + 1 + j) k (divF (leftM n p (colS n p k M j) (k + 1 + j) k) (colS n p k M j k k))
def rootS (n : Nat) (p : List Fr) : Nat → Nat → Nat → Fr
  | 0 => fun _ _ => newF 0 1
  | k + 1 => colS n p k (rootS n p k) (n - (k + 1))
/-- While the rows are made: noughts so far, zero values behind. -/
def zeroM (i k : Nat) : Nat → Nat → Fr := fun a b => if a < i ∨ a = i ∧ b < k then newF 0 1 else ⟨0, 0, 0, false⟩

theorem flat_zeros : ∀ (n : Nat), (List.replicate n [num 0, num 0, num 0, tru false]).flatten = flat (frs (List.replicate n (⟨0, 0, 0, false⟩ : Fr)))
  | 0 => rfl
  | n + 1 => by
    rw [List.replicate_succ, List.flatten_cons, flat_zeros n]
    rfl
theorem zero_row (n i : Nat) : rowM n (zeroM i 0) i = List.replicate n ⟨0, 0, 0, false⟩ := by
  apply List.ext_getElem?
  intro j
  by_cases h : j < n
  · rw [rowM_get h]; simp [zeroM, h]
  · rw [List.getElem?_eq_none (by rw [rowM_length]; omega), List.getElem?_eq_none (by simp; omega)]
theorem RowsIn.grow {m : Mem} {R : Nat} {c : Nat → Nat} {n i b : Nat} (h : RowsIn m R c n i (zeroM i 0)) (hi : i < n) (hb : m b = none) :
    RowsIn ((m.put b (flat (frs (List.replicate n (⟨0, 0, 0, false⟩ : Fr))))).put R (headR n (i + 1) (fun j => if j = i then b else c j))) R (fun j => if j = i then b else c j) n (i + 1) (zeroM i 0) := by
  have hRb : R ≠ b := fun e => by have := h.head; rw [e, hb] at this; cases this
  have hcb : ∀ j, j < i → c j ≠ b := fun j hj e => by have := h.row j hj; rw [e, hb] at this; cases this
  refine ⟨Mem.put_same _ _ _, fun j hj => ?_, fun j hj => ?_, fun j k hj hk => ?_⟩
  · by_cases e : j = i
    · subst e
      rw [if_pos rfl, Mem.put_other _ _ (fun e => hRb e.symm), Mem.put_same, zero_row]
    · rw [if_neg e, Mem.put_other _ _ (h.ne j (by omega)), Mem.put_other _ _ (hcb j (by omega))]
      exact h.row j (by omega)
  · by_cases e : j = i
    · rw [if_pos e]; exact fun e => hRb e.symm
    · rw [if_neg e]; exact h.ne j (by omega)
  · by_cases e : j = i <;> by_cases e' : k = i
    · intro _; omega
    · rw [if_pos e, if_neg e']
      exact fun h1 => absurd h1.symm (hcb k (by omega))
    · rw [if_neg e, if_pos e']
      exact fun h1 => absurd h1 (hcb j (by omega))
    · rw [if_neg e, if_neg e']
      exact h.inj j k (by omega) (by omega)
theorem RowsIn.congr {m : Mem} {R : Nat} {c : Nat → Nat} {n b : Nat} {M N : Nat → Nat → Fr} (h : RowsIn m R c n b M) (hMN : ∀ i k, i < b → k < n → M i k = N i k) : RowsIn m R c n b N :=
  ⟨h.head, fun i hi => by
    have e : rowM n N i = rowM n M i := by
      unfold rowM
      exact List.map_congr_left fun k hk => (hMN i k hi (List.mem_range.1 hk)).symm
    rw [e]
    exact h.row i hi, h.ne, h.inj⟩

end Go.Proofs.YtbflmeomkfjikaaGreat.A.E


set_option linter.unusedVariables false
set_option linter.unusedSimpArgs false
set_option maxRecDepth 100000
namespace Go.Proofs.YtbflmeomkfjikaaGreat.A.E
open Go Go.RowKit Go.Shelf

theorem ok82 (n : Nat) (hn : 1 ≤ n ∧ n ≤ 16) (K : Nat) (caps : List PV) (g : Nat → Nat → Fr) (hg : ∀ i k : Nat, i < n → k < n → Ok Tryz.prog K (num i :: num k :: caps) (frV (g i k))) :
    Ok Tryz.prog 82 [num n, .fn (.func K) caps] (.tup [matV false n n (frs (gridP g n n 0)), tru true]) := by
  refine Ok.ofM (okm82 n hn K caps g hg) ?_
  rintro r m ⟨b, cap, q, h1, rfl, rfl⟩
  have hl : (frs (gridP g n n 0)).length = (gridP g n n 0).length := by simp
  exact .tup (.cons (.agg (.cons (.same _) (.cons (.same _) (.cons (tell_row (Mem.put_same _ _ _) h1) .nil)))) (.cons (.same _) .nil))

def clearG (n : Nat) (l : List Fr) (i k : Nat) : Fr := if i < k then newF 0 1 else atF n n l i k
def clearF (n : Nat) (l : List Fr) : List Fr := gridP (clearG n l) n n 0
theorem ok145 (e : Bool) (n : Nat) (l : List Fr) (i k : Nat) : Ok Tryz.prog 145 [num i, num k, .vp [num 0, num 0, num 0, tru false], .vp [num n, num n, .sl e (frs l)]] (frV (clearG n l i k)) := by
  refine ok_fn mixed Tryz.func145 (code := ?_) (h := h145) ?_ k145 ?_
  rotate_left
  · exact rfl
  unfold h145 initS
  simp -implicitDefEqProofs only [rkA, rkB, stepA, valA, simprocAttr, Tryz.ntmps145, Tryz.results145]
  unfold clearG
  refine gB_dec ?_ ?_ <;> intro hc <;> simp -implicitDefEqProofs only [hc, rkA, rkB, stepA, valA, simprocAttr]
  · have : i < k := by omega
    refine call_meth rfl rfl methOf (ok56 ⟨0, 0, 0, false⟩ 0) ?_
    rw [if_pos this]
    simp -implicitDefEqProofs only [rkA, rkB, stepA, valA, simprocAttr]
  · have : ¬ i < k := by omega
    refine call_fn rfl rfl rfl (ok35 e n n i k l) ?_
    rw [if_neg this]
    simp -implicitDefEqProofs only [rkA, rkB, stepA, valA, simprocAttr]

theorem ok92 (n : Nat) (hn : 1 ≤ n ∧ n ≤ 16) (e : Bool) (l : List Fr) (h : l.length = n * n) : Ok Tryz.prog 92 [matV e n n (frs l)] (.tup [matV false n n (frs (clearF n l)), tru true]) := by
  have hr := right_sq hn h
  refine ok_fn mixed Tryz.func92 (code := ?_) (h := h92) ?_ k92 ?_
  rotate_left
  · exact rfl
  unfold h92 initS
  simp -implicitDefEqProofs only [rkA, rkB, stepA, valA, simprocAttr, Tryz.ntmps92, Tryz.results92]
  refine call_fn rfl rfl rfl (ok79 e n n l) ?_
  simp -implicitDefEqProofs only [hr, beq_self_eq_true, rkA, rkB, stepA, valA, simprocAttr]
  refine call_fn rfl rfl rfl (ok82 n hn _ _ (clearG n l) (fun i k _ _ => ok145 e n l i k)) ?_
  simp -implicitDefEqProofs only [rkA, rkB, stepA, valA, simprocAttr, clearF]

end Go.Proofs.YtbflmeomkfjikaaGreat.A.E


set_option linter.unusedVariables false
set_option linter.unusedSimpArgs false
set_option maxRecDepth 100000
namespace Go.Proofs.YtbflmeomkfjikaaGreat.A.E
open Go Go.RowKit Go.Shelf

theorem okn143 (ex : Bool) (r c : Int) (i : Nat) (l : List Fr) (hr : right r c l.length = true) (hi : i < r.toNat) : OkN Tryz.prog 143 [matV ex r c (frs l), num i] (frs (rowF r c l i)) := by
  obtain ⟨r1, r2, c1, c2, hn⟩ := right_spec hr
  have hlen := rowF_len hr hi
  have hrow : rowF r c l i = (l.take (((i : Int) + 1) * c).toNat).drop ((i : Int) * c).toNat := if_pos ⟨hr, by omega, by omega⟩
  have hne : rowF r c l i ≠ [] := fun h => by rw [h] at hlen; simp at hlen; omega
  rw [hrow] at hne ⊢
  refine okn_fn mixed Tryz.func143 (code := ?_) (h := hN143) ?_ kN143 rfl (RFs_frs _) ?_
  rotate_left
  · exact rfl
  unfold hN143 initS
  simp -implicitDefEqProofs only [rkA, rkB, stepA, valA, simprocAttr, Tryz.ntmps143, Tryz.results143]
  refine call_fn rfl rfl rfl (ok88 ex r c (frs l)) ?_
  have e : (frs l).length = l.length := by simp
  have g1 : ¬ (i : Int) < 0 := by omega
  have g2 : ¬ (i : Int) ≥ r := by omega
  obtain ⟨b1, b2, b3, b4, b5⟩ := at_bound (i := i) (k := 0) r2 ⟨c1, c2⟩ (by omega) (by omega)
  have b6 : ((i : Int) + 1) * c = i * c + c := by rw [Int.add_mul, Int.one_mul]
  have b7 : ((i : Int) + 1) * c ≤ r * c := Int.mul_le_mul_of_nonneg_right (by omega) (by omega)
  have w1 := wrapped (x := (i : Int) * c) (by omega) (by omega)
  have w2 := wrapped (x := (i : Int) + 1) (by omega) (by omega)
  have w3 := wrapped (x := ((i : Int) + 1) * c) (by omega) (by omega)
  have h3 : 0 ≤ ((i : Int) + 1) * c := by omega
  have hs := sl_frs (ex := ex) (l := l) (a := ((i : Int) * c).toNat) (b := (((i : Int) + 1) * c).toNat) (by omega) (by omega)
  simp -implicitDefEqProofs only [e, hr, g1, g2, w1, w2, w3, b1, h3, hs, rkA, rkB, stepA, valA, simprocAttr]
  refine newRow_fn rfl rfl (Tells.same _ _) (okn87 _ _ hne (by simp; omega)) (RFs_frs _) (by simpa using hne) ?_
  intro b cap q hb hcap
  simp -implicitDefEqProofs only [rkA, rkB, stepA, valA, simprocAttr]
  exact .inr ⟨_, rfl, .inr ⟨by simpa using hne, b, cap, q, hcap, rfl, rfl⟩⟩

/-- Row i, in memory of its own. -/
def rowItem (r c : Int) (l : List Fr) (i : Nat) : Item := fun p m => ∃ b cap q, (frs (rowF r c l i)).length ≤ cap ∧ p = [num i, .s (.slice (some ⟨b, 0, none⟩) (frs (rowF r c l i)).length cap)] ∧ m = nomem.put b (flat (frs (rowF r c l i)) ++ List.replicate q .junk)
def rowItems (r c : Int) (l : List Fr) : List Item := (List.range r.toNat).map (rowItem r c l)
theorem itm142 (ex : Bool) (r c : Int) (l : List Fr) (hr : right r c l.length = true) : IterOkM Tryz.prog (.fn (.func 142) [.vp [num r, num c, .sl ex (frs l)]]) (rowItems r c l) := by
  obtain ⟨r1, r2, c1, c2, hn⟩ := right_spec hr
  have hl : (rowItems r c l).length = r.toNat := by simp [rowItems]
  have e : (frs l).length = l.length := by simp
  have h17 := ok88 ex r c (frs l)
  rw [e, hr] at h17
  refine iterM_fn mixed Tryz.func142 (code := ?_) (h := hN142) ?_ kN142 ?_ ?_
  rotate_left
  · exact rfl
  · exact rfl
  intro yl
  unfold hN142 initS
  simp -implicitDefEqProofs only [rkA, rkB, stepA, valA, simprocAttr, Tryz.ntmps142]
  refine wp_loop (fun m s => ∃ i : Nat, i + m = (rowItems r c l).length ∧ s = ⟨[.v (.fn (.yield yl) []), .v (.vp [num r, num c, .sl ex (frs l)]), jk, nt i, jk, jk, jk, jk, jk, jk, jk, jk, jk, jk, jk, jk, jk, jk, jk, jk, jk], [], [], [], [], i, nomem⟩) (rowItems r c l).length ?_ ?_
  · simp -implicitDefEqProofs only [rkA, rkB, stepA, valA, simprocAttr]
    exact ⟨0, by simp, rfl⟩
  rintro m s ⟨i, hi, rfl⟩
  simp -implicitDefEqProofs only [rkA, rkB, stepA, valA, simprocAttr]
  refine call_fn rfl rfl rfl (h17) ?_
  simp -implicitDefEqProofs only [rkA, rkB, stepA, valA, simprocAttr]
  refine gB_dec ?_ ?_ <;> intro hc <;> simp -implicitDefEqProofs only [hc, rkA, rkB, stepA, valA, simprocAttr]
  · have hlt : i < r.toNat := by omega
    have hlen := rowF_len hr hlt
    have hne : frs (rowF r c l i) ≠ [] := fun h => by
      have := congrArg List.length h
      rw [List.length_map, hlen, List.length_nil] at this
      omega
    refine newRow_fn rfl rfl (Tells.same _ _) (okn143 ex r c i l hr hlt) (RFs_frs _) hne ?_
    intro b cap q hb hcap
    simp -implicitDefEqProofs only [rkA, rkB, stepA, valA, simprocAttr]
    have hx : (rowItems r c l)[i]? = some (rowItem r c l i) := by simp [rowItems, hlt]
    have hw := wrapped (x := (i : Int) + 1) (by omega) (by omega)
    refine call_yieldM rfl rfl rfl rfl hx ⟨b, cap, q, hcap, rfl, rfl⟩ ?_ ?_
    · simp -implicitDefEqProofs only [hw, rkA, rkB, stepA, valA, simprocAttr]
      refine loopK_of (m' := m - 1) (by omega) ?_
      simp -implicitDefEqProofs only [rkA, rkB, stepA, valA, simprocAttr]
      exact ⟨i + 1, by omega, by simp only [Int.natCast_add, Int.natCast_one]⟩
    · simp -implicitDefEqProofs only [rkA, rkB, stepA, valA, simprocAttr]
      exact .inr trivial
  · omega

end Go.Proofs.YtbflmeomkfjikaaGreat.A.E


set_option linter.unusedVariables false
set_option linter.unusedSimpArgs false
set_option maxRecDepth 100000
namespace Go.Proofs.YtbflmeomkfjikaaGreat.A.E
open Go Go.RowKit Go.Shelf

structure RowsC (m : Mem) (c q : Nat → Nat) (n w : Nat) (M : Nat → Nat → Fr) : Prop where
  row : ∀ i, i < n → m (c i) = some (flat (frs (rowM w M i)) ++ jnk (q i))
  inj : ∀ i j, i < n → j < n → c i = c j → i = j
theorem ldM_frj {l : List Fr} {k : Nat} {x : Fr} {post : List PV} (h : l[k]? = some x) : ldM true 4 (k * 4) (flat (frs l) ++ post) = some (.v (frV x)) :=
  ldM_elem (els := frs l) (sz := 4) (k := k) (e := frV x) (frs_cells l) (by simp [h]) post
theorem stM_frj {l : List Fr} {k : Nat} {x : Fr} {post : List PV} (h : k < l.length) : stM 4 (k * 4) (flat (frs l) ++ post) (frV x) = some (flat (frs (l.set k x)) ++ post) := by
  have := stM_elem (els := frs l) (sz := 4) (k := k) (e := frV x) (frs_cells l) (by simpa using h) rfl rfl post
  rw [this]
  simp [frs, List.map_set]
theorem frs_ok (l : List Fr) : (frs l).all (fun e => e.ok && e.cells.length == 4) = true := by
  rw [List.all_eq_true]
  intro e he
  obtain ⟨x, _, rfl⟩ := List.mem_map.1 he
  rfl
def xF (w : Nat) (M : Nat → Nat → Fr) (k : Nat) : List Fr := (rowM w M k).drop k
def normF (w : Nat) (M : Nat → Nat → Fr) (k : Nat) : Fr := if 0 ≤ signF (M k k) then negF (rootF (dotF (xF w M k) (xF w M k))) else rootF (dotF (xF w M k) (xF w M k))
def vA (w : Nat) (M : Nat → Nat → Fr) (k c : Nat) : Fr := if c = k then subF (M k k) (normF w M k) else M k c
def vF (w : Nat) (M : Nat → Nat → Fr) (k : Nat) : List Fr := ((List.range w).map (vA w M k)).drop k
def tF (w : Nat) (M : Nat → Nat → Fr) (k i : Nat) : Fr := divF (addF (dotF ((rowM w M i).drop k) (vF w M k)) (dotF ((rowM w M i).drop k) (vF w M k))) (dotF (vF w M k) (vF w M k))
def foldTo (w : Nat) (M : Nat → Nat → Fr) (k j : Nat) : Nat → Nat → Fr := fun a c => if k < a ∧ a < j ∧ k ≤ c then subF (M a c) (mulF (vA w M k c) (tF w M k a)) else M a c
/-- One row more is folded. -/
theorem RowsC.fold {mm : Mem} {c q : Nat → Nat} {n w k i : Nat} {M : Nat → Nat → Fr} (h : RowsC mm c q n w (foldTo w M k i)) (hi : i < n) (hki : k < i) :
    RowsC (mm.put (c i) (flat (frs (rowM w (foldTo w M k (i + 1)) i)) ++ jnk (q i))) c q n w (foldTo w M k (i + 1)) := ⟨fun a ha => by
  by_cases e : a = i
  · subst e
    rw [Mem.put_same]
  · rw [Mem.put_other _ _ (fun e' => e (h.inj a i ha hi e')), h.row a ha]
    congr 3
    unfold rowM
    congr 1
    refine List.map_congr_left fun j _ => ?_
    unfold foldTo
    by_cases h1 : k < a ∧ a < i ∧ k ≤ j
    · rw [if_pos h1, if_pos (by omega)]
    · rw [if_neg h1, if_neg (by omega)], h.inj⟩
theorem RowsC.congr {mm : Mem} {c q : Nat → Nat} {n w : Nat} {M N : Nat → Nat → Fr} (h : RowsC mm c q n w M) (hMN : ∀ a j, a < n → j < w → M a j = N a j) : RowsC mm c q n w N := ⟨fun a ha => by
  have e : rowM w N a = rowM w M a := by
    unfold rowM
    exact List.map_congr_left fun j hj => (hMN a j ha (List.mem_range.1 hj)).symm
  rw [e]
  exact h.row a ha, h.inj⟩
theorem RowsC.store {mm : Mem} {c q : Nat → Nat} {n w : Nat} {M : Nat → Nat → Fr} (h : RowsC mm c q n w M) {i k : Nat} (hi : i < n) (hk : k < w) (x : Fr) :
    RowsC (mm.put (c i) (flat (frs ((rowM w M i).set k x)) ++ jnk (q i))) c q n w (setM M i k x) := ⟨fun j hj => by
  by_cases e : j = i
  · subst e
    rw [Mem.put_same, rowM_set hk]
  · rw [Mem.put_other _ _ (fun e' => e (h.inj j i hj hi e')), rowM_other e]
    exact h.row j hj, h.inj⟩
end Go.Proofs.YtbflmeomkfjikaaGreat.A.E


set_option linter.unusedVariables false
set_option linter.unusedSimpArgs false
set_option maxRecDepth 100000
namespace Go.Proofs.YtbflmeomkfjikaaGreat.A.E
open Go Go.RowKit Go.Shelf

end Go.Proofs.YtbflmeomkfjikaaGreat.A.E


set_option linter.unusedVariables false
set_option linter.unusedSimpArgs false
set_option maxRecDepth 100000
namespace Go.Proofs.YtbflmeomkfjikaaGreat.A.E
open Go Go.RowKit Go.Shelf

theorem RowsC.grow {mm : Mem} {c q : Nat → Nat} {i w b z : Nat} {M : Nat → Nat → Fr} (h : RowsC mm c q i w M) (hb : mm b = none) :
    RowsC (mm.put b (flat (frs (rowM w M i)) ++ jnk z)) (fun j => if j = i then b else c j) (fun j => if j = i then z else q j) (i + 1) w M := by
  have hcb : ∀ j, j < i → c j ≠ b := fun j hj e => by have := h.row j hj; rw [e, hb] at this; cases this
  refine ⟨fun j hj => ?_, fun j k hj hk => ?_⟩
  · by_cases e : j = i
    · subst e
      simp only [if_true]
      rw [Mem.put_same]
    · simp only [e, if_false]
      rw [Mem.put_other _ _ (hcb j (by omega))]
      exact h.row j (by omega)
  · by_cases e : j = i <;> by_cases e' : k = i
    · intro _; omega
    · simp only [e, e', if_true, if_false]
      exact fun h1 => absurd h1.symm (hcb k (by omega))
    · simp only [e, e', if_true, if_false]
      exact fun h1 => absurd h1 (hcb j (by omega))
    · simp only [e, e', if_false]
      exact h.inj j k (by omega) (by omega)
def startF (n w : Nat) (l : List Fr) : Nat → Nat → Fr := fun i c => atF n w l i c
theorem row_start {n w : Nat} {l : List Fr} (hr : right n w l.length = true) {i : Nat} (hi : i < n) : rowF n w l i = rowM w (startF n w l) i := by
  rw [rowF_eq ⟨0, 0, 0, false⟩ hr (by simpa using hi), Int.toNat_natCast, rowM]
  refine List.map_congr_left fun j hj => ?_
  rw [startF, atF_eq hr (by simpa using hi) (by simpa using hj), Int.toNat_natCast]
end Go.Proofs.YtbflmeomkfjikaaGreat.A.E



set_option linter.unusedVariables false
set_option linter.unusedSimpArgs false
set_option maxRecDepth 100000
namespace Go.Proofs.YtbflmeomkfjikaaGreat.A.E
open Go Go.RowKit Go.Shelf

/-- The rows, as far as row t; what was gathered. -/
def colM (M : Nat → Nat → Fr) (E : Nat → Fr) (j : Nat) (d c : Fr) (t : Nat) : Nat → Nat → Fr := fun i k => if k = j ∧ j ≤ i ∧ i < t then subF (mulF (M i j) d) (mulF (E i) c) else M i k
def colE (M : Nat → Nat → Fr) (E : Nat → Fr) (j : Nat) (w : Fr) (t : Nat) : Nat → Fr := fun i => if j ≤ i ∧ i < t then addF (E i) (mulF (M i j) w) else E i
def rootD (a b : Fr) : Fr := rootF (divF a b)
def rootC (w a b : Fr) : Fr := divF w (rootF (mulF a b))
theorem colM_first (M : Nat → Nat → Fr) (E : Nat → Fr) (j : Nat) (d c : Fr) : colM M E j d c j = M := by
  funext i k
  unfold colM
  rw [if_neg (by omega)]
theorem colE_first (M : Nat → Nat → Fr) (E : Nat → Fr) (j : Nat) (w : Fr) : colE M E j w j = E := by
  funext i
  unfold colE
  rw [if_neg (by omega)]
theorem colM_step (M : Nat → Nat → Fr) (E : Nat → Fr) (j : Nat) (d c : Fr) {t : Nat} (h : j ≤ t) : setM (colM M E j d c t) t j (subF (mulF (M t j) d) (mulF (E t) c)) = colM M E j d c (t + 1) := by
  funext i k
  unfold setM colM
  by_cases e : i = t ∧ k = j
  · obtain ⟨rfl, rfl⟩ := e
    rw [if_pos ⟨rfl, rfl⟩, if_pos ⟨rfl, h, by omega⟩]
  · rw [if_neg e]
    by_cases h1 : k = j ∧ j ≤ i ∧ i < t
    · rw [if_pos h1, if_pos (by omega)]
    · rw [if_neg h1, if_neg (by omega)]
theorem colE_step (M : Nat → Nat → Fr) (E : Nat → Fr) (j : Nat) (w : Fr) {t n : Nat} (h : j ≤ t) (ht : t < n) : ((List.range n).map (colE M E j w t)).set t (addF (E t) (mulF (M t j) w)) = (List.range n).map (colE M E j w (t + 1)) := by
  apply List.ext_getElem?
  intro i
  rw [List.getElem?_set]
  by_cases hi : i < n
  · rw [List.getElem?_map, List.getElem?_map, List.getElem?_range hi]
    by_cases e : t = i
    · subst e
      rw [if_pos rfl, if_pos (by simpa using ht)]
      simp only [Option.map_some]
      unfold colE
      rw [if_pos ⟨h, by omega⟩]
    · rw [if_neg e]
      simp only [Option.map_some]
      unfold colE
      by_cases h1 : j ≤ i ∧ i < t
      · rw [if_pos h1, if_pos (by omega)]
      · rw [if_neg h1, if_neg (by omega)]
  · rw [List.getElem?_eq_none (by simp; omega), List.getElem?_eq_none (by simp; omega), if_neg (by omega)]
/-- Rows lie as they lay, whatever is written elsewhere. -/
theorem RowsC.other {mm : Mem} {c q : Nat → Nat} {n w b : Nat} {M : Nat → Nat → Fr} {x : List PV} (h : RowsC mm c q n w M) (hb : ∀ i, i < n → c i ≠ b) : RowsC (mm.put b x) c q n w M :=
  ⟨fun i hi => by rw [Mem.put_other _ _ (hb i hi)]; exact h.row i hi, h.inj⟩
set_option maxHeartbeats 4000000 in
theorem okm113 (ex : Bool) (n j : Nat) (hj : j < n) (hn : n ≤ 16) (M : Nat → Nat → Fr) (E : Nat → Fr) (w a b : Fr) (c cap q : Nat → Nat) (hcap : ∀ i, i < n → n ≤ cap i) (eb : Nat) (m : Mem) (hm : RowsC m c q n n M) (he : m eb = some (flat (frs ((List.range n).map E)))) (hce : ∀ i, i < n → c i ≠ eb) :
    OkM Tryz.prog 113 [.sl ex ((List.range n).map (rawC c cap n)), num j, frV w, frV a, frV b, .s (.slice (some ⟨eb, 0, none⟩) n n)] m
      (fun _ m' => RowsC m' c q n n (colM M E j (rootD a b) (rootC w a b) n) ∧ m' eb = some (flat (frs ((List.range n).map (colE M E j w n))))) := by
  refine okm_fn mixed Tryz.func113 (code := ?_) (h := h113) ?_ k113 ?_
  rotate_left
  · exact rfl
  unfold h113 initS
  simp -implicitDefEqProofs (maxSteps := 10000000) only [rkA, rkB, stepA, valA, simprocAttr, Tryz.ntmps113, Tryz.results113]
  refine call_meth rfl rfl methDiv (ok228 _ _) ?_
  simp -implicitDefEqProofs (maxSteps := 10000000) only [rkA, rkB, stepA, valA, simprocAttr]
  refine call_meth rfl rfl methRoot (ok229 _) ?_
  simp -implicitDefEqProofs (maxSteps := 10000000) only [rkA, rkB, stepA, valA, simprocAttr]
  refine call_meth rfl rfl methMul (ok45 _ _) ?_
  simp -implicitDefEqProofs (maxSteps := 10000000) only [rkA, rkB, stepA, valA, simprocAttr]
  refine call_meth rfl rfl methRoot (ok229 _) ?_
  simp -implicitDefEqProofs (maxSteps := 10000000) only [rkA, rkB, stepA, valA, simprocAttr]
  refine call_meth rfl rfl methDiv (ok228 _ _) ?_
  simp -implicitDefEqProofs (maxSteps := 10000000) only [rkA, rkB, stepA, valA, simprocAttr]
  have eD : rootF (divF a b) = rootD a b := rfl
  have eC : divF w (rootF (mulF a b)) = rootC w a b := rfl
  simp only [eD, eC]
  refine wp_loop (fun z s => ∃ (t : Nat) (mm : Mem), j ≤ t ∧ t + z = n ∧ RowsC mm c q n n (colM M E j (rootD a b) (rootC w a b) t) ∧ mm eb = some (flat (frs ((List.range n).map (colE M E j w t)))) ∧
    s = ⟨[.v (.sl ex ((List.range n).map (rawC c cap n))), .v (num j), jk, jk, jk, .v (.s (.slice (some ⟨eb, 0, none⟩) n n)), jk, jk, .ptr 8 0, jk, jk, jk, .ptr 12 0, .ptr 13 0, nt t, jk, jk, jk, jk, jk, jk, jk, jk, jk, jk, jk, jk, jk, jk, jk, jk, jk, jk, jk, jk, jk, jk, jk, jk, jk, jk, jk, jk, jk, jk, jk, jk, jk, jk, jk, jk, jk, jk, jk, jk, jk, jk, jk, jk, jk, jk, jk, jk, jk, jk, jk, jk, jk, jk, jk, jk, jk, jk, jk, jk, jk, jk],
      [(8, [.v (num w.v), .v (num w.lo), .v (num w.hi), .v (tru w.bad)]), (9, [.v (num a.v), .v (num a.lo), .v (num a.hi), .v (tru a.bad)]), (10, [.v (num b.v), .v (num b.lo), .v (num b.hi), .v (tru b.bad)]), (12, [.v (num (rootD a b).v), .v (num (rootD a b).lo), .v (num (rootD a b).hi), .v (tru (rootD a b).bad)]), (13, [.v (num (rootC w a b).v), .v (num (rootC w a b).lo), .v (num (rootC w a b).hi), .v (tru (rootC w a b).bad)])], [], [], [], 0, mm⟩) (n - j) ?_ ?_
  · simp -implicitDefEqProofs (maxSteps := 10000000) only [rkA, rkB, stepA, valA, simprocAttr]
    exact ⟨j, m, by omega, by omega, by rw [colM_first]; exact hm, by rw [colE_first]; exact he, rfl⟩
  clear hm he m
  rintro z s ⟨t, mm, hjt, htz, hM, hE, rfl⟩
  have li : ((List.range n).map (rawC c cap n)).length = n := by simp
  simp -implicitDefEqProofs (maxSteps := 10000000) only [li, rkA, rkB, stepA, valA, simprocAttr]
  refine gB_dec ?_ ?_ <;> intro hc <;> simp -implicitDefEqProofs (maxSteps := 10000000) only [hc, rkA, rkB, stepA, valA, simprocAttr]
  · have hi : t < n := by omega
    have h0t : (0 : Int) ≤ (t : Int) := by omega
    have h0j : (0 : Int) ≤ (j : Int) := by omega
    have hjn : (j : Int) < (n : Int) := by omega
    have gi : ((List.range n).map (rawC c cap n))[t]? = some (rawC c cap n t) := by simp [hi]
    have hrow := hM.row t hi
    have gM : colM M E j (rootD a b) (rootC w a b) t t j = M t j := by unfold colM; rw [if_neg (by omega)]
    have gE : colE M E j w t t = E t := by unfold colE; rw [if_neg (by omega)]
    have hld := ldM_frj (post := jnk (q t)) (rowM_get (n := n) (M := colM M E j (rootD a b) (rootC w a b) t) (i := t) (k := j) hj)
    have hle : ((List.range n).map (colE M E j w t))[t]? = some (E t) := by simp [hi, gE]
    have hlde := ldM_fr hle
    rw [gM] at hld
    simp -implicitDefEqProofs (maxSteps := 10000000) only [h0t, h0j, hjn, Int.toNat_natCast, gi, addr_add, Nat.zero_add, hrow, hld, rkA, rkB, stepA, valA, simprocAttr]
    refine call_meth rfl rfl methMul (ok45 _ _) ?_
    have hte : (t : Int) < (n : Int) := by omega
    simp -implicitDefEqProofs (maxSteps := 10000000) only [h0t, hte, Int.toNat_natCast, addr_add, Nat.zero_add, hE, hlde, rkA, rkB, stepA, valA, simprocAttr]
    refine call_meth rfl rfl methMul (ok45 _ _) ?_
    simp -implicitDefEqProofs (maxSteps := 10000000) only [rkA, rkB, stepA, valA, simprocAttr]
    refine call_meth rfl rfl methSub (ok97 _ _) ?_
    have hst := stM_frj (l := rowM n (colM M E j (rootD a b) (rootC w a b) t) t) (k := j) (x := subF (mulF (M t j) (rootD a b)) (mulF (E t) (rootC w a b))) (post := jnk (q t)) (by rw [rowM_length]; exact hj)
    simp -implicitDefEqProofs (maxSteps := 10000000) only [h0j, hjn, Int.toNat_natCast, addr_add, Nat.zero_add, hrow, hst, rkA, rkB, stepA, valA, simprocAttr]
    have hM2 := hM.store hi hj (subF (mulF (M t j) (rootD a b)) (mulF (E t) (rootC w a b)))
    rw [colM_step M E j (rootD a b) (rootC w a b) hjt] at hM2
    have hE2 : (mm.put (c t) (flat (frs ((rowM n (colM M E j (rootD a b) (rootC w a b) t) t).set j (subF (mulF (M t j) (rootD a b)) (mulF (E t) (rootC w a b))))) ++ jnk (q t))) eb = some (flat (frs ((List.range n).map (colE M E j w t)))) := by
      rw [Mem.put_other _ _ (fun e => hce t hi e.symm)]
      exact hE
    generalize mm.put (c t) _ = mm2 at hM2 hE2 ⊢
    simp -implicitDefEqProofs (maxSteps := 10000000) only [h0t, hte, Int.toNat_natCast, addr_add, Nat.zero_add, hE2, hlde, rkA, rkB, stepA, valA, simprocAttr]
    refine call_meth rfl rfl methMul (ok45 _ _) ?_
    simp -implicitDefEqProofs (maxSteps := 10000000) only [rkA, rkB, stepA, valA, simprocAttr]
    refine call_meth rfl rfl methAdd (ok227 _ _) ?_
    have hse := stM_frj (l := (List.range n).map (colE M E j w t)) (k := t) (x := addF (E t) (mulF (M t j) w)) (post := []) (by simp; exact hi)
    rw [List.append_nil, List.append_nil, colE_step M E j w hjt hi] at hse
    have hw' := wrapped (x := (t : Int) + 1) (by omega) (by omega)
    simp -implicitDefEqProofs (maxSteps := 10000000) only [h0t, hte, Int.toNat_natCast, addr_add, Nat.zero_add, hE2, hse, hw', rkA, rkB, stepA, valA, simprocAttr]
    refine loopK_of (m' := z - 1) (by omega) ?_
    simp -implicitDefEqProofs (maxSteps := 10000000) only [rkA, rkB, stepA, valA, simprocAttr]
    refine ⟨t + 1, mm2.put eb (flat (frs ((List.range n).map (colE M E j w (t + 1))))), by omega, by omega, ?_, Mem.put_same _ _ _, by simp only [Int.natCast_add, Int.natCast_one]⟩
    exact hM2.other (fun i hi' => hce i hi')
  · have e : t = n := by omega
    subst e
    exact ⟨_, rfl, hM, hE⟩
end Go.Proofs.YtbflmeomkfjikaaGreat.A.E



set_option linter.unusedVariables false
set_option linter.unusedSimpArgs false
set_option maxRecDepth 100000
namespace Go.Proofs.YtbflmeomkfjikaaGreat.A.E
open Go Go.RowKit Go.Shelf

abbrev catV (rows : List (List Fr)) : List PV := rows.map fun r => .sl false (frs r)
theorem cells_putF (A B : List Fr) {C : List Fr} (h : C = A ++ B) (K : Nat) : (flat (frs A) ++ List.replicate (K - (flat (frs A)).length) PV.junk).take (flat (frs A)).length ++ flat (frs B) ++ (flat (frs A) ++ List.replicate (K - (flat (frs A)).length) PV.junk).drop ((flat (frs A)).length + (flat (frs B)).length) = flat (frs C) ++ List.replicate (K - (flat (frs C)).length) PV.junk := by
  have e : flat (frs C) = flat (frs A) ++ flat (frs B) := by rw [h, frs, List.map_append, flat_append]
  rw [cells_put, e, List.length_append, Nat.sub_sub]
set_option maxHeartbeats 2000000 in
theorem okn114 (ex : Bool) (rows : List (List Fr)) (h0 : rows.flatten ≠ []) (h1 : rows.flatten.length ≤ 1000000) (h2 : rows.length ≤ 1000000) : OkN Tryz.prog 114 [.sl ex (catV rows)] (frs rows.flatten) := by
  have hlr : (catV rows).length = rows.length := by simp
  have hpos : 0 < rows.flatten.length := List.length_pos_iff.2 h0
  refine okn_fn mixed Tryz.func114 (code := ?_) (h := hN114) ?_ kN114 rfl (RFs_frs _) ?_
  rotate_left
  · exact rfl
  unfold hN114 initS
  simp -implicitDefEqProofs (maxSteps := 10000000) only [rkA, rkB, stepA, valA, simprocAttr, Tryz.ntmps114, Tryz.results114]
  refine wp_loop (fun m s => ∃ i, i + m = rows.length ∧ s = ⟨[.v (.sl ex (catV rows)), jk, jk, nt ((rows.take i).flatten.length : Nat), jk, jk, jk, jk, jk, .v (.sl ex (catV rows)), nt rows.length, nt i, jk, jk, jk, jk, jk, jk, jk, jk, jk, jk, jk, jk, jk, jk, jk, jk, jk, jk, jk, jk, jk, jk, jk, jk], [], [], [(2, 0)], [], 0, nomem⟩) rows.length ?_ ?_
  · simp -implicitDefEqProofs (maxSteps := 10000000) only [hlr, rkA, rkB, stepA, valA, simprocAttr]
    exact ⟨0, by simp, rfl⟩
  rintro m s ⟨i, hi, rfl⟩
  simp -implicitDefEqProofs (maxSteps := 10000000) only [rkA, rkB, stepA, valA, simprocAttr]
  refine gB_dec ?_ ?_ <;> intro hc <;> simp -implicitDefEqProofs (maxSteps := 10000000) only [hc, rkA, rkB, stepA, valA, simprocAttr]
  · have hlt : i < rows.length := by omega
    have h0i : (0 : Int) ≤ (i : Int) := by omega
    have hg : (catV rows)[i]? = some (.sl false (frs rows[i])) := by simp [hlt]
    have e1 := flatten_take_succ hlt
    have e2 := flatten_take_le rows (i + 1)
    have e3 : (rows.take (i + 1)).flatten.length = (rows.take i).flatten.length + rows[i].length := by rw [e1, List.length_append]
    have e4 : (frs rows[i]).length = rows[i].length := by simp
    have w1 : IntKind.wrap .i64 (((rows.take i).flatten.length : Nat) + (rows[i].length : Nat) : Int) = ((rows.take (i + 1)).flatten.length : Nat) := by rw [wrapped (by omega) (by omega)]; omega
    have w2 := wrapped (x := (i : Int) + 1) (by omega) (by omega)
    have g0 : ¬ (((rows.take (i + 1)).flatten.length : Nat) : Int) < 0 := by omega
    simp -implicitDefEqProofs (maxSteps := 10000000) only [h0i, Int.toNat_natCast, hg, e4, w1, w2, g0, rkA, rkB, stepA, valA, simprocAttr]
    refine loopK_of (m' := m - 1) (by omega) ?_
    simp -implicitDefEqProofs (maxSteps := 10000000) only [rkA, rkB, stepA, valA, simprocAttr]
    exact ⟨i + 1, by omega, by simp only [Int.natCast_add, Int.natCast_one]⟩
  · have ei : rows.take i = rows := List.take_of_length_le (by omega)
    simp only [ei]
    clear ei hc hi m
    refine lendNew_fn rfl rfl (Tells.same _ _) (okg158 rows.flatten.length (by omega) (by omega)) grown_rf ?_
    rintro r m' ⟨c, cap, hcap, rfl, rfl⟩ hfree
    simp -implicitDefEqProofs (maxSteps := 10000000) only [rkA, rkB, stepA, valA, simprocAttr]
    refine wp_loop (fun m s => ∃ (i : Nat) (mm : Mem), i + m = rows.length ∧ mm = nomem.put c (flat (frs (rows.take i).flatten) ++ List.replicate (cap * 4 - (flat (frs (rows.take i).flatten)).length) .junk) ∧
      s = ⟨[jk, jk, jk, jk, jk, jk, .v (.s (.slice (some ⟨c, 0, none⟩) (rows.take i).flatten.length cap)), jk, jk, jk, jk, jk, jk, jk, jk, jk, jk, jk, jk, jk, jk, jk, jk, jk, jk, .v (.sl ex (catV rows)), nt rows.length, nt i, jk, jk, jk, jk, jk, jk, jk, jk], [], [], [(2, 0)], [], 0, mm⟩) rows.length ?_ ?_
    · simp -implicitDefEqProofs (maxSteps := 10000000) only [hlr, rkA, rkB, stepA, valA, simprocAttr]
      exact ⟨0, _, by simp, rfl, rfl⟩
    rintro m s ⟨i, mm, hi, rfl, rfl⟩
    simp -implicitDefEqProofs (maxSteps := 10000000) only [rkA, rkB, stepA, valA, simprocAttr]
    refine gB_dec ?_ ?_ <;> intro hc <;> simp -implicitDefEqProofs (maxSteps := 10000000) only [hc, rkA, rkB, stepA, valA, simprocAttr]
    · have hlt : i < rows.length := by omega
      have h0i : (0 : Int) ≤ (i : Int) := by omega
      have hg : (catV rows)[i]? = some (.sl false (frs rows[i])) := by simp [hlt]
      have e1 := flatten_take_succ hlt
      have e2 := flatten_take_le rows (i + 1)
      have e3 : (rows.take (i + 1)).flatten.length = (rows.take i).flatten.length + rows[i].length := by rw [e1, List.length_append]
      have e4 : (frs rows[i]).length = rows[i].length := by simp
      have l1 : (flat (frs (rows.take i).flatten)).length = (rows.take i).flatten.length * 4 := by rw [flat_length (frs_cells _), List.length_map]
      have l2 : (flat (frs rows[i])).length = rows[i].length * 4 := by rw [flat_length (frs_cells _), List.length_map]
      have w2 := wrapped (x := (i : Int) + 1) (by omega) (by omega)
      have hmul : rows.flatten.length * 4 ≤ cap * 4 := Nat.mul_le_mul_right _ hcap
      have hput := cells_putF (rows.take i).flatten rows[i] e1 (cap * 4)
      simp -implicitDefEqProofs (maxSteps := 10000000) only [h0i, Int.toNat_natCast, hg, rkA, rkB, stepA, valA, simprocAttr]
      refine appIn_of rfl rfl (.same _) (RFs_frs _) (Mem.put_same _ _ _) (by rw [List.all_eq_true]; intro e he; obtain ⟨x, _, rfl⟩ := List.mem_map.1 he; rfl) (by rw [e4]; omega) (by simp only [List.length_append, List.length_replicate, l1, l2, Nat.zero_add]; omega) ?_
      rw [Nat.zero_add, ← l1, hput, e4, ← e3]
      simp -implicitDefEqProofs (maxSteps := 10000000) only [w2, rkA, rkB, stepA, valA, simprocAttr]
      refine loopK_of (m' := m - 1) (by omega) ?_
      simp -implicitDefEqProofs (maxSteps := 10000000) only [rkA, rkB, stepA, valA, simprocAttr]
      refine ⟨i + 1, _, by omega, rfl, ?_⟩
      simp only [Int.natCast_add, Int.natCast_one]
      congr 1
      funext d
      unfold Mem.put
      split <;> rfl
    · have ei : rows.take i = rows := List.take_of_length_le (by omega)
      rw [ei]
      refine .inr ⟨_, rfl, .inr ⟨by simpa using h0, c, cap, _, by rw [List.length_map]; exact hcap, by rw [List.length_map], rfl⟩⟩
end Go.Proofs.YtbflmeomkfjikaaGreat.A.E



set_option linter.unusedVariables false
set_option linter.unusedSimpArgs false
set_option maxRecDepth 100000
namespace Go.Proofs.YtbflmeomkfjikaaGreat.A.E
open Go Go.RowKit Go.Shelf

abbrev stV (ex ep : Bool) (x : List PV) (r c : Int) (l : List PV) : PV := .agg [.sl ex x, num r, num c, .sl ep l]
theorem sqF_len (n : Nat) (l : List Fr) : (sqF n l).length = n * n := by
  rw [sqF, mirF, gridP_length]
  simp
def turnedF (n : Nat) (m p q : List Fr) : List Fr := mirF n (List.zipWith addF (prodF n n n (prodF n n n m p) (turnF n n m)) q)
theorem turnedF_len (n : Nat) (m p q : List Fr) : (turnedF n m p q).length = n * n := by
  rw [turnedF, mirF, gridP_length]
  simp
end Go.Proofs.YtbflmeomkfjikaaGreat.A.E


