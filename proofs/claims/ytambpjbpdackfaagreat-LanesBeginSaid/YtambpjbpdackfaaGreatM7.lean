import Derived.Test.YtambpjbpdackfaaGreatM6
import Derived.Test.YtambpjbpdackfaaGreatM3
import Derived.Test.YtambpjbpdackfaaGreatM5
import Derived.Test.YtambpjbpdackfaaGreatM4
set_option linter.unusedVariables false
set_option linter.unusedSimpArgs false
set_option maxRecDepth 100000
namespace Go.Proofs.YtambpjbpdackfaaGreat.A
open Go Go.RowKit Go.Shelf

/-! ### The reference's product, divided -/
theorem md_no {a b c mode : Int} (h : mdOk a b c mode = false) : mdF a b c mode = (0, false) := by unfold mdF; rw [h]; rfl
theorem div_step {P d b : Nat} (hd : 0 < d) (hb : b < 2) : (2 * P + b) / d = 2 * (P / d) + (if 2 * (P % d) + b < d then 0 else 1) ∧ (2 * P + b) % d = if 2 * (P % d) + b < d then 2 * (P % d) + b else 2 * (P % d) + b - d := by
  have h1 := Nat.div_add_mod P d
  have h2 := Nat.mod_lt P hd
  generalize P / d = q at *
  generalize P % d = r at *
  by_cases h : 2 * r + b < d
  · rw [if_pos h, if_pos h]
    have e : 2 * P + b = (2 * r + b) + d * (2 * q) := by rw [← h1, Nat.mul_left_comm]; omega
    rw [e, Nat.add_mul_div_left _ _ hd, Nat.add_mul_mod_self_left, Nat.div_eq_of_lt h, Nat.mod_eq_of_lt h]
    omega
  · rw [if_neg h, if_neg h]
    have e : 2 * P + b = (2 * r + b - d) + d * (2 * q + 1) := by rw [← h1, Nat.mul_add d, Nat.mul_left_comm d, Nat.mul_one]; omega
    have h3 : 2 * r + b - d < d := by omega
    rw [e, Nat.add_mul_div_left _ _ hd, Nat.add_mul_mod_self_left, Nat.div_eq_of_lt h3, Nat.mod_eq_of_lt h3]
    omega
theorem neg_small {Q : Nat} (h : Q < 2 ^ 62) : IntKind.wrap .i64 (-(Q : Int)) = -(Q : Int) := wrapped (by omega) (by omega)
theorem md_fin {a b c mode : Int} {Q : Nat} (e : Bool) (hQ : Q < 2 ^ 130) (hN : mdN a b c mode = Q) (hok : mdOk a b c mode = decide (mdN a b c mode ≤ 4611686018427387903)) {G : Prop}
    (h1 : Q < 2 ^ 62 → mdF a b c mode = (if minus3 a b c = true then -(Q : Int) else (Q : Int), true) → G) (h2 : 2 ^ 62 ≤ Q → mdF a b c mode = (0, false) → G) : G := by
  rw [hN] at hok
  by_cases hq : Q < 2 ^ 62
  · refine h1 hq ?_
    unfold mdF
    rw [if_pos (by rw [hok]; exact decide_eq_true (by omega)), hN]
  · exact h2 (by omega) (md_no (by rw [hok]; exact decide_eq_false (by omega)))
set_option maxHeartbeats 8000000 in
theorem ok222 (a b c mode : Int) : Ok Tryz.prog 222 [num a, num b, num c, num mode] (.tup [num (mdF a b c mode).1, tru (mdF a b c mode).2]) := by
  refine ok_fn mixed Tryz.func222 (code := ?_) (h := h222) ?_ k222 ?_
  rotate_left
  · exact rfl
  unfold h222 initS
  simp -implicitDefEqProofs (maxSteps := 10000000) only [rkA, rkB, stepA, valA, simprocAttr, Tryz.ntmps222, Tryz.results222]
  refine call_fn rfl rfl rfl (ok230 a) ?_
  cases ha : rightW a with
  | false =>
    rw [md_no (by simp [mdOk, ha])]
    simp -implicitDefEqProofs (maxSteps := 10000000) only [rkA, rkB, stepA, valA, simprocAttr]
  | true =>
  simp -implicitDefEqProofs (maxSteps := 10000000) only [rkA, rkB, stepA, valA, simprocAttr]
  refine call_fn rfl rfl rfl (ok230 b) ?_
  cases hb : rightW b with
  | false =>
    rw [md_no (by simp [mdOk, hb])]
    simp -implicitDefEqProofs (maxSteps := 10000000) only [rkA, rkB, stepA, valA, simprocAttr]
  | true =>
  simp -implicitDefEqProofs (maxSteps := 10000000) only [rkA, rkB, stepA, valA, simprocAttr]
  refine call_fn rfl rfl rfl (ok230 c) ?_
  cases hc : rightW c with
  | false =>
    rw [md_no (by simp [mdOk, hc])]
    simp -implicitDefEqProofs (maxSteps := 10000000) only [rkA, rkB, stepA, valA, simprocAttr]
  | true =>
  by_cases c0 : c = 0
  · rw [md_no (by simp [mdOk, c0])]
    simp -implicitDefEqProofs (maxSteps := 10000000) only [c0, beq_self_eq_true, rkA, rkB, stepA, valA, simprocAttr]
  have c0' : (c == 0) = false := by simp [c0]
  by_cases hm : mode < 0
  · rw [md_no (by simp [mdOk]; omega)]
    simp -implicitDefEqProofs (maxSteps := 10000000) only [c0', hm, rkA, rkB, stepA, valA, simprocAttr]
  by_cases hm2 : mode > 2
  · rw [md_no (by simp [mdOk]; omega)]
    simp -implicitDefEqProofs (maxSteps := 10000000) only [c0', hm, hm2, rkA, rkB, stepA, valA, simprocAttr]
  have hok : mdOk a b c mode = decide (mdN a b c mode ≤ 4611686018427387903) := by
    have : decide (0 ≤ mode ∧ mode ≤ 2) = true := by simp; omega
    simp [mdOk, ha, hb, hc, c0, this]
  simp only [rightW, decide_eq_true_eq] at ha hb hc
  simp -implicitDefEqProofs (maxSteps := 10000000) only [c0', hm, hm2, rkA, rkB, stepA, valA, simprocAttr]
  refine call_fn rfl rfl rfl (ok231 a (by omega) (by omega)) ?_
  simp -implicitDefEqProofs (maxSteps := 10000000) only [rkA, rkB, stepA, valA, simprocAttr]
  refine call_fn rfl rfl rfl (ok231 b (by omega) (by omega)) ?_
  simp -implicitDefEqProofs (maxSteps := 10000000) only [rkA, rkB, stepA, valA, simprocAttr]
  refine call_fn rfl rfl rfl (ok212 a.natAbs b.natAbs (by omega) (by omega)) ?_
  simp -implicitDefEqProofs (maxSteps := 10000000) only [rkA, rkB, stepA, valA, simprocAttr]
  refine call_fn rfl rfl rfl (ok231 c (by omega) (by omega)) ?_
  simp -implicitDefEqProofs (maxSteps := 10000000) only [rkA, rkB, stepA, valA, simprocAttr]
  refine call_fn rfl rfl rfl (ok224 c.natAbs (by omega)) ?_
  simp -implicitDefEqProofs (maxSteps := 10000000) only [rkA, rkB, stepA, valA, simprocAttr]
  have z0 := ok224 0 (by omega)
  refine call_fn rfl rfl rfl (z0) ?_
  simp -implicitDefEqProofs (maxSteps := 10000000) only [rkA, rkB, stepA, valA, simprocAttr]
  refine call_fn rfl rfl rfl (z0) ?_
  simp -implicitDefEqProofs (maxSteps := 10000000) only [rkA, rkB, stepA, valA, simprocAttr]
  have hp : a.natAbs * b.natAbs ≤ 4611686018427387903 * 4611686018427387903 := Nat.mul_le_mul (by omega) (by omega)
  have hd : 0 < c.natAbs := by omega
  generalize hP : a.natAbs * b.natAbs = p at *
  generalize hD : c.natAbs = d at *
  have hp2 : p < 2 ^ 130 := by omega
  refine wp_loop (fun m s => ∃ i : Nat, i + m = 130 ∧ s = ⟨[.v (num a), .v (num b), .v (num c), .v (num mode), jk, jk, jk, jk, jk, jk, .v (.sl false (nb p)), .v (.sl false (nb d)), .v (.sl false (nb (p / 2 ^ m / d))), .v (.sl false (nb (p / 2 ^ m % d))), nt ((m : Int) - 1), jk, jk, jk, jk, jk, jk, jk, jk, jk, jk, jk, jk, jk, jk, jk, jk, jk, jk, jk, jk, jk, jk, jk, jk, jk, jk, jk, jk, jk, jk, jk, jk, jk, jk, jk, jk, jk, jk, jk, jk, jk, jk, jk, jk, jk, jk, jk, jk, jk, jk, jk, jk, jk, jk, jk, jk, jk, jk, jk, jk, jk, jk, jk, jk, jk, jk, jk, jk, jk, jk, jk, jk, jk, jk, jk, jk, jk, jk, jk, jk, jk, jk, jk, jk, jk, jk, jk, jk, jk, jk, jk, jk, jk, jk, jk, jk, jk, jk, jk, jk, jk, jk, jk, jk, jk, jk, jk, jk, jk, jk, jk, jk, jk, jk, jk, jk, jk, jk, jk, jk, jk, jk, jk, jk, jk, jk, jk, jk, jk, jk, jk, jk], [], [], [], [], 0, nomem⟩) 130 ?_ ?_
  · simp -implicitDefEqProofs (maxSteps := 10000000) only [rkA, rkB, stepA, valA, simprocAttr]
    have z : p / 2 ^ 130 = 0 := Nat.div_eq_of_lt hp2
    exact ⟨0, by omega, by rw [z, Nat.zero_div, Nat.zero_mod]⟩
  rintro m s ⟨i, him, rfl⟩
  simp -implicitDefEqProofs (maxSteps := 10000000) only [rkA, rkB, stepA, valA, simprocAttr]
  refine gB_dec ?_ ?_ <;> intro hc' <;> simp -implicitDefEqProofs (maxSteps := 10000000) only [hc', rkA, rkB, stepA, valA, simprocAttr]
  · obtain ⟨k, rfl⟩ : ∃ k, m = k + 1 := ⟨m - 1, by omega⟩
    have ek : ((k + 1 : Nat) : Int) - 1 = (k : Int) := by omega
    have g := nb_get (x := p) (k := k) (by omega)
    have h0 := nat0 k
    have hw := wrapped (x := (k : Int) - 1) (by omega) (by omega)
    have hb := half_bit p k
    have hlt := bitN_lt p k
    obtain ⟨s1, s2⟩ := div_step (P := p / 2 ^ (k + 1)) hd hlt
    rw [← hb] at s1 s2
    have hr := Nat.mod_lt (p / 2 ^ (k + 1)) hd
    simp -implicitDefEqProofs (maxSteps := 10000000) only [ek, h0, Int.toNat_natCast, g, rkA, rkB, stepA, valA, simprocAttr]
    refine call_fn rfl rfl rfl (ok226 false (p / 2 ^ (k + 1) % d) (bitN p k) hlt) ?_
    simp -implicitDefEqProofs (maxSteps := 10000000) only [rkA, rkB, stepA, valA, simprocAttr]
    refine call_fn rfl rfl rfl (ok211 false false (2 * (p / 2 ^ (k + 1) % d) + bitN p k) d (by omega) (by omega)) ?_
    by_cases hl : 2 * (p / 2 ^ (k + 1) % d) + bitN p k < d
    · have hl' : decide (2 * (p / 2 ^ (k + 1) % d) + bitN p k < d) = true := decide_eq_true hl
      rw [if_pos hl] at s1 s2
      simp -implicitDefEqProofs (maxSteps := 10000000) only [hl', rkA, rkB, stepA, valA, simprocAttr]
      have h62 := ok226 false (p / 2 ^ (k + 1) / d) 0 (by omega)
      rw [← s1] at h62
      refine call_fn rfl rfl rfl (h62) ?_
      simp -implicitDefEqProofs (maxSteps := 10000000) only [hw, rkA, rkB, stepA, valA, simprocAttr]
      refine loopK_of (m' := k) (by omega) ?_
      simp -implicitDefEqProofs (maxSteps := 10000000) only [rkA, rkB, stepA, valA, simprocAttr]
      exact ⟨i + 1, by omega, by rw [s2]⟩
    · have hl' : decide (2 * (p / 2 ^ (k + 1) % d) + bitN p k < d) = false := decide_eq_false hl
      rw [if_neg hl] at s1 s2
      simp -implicitDefEqProofs (maxSteps := 10000000) only [hl', rkA, rkB, stepA, valA, simprocAttr]
      have h63 := ok232 false false (2 * (p / 2 ^ (k + 1) % d) + bitN p k) d (by omega)
      rw [← s2] at h63
      refine call_fn rfl rfl rfl (h63) ?_
      simp -implicitDefEqProofs (maxSteps := 10000000) only [rkA, rkB, stepA, valA, simprocAttr]
      have h62 := ok226 false (p / 2 ^ (k + 1) / d) 1 (by omega)
      rw [← s1] at h62
      refine call_fn rfl rfl rfl (h62) ?_
      simp -implicitDefEqProofs (maxSteps := 10000000) only [hw, rkA, rkB, stepA, valA, simprocAttr]
      refine loopK_of (m' := k) (by omega) ?_
      simp -implicitDefEqProofs (maxSteps := 10000000) only [rkA, rkB, stepA, valA, simprocAttr]
      exact ⟨i + 1, by omega⟩
  · have hm0 : m = 0 := by omega
    subst hm0
    simp only [Nat.pow_zero, Nat.div_one]
    have bit1 : ∀ x : Int, 0 ≤ (if x < 0 then (1 : Int) else 0) ∧ (if x < 0 then (1 : Int) else 0) ≤ 1 := fun x => by split <;> omega
    have b1 := bit1 a
    have b2 := bit1 b
    have b3 := bit1 c
    obtain ⟨y57, hy57⟩ : ∃ y : TV, y = nt (-1) := ⟨_, rfl⟩
    obtain ⟨y58, hy58⟩ : ∃ y : TV, y = .v (tru false) := ⟨_, rfl⟩
    refine cond_join (fun s => ∃ x77 x78 x79 x80 : TV, s = ⟨[.v (num a), .v (num b), .v (num c), .v (num mode), jk, jk, jk, jk, jk, jk, .v (.sl false (nb p)), .v (.sl false (nb d)), .v (.sl false (nb (p / d))), .v (.sl false (nb (p % d))), nt (-1), jk, nt (if a < 0 then (1 : Int) else 0), jk, jk, jk, jk, jk, jk, jk, jk, jk, jk, jk, jk, jk, jk, jk, jk, jk, jk, jk, jk, jk, jk, jk, jk, jk, jk, jk, jk, jk, jk, jk, jk, jk, jk, jk, jk, jk, jk, jk, jk, y57, y58, jk, jk, jk, jk, jk, jk, jk, jk, jk, jk, jk, jk, jk, jk, jk, jk, jk, jk, x77, x78, x79, x80, jk, jk, jk, jk, jk, jk, jk, jk, jk, jk, jk, jk, jk, jk, jk, jk, jk, jk, jk, jk, jk, jk, jk, jk, jk, jk, jk, jk, jk, jk, jk, jk, jk, jk, jk, jk, jk, jk, jk, jk, jk, jk, jk, jk, jk, jk, jk, jk, jk, jk, jk, jk, jk, jk, jk, jk, jk, jk, jk, jk, jk, jk, jk, jk, jk, jk], [], [], [], [], 0, nomem⟩) ?_ ?_ ?_
    rotate_left
    · intro h
      have h' := of_decide_eq_true h
      have hw : IntKind.wrap .i64 1 = 1 := rfl
      simp -implicitDefEqProofs (maxSteps := 10000000) only [hw, rkA, rkB, stepA, valA, simprocAttr]
      rw [if_pos h']
      rw [hy57, hy58]
      exact ⟨_, _, _, _, rfl⟩
    · intro h
      have h' := of_decide_eq_false h
      simp -implicitDefEqProofs (maxSteps := 10000000) only [rkA, rkB, stepA, valA, simprocAttr]
      rw [if_neg h']
      rw [hy57, hy58]
      exact ⟨_, _, _, _, rfl⟩
    rintro s ⟨x77, x78, x79, x80, rfl⟩
    simp -implicitDefEqProofs (maxSteps := 10000000) only [rkA, rkB, stepA, valA, simprocAttr]
    refine cond_join (fun s => ∃ x81 x82 x83 x84 : TV, s = ⟨[.v (num a), .v (num b), .v (num c), .v (num mode), jk, jk, jk, jk, jk, jk, .v (.sl false (nb p)), .v (.sl false (nb d)), .v (.sl false (nb (p / d))), .v (.sl false (nb (p % d))), nt (-1), jk, nt ((if a < 0 then (1 : Int) else 0) + (if b < 0 then (1 : Int) else 0)), jk, jk, jk, jk, jk, jk, jk, jk, jk, jk, jk, jk, jk, jk, jk, jk, jk, jk, jk, jk, jk, jk, jk, jk, jk, jk, jk, jk, jk, jk, jk, jk, jk, jk, jk, jk, jk, jk, jk, jk, y57, y58, jk, jk, jk, jk, jk, jk, jk, jk, jk, jk, jk, jk, jk, jk, jk, jk, jk, jk, x77, x78, x79, x80, x81, x82, x83, x84, jk, jk, jk, jk, jk, jk, jk, jk, jk, jk, jk, jk, jk, jk, jk, jk, jk, jk, jk, jk, jk, jk, jk, jk, jk, jk, jk, jk, jk, jk, jk, jk, jk, jk, jk, jk, jk, jk, jk, jk, jk, jk, jk, jk, jk, jk, jk, jk, jk, jk, jk, jk, jk, jk, jk, jk, jk, jk, jk, jk, jk, jk], [], [], [], [], 0, nomem⟩) ?_ ?_ ?_
    rotate_left
    · intro h
      have h' := of_decide_eq_true h
      have hw : IntKind.wrap .i64 ((if a < 0 then (1 : Int) else 0) + 1) = (if a < 0 then (1 : Int) else 0) + 1 := wrapped (by omega) (by omega)
      simp -implicitDefEqProofs (maxSteps := 10000000) only [hw, rkA, rkB, stepA, valA, simprocAttr]
      rw [if_pos h']
      exact ⟨_, _, _, _, rfl⟩
    · intro h
      have h' := of_decide_eq_false h
      simp -implicitDefEqProofs (maxSteps := 10000000) only [rkA, rkB, stepA, valA, simprocAttr]
      rw [if_neg h', Int.add_zero]
      exact ⟨_, _, _, _, rfl⟩
    rintro s ⟨x81, x82, x83, x84, rfl⟩
    simp -implicitDefEqProofs (maxSteps := 10000000) only [rkA, rkB, stepA, valA, simprocAttr]
    refine cond_join (fun s => ∃ x85 x86 x87 x88 : TV, s = ⟨[.v (num a), .v (num b), .v (num c), .v (num mode), jk, jk, jk, jk, jk, jk, .v (.sl false (nb p)), .v (.sl false (nb d)), .v (.sl false (nb (p / d))), .v (.sl false (nb (p % d))), nt (-1), jk, nt ((if a < 0 then (1 : Int) else 0) + (if b < 0 then (1 : Int) else 0) + (if c < 0 then (1 : Int) else 0)), jk, jk, jk, jk, jk, jk, jk, jk, jk, jk, jk, jk, jk, jk, jk, jk, jk, jk, jk, jk, jk, jk, jk, jk, jk, jk, jk, jk, jk, jk, jk, jk, jk, jk, jk, jk, jk, jk, jk, jk, y57, y58, jk, jk, jk, jk, jk, jk, jk, jk, jk, jk, jk, jk, jk, jk, jk, jk, jk, jk, x77, x78, x79, x80, x81, x82, x83, x84, x85, x86, x87, x88, jk, jk, jk, jk, jk, jk, jk, jk, jk, jk, jk, jk, jk, jk, jk, jk, jk, jk, jk, jk, jk, jk, jk, jk, jk, jk, jk, jk, jk, jk, jk, jk, jk, jk, jk, jk, jk, jk, jk, jk, jk, jk, jk, jk, jk, jk, jk, jk, jk, jk, jk, jk, jk, jk, jk, jk, jk, jk], [], [], [], [], 0, nomem⟩) ?_ ?_ ?_
    rotate_left
    · intro h
      have h' := of_decide_eq_true h
      have hw : IntKind.wrap .i64 (((if a < 0 then (1 : Int) else 0) + (if b < 0 then (1 : Int) else 0)) + 1) = ((if a < 0 then (1 : Int) else 0) + (if b < 0 then (1 : Int) else 0)) + 1 := wrapped (by omega) (by omega)
      simp -implicitDefEqProofs (maxSteps := 10000000) only [hw, rkA, rkB, stepA, valA, simprocAttr]
      rw [if_pos h']
      exact ⟨_, _, _, _, rfl⟩
    · intro h
      have h' := of_decide_eq_false h
      simp -implicitDefEqProofs (maxSteps := 10000000) only [rkA, rkB, stepA, valA, simprocAttr]
      rw [if_neg h', Int.add_zero]
      exact ⟨_, _, _, _, rfl⟩
    rintro s ⟨x85, x86, x87, x88, rfl⟩
    simp -implicitDefEqProofs (maxSteps := 10000000) only [rkA, rkB, stepA, valA, simprocAttr]
    have hK : ((((if a < 0 then (1 : Int) else 0) + (if b < 0 then (1 : Int) else 0) + (if c < 0 then (1 : Int) else 0)).tmod 2) == 1) = minus3 a b c := by
      unfold minus3
      by_cases h1 : a < 0 <;> by_cases h2 : b < 0 <;> by_cases h3 : c < 0 <;> simp [h1, h2, h3]
    have hK0 : ((((if a < 0 then (1 : Int) else 0) + (if b < 0 then (1 : Int) else 0) + (if c < 0 then (1 : Int) else 0)).tmod 2) == 0) = !(minus3 a b c) := by
      unfold minus3
      by_cases h1 : a < 0 <;> by_cases h2 : b < 0 <;> by_cases h3 : c < 0 <;> simp [h1, h2, h3]
    have wK : IntKind.wrap .i64 (((if a < 0 then (1 : Int) else 0) + (if b < 0 then (1 : Int) else 0) + (if c < 0 then (1 : Int) else 0)).tmod 2) = ((if a < 0 then (1 : Int) else 0) + (if b < 0 then (1 : Int) else 0) + (if c < 0 then (1 : Int) else 0)).tmod 2 := by
      rw [Int.tmod_eq_emod_of_nonneg (by omega)]
      exact wrapped (by omega) (by omega)
    generalize (if a < 0 then (1 : Int) else 0) + (if b < 0 then (1 : Int) else 0) + (if c < 0 then (1 : Int) else 0) = K at hK hK0 wK ⊢
    have hr := Nat.mod_lt p hd
    have hqle : p / d ≤ p := Nat.div_le_self _ _
    refine call_fn rfl rfl rfl (z0) ?_
    simp -implicitDefEqProofs (maxSteps := 10000000) only [rkA, rkB, stepA, valA, simprocAttr]
    refine call_fn rfl rfl rfl (ok211 false false 0 (p % d) (by omega) (by omega)) ?_
    simp -implicitDefEqProofs (maxSteps := 10000000) only [rkA, rkB, stepA, valA, simprocAttr]
    refine call_fn rfl rfl rfl (ok226 false (p % d) 0 (by omega)) ?_
    have hmode : mode = 0 ∨ mode = 1 ∨ mode = 2 := by omega
    rw [Nat.add_zero]
    have b0 := nb_get (x := p / d) (k := 0) (by omega)
    have hbit0 : bitN (p / d) 0 = p / d % 2 := by unfold bitN; rw [Nat.pow_zero, Nat.div_one]
    have add1 := ok225 false false (p / d) 1
    have z1 := ok224 1 (by omega)
    rcases hmode with rfl | rfl | rfl
    · simp -implicitDefEqProofs (maxSteps := 10000000) only [rkA, rkB, stepA, valA, simprocAttr]
      refine call_fn rfl rfl rfl (ok211 false false d (2 * (p % d)) (by omega) (by omega)) ?_
      by_cases h1 : d < 2 * (p % d)
      · have hmore : moreF 0 (p / d) (p % d) d (minus3 a b c) = true := by
          unfold moreF
          rw [if_neg (by omega), if_pos rfl]
          simp
          omega
        simp -implicitDefEqProofs (maxSteps := 10000000) only [decide_eq_true h1, rkA, rkB, stepA, valA, simprocAttr]
        refine call_fn rfl rfl rfl (z1) ?_
        simp -implicitDefEqProofs (maxSteps := 10000000) only [rkA, rkB, stepA, valA, simprocAttr]
        refine call_fn rfl rfl rfl (add1) ?_
        simp -implicitDefEqProofs (maxSteps := 10000000) only [rkA, rkB, stepA, valA, simprocAttr]
        refine md_fin (Q := p / d + 1) false (by omega) (by unfold mdN; rw [hP, hD, hmore]; rfl) hok ?_ ?_
        · intro hq hF
          refine call_fn rfl rfl rfl (ok233 false (p / d + 1) hq) ?_
          rw [hF]
          have w1 := neg_small hq
          cases hM : minus3 a b c with
          | true =>
            rw [hM] at hK
            simp -implicitDefEqProofs (maxSteps := 10000000) only [two0, wK, hK, Int.zero_sub, w1, rkA, rkB, stepA, valA, simprocAttr]
          | false =>
            rw [hM] at hK
            simp -implicitDefEqProofs (maxSteps := 10000000) only [two0, wK, hK, rkA, rkB, stepA, valA, simprocAttr]
        · intro hq hF
          refine call_fn rfl rfl rfl (ok233n false (p / d + 1) (by omega) hq) ?_
          rw [hF]
          simp -implicitDefEqProofs (maxSteps := 10000000) only [rkA, rkB, stepA, valA, simprocAttr]
      · by_cases h2 : 0 < p % d
        · simp -implicitDefEqProofs (maxSteps := 10000000) only [decide_eq_false h1, decide_eq_true h2, rkA, rkB, stepA, valA, simprocAttr]
          refine call_fn rfl rfl rfl (ok211 false false (2 * (p % d)) d (by omega) (by omega)) ?_
          by_cases h3 : 2 * (p % d) < d
          · have hmore : moreF 0 (p / d) (p % d) d (minus3 a b c) = false := by
              unfold moreF
              rw [if_neg (by omega), if_pos rfl]
              simp
              omega
            simp -implicitDefEqProofs (maxSteps := 10000000) only [decide_eq_true h3, rkA, rkB, stepA, valA, simprocAttr]
            refine md_fin (Q := p / d) false (by omega) (by unfold mdN; rw [hP, hD, hmore]; rfl) hok ?_ ?_
            · intro hq hF
              refine call_fn rfl rfl rfl (ok233 false (p / d) hq) ?_
              rw [hF]
              have w1 := neg_small hq
              cases hM : minus3 a b c with
              | true =>
                rw [hM] at hK
                simp -implicitDefEqProofs (maxSteps := 10000000) only [two0, wK, hK, Int.zero_sub, w1, rkA, rkB, stepA, valA, simprocAttr]
              | false =>
                rw [hM] at hK
                simp -implicitDefEqProofs (maxSteps := 10000000) only [two0, wK, hK, rkA, rkB, stepA, valA, simprocAttr]
            · intro hq hF
              refine call_fn rfl rfl rfl (ok233n false (p / d) (by omega) hq) ?_
              rw [hF]
              simp -implicitDefEqProofs (maxSteps := 10000000) only [rkA, rkB, stepA, valA, simprocAttr]
          · rcases bitN_cases (p / d) 0 with e0 | e0
            · have hmore : moreF 0 (p / d) (p % d) d (minus3 a b c) = false := by
                unfold moreF
                rw [if_neg (by omega), if_pos rfl]
                simp
                omega
              have e0' : ((bitN (p / d) 0 : Int) == 1) = false := by rw [e0]; rfl
              simp -implicitDefEqProofs (maxSteps := 10000000) only [decide_eq_false h3, b0, e0', rkA, rkB, stepA, valA, simprocAttr]
              refine md_fin (Q := p / d) false (by omega) (by unfold mdN; rw [hP, hD, hmore]; rfl) hok ?_ ?_
              · intro hq hF
                refine call_fn rfl rfl rfl (ok233 false (p / d) hq) ?_
                rw [hF]
                have w1 := neg_small hq
                cases hM : minus3 a b c with
                | true =>
                  rw [hM] at hK
                  simp -implicitDefEqProofs (maxSteps := 10000000) only [two0, wK, hK, Int.zero_sub, w1, rkA, rkB, stepA, valA, simprocAttr]
                | false =>
                  rw [hM] at hK
                  simp -implicitDefEqProofs (maxSteps := 10000000) only [two0, wK, hK, rkA, rkB, stepA, valA, simprocAttr]
              · intro hq hF
                refine call_fn rfl rfl rfl (ok233n false (p / d) (by omega) hq) ?_
                rw [hF]
                simp -implicitDefEqProofs (maxSteps := 10000000) only [rkA, rkB, stepA, valA, simprocAttr]
            · have hmore : moreF 0 (p / d) (p % d) d (minus3 a b c) = true := by
                unfold moreF
                rw [if_neg (by omega), if_pos rfl]
                simp
                omega
              have e0' : ((bitN (p / d) 0 : Int) == 1) = true := by rw [e0]; rfl
              simp -implicitDefEqProofs (maxSteps := 10000000) only [decide_eq_false h3, b0, e0', rkA, rkB, stepA, valA, simprocAttr]
              refine call_fn rfl rfl rfl (z1) ?_
              simp -implicitDefEqProofs (maxSteps := 10000000) only [rkA, rkB, stepA, valA, simprocAttr]
              refine call_fn rfl rfl rfl (add1) ?_
              simp -implicitDefEqProofs (maxSteps := 10000000) only [rkA, rkB, stepA, valA, simprocAttr]
              refine md_fin (Q := p / d + 1) false (by omega) (by unfold mdN; rw [hP, hD, hmore]; rfl) hok ?_ ?_
              · intro hq hF
                refine call_fn rfl rfl rfl (ok233 false (p / d + 1) hq) ?_
                rw [hF]
                have w1 := neg_small hq
                cases hM : minus3 a b c with
                | true =>
                  rw [hM] at hK
                  simp -implicitDefEqProofs (maxSteps := 10000000) only [two0, wK, hK, Int.zero_sub, w1, rkA, rkB, stepA, valA, simprocAttr]
                | false =>
                  rw [hM] at hK
                  simp -implicitDefEqProofs (maxSteps := 10000000) only [two0, wK, hK, rkA, rkB, stepA, valA, simprocAttr]
              · intro hq hF
                refine call_fn rfl rfl rfl (ok233n false (p / d + 1) (by omega) hq) ?_
                rw [hF]
                simp -implicitDefEqProofs (maxSteps := 10000000) only [rkA, rkB, stepA, valA, simprocAttr]
        · have hmore : moreF 0 (p / d) (p % d) d (minus3 a b c) = false := by
            unfold moreF
            rw [if_pos (by omega)]
          simp -implicitDefEqProofs (maxSteps := 10000000) only [decide_eq_false h1, decide_eq_false h2, rkA, rkB, stepA, valA, simprocAttr]
          refine md_fin (Q := p / d) false (by omega) (by unfold mdN; rw [hP, hD, hmore]; rfl) hok ?_ ?_
          · intro hq hF
            refine call_fn rfl rfl rfl (ok233 false (p / d) hq) ?_
            rw [hF]
            have w1 := neg_small hq
            cases hM : minus3 a b c with
            | true =>
              rw [hM] at hK
              simp -implicitDefEqProofs (maxSteps := 10000000) only [two0, wK, hK, Int.zero_sub, w1, rkA, rkB, stepA, valA, simprocAttr]
            | false =>
              rw [hM] at hK
              simp -implicitDefEqProofs (maxSteps := 10000000) only [two0, wK, hK, rkA, rkB, stepA, valA, simprocAttr]
          · intro hq hF
            refine call_fn rfl rfl rfl (ok233n false (p / d) (by omega) hq) ?_
            rw [hF]
            simp -implicitDefEqProofs (maxSteps := 10000000) only [rkA, rkB, stepA, valA, simprocAttr]
    · by_cases h2 : 0 < p % d
      · cases hM : minus3 a b c with
        | true =>
          have hmore : moreF 1 (p / d) (p % d) d (minus3 a b c) = true := by
            unfold moreF
            rw [if_neg (by omega), hM]
            rfl
          have hK1 := hK
          rw [hM] at hK1
          simp -implicitDefEqProofs (maxSteps := 10000000) only [decide_eq_true h2, two0, wK, hK1, rkA, rkB, stepA, valA, simprocAttr]
          refine call_fn rfl rfl rfl (z1) ?_
          simp -implicitDefEqProofs (maxSteps := 10000000) only [rkA, rkB, stepA, valA, simprocAttr]
          refine call_fn rfl rfl rfl (add1) ?_
          simp -implicitDefEqProofs (maxSteps := 10000000) only [rkA, rkB, stepA, valA, simprocAttr]
          refine md_fin (Q := p / d + 1) false (by omega) (by unfold mdN; rw [hP, hD, hmore]; rfl) hok ?_ ?_
          · intro hq hF
            refine call_fn rfl rfl rfl (ok233 false (p / d + 1) hq) ?_
            rw [hF]
            have w1 := neg_small hq
            cases hM : minus3 a b c with
            | true =>
              rw [hM] at hK
              simp -implicitDefEqProofs (maxSteps := 10000000) only [two0, wK, hK, Int.zero_sub, w1, rkA, rkB, stepA, valA, simprocAttr]
            | false =>
              rw [hM] at hK
              simp -implicitDefEqProofs (maxSteps := 10000000) only [two0, wK, hK, rkA, rkB, stepA, valA, simprocAttr]
          · intro hq hF
            refine call_fn rfl rfl rfl (ok233n false (p / d + 1) (by omega) hq) ?_
            rw [hF]
            simp -implicitDefEqProofs (maxSteps := 10000000) only [rkA, rkB, stepA, valA, simprocAttr]
        | false =>
          have hmore : moreF 1 (p / d) (p % d) d (minus3 a b c) = false := by
            unfold moreF
            rw [if_neg (by omega), hM]
            rfl
          have hK1 := hK
          rw [hM] at hK1
          simp -implicitDefEqProofs (maxSteps := 10000000) only [decide_eq_true h2, two0, wK, hK1, rkA, rkB, stepA, valA, simprocAttr]
          refine md_fin (Q := p / d) false (by omega) (by unfold mdN; rw [hP, hD, hmore]; rfl) hok ?_ ?_
          · intro hq hF
            refine call_fn rfl rfl rfl (ok233 false (p / d) hq) ?_
            rw [hF]
            have w1 := neg_small hq
            cases hM : minus3 a b c with
            | true =>
              rw [hM] at hK
              simp -implicitDefEqProofs (maxSteps := 10000000) only [two0, wK, hK, Int.zero_sub, w1, rkA, rkB, stepA, valA, simprocAttr]
            | false =>
              rw [hM] at hK
              simp -implicitDefEqProofs (maxSteps := 10000000) only [two0, wK, hK, rkA, rkB, stepA, valA, simprocAttr]
          · intro hq hF
            refine call_fn rfl rfl rfl (ok233n false (p / d) (by omega) hq) ?_
            rw [hF]
            simp -implicitDefEqProofs (maxSteps := 10000000) only [rkA, rkB, stepA, valA, simprocAttr]
      · have hmore : moreF 1 (p / d) (p % d) d (minus3 a b c) = false := by
          unfold moreF
          rw [if_pos (by omega)]
        simp -implicitDefEqProofs (maxSteps := 10000000) only [decide_eq_false h2, rkA, rkB, stepA, valA, simprocAttr]
        refine md_fin (Q := p / d) false (by omega) (by unfold mdN; rw [hP, hD, hmore]; rfl) hok ?_ ?_
        · intro hq hF
          refine call_fn rfl rfl rfl (ok233 false (p / d) hq) ?_
          rw [hF]
          have w1 := neg_small hq
          cases hM : minus3 a b c with
          | true =>
            rw [hM] at hK
            simp -implicitDefEqProofs (maxSteps := 10000000) only [two0, wK, hK, Int.zero_sub, w1, rkA, rkB, stepA, valA, simprocAttr]
          | false =>
            rw [hM] at hK
            simp -implicitDefEqProofs (maxSteps := 10000000) only [two0, wK, hK, rkA, rkB, stepA, valA, simprocAttr]
        · intro hq hF
          refine call_fn rfl rfl rfl (ok233n false (p / d) (by omega) hq) ?_
          rw [hF]
          simp -implicitDefEqProofs (maxSteps := 10000000) only [rkA, rkB, stepA, valA, simprocAttr]
    · by_cases h2 : 0 < p % d
      · cases hM : minus3 a b c with
        | true =>
          have hmore : moreF 2 (p / d) (p % d) d (minus3 a b c) = false := by
            unfold moreF
            rw [if_neg (by omega), hM]
            rfl
          have hK1 := hK0
          rw [hM] at hK1
          simp -implicitDefEqProofs (maxSteps := 10000000) only [decide_eq_true h2, two0, wK, hK1, rkA, rkB, stepA, valA, simprocAttr]
          refine md_fin (Q := p / d) false (by omega) (by unfold mdN; rw [hP, hD, hmore]; rfl) hok ?_ ?_
          · intro hq hF
            refine call_fn rfl rfl rfl (ok233 false (p / d) hq) ?_
            rw [hF]
            have w1 := neg_small hq
            cases hM : minus3 a b c with
            | true =>
              rw [hM] at hK
              simp -implicitDefEqProofs (maxSteps := 10000000) only [two0, wK, hK, Int.zero_sub, w1, rkA, rkB, stepA, valA, simprocAttr]
            | false =>
              rw [hM] at hK
              simp -implicitDefEqProofs (maxSteps := 10000000) only [two0, wK, hK, rkA, rkB, stepA, valA, simprocAttr]
          · intro hq hF
            refine call_fn rfl rfl rfl (ok233n false (p / d) (by omega) hq) ?_
            rw [hF]
            simp -implicitDefEqProofs (maxSteps := 10000000) only [rkA, rkB, stepA, valA, simprocAttr]
        | false =>
          have hmore : moreF 2 (p / d) (p % d) d (minus3 a b c) = true := by
            unfold moreF
            rw [if_neg (by omega), hM]
            rfl
          have hK1 := hK0
          rw [hM] at hK1
          simp -implicitDefEqProofs (maxSteps := 10000000) only [decide_eq_true h2, two0, wK, hK1, rkA, rkB, stepA, valA, simprocAttr]
          refine call_fn rfl rfl rfl (z1) ?_
          simp -implicitDefEqProofs (maxSteps := 10000000) only [rkA, rkB, stepA, valA, simprocAttr]
          refine call_fn rfl rfl rfl (add1) ?_
          simp -implicitDefEqProofs (maxSteps := 10000000) only [rkA, rkB, stepA, valA, simprocAttr]
          refine md_fin (Q := p / d + 1) false (by omega) (by unfold mdN; rw [hP, hD, hmore]; rfl) hok ?_ ?_
          · intro hq hF
            refine call_fn rfl rfl rfl (ok233 false (p / d + 1) hq) ?_
            rw [hF]
            have w1 := neg_small hq
            cases hM : minus3 a b c with
            | true =>
              rw [hM] at hK
              simp -implicitDefEqProofs (maxSteps := 10000000) only [two0, wK, hK, Int.zero_sub, w1, rkA, rkB, stepA, valA, simprocAttr]
            | false =>
              rw [hM] at hK
              simp -implicitDefEqProofs (maxSteps := 10000000) only [two0, wK, hK, rkA, rkB, stepA, valA, simprocAttr]
          · intro hq hF
            refine call_fn rfl rfl rfl (ok233n false (p / d + 1) (by omega) hq) ?_
            rw [hF]
            simp -implicitDefEqProofs (maxSteps := 10000000) only [rkA, rkB, stepA, valA, simprocAttr]
      · have hmore : moreF 2 (p / d) (p % d) d (minus3 a b c) = false := by
          unfold moreF
          rw [if_pos (by omega)]
        simp -implicitDefEqProofs (maxSteps := 10000000) only [decide_eq_false h2, rkA, rkB, stepA, valA, simprocAttr]
        refine md_fin (Q := p / d) false (by omega) (by unfold mdN; rw [hP, hD, hmore]; rfl) hok ?_ ?_
        · intro hq hF
          refine call_fn rfl rfl rfl (ok233 false (p / d) hq) ?_
          rw [hF]
          have w1 := neg_small hq
          cases hM : minus3 a b c with
          | true =>
            rw [hM] at hK
            simp -implicitDefEqProofs (maxSteps := 10000000) only [two0, wK, hK, Int.zero_sub, w1, rkA, rkB, stepA, valA, simprocAttr]
          | false =>
            rw [hM] at hK
            simp -implicitDefEqProofs (maxSteps := 10000000) only [two0, wK, hK, rkA, rkB, stepA, valA, simprocAttr]
        · intro hq hF
          refine call_fn rfl rfl rfl (ok233n false (p / d) (by omega) hq) ?_
          rw [hF]
          simp -implicitDefEqProofs (maxSteps := 10000000) only [rkA, rkB, stepA, valA, simprocAttr]
end Go.Proofs.YtambpjbpdackfaaGreat.A



set_option linter.unusedVariables false
set_option linter.unusedSimpArgs false
set_option maxRecDepth 100000
namespace Go.Proofs.YtambpjbpdackfaaGreat.A
open Go Go.RowKit Go.Shelf

/-! ### The reference's root -/
end Go.Proofs.YtambpjbpdackfaaGreat.A



set_option linter.unusedVariables false
set_option linter.unusedSimpArgs false
set_option maxRecDepth 100000
namespace Go.Proofs.YtambpjbpdackfaaGreat.A.E
open Go Go.RowKit Go.Shelf

/-! ### The reference's numbers in units -/
theorem ok195 (n : Int) : Ok Tryz.prog 195 [num n] (tru (rightX n)) := by
  refine ok_fn mixed Tryz.func195 (code := ?_) (h := h195) ?_ k195 ?_
  rotate_left
  · exact rfl
  unfold h195 initS
  simp -implicitDefEqProofs (maxSteps := 10000000) only [rkA, rkB, stepA, valA, simprocAttr, Tryz.ntmps195, Tryz.results195]
  unfold rightX
  by_cases h1 : n ≥ -1125899906842624
  · simp -implicitDefEqProofs (maxSteps := 10000000) only [h1, rkA, rkB, stepA, valA, simprocAttr]
  · simp -implicitDefEqProofs (maxSteps := 10000000) only [h1, rkA, rkB, stepA, valA, simprocAttr]
theorem told_nil (n : Int) (is : Bool) : toldF n is [] = if is = true ∧ rightX n = true then (n, true) else (0, false) := by
  unfold toldF
  simp
theorem ok207 (n : Int) (is : Bool) : Ok Tryz.prog 207 [num n, tru is] (.tup [num (toldF n is []).1, tru (toldF n is []).2]) := by
  refine ok_fn mixed Tryz.func207 (code := ?_) (h := h207) ?_ k207 ?_
  rotate_left
  · exact rfl
  unfold h207 initS
  simp -implicitDefEqProofs (maxSteps := 10000000) only [rkA, rkB, stepA, valA, simprocAttr, Tryz.ntmps207, Tryz.results207]
  rw [told_nil]
  cases is with
  | false => simp -implicitDefEqProofs (maxSteps := 10000000) only [rkA, rkB, stepA, valA, simprocAttr]
  | true =>
    simp -implicitDefEqProofs (maxSteps := 10000000) only [rkA, rkB, stepA, valA, simprocAttr]
    refine call_fn rfl rfl rfl (ok195 n) ?_
    cases h : rightX n with
    | false => simp -implicitDefEqProofs (maxSteps := 10000000) only [rkA, rkB, stepA, valA, simprocAttr]
    | true => simp -implicitDefEqProofs (maxSteps := 10000000) only [rkA, rkB, stepA, valA, simprocAttr]
theorem told_two (n a b : Int) (is : Bool) (ha : rightX a = true) (hb : rightX b = true) : toldF n is [a, b] = toldF n is [] := by
  unfold toldF
  simp [ha, hb]
theorem told_bad (n a b : Int) (is : Bool) (h : rightX a = false ∨ rightX b = false) : toldF n is [a, b] = (0, false) := by
  unfold toldF
  rw [if_neg]
  rintro ⟨_, h2⟩
  simp at h2
  rcases h with h | h
  · rw [h2.1] at h; cases h
  · rw [h2.2.1] at h; cases h
theorem ok208 (a b mode : Int) : Ok Tryz.prog 208 [num a, num b, num mode] (.tup [num (mulX a b mode).1, tru (mulX a b mode).2]) := by
  refine ok_fn mixed Tryz.func208 (code := ?_) (h := h208) ?_ k208 ?_
  rotate_left
  · exact rfl
  unfold h208 initS
  simp -implicitDefEqProofs (maxSteps := 10000000) only [rkA, rkB, stepA, valA, simprocAttr, Tryz.ntmps208, Tryz.results208]
  refine call_fn rfl rfl rfl (ok195 a) ?_
  unfold mulX
  cases ha : rightX a with
  | false =>
    rw [told_bad _ _ _ _ (.inl ha)]
    simp -implicitDefEqProofs (maxSteps := 10000000) only [rkA, rkB, stepA, valA, simprocAttr]
  | true =>
    simp -implicitDefEqProofs (maxSteps := 10000000) only [rkA, rkB, stepA, valA, simprocAttr]
    refine call_fn rfl rfl rfl (ok195 b) ?_
    cases hb : rightX b with
    | false =>
      rw [told_bad _ _ _ _ (.inr hb)]
      simp -implicitDefEqProofs (maxSteps := 10000000) only [rkA, rkB, stepA, valA, simprocAttr]
    | true =>
      rw [told_two _ _ _ _ ha hb]
      simp -implicitDefEqProofs (maxSteps := 10000000) only [rkA, rkB, stepA, valA, simprocAttr]
      refine call_fn rfl rfl rfl (ok222 a b 16777216 mode) ?_
      simp -implicitDefEqProofs (maxSteps := 10000000) only [rkA, rkB, stepA, valA, simprocAttr]
      refine call_fn rfl rfl rfl (ok207 (mdF a b 16777216 mode).1 (mdF a b 16777216 mode).2) ?_
      simp -implicitDefEqProofs (maxSteps := 10000000) only [rkA, rkB, stepA, valA, simprocAttr]
theorem right_of {a : Int} (h : rightX a = true) : -1125899906842624 ≤ a ∧ a ≤ 1125899906842624 := by
  unfold rightX at h
  exact of_decide_eq_true h
/-! ### One of the document's operations -/
theorem ok157a (a b mode : Int) : Ok Tryz.prog 157 [num 0, num a, num b, num mode] (.tup [num (addX a b).1, tru (addX a b).2]) := by
  refine ok_fn mixed Tryz.func157 (code := ?_) (h := h157) ?_ k157 ?_
  rotate_left
  · exact rfl
  unfold h157 initS
  simp -implicitDefEqProofs (maxSteps := 10000000) only [rkA, rkB, stepA, valA, simprocAttr, Tryz.ntmps157, Tryz.results157]
  unfold addX
  refine call_fn rfl rfl rfl (ok195 a) ?_
  cases ha : rightX a with
  | false => simp -implicitDefEqProofs (maxSteps := 10000000) only [rkA, rkB, stepA, valA, simprocAttr]
  | true =>
    simp -implicitDefEqProofs (maxSteps := 10000000) only [rkA, rkB, stepA, valA, simprocAttr]
    refine call_fn rfl rfl rfl (ok195 b) ?_
    cases hb : rightX b with
    | false => simp -implicitDefEqProofs (maxSteps := 10000000) only [rkA, rkB, stepA, valA, simprocAttr]
    | true =>
      have h1 := right_of ha
      have h2 := right_of hb
      have hw := wrapped (x := a + b) (by omega) (by omega)
      simp -implicitDefEqProofs (maxSteps := 10000000) only [hw, rkA, rkB, stepA, valA, simprocAttr]
      refine call_fn rfl rfl rfl (ok207 (a + b) true) ?_
      simp -implicitDefEqProofs (maxSteps := 10000000) only [rkA, rkB, stepA, valA, simprocAttr]
theorem ok157c (a b mode : Int) : Ok Tryz.prog 157 [num 2, num a, num b, num mode] (.tup [num (mulX a b mode).1, tru (mulX a b mode).2]) := by
  refine ok_fn mixed Tryz.func157 (code := ?_) (h := h157) ?_ k157 ?_
  rotate_left
  · exact rfl
  unfold h157 initS
  simp -implicitDefEqProofs (maxSteps := 10000000) only [rkA, rkB, stepA, valA, simprocAttr, Tryz.ntmps157, Tryz.results157]
  refine call_fn rfl rfl rfl (ok208 a b mode) ?_
  simp -implicitDefEqProofs (maxSteps := 10000000) only [rkA, rkB, stepA, valA, simprocAttr]
end Go.Proofs.YtambpjbpdackfaaGreat.A.E



set_option linter.unusedVariables false
set_option linter.unusedSimpArgs false
set_option maxRecDepth 100000
namespace Go.Proofs.YtambpjbpdackfaaGreat.A.E
open Go Go.RowKit Go.Shelf

/-! ### The document's operations of enclosed numbers -/
theorem ok140 (x : Fr) : Ok Tryz.prog 140 [frV x] (tru x.fine) := by
  refine ok_fn mixed Tryz.func140 (code := ?_) (h := h140) ?_ k140 ?_
  rotate_left
  · exact rfl
  unfold h140 initS
  simp -implicitDefEqProofs (maxSteps := 10000000) only [rkA, rkB, stepA, valA, simprocAttr, Tryz.ntmps140, Tryz.results140]
  cases hb : x.bad with
  | true => simp -implicitDefEqProofs (maxSteps := 10000000) only [Fr.fine, hb, rkA, rkB, stepA, valA, simprocAttr]
  | false =>
    simp -implicitDefEqProofs (maxSteps := 10000000) only [rkA, rkB, stepA, valA, simprocAttr]
    refine call_fn rfl rfl rfl (ok195 x.lo) ?_
    cases h1 : rightX x.lo with
    | false => simp -implicitDefEqProofs (maxSteps := 10000000) only [Fr.fine, hb, h1, rkA, rkB, stepA, valA, simprocAttr]
    | true =>
      simp -implicitDefEqProofs (maxSteps := 10000000) only [rkA, rkB, stepA, valA, simprocAttr]
      refine call_fn rfl rfl rfl (ok195 x.hi) ?_
      cases h2 : rightX x.hi with
      | false => simp -implicitDefEqProofs (maxSteps := 10000000) only [Fr.fine, hb, h1, h2, rkA, rkB, stepA, valA, simprocAttr]
      | true =>
        by_cases h3 : x.lo ≤ x.v
        · simp -implicitDefEqProofs (maxSteps := 10000000) only [Fr.fine, hb, h1, h2, h3, rkA, rkB, stepA, valA, simprocAttr]
        · simp -implicitDefEqProofs (maxSteps := 10000000) only [Fr.fine, hb, h1, h2, h3, rkA, rkB, stepA, valA, simprocAttr]
theorem minL_snoc {l : List Int} (h : l ≠ []) (x : Int) : minL (l ++ [x]) = if x < minL l then x else minL l := by
  cases l with
  | nil => exact absurd rfl h
  | cons a l =>
    simp only [minL, List.cons_append, List.foldl_append, List.foldl_cons, List.foldl_nil]
    rfl
theorem maxL_snoc {l : List Int} (h : l ≠ []) (x : Int) : maxL (l ++ [x]) = if maxL l < x then x else maxL l := by
  cases l with
  | nil => exact absurd rfl h
  | cons a l =>
    simp only [maxL, List.cons_append, List.foldl_append, List.foldl_cons, List.foldl_nil]
    rfl
abbrev prS (p : Int × Int) : PV := .sl true [num p.1, num p.2]
section
variable (F : Int → Int → Int → Int × Bool) (ps : List (Int × Int))
def loK (k : Nat) : Int := minL ((ps.take k).map fun p => (F p.1 p.2 1).1)
def hiK (k : Nat) : Int := maxL ((ps.take k).map fun p => (F p.1 p.2 2).1)
variable {F ps}
theorem loK_succ {k : Nat} {p : Int × Int} (h : ps[k]? = some p) : loK F ps (k + 1) = if k = 0 then (F p.1 p.2 1).1 else if (F p.1 p.2 1).1 < loK F ps k then (F p.1 p.2 1).1 else loK F ps k := by
  obtain ⟨hk, rfl⟩ := List.getElem?_eq_some_iff.1 h
  unfold loK
  rw [List.take_succ_eq_append_getElem hk, List.map_append, List.map_singleton]
  by_cases h0 : k = 0
  · subst h0
    rw [if_pos rfl]
    rfl
  · rw [if_neg h0, minL_snoc]
    intro e
    have := congrArg List.length e
    rw [List.length_map, List.length_take, List.length_nil] at this
    omega
theorem hiK_succ {k : Nat} {p : Int × Int} (h : ps[k]? = some p) : hiK F ps (k + 1) = if k = 0 then (F p.1 p.2 2).1 else if (F p.1 p.2 2).1 > hiK F ps k then (F p.1 p.2 2).1 else hiK F ps k := by
  obtain ⟨hk, rfl⟩ := List.getElem?_eq_some_iff.1 h
  unfold hiK
  rw [List.take_succ_eq_append_getElem hk, List.map_append, List.map_singleton]
  by_cases h0 : k = 0
  · subst h0
    rw [if_pos rfl]
    rfl
  · rw [if_neg h0, maxL_snoc]
    intro e
    have := congrArg List.length e
    rw [List.length_map, List.length_take, List.length_nil] at this
    omega
theorem all_succ {k : Nat} {p : Int × Int} (h : ps[k]? = some p) (b : Bool) : (b && (ps.take (k + 1)).all (okP F)) = ((b && (ps.take k).all (okP F)) && ((F p.1 p.2 1).2 && (F p.1 p.2 2).2)) := by
  obtain ⟨hk, rfl⟩ := List.getElem?_eq_some_iff.1 h
  rw [List.take_succ_eq_append_getElem hk, List.all_append, List.all_cons, List.all_nil, Bool.and_true, Bool.and_assoc]
  rfl
end
set_option maxHeartbeats 8000000 in
theorem ok79a (a b : Fr) : Ok Tryz.prog 79 [num 0, frV a, frV b] (frV (addF a b)) := by
  unfold addF
  refine ok_fn mixed Tryz.func79 (code := ?_) (h := h79) ?_ k79 ?_
  rotate_left
  · exact rfl
  unfold h79 initS
  simp -implicitDefEqProofs (maxSteps := 10000000) only [rkA, rkB, stepA, valA, simprocAttr, Tryz.ntmps79, Tryz.results79]
  refine call_fn rfl rfl rfl (ok140 a) ?_
  cases ha : a.fine with
  | false => simp -implicitDefEqProofs (maxSteps := 10000000) only [madeE, ha, rkA, rkB, stepA, valA, simprocAttr]
  | true =>
  simp -implicitDefEqProofs (maxSteps := 10000000) only [rkA, rkB, stepA, valA, simprocAttr]
  refine call_fn rfl rfl rfl (ok140 b) ?_
  cases hb : b.fine with
  | false => simp -implicitDefEqProofs (maxSteps := 10000000) only [madeE, hb, rkA, rkB, stepA, valA, simprocAttr]
  | true =>
  simp -implicitDefEqProofs (maxSteps := 10000000) only [rkA, rkB, stepA, valA, simprocAttr]
  obtain ⟨F, hFd⟩ : ∃ F : Int → Int → Int → Int × Bool, F = fun x y _ => addX x y := ⟨_, rfl⟩
  have hF : ∀ x y m, 0 ≤ m ∧ m ≤ 2 → Ok Tryz.prog 157 [num 0, num x, num y, num m] (.tup [num (F x y m).1, tru (F x y m).2]) := fun x y m hm => by rw [hFd]; exact ok157a x y m
  obtain ⟨ps, hps⟩ : ∃ ps : List (Int × Int), ps = [(a.lo, b.lo), (a.hi, b.hi)] := ⟨_, rfl⟩
  have hpl : ps.length = 2 := by rw [hps]; rfl
  rw [← hFd, ← hps]
  clear hFd
  refine call_fn rfl rfl rfl (hF a.v b.v 0 (by omega)) ?_
  simp -implicitDefEqProofs (maxSteps := 10000000) only [rkA, rkB, stepA, valA, simprocAttr]
  refine wp_loop (fun m s => ∃ (k : Nat), k + m = ps.length ∧ s = ⟨[.v (num 0), jk, jk, jk, jk, jk, .ptr 6 0, .ptr 7 0, .v (.sl true (ps.map prS)), jk, .v (tru ((F a.v b.v 0).2 && (ps.take k).all (okP F))), .ptr 11 0, nt k, jk, jk, jk, jk, jk, jk, jk, jk, jk, jk, jk, jk, jk, jk, jk, jk, jk, jk, jk, jk, jk, jk, jk, jk, jk, jk, jk, jk, jk, jk, jk, jk, jk, jk, jk, jk, jk, jk, jk, jk, jk, jk, jk, jk, jk, jk, jk, jk, jk, jk, jk, jk, jk, jk, jk, jk, jk, jk, jk, jk, jk, jk, jk, jk, jk, jk, jk, jk, jk, jk, jk, jk, jk, jk, jk, jk, jk, jk, jk, jk, jk, jk, jk, jk, jk, jk, jk, jk, jk, jk, jk, jk, jk, jk, jk, jk, jk, jk, jk, jk, jk, jk, jk, jk, jk, jk, jk, jk, jk, jk, jk, jk, jk, jk, jk, jk, jk, jk, jk, jk, jk, jk, jk, jk, jk, jk, jk, jk, jk, jk, jk, jk, jk, jk, jk, jk, jk, jk, jk, jk, jk, jk, jk, jk, jk, jk, jk, jk, jk, jk, jk, jk, jk, jk, jk, jk, jk, jk, jk, jk, jk], [(4, [nt a.v, nt a.lo, nt a.hi, .v (tru a.bad)]), (5, [nt b.v, nt b.lo, nt b.hi, .v (tru b.bad)]), (6, [nt 0, nt 0, nt 0, .v (tru false)]), (7, [nt 0, nt 0, nt 0, .v (tru true)]), (11, [nt (F a.v b.v 0).1, nt (loK F ps k), nt (hiK F ps k), .v (tru false)])], [], [], [], 0, nomem⟩) ps.length ?_ ?_
  · simp -implicitDefEqProofs (maxSteps := 10000000) only [rkA, rkB, stepA, valA, simprocAttr]
    refine ⟨0, by omega, ?_⟩
    rw [List.take_zero, List.all_nil, Bool.and_true, hps]
    rfl
  have lps : (ps.map prS).length = ps.length := by simp
  rintro m s ⟨k, hk, rfl⟩
  simp -implicitDefEqProofs (maxSteps := 10000000) only [lps, rkA, rkB, stepA, valA, simprocAttr]
  refine gB_dec ?_ ?_ <;> intro hc <;> simp -implicitDefEqProofs (maxSteps := 10000000) only [hc, rkA, rkB, stepA, valA, simprocAttr]
  · have hlt : k < ps.length := by omega
    obtain ⟨p, hp⟩ : ∃ p, ps[k]? = some p := ⟨ps[k], List.getElem?_eq_getElem hlt⟩
    have hg : (ps.map prS)[k]? = some (prS p) := by rw [List.getElem?_map, hp]; rfl
    have h0 := nat0 k
    have hw := wrapped (x := (k : Int) + 1) (by omega) (by omega)
    have s1 := loK_succ (F := F) hp
    have s2 := hiK_succ (F := F) hp
    have s3 := all_succ (F := F) hp (F a.v b.v 0).2
    simp -implicitDefEqProofs (maxSteps := 10000000) only [h0, Int.toNat_natCast, hg, rkA, rkB, stepA, valA, simprocAttr]
    refine call_fn rfl rfl rfl (hF p.1 p.2 1 (by omega)) ?_
    simp -implicitDefEqProofs (maxSteps := 10000000) only [h0, Int.toNat_natCast, hg, rkA, rkB, stepA, valA, simprocAttr]
    refine call_fn rfl rfl rfl (hF p.1 p.2 2 (by omega)) ?_
    generalize ((F a.v b.v 0).2 && (ps.take k).all (okP F)) = B at *
    generalize hB' : ((F a.v b.v 0).2 && (ps.take (k + 1)).all (okP F)) = B' at s3
    generalize F p.1 p.2 1 = X at *
    generalize F p.1 p.2 2 = Y at *
    obtain ⟨x, is⟩ := X
    obtain ⟨y, has⟩ := Y
    simp only at s1 s2 s3
    obtain ⟨j, hj, hjm⟩ : ∃ j, k + 1 + j = ps.length ∧ j < m := ⟨m - 1, by omega, by omega⟩
    simp -implicitDefEqProofs (maxSteps := 10000000) only [rkA, rkB, stepA, valA, simprocAttr]
    refine guard_join (fun s => ∃ f : Nat → TV, s = ⟨[.v (num 0), jk, jk, jk, jk, jk, .ptr 6 0, .ptr 7 0, .v (.sl true (ps.map prS)), jk, .v (tru B'), .ptr 11 0, nt k, nt x, .v (tru is), nt y, .v (tru has), jk, jk, jk, jk, jk, jk, jk, jk, jk, jk, jk, jk, jk, jk, jk, jk, jk, jk, jk, jk, jk, jk, jk, jk, jk, jk, jk, jk, jk, jk, jk, jk, jk, jk, jk, jk, jk, jk, jk, jk, jk, jk, jk, jk, jk, jk, jk, jk, jk, jk, jk, jk, jk, jk, jk, jk, jk, jk, jk, jk, jk, jk, jk, jk, jk, jk, jk, jk, jk, jk, jk, jk, jk, jk, jk, jk, jk, jk, jk, jk, jk, jk, jk, jk, jk, jk, f 103, f 104, f 105, f 106, jk, jk, f 109, f 110, f 111, f 112, f 113, f 114, f 115, f 116, f 117, f 118, f 119, f 120, f 121, f 122, f 123, f 124, f 125, f 126, f 127, f 128, f 129, f 130, f 131, f 132, f 133, f 134, f 135, f 136, f 137, f 138, f 139, f 140, f 141, f 142, f 143, f 144, f 145, f 146, f 147, f 148, f 149, jk, jk, jk, jk, jk, jk, jk, jk, jk, jk, jk, jk, jk, jk, jk, jk, jk, jk, jk, jk, jk, jk, jk, jk], [(4, [nt a.v, nt a.lo, nt a.hi, .v (tru a.bad)]), (5, [nt b.v, nt b.lo, nt b.hi, .v (tru b.bad)]), (6, [nt 0, nt 0, nt 0, .v (tru false)]), (7, [nt 0, nt 0, nt 0, .v (tru true)]), (11, [nt (F a.v b.v 0).1, nt (loK F ps k), nt (hiK F ps k), .v (tru false)])], [], [], [], 0, nomem⟩) ?_ ?_
    rotate_left
    · cases B with
      | false =>
        simp only [Bool.false_and] at s3
        subst s3
        simp -implicitDefEqProofs (maxSteps := 10000000) only [rkA, rkB, stepA, valA, simprocAttr]
        exact slots_of rfl
      | true =>
        cases is with
        | false =>
          simp only [Bool.false_and, Bool.and_false] at s3
          subst s3
          simp -implicitDefEqProofs (maxSteps := 10000000) only [rkA, rkB, stepA, valA, simprocAttr]
          exact slots_of rfl
        | true =>
          simp only [Bool.true_and] at s3
          subst s3
          simp -implicitDefEqProofs (maxSteps := 10000000) only [rkA, rkB, stepA, valA, simprocAttr]
          exact slots_of rfl
    rintro s ⟨f, rfl⟩
    clear s3
    simp -implicitDefEqProofs (maxSteps := 10000000) only [rkA, rkB, stepA, valA, simprocAttr]
    by_cases hk0 : k = 0
    · subst hk0
      rw [if_pos rfl] at s1 s2
      have hw1 : IntKind.wrap .i64 1 = 1 := rfl
      simp -implicitDefEqProofs (maxSteps := 10000000) only [hw1, Int.natCast_zero, rkA, rkB, stepA, valA, simprocAttr]
      refine loopK_of (m' := j) hjm ?_
      simp -implicitDefEqProofs (maxSteps := 10000000) only [rkA, rkB, stepA, valA, simprocAttr]
      exact ⟨0 + 1, hj, by rw [s1, s2, hB']; rfl⟩
    · rw [if_neg hk0] at s1 s2
      have e0 : ((k : Int) == 0) = false := by simp; omega
      simp -implicitDefEqProofs (maxSteps := 10000000) only [e0, rkA, rkB, stepA, valA, simprocAttr]
      refine cond_join (fun s => ∃ f : Nat → TV, s = ⟨[.v (num 0), jk, jk, jk, jk, jk, .ptr 6 0, .ptr 7 0, .v (.sl true (ps.map prS)), jk, .v (tru B'), .ptr 11 0, nt k, nt x, .v (tru is), nt y, .v (tru has), jk, jk, jk, jk, jk, jk, jk, jk, jk, jk, jk, jk, jk, jk, jk, jk, jk, jk, jk, jk, jk, jk, jk, jk, jk, jk, jk, jk, jk, jk, jk, jk, jk, jk, jk, jk, jk, jk, jk, jk, jk, jk, jk, jk, jk, jk, jk, jk, jk, jk, jk, jk, jk, jk, jk, jk, jk, jk, jk, jk, jk, jk, jk, jk, jk, jk, jk, jk, jk, jk, jk, jk, jk, jk, jk, jk, jk, jk, jk, jk, jk, jk, jk, jk, jk, jk, f 103, f 104, f 105, f 106, jk, jk, f 109, f 110, f 111, f 112, f 113, f 114, f 115, f 116, f 117, f 118, f 119, f 120, f 121, f 122, f 123, f 124, f 125, f 126, f 127, f 128, f 129, f 130, f 131, f 132, f 133, f 134, f 135, f 136, f 137, f 138, f 139, f 140, f 141, f 142, f 143, f 144, f 145, f 146, f 147, f 148, f 149, f 150, f 151, f 152, f 153, f 154, f 155, f 156, f 157, f 158, f 159, jk, jk, jk, jk, jk, jk, jk, jk, jk, jk, jk, jk, jk, jk], [(4, [nt a.v, nt a.lo, nt a.hi, .v (tru a.bad)]), (5, [nt b.v, nt b.lo, nt b.hi, .v (tru b.bad)]), (6, [nt 0, nt 0, nt 0, .v (tru false)]), (7, [nt 0, nt 0, nt 0, .v (tru true)]), (11, [nt (F a.v b.v 0).1, nt (loK F ps (k + 1)), nt (hiK F ps k), .v (tru false)])], [], [], [], 0, nomem⟩) ?_ ?_ ?_
      rotate_left
      · intro h
        have h' := of_decide_eq_true h
        rw [if_pos h'] at s1
        rw [s1]
        simp -implicitDefEqProofs (maxSteps := 10000000) only [rkA, rkB, stepA, valA, simprocAttr]
        exact slots_of rfl
      · intro h
        have h' := of_decide_eq_false h
        rw [if_neg h'] at s1
        rw [s1]
        simp -implicitDefEqProofs (maxSteps := 10000000) only [rkA, rkB, stepA, valA, simprocAttr]
        exact slots_of rfl
      rintro s ⟨f, rfl⟩
      simp -implicitDefEqProofs (maxSteps := 10000000) only [e0, rkA, rkB, stepA, valA, simprocAttr]
      refine cond_join (fun s => ∃ f : Nat → TV, s = ⟨[.v (num 0), jk, jk, jk, jk, jk, .ptr 6 0, .ptr 7 0, .v (.sl true (ps.map prS)), jk, .v (tru B'), .ptr 11 0, nt k, nt x, .v (tru is), nt y, .v (tru has), jk, jk, jk, jk, jk, jk, jk, jk, jk, jk, jk, jk, jk, jk, jk, jk, jk, jk, jk, jk, jk, jk, jk, jk, jk, jk, jk, jk, jk, jk, jk, jk, jk, jk, jk, jk, jk, jk, jk, jk, jk, jk, jk, jk, jk, jk, jk, jk, jk, jk, jk, jk, jk, jk, jk, jk, jk, jk, jk, jk, jk, jk, jk, jk, jk, jk, jk, jk, jk, jk, jk, jk, jk, jk, jk, jk, jk, jk, jk, jk, jk, jk, jk, jk, jk, jk, f 103, f 104, f 105, f 106, jk, jk, f 109, f 110, f 111, f 112, f 113, f 114, f 115, f 116, f 117, f 118, f 119, f 120, f 121, f 122, f 123, f 124, f 125, f 126, f 127, f 128, f 129, f 130, f 131, f 132, f 133, f 134, f 135, f 136, f 137, f 138, f 139, f 140, f 141, f 142, f 143, f 144, f 145, f 146, f 147, f 148, f 149, f 150, f 151, f 152, f 153, f 154, f 155, f 156, f 157, f 158, f 159, f 160, f 161, f 162, f 163, f 164, f 165, f 166, f 167, f 168, f 169, jk, jk, jk, jk], [(4, [nt a.v, nt a.lo, nt a.hi, .v (tru a.bad)]), (5, [nt b.v, nt b.lo, nt b.hi, .v (tru b.bad)]), (6, [nt 0, nt 0, nt 0, .v (tru false)]), (7, [nt 0, nt 0, nt 0, .v (tru true)]), (11, [nt (F a.v b.v 0).1, nt (loK F ps (k + 1)), nt (hiK F ps (k + 1)), .v (tru false)])], [], [], [], 0, nomem⟩) ?_ ?_ ?_
      rotate_left
      · intro h
        have h' := of_decide_eq_true h
        rw [if_pos h'] at s2
        rw [s2]
        simp -implicitDefEqProofs (maxSteps := 10000000) only [rkA, rkB, stepA, valA, simprocAttr]
        exact slots_of rfl
      · intro h
        have h' := of_decide_eq_false h
        rw [if_neg h'] at s2
        rw [s2]
        simp -implicitDefEqProofs (maxSteps := 10000000) only [rkA, rkB, stepA, valA, simprocAttr]
        exact slots_of rfl
      rintro s ⟨f, rfl⟩
      simp -implicitDefEqProofs (maxSteps := 10000000) only [hw, rkA, rkB, stepA, valA, simprocAttr]
      refine loopK_of (m' := j) hjm ?_
      simp -implicitDefEqProofs (maxSteps := 10000000) only [rkA, rkB, stepA, valA, simprocAttr]
      exact ⟨k + 1, hj, by rw [hB']; simp only [Int.natCast_add, Int.natCast_one]⟩
  · have hkl : ps.take k = ps := List.take_of_length_le (by omega)
    rw [hkl]
    have hl : loK F ps k = minL (ps.map fun p => (F p.1 p.2 1).1) := by unfold loK; rw [hkl]
    have hh : hiK F ps k = maxL (ps.map fun p => (F p.1 p.2 2).1) := by unfold hiK; rw [hkl]
    cases hB : ((F a.v b.v 0).2 && ps.all (okP F)) with
    | false =>
      have hm : madeE F a b ps = .wrong := by unfold madeE; rw [if_neg (by rw [hB]; rintro ⟨h, _⟩; cases h)]
      rw [hm]
      simp -implicitDefEqProofs (maxSteps := 10000000) only [rkA, rkB, stepA, valA, simprocAttr]
    | true =>
      have hm : madeE F a b ps = ⟨(F a.v b.v 0).1, loK F ps k, hiK F ps k, false⟩ := by unfold madeE; rw [if_pos ⟨hB, ha, hb⟩, hl, hh]
      rw [hm]
      simp -implicitDefEqProofs (maxSteps := 10000000) only [rkA, rkB, stepA, valA, simprocAttr]
end Go.Proofs.YtambpjbpdackfaaGreat.A.E



set_option linter.unusedVariables false
set_option linter.unusedSimpArgs false
set_option maxRecDepth 100000
namespace Go.Proofs.YtambpjbpdackfaaGreat.A.E
open Go Go.RowKit Go.Shelf

end Go.Proofs.YtambpjbpdackfaaGreat.A.E



set_option linter.unusedVariables false
set_option linter.unusedSimpArgs false
set_option maxRecDepth 100000
namespace Go.Proofs.YtambpjbpdackfaaGreat.A.E
open Go Go.RowKit Go.Shelf

set_option maxHeartbeats 8000000 in
theorem ok79c (a b : Fr) : Ok Tryz.prog 79 [num 2, frV a, frV b] (frV (mulF a b)) := by
  unfold mulF allP
  refine ok_fn mixed Tryz.func79 (code := ?_) (h := h79) ?_ k79 ?_
  rotate_left
  · exact rfl
  unfold h79 initS
  simp -implicitDefEqProofs (maxSteps := 10000000) only [rkA, rkB, stepA, valA, simprocAttr, Tryz.ntmps79, Tryz.results79]
  refine call_fn rfl rfl rfl (ok140 a) ?_
  cases ha : a.fine with
  | false => simp -implicitDefEqProofs (maxSteps := 10000000) only [madeE, ha, rkA, rkB, stepA, valA, simprocAttr]
  | true =>
  simp -implicitDefEqProofs (maxSteps := 10000000) only [rkA, rkB, stepA, valA, simprocAttr]
  refine call_fn rfl rfl rfl (ok140 b) ?_
  cases hb : b.fine with
  | false => simp -implicitDefEqProofs (maxSteps := 10000000) only [madeE, hb, rkA, rkB, stepA, valA, simprocAttr]
  | true =>
  simp -implicitDefEqProofs (maxSteps := 10000000) only [rkA, rkB, stepA, valA, simprocAttr]
  obtain ⟨F, hFd⟩ : ∃ F : Int → Int → Int → Int × Bool, F = mulX := ⟨_, rfl⟩
  have hF : ∀ x y m, 0 ≤ m ∧ m ≤ 2 → Ok Tryz.prog 157 [num 2, num x, num y, num m] (.tup [num (F x y m).1, tru (F x y m).2]) := fun x y m hm => by rw [hFd]; exact ok157c x y m
  obtain ⟨ps, hps⟩ : ∃ ps : List (Int × Int), ps = [(a.lo, b.lo), (a.lo, b.hi), (a.hi, b.lo), (a.hi, b.hi)] := ⟨_, rfl⟩
  have hpl : ps.length = 4 := by rw [hps]; rfl
  rw [← hFd, ← hps]
  clear hFd
  refine call_fn rfl rfl rfl (hF a.v b.v 0 (by omega)) ?_
  simp -implicitDefEqProofs (maxSteps := 10000000) only [rkA, rkB, stepA, valA, simprocAttr]
  refine wp_loop (fun m s => ∃ (k : Nat), k + m = ps.length ∧ s = ⟨[.v (num 2), jk, jk, jk, jk, jk, .ptr 6 0, .ptr 7 0, .v (.sl true (ps.map prS)), jk, .v (tru ((F a.v b.v 0).2 && (ps.take k).all (okP F))), .ptr 11 0, nt k, jk, jk, jk, jk, jk, jk, jk, jk, jk, jk, jk, jk, jk, jk, jk, jk, jk, jk, jk, jk, jk, jk, jk, jk, jk, jk, jk, jk, jk, jk, jk, jk, jk, jk, jk, jk, jk, jk, jk, jk, jk, jk, jk, jk, jk, jk, jk, jk, jk, jk, jk, jk, jk, jk, jk, jk, jk, jk, jk, jk, jk, jk, jk, jk, jk, jk, jk, jk, jk, jk, jk, jk, jk, jk, jk, jk, jk, jk, jk, jk, jk, jk, jk, jk, jk, jk, jk, jk, jk, jk, jk, jk, jk, jk, jk, jk, jk, jk, jk, jk, jk, jk, jk, jk, jk, jk, jk, jk, jk, jk, jk, jk, jk, jk, jk, jk, jk, jk, jk, jk, jk, jk, jk, jk, jk, jk, jk, jk, jk, jk, jk, jk, jk, jk, jk, jk, jk, jk, jk, jk, jk, jk, jk, jk, jk, jk, jk, jk, jk, jk, jk, jk, jk, jk, jk, jk, jk, jk, jk, jk, jk], [(4, [nt a.v, nt a.lo, nt a.hi, .v (tru a.bad)]), (5, [nt b.v, nt b.lo, nt b.hi, .v (tru b.bad)]), (6, [nt 0, nt 0, nt 0, .v (tru false)]), (7, [nt 0, nt 0, nt 0, .v (tru true)]), (11, [nt (F a.v b.v 0).1, nt (loK F ps k), nt (hiK F ps k), .v (tru false)])], [], [], [], 0, nomem⟩) ps.length ?_ ?_
  · simp -implicitDefEqProofs (maxSteps := 10000000) only [rkA, rkB, stepA, valA, simprocAttr]
    refine ⟨0, by omega, ?_⟩
    rw [List.take_zero, List.all_nil, Bool.and_true, hps]
    rfl
  have lps : (ps.map prS).length = ps.length := by simp
  rintro m s ⟨k, hk, rfl⟩
  simp -implicitDefEqProofs (maxSteps := 10000000) only [lps, rkA, rkB, stepA, valA, simprocAttr]
  refine gB_dec ?_ ?_ <;> intro hc <;> simp -implicitDefEqProofs (maxSteps := 10000000) only [hc, rkA, rkB, stepA, valA, simprocAttr]
  · have hlt : k < ps.length := by omega
    obtain ⟨p, hp⟩ : ∃ p, ps[k]? = some p := ⟨ps[k], List.getElem?_eq_getElem hlt⟩
    have hg : (ps.map prS)[k]? = some (prS p) := by rw [List.getElem?_map, hp]; rfl
    have h0 := nat0 k
    have hw := wrapped (x := (k : Int) + 1) (by omega) (by omega)
    have s1 := loK_succ (F := F) hp
    have s2 := hiK_succ (F := F) hp
    have s3 := all_succ (F := F) hp (F a.v b.v 0).2
    simp -implicitDefEqProofs (maxSteps := 10000000) only [h0, Int.toNat_natCast, hg, rkA, rkB, stepA, valA, simprocAttr]
    refine call_fn rfl rfl rfl (hF p.1 p.2 1 (by omega)) ?_
    simp -implicitDefEqProofs (maxSteps := 10000000) only [h0, Int.toNat_natCast, hg, rkA, rkB, stepA, valA, simprocAttr]
    refine call_fn rfl rfl rfl (hF p.1 p.2 2 (by omega)) ?_
    generalize ((F a.v b.v 0).2 && (ps.take k).all (okP F)) = B at *
    generalize hB' : ((F a.v b.v 0).2 && (ps.take (k + 1)).all (okP F)) = B' at s3
    generalize F p.1 p.2 1 = X at *
    generalize F p.1 p.2 2 = Y at *
    obtain ⟨x, is⟩ := X
    obtain ⟨y, has⟩ := Y
    simp only at s1 s2 s3
    obtain ⟨j, hj, hjm⟩ : ∃ j, k + 1 + j = ps.length ∧ j < m := ⟨m - 1, by omega, by omega⟩
    simp -implicitDefEqProofs (maxSteps := 10000000) only [rkA, rkB, stepA, valA, simprocAttr]
    refine guard_join (fun s => ∃ f : Nat → TV, s = ⟨[.v (num 2), jk, jk, jk, jk, jk, .ptr 6 0, .ptr 7 0, .v (.sl true (ps.map prS)), jk, .v (tru B'), .ptr 11 0, nt k, nt x, .v (tru is), nt y, .v (tru has), jk, jk, jk, jk, jk, jk, jk, jk, jk, jk, jk, jk, jk, jk, jk, jk, jk, jk, jk, jk, jk, jk, jk, jk, jk, jk, jk, jk, jk, jk, jk, jk, jk, jk, jk, jk, jk, jk, jk, jk, jk, jk, jk, jk, jk, jk, jk, jk, jk, jk, jk, jk, jk, jk, jk, jk, jk, jk, jk, jk, jk, jk, jk, jk, jk, jk, jk, jk, jk, jk, jk, jk, jk, jk, jk, jk, jk, jk, jk, jk, jk, jk, jk, jk, jk, jk, f 103, f 104, f 105, f 106, jk, jk, f 109, f 110, f 111, f 112, f 113, f 114, f 115, f 116, f 117, f 118, f 119, f 120, f 121, f 122, f 123, f 124, f 125, f 126, f 127, f 128, f 129, f 130, f 131, f 132, f 133, f 134, f 135, f 136, f 137, f 138, f 139, f 140, f 141, f 142, f 143, f 144, f 145, f 146, f 147, f 148, f 149, jk, jk, jk, jk, jk, jk, jk, jk, jk, jk, jk, jk, jk, jk, jk, jk, jk, jk, jk, jk, jk, jk, jk, jk], [(4, [nt a.v, nt a.lo, nt a.hi, .v (tru a.bad)]), (5, [nt b.v, nt b.lo, nt b.hi, .v (tru b.bad)]), (6, [nt 0, nt 0, nt 0, .v (tru false)]), (7, [nt 0, nt 0, nt 0, .v (tru true)]), (11, [nt (F a.v b.v 0).1, nt (loK F ps k), nt (hiK F ps k), .v (tru false)])], [], [], [], 0, nomem⟩) ?_ ?_
    rotate_left
    · cases B with
      | false =>
        simp only [Bool.false_and] at s3
        subst s3
        simp -implicitDefEqProofs (maxSteps := 10000000) only [rkA, rkB, stepA, valA, simprocAttr]
        exact slots_of rfl
      | true =>
        cases is with
        | false =>
          simp only [Bool.false_and, Bool.and_false] at s3
          subst s3
          simp -implicitDefEqProofs (maxSteps := 10000000) only [rkA, rkB, stepA, valA, simprocAttr]
          exact slots_of rfl
        | true =>
          simp only [Bool.true_and] at s3
          subst s3
          simp -implicitDefEqProofs (maxSteps := 10000000) only [rkA, rkB, stepA, valA, simprocAttr]
          exact slots_of rfl
    rintro s ⟨f, rfl⟩
    clear s3
    simp -implicitDefEqProofs (maxSteps := 10000000) only [rkA, rkB, stepA, valA, simprocAttr]
    by_cases hk0 : k = 0
    · subst hk0
      rw [if_pos rfl] at s1 s2
      have hw1 : IntKind.wrap .i64 1 = 1 := rfl
      simp -implicitDefEqProofs (maxSteps := 10000000) only [hw1, Int.natCast_zero, rkA, rkB, stepA, valA, simprocAttr]
      refine loopK_of (m' := j) hjm ?_
      simp -implicitDefEqProofs (maxSteps := 10000000) only [rkA, rkB, stepA, valA, simprocAttr]
      exact ⟨0 + 1, hj, by rw [s1, s2, hB']; rfl⟩
    · rw [if_neg hk0] at s1 s2
      have e0 : ((k : Int) == 0) = false := by simp; omega
      simp -implicitDefEqProofs (maxSteps := 10000000) only [e0, rkA, rkB, stepA, valA, simprocAttr]
      refine cond_join (fun s => ∃ f : Nat → TV, s = ⟨[.v (num 2), jk, jk, jk, jk, jk, .ptr 6 0, .ptr 7 0, .v (.sl true (ps.map prS)), jk, .v (tru B'), .ptr 11 0, nt k, nt x, .v (tru is), nt y, .v (tru has), jk, jk, jk, jk, jk, jk, jk, jk, jk, jk, jk, jk, jk, jk, jk, jk, jk, jk, jk, jk, jk, jk, jk, jk, jk, jk, jk, jk, jk, jk, jk, jk, jk, jk, jk, jk, jk, jk, jk, jk, jk, jk, jk, jk, jk, jk, jk, jk, jk, jk, jk, jk, jk, jk, jk, jk, jk, jk, jk, jk, jk, jk, jk, jk, jk, jk, jk, jk, jk, jk, jk, jk, jk, jk, jk, jk, jk, jk, jk, jk, jk, jk, jk, jk, jk, jk, f 103, f 104, f 105, f 106, jk, jk, f 109, f 110, f 111, f 112, f 113, f 114, f 115, f 116, f 117, f 118, f 119, f 120, f 121, f 122, f 123, f 124, f 125, f 126, f 127, f 128, f 129, f 130, f 131, f 132, f 133, f 134, f 135, f 136, f 137, f 138, f 139, f 140, f 141, f 142, f 143, f 144, f 145, f 146, f 147, f 148, f 149, f 150, f 151, f 152, f 153, f 154, f 155, f 156, f 157, f 158, f 159, jk, jk, jk, jk, jk, jk, jk, jk, jk, jk, jk, jk, jk, jk], [(4, [nt a.v, nt a.lo, nt a.hi, .v (tru a.bad)]), (5, [nt b.v, nt b.lo, nt b.hi, .v (tru b.bad)]), (6, [nt 0, nt 0, nt 0, .v (tru false)]), (7, [nt 0, nt 0, nt 0, .v (tru true)]), (11, [nt (F a.v b.v 0).1, nt (loK F ps (k + 1)), nt (hiK F ps k), .v (tru false)])], [], [], [], 0, nomem⟩) ?_ ?_ ?_
      rotate_left
      · intro h
        have h' := of_decide_eq_true h
        rw [if_pos h'] at s1
        rw [s1]
        simp -implicitDefEqProofs (maxSteps := 10000000) only [rkA, rkB, stepA, valA, simprocAttr]
        exact slots_of rfl
      · intro h
        have h' := of_decide_eq_false h
        rw [if_neg h'] at s1
        rw [s1]
        simp -implicitDefEqProofs (maxSteps := 10000000) only [rkA, rkB, stepA, valA, simprocAttr]
        exact slots_of rfl
      rintro s ⟨f, rfl⟩
      simp -implicitDefEqProofs (maxSteps := 10000000) only [e0, rkA, rkB, stepA, valA, simprocAttr]
      refine cond_join (fun s => ∃ f : Nat → TV, s = ⟨[.v (num 2), jk, jk, jk, jk, jk, .ptr 6 0, .ptr 7 0, .v (.sl true (ps.map prS)), jk, .v (tru B'), .ptr 11 0, nt k, nt x, .v (tru is), nt y, .v (tru has), jk, jk, jk, jk, jk, jk, jk, jk, jk, jk, jk, jk, jk, jk, jk, jk, jk, jk, jk, jk, jk, jk, jk, jk, jk, jk, jk, jk, jk, jk, jk, jk, jk, jk, jk, jk, jk, jk, jk, jk, jk, jk, jk, jk, jk, jk, jk, jk, jk, jk, jk, jk, jk, jk, jk, jk, jk, jk, jk, jk, jk, jk, jk, jk, jk, jk, jk, jk, jk, jk, jk, jk, jk, jk, jk, jk, jk, jk, jk, jk, jk, jk, jk, jk, jk, jk, f 103, f 104, f 105, f 106, jk, jk, f 109, f 110, f 111, f 112, f 113, f 114, f 115, f 116, f 117, f 118, f 119, f 120, f 121, f 122, f 123, f 124, f 125, f 126, f 127, f 128, f 129, f 130, f 131, f 132, f 133, f 134, f 135, f 136, f 137, f 138, f 139, f 140, f 141, f 142, f 143, f 144, f 145, f 146, f 147, f 148, f 149, f 150, f 151, f 152, f 153, f 154, f 155, f 156, f 157, f 158, f 159, f 160, f 161, f 162, f 163, f 164, f 165, f 166, f 167, f 168, f 169, jk, jk, jk, jk], [(4, [nt a.v, nt a.lo, nt a.hi, .v (tru a.bad)]), (5, [nt b.v, nt b.lo, nt b.hi, .v (tru b.bad)]), (6, [nt 0, nt 0, nt 0, .v (tru false)]), (7, [nt 0, nt 0, nt 0, .v (tru true)]), (11, [nt (F a.v b.v 0).1, nt (loK F ps (k + 1)), nt (hiK F ps (k + 1)), .v (tru false)])], [], [], [], 0, nomem⟩) ?_ ?_ ?_
      rotate_left
      · intro h
        have h' := of_decide_eq_true h
        rw [if_pos h'] at s2
        rw [s2]
        simp -implicitDefEqProofs (maxSteps := 10000000) only [rkA, rkB, stepA, valA, simprocAttr]
        exact slots_of rfl
      · intro h
        have h' := of_decide_eq_false h
        rw [if_neg h'] at s2
        rw [s2]
        simp -implicitDefEqProofs (maxSteps := 10000000) only [rkA, rkB, stepA, valA, simprocAttr]
        exact slots_of rfl
      rintro s ⟨f, rfl⟩
      simp -implicitDefEqProofs (maxSteps := 10000000) only [hw, rkA, rkB, stepA, valA, simprocAttr]
      refine loopK_of (m' := j) hjm ?_
      simp -implicitDefEqProofs (maxSteps := 10000000) only [rkA, rkB, stepA, valA, simprocAttr]
      exact ⟨k + 1, hj, by rw [hB']; simp only [Int.natCast_add, Int.natCast_one]⟩
  · have hkl : ps.take k = ps := List.take_of_length_le (by omega)
    rw [hkl]
    have hl : loK F ps k = minL (ps.map fun p => (F p.1 p.2 1).1) := by unfold loK; rw [hkl]
    have hh : hiK F ps k = maxL (ps.map fun p => (F p.1 p.2 2).1) := by unfold hiK; rw [hkl]
    cases hB : ((F a.v b.v 0).2 && ps.all (okP F)) with
    | false =>
      have hm : madeE F a b ps = .wrong := by unfold madeE; rw [if_neg (by rw [hB]; rintro ⟨h, _⟩; cases h)]
      rw [hm]
      simp -implicitDefEqProofs (maxSteps := 10000000) only [rkA, rkB, stepA, valA, simprocAttr]
    | true =>
      have hm : madeE F a b ps = ⟨(F a.v b.v 0).1, loK F ps k, hiK F ps k, false⟩ := by unfold madeE; rw [if_pos ⟨hB, ha, hb⟩, hl, hh]
      rw [hm]
      simp -implicitDefEqProofs (maxSteps := 10000000) only [rkA, rkB, stepA, valA, simprocAttr]
end Go.Proofs.YtambpjbpdackfaaGreat.A.E



set_option linter.unusedVariables false
set_option linter.unusedSimpArgs false
set_option maxRecDepth 100000
namespace Go.Proofs.YtambpjbpdackfaaGreat.A.E
open Go Go.RowKit Go.Shelf

end Go.Proofs.YtambpjbpdackfaaGreat.A.E



set_option linter.unusedVariables false
set_option linter.unusedSimpArgs false
set_option maxRecDepth 100000
namespace Go.Proofs.YtambpjbpdackfaaGreat.A.E
open Go Go.RowKit Go.Shelf

end Go.Proofs.YtambpjbpdackfaaGreat.A.E


set_option linter.unusedVariables false
set_option linter.unusedSimpArgs false
set_option maxRecDepth 100000
namespace Go.Proofs.YtambpjbpdackfaaGreat.A.E
open Go Go.RowKit Go.Shelf

abbrev dz : Fr := ⟨0, 0, 0, false⟩
theorem prodF_grid {R M K : Nat} {a b : List Fr} (hR : 1 ≤ R ∧ R ≤ 16) (hM : 1 ≤ M ∧ M ≤ 16) (hK : 1 ≤ K ∧ K ≤ 16) (la : a.length = R * M) (lb : b.length = M * K) :
    prodF R M K a b = gridP (fun i k => dotF ((List.range M).map fun j => a.getD (i * M + j) dz) ((List.range M).map fun j => b.getD (j * K + k) dz)) K R 0 := by
  have h1 := right_nat (n := a.length) hR hM la
  have h2 := right_nat (n := b.length) hM hK lb
  have h3 := right_turn h2
  unfold prodF allF
  rw [gridP_zero, List.flatMap_map, Int.toNat_natCast, Int.toNat_natCast]
  apply flatMap_same
  intro i hi
  rw [List.mem_range] at hi
  rw [List.map_map]
  apply List.map_congr_left
  intro k hk
  rw [List.mem_range] at hk
  simp only [Function.comp]
  rw [rowF_eq dz h1 (by simpa using hi), rowF_eq dz h3 (by simpa using hk), Int.toNat_natCast]
  congr 1
  apply List.map_congr_left
  intro j hj
  rw [List.mem_range] at hj
  rw [turnF_eq h2, Int.toNat_natCast, Int.toNat_natCast, List.getD_eq_getElem?_getD, gridP_get _ _ _ _ _ hk hj, Option.getD_some, atF_eq h2 (by simpa using hj) (by simpa using hk), Int.toNat_natCast]
theorem turnF_len {R K : Nat} {l : List Fr} (hR : 1 ≤ R ∧ R ≤ 16) (hK : 1 ≤ K ∧ K ≤ 16) (hl : l.length = R * K) : (turnF R K l).length = K * R := by
  rw [turnF_length (right_nat hR hK hl)]; simp
end Go.Proofs.YtambpjbpdackfaaGreat.A.E



set_option linter.unusedVariables false
set_option linter.unusedSimpArgs false
set_option maxRecDepth 100000
namespace Go.Proofs.YtambpjbpdackfaaGreat.A.E
open Go Go.RowKit Go.Shelf

/-! ### The reference's rows and tables -/
theorem fr_get {l : List Fr} {i : Nat} (h : i < l.length) : (frs l)[i]? = some (frV (l.getD i dz)) := by
  rw [List.getElem?_map, List.getD_eq_getElem?_getD, List.getElem?_eq_getElem h]
  rfl
theorem sumF_snoc (l : List Fr) (x : Fr) : sumF (l ++ [x]) = addF (sumF l) x := by
  unfold sumF
  rw [List.foldl_append]
  rfl
theorem dot_take {a b : List Fr} {k : Nat} (ha : k < a.length) (hb : k < b.length) : dotF (a.take (k + 1)) (b.take (k + 1)) = addF (dotF (a.take k) (b.take k)) (mulF (a.getD k dz) (b.getD k dz)) := by
  unfold dotF
  rw [List.take_succ_eq_append_getElem ha, List.take_succ_eq_append_getElem hb, List.zipWith_append (by simp; omega)]
  simp only [List.zipWith_cons_cons, List.zipWith_nil_left]
  rw [sumF_snoc, List.getD_eq_getElem?_getD, List.getD_eq_getElem?_getD, List.getElem?_eq_getElem ha, List.getElem?_eq_getElem hb]
  rfl
theorem ok80 (ea eb : Bool) (a b : List Fr) (ha : a.length ≤ 4398046511104) (hb : b.length ≤ 4398046511104) : Ok Tryz.prog 80 [.sl ea (frs a), .sl eb (frs b)] (frV (dotF a b)) := by
  have la : (frs a).length = a.length := by simp
  have lb : (frs b).length = b.length := by simp
  refine ok_fn mixed Tryz.func80 (code := ?_) (h := h80) ?_ k80 ?_
  rotate_left
  · exact rfl
  unfold h80 initS
  simp -implicitDefEqProofs (maxSteps := 10000000) only [rkA, rkB, stepA, valA, simprocAttr, Tryz.ntmps80, Tryz.results80]
  refine wp_loop (fun m s => ∃ (k : Nat) (o : Fr), k + m = a.length ∧ k ≤ b.length ∧ o = dotF (a.take k) (b.take k) ∧ s = ⟨[.v (.sl ea (frs a)), .v (.sl eb (frs b)), jk, jk, .ptr 4 0, .ptr 5 0, nt k, jk, jk, jk, jk, jk, jk, jk, jk, jk, jk, jk, jk, jk, jk, jk, jk, jk, jk, jk, jk, jk, jk, jk, jk], [(4, [nt 0, nt 0, nt 0, .v (tru false)]), (5, [nt o.v, nt o.lo, nt o.hi, .v (tru o.bad)])], [], [], [], 0, nomem⟩) a.length ?_ ?_
  · simp -implicitDefEqProofs (maxSteps := 10000000) only [rkA, rkB, stepA, valA, simprocAttr]
    exact ⟨0, ⟨0, 0, 0, false⟩, by omega, by omega, by rw [List.take_zero, List.take_zero]; decide, rfl⟩
  rintro m s ⟨k, o, hk, hkb, ho, rfl⟩
  simp -implicitDefEqProofs (maxSteps := 10000000) only [la, lb, rkA, rkB, stepA, valA, simprocAttr]
  have h0 := nat0 k
  have hw := wrapped (x := (k : Int) + 1) (by omega) (by omega)
  by_cases h1 : k < a.length
  · have h1' : (k : Int) < (a.length : Int) := by omega
    by_cases h2 : k < b.length
    · have h2' : (k : Int) < (b.length : Int) := by omega
      have ga := fr_get h1
      have gb := fr_get h2
      simp -implicitDefEqProofs (maxSteps := 10000000) only [la, lb, h1', h2', h0, Int.toNat_natCast, ga, gb, rkA, rkB, stepA, valA, simprocAttr]
      refine call_fn rfl rfl rfl (ok79c (a.getD k dz) (b.getD k dz)) ?_
      simp -implicitDefEqProofs (maxSteps := 10000000) only [rkA, rkB, stepA, valA, simprocAttr]
      refine call_fn rfl rfl rfl (ok79a o (mulF (a.getD k dz) (b.getD k dz))) ?_
      simp -implicitDefEqProofs (maxSteps := 10000000) only [hw, rkA, rkB, stepA, valA, simprocAttr]
      refine loopK_of (m' := m - 1) (by omega) ?_
      simp -implicitDefEqProofs (maxSteps := 10000000) only [rkA, rkB, stepA, valA, simprocAttr]
      exact ⟨k + 1, addF o (mulF (a.getD k dz) (b.getD k dz)), by omega, by omega, by rw [dot_take h1 h2, ho], by simp only [Int.natCast_add, Int.natCast_one]⟩
    · have h2' : ¬ (k : Int) < (b.length : Int) := by omega
      simp -implicitDefEqProofs (maxSteps := 10000000) only [la, lb, h1', h2', rkA, rkB, stepA, valA, simprocAttr]
      have hd : dotF a b = o := by
        rw [ho]
        unfold dotF
        congr 1
        apply List.ext_getElem?
        intro i
        rw [List.getElem?_zipWith, List.getElem?_zipWith]
        by_cases hi : i < k
        · rw [List.getElem?_take_of_lt hi, List.getElem?_take_of_lt hi]
        · rw [List.getElem?_eq_none (l := b) (by omega), List.getElem?_eq_none (l := b.take k) (by simp; omega)]
          cases a[i]? <;> cases (a.take k)[i]? <;> rfl
      rw [hd]
  · have h1' : ¬ (k : Int) < (a.length : Int) := by omega
    simp -implicitDefEqProofs (maxSteps := 10000000) only [h1', rkA, rkB, stepA, valA, simprocAttr]
    have hd : dotF a b = o := by
      rw [ho]
      unfold dotF
      congr 1
      apply List.ext_getElem?
      intro i
      rw [List.getElem?_zipWith, List.getElem?_zipWith]
      by_cases hi : i < k
      · rw [List.getElem?_take_of_lt hi, List.getElem?_take_of_lt hi]
      · rw [List.getElem?_eq_none (l := a) (by omega), List.getElem?_eq_none (l := a.take k) (by simp; omega)]
    rw [hd]
/-- A product of tables, dot by dot. -/
def dotP (a b : List Fr) (many cols i k : Nat) : Fr := dotF ((List.range many).map fun j => a.getD (i * many + j) dz) ((List.range many).map fun j => b.getD (j * cols + k) dz)
set_option maxHeartbeats 2000000 in
theorem ok127 (ea eb : Bool) (a b : List Fr) (rows many cols : Nat) (hr : rows ≤ 16) (hm : many ≤ 16) (hc : cols ≤ 16) (la : a.length = rows * many) (lb : b.length = many * cols) :
    Ok Tryz.prog 127 [.sl ea (frs a), num rows, num many, .sl eb (frs b), num cols] (.sl false (frs (gridP (dotP a b many cols) cols rows 0))) := by
  have laf : (frs a).length = a.length := by simp
  have b1 : rows * many ≤ 256 := side16 hr hm
  have b2 : many * cols ≤ 256 := side16 hm hc
  have b3 : rows * cols ≤ 256 := side16 hr hc
  refine ok_fn mixed Tryz.func127 (code := ?_) (h := h127) ?_ k127 ?_
  rotate_left
  · exact rfl
  unfold h127 initS
  simp -implicitDefEqProofs (maxSteps := 10000000) only [rkA, rkB, stepA, valA, simprocAttr, Tryz.ntmps127, Tryz.results127]
  refine wp_loop (fun m s => ∃ i : Nat, i + m = rows ∧ s = ⟨[.v (.sl ea (frs a)), nt rows, nt many, .v (.sl eb (frs b)), nt cols, jk, jk, jk, jk, jk, jk, .acc 11 (frs (gridP (dotP a b many cols) cols i 0)), nt i, jk, jk, jk, jk, jk, jk, jk, jk, jk, jk, jk, jk, jk, jk, jk, jk, jk, jk, jk, jk, jk, jk, jk, jk, jk, jk, jk, jk, jk, jk, jk, jk, jk, jk, jk, jk, jk, jk, jk, jk, jk, jk, jk, jk], [], [], [(10, 0), (11, (gridP (dotP a b many cols) cols i 0).length), (14, 0)], [], 0, nomem⟩) rows ?_ ?_
  · simp -implicitDefEqProofs (maxSteps := 10000000) only [rkA, rkB, stepA, valA, simprocAttr]
    exact ⟨0, by omega, rfl⟩
  rintro m s ⟨i, hi, rfl⟩
  simp -implicitDefEqProofs (maxSteps := 10000000) only [rkA, rkB, stepA, valA, simprocAttr]
  refine gB_dec ?_ ?_ <;> intro hcd <;> simp -implicitDefEqProofs (maxSteps := 10000000) only [hcd, rkA, rkB, stepA, valA, simprocAttr]
  · have hir : i < rows := by omega
    refine wp_loop (fun m s => ∃ k : Nat, k + m = cols ∧ s = ⟨[.v (.sl ea (frs a)), nt rows, nt many, .v (.sl eb (frs b)), nt cols, jk, jk, jk, jk, jk, jk, .acc 11 (frs (gridP (dotP a b many cols) cols i k)), nt i, nt k, jk, jk, jk, jk, jk, jk, jk, jk, jk, jk, jk, jk, jk, jk, jk, jk, jk, jk, jk, jk, jk, jk, jk, jk, jk, jk, jk, jk, jk, jk, jk, jk, jk, jk, jk, jk, jk, jk, jk, jk, jk, jk, jk], [], [], [(10, 0), (11, (gridP (dotP a b many cols) cols i k).length), (14, 0)], [], 0, nomem⟩) cols ?_ ?_
    · simp -implicitDefEqProofs (maxSteps := 10000000) only [rkA, rkB, stepA, valA, simprocAttr]
      exact ⟨0, by omega, rfl⟩
    rintro m' s ⟨k, hk, rfl⟩
    simp -implicitDefEqProofs (maxSteps := 10000000) only [rkA, rkB, stepA, valA, simprocAttr]
    refine gB_dec ?_ ?_ <;> intro hcd2 <;> simp -implicitDefEqProofs (maxSteps := 10000000) only [hcd2, rkA, rkB, stepA, valA, simprocAttr]
    · have hkc : k < cols := by omega
      refine wp_loop (fun m s => ∃ j : Nat, j + m = many ∧ s = ⟨[.v (.sl ea (frs a)), nt rows, nt many, .v (.sl eb (frs b)), nt cols, jk, jk, jk, jk, jk, jk, .acc 11 (frs (gridP (dotP a b many cols) cols i k)), nt i, nt k, .acc 14 (frs ((List.range j).map fun j => b.getD (j * cols + k) dz)), nt j, jk, jk, jk, jk, jk, jk, jk, jk, jk, jk, jk, jk, jk, jk, jk, jk, jk, jk, jk, jk, jk, jk, jk, jk, jk, jk, jk, jk, jk, jk, jk, jk, jk, jk, jk, jk, jk, jk, jk, jk, jk], [], [], [(10, 0), (11, (gridP (dotP a b many cols) cols i k).length), (14, j)], [], 0, nomem⟩) many ?_ ?_
      · simp -implicitDefEqProofs (maxSteps := 10000000) only [rkA, rkB, stepA, valA, simprocAttr]
        exact ⟨0, by omega, rfl⟩
      rintro m3 s ⟨j, hj, rfl⟩
      simp -implicitDefEqProofs (maxSteps := 10000000) only [rkA, rkB, stepA, valA, simprocAttr]
      refine gB_dec ?_ ?_ <;> intro hcd3 <;> simp -implicitDefEqProofs (maxSteps := 10000000) only [hcd3, rkA, rkB, stepA, valA, simprocAttr]
      · have t := at_table (i := j) (j := k) (n := many) (m := cols) (by omega) hkc
        have c1 : (j : Int) * (cols : Int) = ((j * cols : Nat) : Int) := by simp
        have c3 : ((j * cols : Nat) : Int) + (k : Int) = ((j * cols + k : Nat) : Int) := by simp
        have w1 := wrapped (x := ((j * cols : Nat) : Int)) (by omega) (by omega)
        have w3 := wrapped (x := ((j * cols + k : Nat) : Int)) (by omega) (by omega)
        have w4 := wrapped (x := (j : Int) + 1) (by omega) (by omega)
        have n1 : (0 : Int) ≤ ((j * cols + k : Nat) : Int) := by omega
        have g := fr_get (l := b) (i := j * cols + k) (by omega)
        have hfit : fits 4 32 (frs ((List.range j).map fun j => b.getD (j * cols + k) dz)) [frV (b.getD (j * cols + k) dz)] = true := fits_frs (l := [b.getD (j * cols + k) dz]) (by simp; omega)
        have hll : (frs ((List.range j).map fun j => b.getD (j * cols + k) dz)).length = j := by simp
        simp -implicitDefEqProofs (maxSteps := 10000000) only [c1, w1, c3, w3, n1, Int.toNat_natCast, g, hfit, hll, w4, rkA, rkB, stepA, valA, simprocAttr]
        refine loopK_of (m' := m3 - 1) (by omega) ?_
        simp -implicitDefEqProofs (maxSteps := 10000000) only [rkA, rkB, stepA, valA, simprocAttr]
        refine ⟨j + 1, by omega, ?_⟩
        rw [List.range_succ, List.map_append]
        simp only [frs, List.map_append, List.map_cons, List.map_nil, Int.natCast_add, Int.natCast_one]
      · have hjm : j = many := by omega
        subst hjm
        have h1 : i * j + j ≤ rows * j := by
          have : (i + 1) * j ≤ rows * j := Nat.mul_le_mul_right _ hir
          rw [Nat.add_mul, Nat.one_mul] at this
          exact this
        have c1 : (i : Int) * (j : Int) = ((i * j : Nat) : Int) := by simp
        have c2 : ((i : Int) + 1) * (j : Int) = ((i * j + j : Nat) : Int) := by rw [Int.add_mul, Int.one_mul]; simp
        have w1 := wrapped (x := ((i * j : Nat) : Int)) (by omega) (by omega)
        have w2 := wrapped (x := (i : Int) + 1) (by omega) (by omega)
        have w3 := wrapped (x := ((i * j + j : Nat) : Int)) (by omega) (by omega)
        have n1 : (0 : Int) ≤ ((i * j : Nat) : Int) := by omega
        have n2 : (0 : Int) ≤ ((i * j + j : Nat) : Int) := by omega
        have hs := sl_frs (ex := ea) (l := a) (a := i * j) (b := i * j + j) (by omega) (by omega)
        simp -implicitDefEqProofs (maxSteps := 10000000) only [c1, w1, w2, c2, w3, n1, n2, Int.toNat_natCast, hs, rkA, rkB, stepA, valA, simprocAttr]
        have hrow : (a.take (i * j + j)).drop (i * j) = (List.range j).map fun q => a.getD (i * j + q) dz := by
          apply List.ext_getElem?
          intro q
          by_cases hq : q < j
          · rw [List.getElem?_drop, List.getElem?_take_of_lt (by omega), List.getElem?_map, List.getElem?_range hq, Option.map_some, List.getD_eq_getElem?_getD, List.getElem?_eq_getElem (by omega), Option.getD_some]
          · rw [List.getElem?_eq_none (by simp; omega), List.getElem?_eq_none (by simp; omega)]
        refine call_fn rfl rfl rfl (ok80 (exA none ea (i * j + j) (frs a).length) false ((a.take (i * j + j)).drop (i * j)) ((List.range j).map fun q => b.getD (q * cols + k) dz) (by simp; omega) (by simp; omega)) ?_
        have hd : dotF ((a.take (i * j + j)).drop (i * j)) ((List.range j).map fun q => b.getD (q * cols + k) dz) = dotP a b j cols i k := by rw [hrow]; rfl
        have hlen := gridP_length (dotP a b j cols) cols i k
        have hik : i * cols + cols ≤ rows * cols := by
          have : (i + 1) * cols ≤ rows * cols := Nat.mul_le_mul_right _ hir
          rw [Nat.add_mul, Nat.one_mul] at this
          exact this
        have hfit : fits 4 32 (frs (gridP (dotP a b j cols) cols i k)) [frV (dotP a b j cols i k)] = true := fits_frs (l := [dotP a b j cols i k]) (by simp only [List.length_cons, List.length_nil]; omega)
        have hll : (frs (gridP (dotP a b j cols) cols i k)).length = (gridP (dotP a b j cols) cols i k).length := by simp
        have w5 := wrapped (x := (k : Int) + 1) (by omega) (by omega)
        simp -implicitDefEqProofs (maxSteps := 10000000) only [hd, hfit, hll, w5, rkA, rkB, stepA, valA, simprocAttr]
        refine loopK_of (m' := m' - 1) (by omega) ?_
        simp -implicitDefEqProofs (maxSteps := 10000000) only [rkA, rkB, stepA, valA, simprocAttr]
        refine ⟨k + 1, by omega, ?_⟩
        rw [gridP_succ]
        simp only [frs, List.map_append, List.map_cons, List.map_nil, List.length_append, List.length_cons, List.length_nil, Int.natCast_add, Int.natCast_one]
    · have hkc : k = cols := by omega
      have w5 := wrapped (x := (i : Int) + 1) (by omega) (by omega)
      simp -implicitDefEqProofs (maxSteps := 10000000) only [w5, rkA, rkB, stepA, valA, simprocAttr]
      refine loopK_of (m' := m - 1) (by omega) ?_
      simp -implicitDefEqProofs (maxSteps := 10000000) only [rkA, rkB, stepA, valA, simprocAttr]
      refine ⟨i + 1, by omega, ?_⟩
      rw [hkc, gridP_next]
      simp only [Int.natCast_add, Int.natCast_one]
  · have : i = rows := by omega
    subst this
    rfl
set_option maxHeartbeats 2000000 in
theorem ok128 (e : Bool) (l : List Fr) (rows cols : Nat) (hr : rows ≤ 16) (hc : cols ≤ 16) (hl : l.length = rows * cols) :
    Ok Tryz.prog 128 [.sl e (frs l), num rows, num cols] (.sl false (frs (gridP (fun k i => l.getD (i * cols + k) dz) rows cols 0))) := by
  have b1 : rows * cols ≤ 256 := side16 hr hc
  refine ok_fn mixed Tryz.func128 (code := ?_) (h := h128) ?_ k128 ?_
  rotate_left
  · exact rfl
  unfold h128 initS
  simp -implicitDefEqProofs (maxSteps := 10000000) only [rkA, rkB, stepA, valA, simprocAttr, Tryz.ntmps128, Tryz.results128]
  refine wp_loop (fun m s => ∃ i : Nat, i + m = cols ∧ s = ⟨[.v (.sl e (frs l)), nt rows, nt cols, jk, jk, jk, jk, .acc 7 (frs (gridP (fun k i => l.getD (i * cols + k) dz) rows i 0)), nt i, jk, jk, jk, jk, jk, jk, jk, jk, jk, jk, jk, jk, jk, jk, jk, jk, jk, jk, jk, jk, jk, jk, jk], [], [], [(6, 0), (7, (gridP (fun k i => l.getD (i * cols + k) dz) rows i 0).length)], [], 0, nomem⟩) cols ?_ ?_
  · simp -implicitDefEqProofs (maxSteps := 10000000) only [rkA, rkB, stepA, valA, simprocAttr]
    exact ⟨0, by omega, rfl⟩
  rintro m s ⟨i, hi, rfl⟩
  simp -implicitDefEqProofs (maxSteps := 10000000) only [rkA, rkB, stepA, valA, simprocAttr]
  refine gB_dec ?_ ?_ <;> intro hcd <;> simp -implicitDefEqProofs (maxSteps := 10000000) only [hcd, rkA, rkB, stepA, valA, simprocAttr]
  · have hir : i < cols := by omega
    refine wp_loop (fun m s => ∃ k : Nat, k + m = rows ∧ s = ⟨[.v (.sl e (frs l)), nt rows, nt cols, jk, jk, jk, jk, .acc 7 (frs (gridP (fun k i => l.getD (i * cols + k) dz) rows i k)), nt i, nt k, jk, jk, jk, jk, jk, jk, jk, jk, jk, jk, jk, jk, jk, jk, jk, jk, jk, jk, jk, jk, jk, jk], [], [], [(6, 0), (7, (gridP (fun k i => l.getD (i * cols + k) dz) rows i k).length)], [], 0, nomem⟩) rows ?_ ?_
    · simp -implicitDefEqProofs (maxSteps := 10000000) only [rkA, rkB, stepA, valA, simprocAttr]
      exact ⟨0, by omega, rfl⟩
    rintro m' s ⟨k, hk, rfl⟩
    simp -implicitDefEqProofs (maxSteps := 10000000) only [rkA, rkB, stepA, valA, simprocAttr]
    refine gB_dec ?_ ?_ <;> intro hcd2 <;> simp -implicitDefEqProofs (maxSteps := 10000000) only [hcd2, rkA, rkB, stepA, valA, simprocAttr]
    · have hkc : k < rows := by omega
      have hlen := gridP_length (fun k i => l.getD (i * cols + k) dz) rows i k
      have hik : i * rows + rows ≤ cols * rows := by
        have : (i + 1) * rows ≤ cols * rows := Nat.mul_le_mul_right _ hir
        rw [Nat.add_mul, Nat.one_mul] at this
        exact this
      have hb2 : cols * rows ≤ 256 := by rw [Nat.mul_comm]; exact b1
      have hfit : ∀ x : Fr, fits 4 32 (frs (gridP (fun k i => l.getD (i * cols + k) dz) rows i k)) [frV x] = true := fun x => fits_frs (l := [x]) (by simp only [List.length_cons, List.length_nil]; omega)
      have hll : (frs (gridP (fun k i => l.getD (i * cols + k) dz) rows i k)).length = (gridP (fun k i => l.getD (i * cols + k) dz) rows i k).length := by simp
      have w5 := wrapped (x := (k : Int) + 1) (by omega) (by omega)
      have t := at_table (i := k) (j := i) (n := rows) (m := cols) hkc hir
      have c1 : (k : Int) * (cols : Int) = ((k * cols : Nat) : Int) := by simp
      have c3 : ((k * cols : Nat) : Int) + (i : Int) = ((k * cols + i : Nat) : Int) := by simp
      have w1 := wrapped (x := ((k * cols : Nat) : Int)) (by omega) (by omega)
      have w3 := wrapped (x := ((k * cols + i : Nat) : Int)) (by omega) (by omega)
      have n1 : (0 : Int) ≤ ((k * cols + i : Nat) : Int) := by omega
      have g := fr_get (l := l) (i := k * cols + i) (by omega)
      simp -implicitDefEqProofs (maxSteps := 10000000) only [c1, w1, c3, w3, n1, Int.toNat_natCast, g, hfit, hll, w5, rkA, rkB, stepA, valA, simprocAttr]
      refine loopK_of (m' := m' - 1) (by omega) ?_
      simp -implicitDefEqProofs (maxSteps := 10000000) only [rkA, rkB, stepA, valA, simprocAttr]
      refine ⟨k + 1, by omega, ?_⟩
      rw [gridP_succ]
      simp only [frs, List.map_append, List.map_cons, List.map_nil, List.length_append, List.length_cons, List.length_nil, Int.natCast_add, Int.natCast_one]
    · have hkc : k = rows := by omega
      have w5 := wrapped (x := (i : Int) + 1) (by omega) (by omega)
      simp -implicitDefEqProofs (maxSteps := 10000000) only [w5, rkA, rkB, stepA, valA, simprocAttr]
      refine loopK_of (m' := m - 1) (by omega) ?_
      simp -implicitDefEqProofs (maxSteps := 10000000) only [rkA, rkB, stepA, valA, simprocAttr]
      refine ⟨i + 1, by omega, ?_⟩
      rw [hkc, gridP_next]
      simp only [Int.natCast_add, Int.natCast_one]
  · have : i = cols := by omega
    subst this
    rfl
set_option maxHeartbeats 2000000 in
theorem ok126 (e : Bool) (l : List Fr) (n : Nat) (hn : n ≤ 16) (hl : l.length = n * n) :
    Ok Tryz.prog 126 [.sl e (frs l), num n] (.sl false (frs (gridP (fun i k => l.getD (max i k * n + min i k) dz) n n 0))) := by
  refine ok_fn mixed Tryz.func126 (code := ?_) (h := h126) ?_ k126 ?_
  rotate_left
  · exact rfl
  unfold h126 initS
  simp -implicitDefEqProofs (maxSteps := 10000000) only [rkA, rkB, stepA, valA, simprocAttr, Tryz.ntmps126, Tryz.results126]
  refine wp_loop (fun m s => ∃ i : Nat, i + m = n ∧ s = ⟨[.v (.sl e (frs l)), nt n, jk, jk, jk, .acc 5 (frs (gridP (fun i k => l.getD (max i k * n + min i k) dz) n i 0)), nt i, jk, jk, jk, jk, jk, jk, jk, jk, jk, jk, jk, jk, jk, jk, jk, jk, jk, jk, jk, jk, jk, jk, jk, jk, jk, jk, jk, jk, jk, jk, jk, jk, jk, jk, jk, jk, jk], [], [], [(4, 0), (5, (gridP (fun i k => l.getD (max i k * n + min i k) dz) n i 0).length)], [], 0, nomem⟩) n ?_ ?_
  · simp -implicitDefEqProofs (maxSteps := 10000000) only [rkA, rkB, stepA, valA, simprocAttr]
    exact ⟨0, by omega, rfl⟩
  rintro m s ⟨i, hi, rfl⟩
  simp -implicitDefEqProofs (maxSteps := 10000000) only [rkA, rkB, stepA, valA, simprocAttr]
  refine gB_dec ?_ ?_ <;> intro hcd <;> simp -implicitDefEqProofs (maxSteps := 10000000) only [hcd, rkA, rkB, stepA, valA, simprocAttr]
  · have hir : i < n := by omega
    refine wp_loop (fun m s => ∃ k : Nat, k + m = n ∧ s = ⟨[.v (.sl e (frs l)), nt n, jk, jk, jk, .acc 5 (frs (gridP (fun i k => l.getD (max i k * n + min i k) dz) n i k)), nt i, nt k, jk, jk, jk, jk, jk, jk, jk, jk, jk, jk, jk, jk, jk, jk, jk, jk, jk, jk, jk, jk, jk, jk, jk, jk, jk, jk, jk, jk, jk, jk, jk, jk, jk, jk, jk, jk], [], [], [(4, 0), (5, (gridP (fun i k => l.getD (max i k * n + min i k) dz) n i k).length)], [], 0, nomem⟩) n ?_ ?_
    · simp -implicitDefEqProofs (maxSteps := 10000000) only [rkA, rkB, stepA, valA, simprocAttr]
      exact ⟨0, by omega, rfl⟩
    rintro m' s ⟨k, hk, rfl⟩
    simp -implicitDefEqProofs (maxSteps := 10000000) only [rkA, rkB, stepA, valA, simprocAttr]
    refine gB_dec ?_ ?_ <;> intro hcd2 <;> simp -implicitDefEqProofs (maxSteps := 10000000) only [hcd2, rkA, rkB, stepA, valA, simprocAttr]
    · have hkc : k < n := by omega
      have hlen := gridP_length (fun i k => l.getD (max i k * n + min i k) dz) n i k
      have hik : i * n + n ≤ n * n := by
        have : (i + 1) * n ≤ n * n := Nat.mul_le_mul_right _ hir
        rw [Nat.add_mul, Nat.one_mul] at this
        exact this
      have hb2 : n * n ≤ 256 := side16 hn hn
      have hfit : ∀ x : Fr, fits 4 32 (frs (gridP (fun i k => l.getD (max i k * n + min i k) dz) n i k)) [frV x] = true := fun x => fits_frs (l := [x]) (by simp only [List.length_cons, List.length_nil]; omega)
      have hll : (frs (gridP (fun i k => l.getD (max i k * n + min i k) dz) n i k)).length = (gridP (fun i k => l.getD (max i k * n + min i k) dz) n i k).length := by simp
      have w5 := wrapped (x := (k : Int) + 1) (by omega) (by omega)
      have go : ∀ a b : Nat, a < n → b < n → ∃ z : Nat, (a : Int) * (n : Int) = ((a * n : Nat) : Int) ∧ ((a * n : Nat) : Int) + (b : Int) = ((a * n + b : Nat) : Int) ∧ IntKind.wrap .i64 ((a * n : Nat) : Int) = ((a * n : Nat) : Int) ∧ IntKind.wrap .i64 ((a * n + b : Nat) : Int) = ((a * n + b : Nat) : Int) ∧ (0 : Int) ≤ ((a * n + b : Nat) : Int) ∧ (frs l)[a * n + b]? = some (frV (l.getD (a * n + b) dz)) := fun a b ha hb => by
        have t := at_table (i := a) (j := b) (n := n) (m := n) ha hb
        exact ⟨0, by simp, by simp, wrapped (by omega) (by omega), wrapped (by omega) (by omega), by omega, fr_get (by omega)⟩
      by_cases hki : k > i
      · have hki' : (k : Int) > (i : Int) := by omega
        obtain ⟨_, c1, c3, w1, w3, n1, g⟩ := go k i hkc hir
        have e1 : max i k = k := by omega
        have e2 : min i k = i := by omega
        simp -implicitDefEqProofs (maxSteps := 10000000) only [hki', c1, w1, c3, w3, n1, Int.toNat_natCast, g, hfit, hll, w5, rkA, rkB, stepA, valA, simprocAttr]
        refine loopK_of (m' := m' - 1) (by omega) ?_
        simp -implicitDefEqProofs (maxSteps := 10000000) only [rkA, rkB, stepA, valA, simprocAttr]
        refine ⟨k + 1, by omega, ?_⟩
        rw [gridP_succ]
        simp only [e1, e2, frs, List.map_append, List.map_cons, List.map_nil, List.length_append, List.length_cons, List.length_nil, Int.natCast_add, Int.natCast_one]
      · have hki' : ¬ (k : Int) > (i : Int) := by omega
        obtain ⟨_, c1, c3, w1, w3, n1, g⟩ := go i k hir hkc
        have e1 : max i k = i := by omega
        have e2 : min i k = k := by omega
        simp -implicitDefEqProofs (maxSteps := 10000000) only [hki', c1, w1, c3, w3, n1, Int.toNat_natCast, g, hfit, hll, w5, rkA, rkB, stepA, valA, simprocAttr]
        refine loopK_of (m' := m' - 1) (by omega) ?_
        simp -implicitDefEqProofs (maxSteps := 10000000) only [rkA, rkB, stepA, valA, simprocAttr]
        refine ⟨k + 1, by omega, ?_⟩
        rw [gridP_succ]
        simp only [e1, e2, frs, List.map_append, List.map_cons, List.map_nil, List.length_append, List.length_cons, List.length_nil, Int.natCast_add, Int.natCast_one]
    · have hkc : k = n := by omega
      have w5 := wrapped (x := (i : Int) + 1) (by omega) (by omega)
      simp -implicitDefEqProofs (maxSteps := 10000000) only [w5, rkA, rkB, stepA, valA, simprocAttr]
      refine loopK_of (m' := m - 1) (by omega) ?_
      simp -implicitDefEqProofs (maxSteps := 10000000) only [rkA, rkB, stepA, valA, simprocAttr]
      refine ⟨i + 1, by omega, ?_⟩
      rw [hkc, gridP_next]
      simp only [Int.natCast_add, Int.natCast_one]
  · have : i = n := by omega
    subst this
    rfl
end Go.Proofs.YtambpjbpdackfaaGreat.A.E



set_option linter.unusedVariables false
set_option linter.unusedSimpArgs false
set_option maxRecDepth 100000
namespace Go.Proofs.YtambpjbpdackfaaGreat.A.E
open Go Go.RowKit Go.Shelf

/-! ### The reference's tables are the program's -/
theorem okMul (ea eb : Bool) (a b : List Fr) (R M K : Nat) (hR : 1 ≤ R ∧ R ≤ 16) (hM : 1 ≤ M ∧ M ≤ 16) (hK : 1 ≤ K ∧ K ≤ 16) (la : a.length = R * M) (lb : b.length = M * K) :
    Ok Tryz.prog 127 [.sl ea (frs a), num R, num M, .sl eb (frs b), num K] (.sl false (frs (prodF R M K a b))) := by
  rw [prodF_grid hR hM hK la lb]
  exact ok127 ea eb a b R M K hR.2 hM.2 hK.2 la lb
theorem okTurn (e : Bool) (l : List Fr) (R K : Nat) (hR : 1 ≤ R ∧ R ≤ 16) (hK : 1 ≤ K ∧ K ≤ 16) (hl : l.length = R * K) :
    Ok Tryz.prog 128 [.sl e (frs l), num R, num K] (.sl false (frs (turnF R K l))) := by
  have h := right_nat (n := l.length) hR hK hl
  have e1 : turnF R K l = gridP (fun k i => l.getD (i * K + k) dz) R K 0 := by
    rw [turnF_eq h, Int.toNat_natCast, Int.toNat_natCast]
    refine gridP_congr fun k i hk hi => ?_
    rw [atF_eq h (by simpa using hi) (by simpa using hk), Int.toNat_natCast]
  rw [e1]
  exact ok128 e l R K hR.2 hK.2 hl
theorem okMirror (e : Bool) (l : List Fr) (n : Nat) (hn : 1 ≤ n ∧ n ≤ 16) (hl : l.length = n * n) :
    Ok Tryz.prog 126 [.sl e (frs l), num n] (.sl false (frs (mirF n l))) := by
  have h := right_nat (n := l.length) hn hn hl
  have e1 : mirF n l = gridP (fun i k => l.getD (max i k * n + min i k) dz) n n 0 := by
    rw [mirF, Int.toNat_natCast]
    refine gridP_congr fun i k hi hk => ?_
    rw [atF_eq h (by simp; omega) (by simp; omega), Int.toNat_natCast]
  rw [e1]
  exact ok126 e l n hn.2 hl
theorem ok47 (e : Bool) (l : List Fr) (n : Nat) (hn : 1 ≤ n ∧ n ≤ 16) (hl : l.length = n * n) : Ok Tryz.prog 47 [.sl e (frs l), num n] (.sl false (frs (sqF n l))) := by
  refine ok_fn mixed Tryz.func47 (code := ?_) (h := h47) ?_ k47 ?_
  rotate_left
  · exact rfl
  unfold h47 initS
  simp -implicitDefEqProofs (maxSteps := 10000000) only [rkA, rkB, stepA, valA, simprocAttr, Tryz.ntmps47, Tryz.results47]
  refine call_fn rfl rfl rfl (okTurn e l n n hn hn hl) ?_
  simp -implicitDefEqProofs (maxSteps := 10000000) only [rkA, rkB, stepA, valA, simprocAttr]
  refine call_fn rfl rfl rfl (okMul e false l (turnF n n l) n n n hn hn hn hl (turnF_len hn hn hl)) ?_
  simp -implicitDefEqProofs (maxSteps := 10000000) only [rkA, rkB, stepA, valA, simprocAttr]
  refine call_fn rfl rfl rfl (okMirror false (prodF n n n l (turnF n n l)) n hn (by rw [prodF_len]; simp)) ?_
  simp -implicitDefEqProofs (maxSteps := 10000000) only [sqF, rkA, rkB, stepA, valA, simprocAttr]
theorem ok68 (x : Fr) : Ok Tryz.prog 68 [frV x] (frV x) := by
  refine ok_fn mixed Tryz.func68 (code := ?_) (h := h68) ?_ k68 ?_
  rotate_left
  · exact rfl
  unfold h68 initS
  simp -implicitDefEqProofs (maxSteps := 10000000) only [rkA, rkB, stepA, valA, simprocAttr, Tryz.ntmps68, Tryz.results68]
theorem ok49 (e : Bool) (l : List Fr) (hl : l.length ≤ 256) : Ok Tryz.prog 49 [.sl e (frs l)] (.sl false (frs l)) := by
  have la : (frs l).length = l.length := by simp
  refine ok_fn mixed Tryz.func49 (code := ?_) (h := h49) ?_ k49 ?_
  rotate_left
  · exact rfl
  unfold h49 initS
  simp -implicitDefEqProofs (maxSteps := 10000000) only [rkA, rkB, stepA, valA, simprocAttr, Tryz.ntmps49, Tryz.results49]
  refine wp_loop (fun m s => ∃ k : Nat, k + m = l.length ∧ s = ⟨[jk, jk, jk, .acc 3 (frs (l.take k)), jk, jk, .v (.sl e (frs l)), nt l.length, nt k, jk, jk, jk, jk, jk, jk, jk, jk, jk, jk], [], [], [(2, 0), (3, k)], [], 0, nomem⟩) l.length ?_ ?_
  · simp -implicitDefEqProofs (maxSteps := 10000000) only [la, rkA, rkB, stepA, valA, simprocAttr]
    exact ⟨0, by omega, rfl⟩
  rintro m s ⟨k, hk, rfl⟩
  simp -implicitDefEqProofs (maxSteps := 10000000) only [rkA, rkB, stepA, valA, simprocAttr]
  refine gB_dec ?_ ?_ <;> intro hc <;> simp -implicitDefEqProofs (maxSteps := 10000000) only [hc, rkA, rkB, stepA, valA, simprocAttr]
  · have hka : k < l.length := by omega
    have h0 := nat0 k
    have ga := fr_get hka
    have hw := wrapped (x := (k : Int) + 1) (by omega) (by omega)
    simp -implicitDefEqProofs (maxSteps := 10000000) only [h0, Int.toNat_natCast, ga, rkA, rkB, stepA, valA, simprocAttr]
    refine call_fn rfl rfl rfl (ok68 (l.getD k dz)) ?_
    have hll : (frs (l.take k)).length = k := by simp; omega
    have hfit : fits 4 32 (frs (l.take k)) [frV (l.getD k dz)] = true := fits_frs (l := [l.getD k dz]) (by simp; omega)
    simp -implicitDefEqProofs (maxSteps := 10000000) only [hfit, hll, hw, rkA, rkB, stepA, valA, simprocAttr]
    refine loopK_of (m' := m - 1) (by omega) ?_
    simp -implicitDefEqProofs (maxSteps := 10000000) only [rkA, rkB, stepA, valA, simprocAttr]
    refine ⟨k + 1, by omega, ?_⟩
    rw [List.take_succ_eq_append_getElem hka, List.getD_eq_getElem?_getD, List.getElem?_eq_getElem hka]
    simp only [frs, List.map_append, List.map_cons, List.map_nil, Int.natCast_add, Int.natCast_one, Option.getD_some]
  · have : k = l.length := by omega
    subst this
    rw [List.take_length]
theorem ok22 (e : Bool) (r c : Int) (l : List Fr) (hl : l.length ≤ 256) : Ok Tryz.prog 22 [matV e r c (frs l)] (.sl false (frs l)) := by
  have la : (frs l).length = l.length := by simp
  refine ok_fn mixed Tryz.func22 (code := ?_) (h := h22) ?_ k22 ?_
  rotate_left
  · exact rfl
  unfold h22 initS
  simp -implicitDefEqProofs (maxSteps := 10000000) only [rkA, rkB, stepA, valA, simprocAttr, Tryz.ntmps22, Tryz.results22]
  refine wp_loop (fun m s => ∃ k : Nat, k + m = l.length ∧ s = ⟨[jk, jk, jk, .acc 3 (frs (l.take k)), jk, jk, jk, .v (.sl e (frs l)), nt l.length, nt k, jk, jk, jk, jk, jk, jk, jk, jk, jk, jk], [(1, [.v (num r), .v (num c), .v (.sl e (frs l))])], [], [(2, 0), (3, k)], [], 0, nomem⟩) l.length ?_ ?_
  · simp -implicitDefEqProofs (maxSteps := 10000000) only [la, rkA, rkB, stepA, valA, simprocAttr]
    exact ⟨0, by omega, rfl⟩
  rintro m s ⟨k, hk, rfl⟩
  simp -implicitDefEqProofs (maxSteps := 10000000) only [rkA, rkB, stepA, valA, simprocAttr]
  refine gB_dec ?_ ?_ <;> intro hc <;> simp -implicitDefEqProofs (maxSteps := 10000000) only [hc, rkA, rkB, stepA, valA, simprocAttr]
  · have hka : k < l.length := by omega
    have h0 := nat0 k
    have ga := fr_get hka
    have hw := wrapped (x := (k : Int) + 1) (by omega) (by omega)
    simp -implicitDefEqProofs (maxSteps := 10000000) only [h0, Int.toNat_natCast, ga, rkA, rkB, stepA, valA, simprocAttr]
    refine call_fn rfl rfl rfl (ok68 (l.getD k dz)) ?_
    have hll : (frs (l.take k)).length = k := by simp; omega
    have hfit : fits 4 32 (frs (l.take k)) [frV (l.getD k dz)] = true := fits_frs (l := [l.getD k dz]) (by simp; omega)
    simp -implicitDefEqProofs (maxSteps := 10000000) only [hfit, hll, hw, rkA, rkB, stepA, valA, simprocAttr]
    refine loopK_of (m' := m - 1) (by omega) ?_
    simp -implicitDefEqProofs (maxSteps := 10000000) only [rkA, rkB, stepA, valA, simprocAttr]
    refine ⟨k + 1, by omega, ?_⟩
    rw [List.take_succ_eq_append_getElem hka, List.getD_eq_getElem?_getD, List.getElem?_eq_getElem hka]
    simp only [frs, List.map_append, List.map_cons, List.map_nil, Int.natCast_add, Int.natCast_one, Option.getD_some]
  · have : k = l.length := by omega
    subst this
    rw [List.take_length]
theorem eq_frE (x y : Fr) : cellsEq [some .i64, some .i64, some .i64, none] [num x.v, num x.lo, num x.hi, tru x.bad] [num y.v, num y.lo, num y.hi, tru y.bad] = some (decide (x = y)) := by
  obtain ⟨n, d, e, b⟩ := x
  obtain ⟨n', d', e', b'⟩ := y
  simp only [cellsEq, Fr.mk.injEq]
  cases b <;> cases b' <;> simp <;> rfl
theorem ok46 (ea eb : Bool) (l : List Fr) (hl : l.length ≤ 256) : Ok Tryz.prog 46 [.sl ea (frs l), .sl eb (frs l)] (tru true) := by
  have la : (frs l).length = l.length := by simp
  refine ok_fn mixed Tryz.func46 (code := ?_) (h := h46) ?_ k46 ?_
  rotate_left
  · exact rfl
  unfold h46 initS
  simp -implicitDefEqProofs (maxSteps := 10000000) only [rkA, rkB, stepA, valA, simprocAttr, Tryz.ntmps46, Tryz.results46]
  simp -implicitDefEqProofs (maxSteps := 10000000) only [la, bne_self_eq_false, rkA, rkB, stepA, valA, simprocAttr]
  refine call_fn rfl rfl rfl (ok49 ea l hl) ?_
  simp -implicitDefEqProofs (maxSteps := 10000000) only [la, rkA, rkB, stepA, valA, simprocAttr]
  refine wp_loop (fun m s => ∃ k : Nat, k + m = l.length ∧ s = ⟨[jk, .v (.sl eb (frs l)), jk, jk, jk, jk, jk, jk, jk, jk, jk, jk, jk, .v (.sl false (frs l)), nt l.length, nt k, jk, jk, jk, jk, jk, jk, jk, jk, jk, jk, jk], [], [], [], [], 0, nomem⟩) l.length ?_ ?_
  · simp -implicitDefEqProofs (maxSteps := 10000000) only [rkA, rkB, stepA, valA, simprocAttr]
    exact ⟨0, by omega, rfl⟩
  rintro m s ⟨k, hk, rfl⟩
  simp -implicitDefEqProofs (maxSteps := 10000000) only [rkA, rkB, stepA, valA, simprocAttr]
  refine gB_dec ?_ ?_ <;> intro hc <;> simp -implicitDefEqProofs (maxSteps := 10000000) only [hc, rkA, rkB, stepA, valA, simprocAttr]
  · have hka : k < l.length := by omega
    have h0 := nat0 k
    have ga := fr_get hka
    have hw := wrapped (x := (k : Int) + 1) (by omega) (by omega)
    have hne := eq_frE (l.getD k dz) (l.getD k dz)
    rw [decide_eq_true rfl] at hne
    simp -implicitDefEqProofs (maxSteps := 10000000) only [h0, Int.toNat_natCast, ga, hne, hw, rkA, rkB, stepA, valA, simprocAttr]
    refine loopK_of (m' := m - 1) (by omega) ?_
    simp -implicitDefEqProofs (maxSteps := 10000000) only [rkA, rkB, stepA, valA, simprocAttr]
    exact ⟨k + 1, by omega, by simp only [Int.natCast_add, Int.natCast_one]⟩
theorem ok20 (ea eb : Bool) (r c : Int) (l : List Fr) (hl : l.length ≤ 256) : Ok Tryz.prog 20 [matV ea r c (frs l), .sl eb (frs l)] (tru true) := by
  have la : (frs l).length = l.length := by simp
  refine ok_fn mixed Tryz.func20 (code := ?_) (h := h20) ?_ k20 ?_
  rotate_left
  · exact rfl
  unfold h20 initS
  simp -implicitDefEqProofs (maxSteps := 10000000) only [rkA, rkB, stepA, valA, simprocAttr, Tryz.ntmps20, Tryz.results20]
  refine call_fn rfl rfl rfl (ok22 ea r c l hl) ?_
  simp -implicitDefEqProofs (maxSteps := 10000000) only [la, bne_self_eq_false, rkA, rkB, stepA, valA, simprocAttr]
  refine wp_loop (fun m s => ∃ k : Nat, k + m = l.length ∧ s = ⟨[jk, .v (.sl eb (frs l)), jk, jk, jk, .v (.sl false (frs l)), jk, jk, jk, jk, jk, jk, jk, jk, jk, nt l.length, nt k, jk, jk, jk, jk, jk, jk, jk, jk, jk, jk, jk, jk], [(2, [.v (num r), .v (num c), .v (.sl ea (frs l))])], [], [], [], 0, nomem⟩) l.length ?_ ?_
  · simp -implicitDefEqProofs (maxSteps := 10000000) only [rkA, rkB, stepA, valA, simprocAttr]
    exact ⟨0, by omega, rfl⟩
  rintro m s ⟨k, hk, rfl⟩
  simp -implicitDefEqProofs (maxSteps := 10000000) only [rkA, rkB, stepA, valA, simprocAttr]
  refine gB_dec ?_ ?_ <;> intro hc <;> simp -implicitDefEqProofs (maxSteps := 10000000) only [hc, rkA, rkB, stepA, valA, simprocAttr]
  · have hka : k < l.length := by omega
    have h0 := nat0 k
    have ga := fr_get hka
    have hw := wrapped (x := (k : Int) + 1) (by omega) (by omega)
    have hne := eq_frE (l.getD k dz) (l.getD k dz)
    rw [decide_eq_true rfl] at hne
    simp -implicitDefEqProofs (maxSteps := 10000000) only [h0, Int.toNat_natCast, ga, hne, hw, rkA, rkB, stepA, valA, simprocAttr]
    refine loopK_of (m' := m - 1) (by omega) ?_
    simp -implicitDefEqProofs (maxSteps := 10000000) only [rkA, rkB, stepA, valA, simprocAttr]
    exact ⟨k + 1, by omega, by simp only [Int.natCast_add, Int.natCast_one]⟩
end Go.Proofs.YtambpjbpdackfaaGreat.A.E


set_option linter.unusedVariables false
namespace Go.Proofs.YtambpjbpdackfaaGreat.A
open Go Go.RowKit Go.Shelf
/- couplet/coupletlaw15.points -/
def hM45 : Hint := .s (.r [(0, { acc := [(0, 2)] })]) (.s (.r [(0, { acc := [(0, 3)] })]) (.s (.s (.o) (.b (.l [.junk [0, 1, 2, 4, 5, 9, 10, 11, 12, 13, 14, 15, 16, 17, 18, 19, 20]] (.s (.o) (.s (.s (.o) (.o)) (.s (.b (.s (.r [(0, { n := 1 }), (1, { n := 1, agg := false })]) (.r [(4, { zero := [(.int .i64 0), (.int .i64 0), (.int .i64 0), (.bool false)], places := [(0, 1), (1, 1), (2, 1), (3, 1)] }), (5, { n := 4 }), (6, { n := 4, t := 32 })]))) (.o))))))) (.s (.o) (.o))))
theorem kM45 : okF Tryz.prog Tryz.f45 hM45 [(false, 0)] = true := by kernel_rfl

end Go.Proofs.YtambpjbpdackfaaGreat.A


/- Code told in parts, of calls to which no memory is handed over: between two parts, all memory that is known may be told as values, once it is not written any more. -/
set_option linter.unusedVariables false
set_option linter.unusedSimpArgs false
namespace Go.Proofs.YtambpjbpdackfaaGreat.A
open Go Go.RowKit Go.Shelf

/-- Told again, more closely. -/
inductive Re (m : Mem) : TV → TV → Prop
  | same (x : TV) : Re m x x
  | tell {p q : PV} : Tell m p q → Re m (.v p) (.v q)
inductive Res (m : Mem) : List TV → List TV → Prop
  | nil : Res m [] []
  | cons {x y : TV} {xs ys : List TV} : Re m x y → Res m xs ys → Res m (x :: xs) (y :: ys)
theorem Res.same (m : Mem) : ∀ (l : List TV), Res m l l
  | [] => .nil
  | x :: l => .cons (.same x) (Res.same m l)
inductive ReB (m : Mem) : List (Nat × List TV) → List (Nat × List TV) → Prop
  | nil : ReB m [] []
  | cons {b : Nat} {x y : List TV} {xs ys : List (Nat × List TV)} : Res m x y → ReB m xs ys → ReB m ((b, x) :: xs) ((b, y) :: ys)
theorem ReB.same (m : Mem) : ∀ (l : List (Nat × List TV)), ReB m l l
  | [] => .nil
  | (_, x) :: l => .cons (Res.same m x) (ReB.same m l)
theorem ReB.lk {m : Mem} {l l' : List (Nat × List TV)} (h : ReB m l l') {b : Nat} {c' : List TV} (hb : A.lk b l' = some c') : ∃ c, A.lk b l = some c ∧ Res m c c' := by
  induction h with
  | nil => cases hb
  | @cons b0 x y xs ys h1 h2 ih =>
    simp only [A.lk] at hb ⊢
    by_cases e : b0 = b
    · rw [if_pos e] at hb ⊢
      cases hb
      exact ⟨x, rfl, h1⟩
    · rw [if_neg e] at hb ⊢
      exact ih hb

section
variable {P : Program} {w00 w0 : Bs} {w : World} {I0 I : Imm} {β : Nat → Nat} {κ : Nat → Nat × Nat × Nat} {s : St} {sav : List (Array Value)} {a : Act} {tk : Nat → Nat}

theorem Re.sound {m : Mem} (h : MemAt I m w) {x y : TV} {u : Value} (hr : Re m x y) (hx : R I β κ tk x u) : R (memI I m w) β κ tk y u := by
  cases hr with
  | same x => exact hx.mono (memI_le h)
  | tell ht => exact .v (Tell.sound h ht (hx.inv.mono (memI_le h)))
theorem Res.sound {m : Mem} (h : MemAt I m w) : ∀ {xs ys : List TV} {us : List Value}, Res m xs ys → Rs I β κ tk xs us → Rs (memI I m w) β κ tk ys us
  | _, _, _, .nil, .nil => .nil
  | _, _, _, .cons h1 h2, .cons k1 k2 => .cons (h1.sound h k1) (Res.sound h h2 k2)
theorem Sim.frz (h : Sim w0 I0 I β κ s sav a w) (hln : ∀ c, w0.ln c = false) {tm' : List TV} {bx' : List (Nat × List TV)} (ht : Res s.mm s.tm tm') (hb : ReB s.mm s.bx bx') :
    Sim w0 I0 (memI I s.mm w) β κ { s with tm := tm', bx := bx', mm := nomem } sav a w := by
  have hm := h.memAt
  have hle := memI_le hm
  have hno : ∀ c, c < w0.heap.size → s.mm c = none := fun c hc => by
    cases hcc : s.mm c with
    | none => rfl
    | some x =>
      rcases (h.mem c x hcc).1 with e | e
      · omega
      · rw [hln] at e; cases e
  exact
    { below := h.below
      good := memI_good h.good hm
      ext := Imm.le_trans h.ext hle
      old := fun b hb => by
        have := hno b hb
        unfold memI
        rw [this]
        exact h.old b hb
      tm := Res.sound hm ht h.tm
      sv := by have := h.sv.map (f := id) (fun _ _ k => k.mono hle); simpa using this
      box := fun b cells hc => by
        obtain ⟨c0, h0, hr⟩ := hb.lk hc
        obtain ⟨h1, h2, cs, ty, h3, h4⟩ := h.box b c0 h0
        refine ⟨h1, ?_, cs, ty, h3, Res.sound hm hr h4.1, h4.2⟩
        unfold memI
        rw [h.mbx b c0 h0]
        exact h2
      mem := fun c x hc => by cases hc
      mbx := fun b cells hc => rfl
      rob := fun b cells hc => by
        obtain ⟨arr, k1, k2, k3⟩ := h.rob b cells hc
        obtain ⟨m, hm'⟩ := hle _ _ k1
        refine ⟨_, hm', ?_, by simp; omega⟩
        rw [List.take_append_of_le_length k3]
        exact k2.mono hle
      inj := fun b b' c c' hc hc' e => by
        obtain ⟨c0, h0, _⟩ := hb.lk hc
        obtain ⟨c1, h1, _⟩ := hb.lk hc'
        exact h.inj b b' c0 c1 h0 h1 e
      tok := fun t ht => by
        obtain ⟨h1, cs, ty, arr, h2, h3, h4, h5⟩ := h.tok t ht
        refine ⟨h1, cs, ty, arr, h2, h3, ?_, h5⟩
        have hn : s.mm (κ t).1 = none := by
          cases hc : s.mm (κ t).1 with
          | none => rfl
          | some x => have := (h.mem _ x hc).2.1; rw [h4] at this; cases this
        unfold memI
        rw [hn]
        exact h4
      tinj := h.tinj
      dfr := h.dfr }

/-- How code is told in parts. -/
inductive HT where
  | h (x : Hint)
  | s (x y : HT)
  | z (x : HT)
  | m (l : List (Nat × Inf))
def tc (P : Program) : HT → Code → (XA → St → Prop) → St → Prop
  | .h x, c => wpA P none (acOf x c)
  | .s x y, .seq c d => fun Q s => tc P x c (thenT (tc P y d) Q) s
  | .z x, c => fun Q s => ∃ tm' bx', Res s.mm s.tm tm' ∧ ReB s.mm s.bx bx' ∧ tc P x c Q { s with tm := tm', bx := bx', mm := nomem }
  | .m l, .region _ ops false => fun Q s => wpRegM P (aoL 0 ops.toList l) s (Q .normal)
  | _, _ => fun _ _ => False
def okT (P : Program) : HT → Code → Bool
  | .h x, c => okC P x c
  | .s x y, .seq c d => okT P x c && okT P y d
  | .z x, c => okT P x c
  | .m l, .region _ ops false => regMOk P (aoL 0 ops.toList l)
  | _, _ => false
def Told0 (P : Program) (code : Code) (T : (XA → St → Prop) → St → Prop) : Prop :=
  ∀ (w00 : Bs) (I00 : Imm) (Q : XA → St → Prop) (I : Imm) (w : World) (s : St) (sav : List (Array Value)) (a : Act), (∀ c, w00.ln c = false) → T Q s → Sat none (Base none w00 I00 (fun _ _ _ => True)) I s sav a w →
    code.wpIn (wideR none) 0 P (PostA none (Base none w00 I00 (fun _ _ _ => True)) I sav w Q) a w
theorem told_of (hm : P.follows .mixedOrders = true) : ∀ (x : HT) (c : Code), okT P x c = true → Told0 P c (tc P x c)
  | .h x, c, h => fun w00 I00 Q I w s sav a _ hT hS => by
    unfold okT at h
    unfold tc at hT
    exact told_ac (ag_of hm x c h) w00 I00 Q I w s sav a hT hS
  | .s x y, c, h => fun w00 I00 Q I w s sav a hln hT hS => by
    cases c <;> simp only [okT, Bool.false_eq_true] at h
    rename_i c d
    simp only [Bool.and_eq_true] at h
    simp only [tc] at hT
    refine wpIn_seq (wpIn_mono (told_of hm x c h.1 w00 I00 _ I w s sav a hln hT hS) ?_)
    intro e a2 w2 hp
    cases e with
    | normal =>
      obtain ⟨s', J, k1, k2, k3, k4⟩ := hp
      exact wpIn_mono (told_of hm y d h.2 w00 I00 Q J w2 s' sav a2 hln k1 k4) fun e a3 w3 h => PostA.mono k2 k3 h
    | ret => exact hp
    | exit id => exact hp
    | _ => exact hp
  | .z x, c, h => fun w00 I00 Q I w s sav a hln hT hS => by
    unfold okT at h
    unfold tc at hT
    obtain ⟨tm', bx', ht, hb, hT⟩ := hT
    obtain ⟨hdf, w0, I0, β, κ, ⟨rfl, rfl⟩, hS⟩ := hS
    have hle := memI_le hS.memAt
    exact wpIn_mono (told_of hm x c h w0 I0 Q _ w _ sav a hln hT ⟨hdf, w0, I0, β, κ, ⟨rfl, rfl⟩, hS.frz hln ht hb⟩) fun e a2 w2 h => PostA.mono hle (fun _ => KeepsOthers.refl _) h
  | .m l, c, h => fun w00 I00 Q I w s sav a _ hT hS => by
    cases c <;> try (simp only [okT, Bool.false_eq_true] at h; done)
    rename_i id ops d
    cases d with
    | true => exact absurd h (by simp [okT])
    | false =>
      obtain ⟨ops⟩ := ops
      exact told_map (show regMOk P (aoL 0 ops l) = true from h) w00 I00 Q I w s sav a hT hS
theorem calls_told0 {f : FuncId} {fn : Func} {code : Code} {T : (XA → St → Prop) → St → Prop} {args : List PV} {vs : List Value} {Fin : St → Prop} {L : Ending → World → Prop} (hf : P.funcs[f]? = some fn) (hb : fn.body = some code) (hag : Told0 P code T)
    (hg : Good I w) (hc : Cs I args vs) (hwp : T (atEnd Fin) (initS args fn.ntmps))
    (hfin : ∀ J β κ s (a : Act) w', Fin s → Sim ⟨w, fun c => (nomem c).isSome⟩ I J β κ s [] a w' → ∃ u, (results fn a.tmps).run P w' = .ok u w' ∧ L (.returned u) w') : Calls P f vs.toArray w L := by
  refine (callsIn_wide (n := 0)).1 ?_
  refine (callsIn_of_wp_marks (R := L) hf hb trivial ?_ rfl)
  have hs := hag ⟨w, fun c => (nomem c).isSome⟩ I _ I w (initS args fn.ntmps) [] { tmps := vs.toArray ++ Array.replicate (fn.ntmps - vs.toArray.size) undef, defers := [] } (fun _ => rfl) hwp
      ⟨(fun e => by cases e), ⟨w, fun c => (nomem c).isSome⟩, I, _, _, ⟨rfl, rfl⟩, initS_sim fn.ntmps hg (noMem I w) hc⟩
  refine wpIn_mono hs ?_
  intro e a2 w2 hp
  have fin : ∀ {xa : XA}, (xa = .normal ∨ xa = .ret) → (∃ s' J, atEnd Fin xa s' ∧ I.le J ∧ (none (α := Nat × List Item) = none → KeepsOthers w w2) ∧ Sat none (Base none ⟨w, fun c => (nomem c).isSome⟩ I (fun _ _ _ => True)) J s' [] a2 w2) →
      LeavesInM Fence.wide 0 P fn a2.tmps L a2.defers .returning w2 := by
    rintro xa hxa ⟨s', J, hr, hle, _, _, w1, I1, β1, κ1, ⟨rfl, rfl⟩, hS⟩
    have hr' : Fin s' := by rcases hxa with rfl | rfl <;> exact hr
    obtain ⟨Ds, d1, d2, d3⟩ := hS.dfr
    obtain ⟨tms, dfs⟩ := a2
    simp only at d1
    subst d1
    exact leaves_of (fun df w' hS' => hfin J β1 κ1 s' ⟨tms, df⟩ w' hr' hS') Ds w2 d2 d3 hS
  cases e with
  | normal => exact fin (.inl rfl) hp
  | ret => exact fin (.inr rfl) hp
  | exit id => obtain ⟨s', J, hr, _⟩ := hp; exact hr.elim
  | goto _ => exact hp.elim
  | panic _ => exact hp.elim
  | outgrown => exact hp.elim
/-- The parts fit the function. -/
def okP (P : Program) (fn : Func) (h : HT) (qs : List (Bool × Nat)) : Bool :=
  !(fn.name == "runtime.NumGoroutine") && rinfOk P fn.results.toList qs && (match fn.body with | some c => okT P h c | none => false)
theorem okz_fn (hm : P.follows .mixedOrders = true) {f : FuncId} {fn : Func} {code : Code} {h : HT} {qs : List (Bool × Nat)} {args : List PV} {r : PV} (hf : P.funcs[f]? = some fn) (hb : fn.body = some code) (hk : okP P fn h qs = true)
    (hwp : tc P h code (RetQ fn.results.toList qs r) (initS args fn.ntmps)) : Ok P f args r := by
  simp only [okP, hb, Bool.and_eq_true, Bool.not_eq_true'] at hk
  refine ⟨enters_of hf hk.1.1 hb, fun I w vs hg hc => ?_⟩
  rw [RetQ_atEnd] at hwp
  refine calls_told0 hf hb (told_of hm h code hk.2) hg hc hwp ?_
  intro J β κ s a w' hr hS
  obtain ⟨u, hu, hC⟩ := run_results hS hk.1.2 hr
  exact ⟨u, hu, u, J, rfl, hS.below.all (fun _ => rfl), hS.ext, hS.good, hS.old, hC⟩
variable {Q : XA → St → Prop}
theorem tc_h (x : Hint) (c : Code) : tc P (.h x) c Q s = wpA P none (acOf x c) Q s := by unfold tc; rfl
theorem tc_s (x y : HT) (c d : Code) : tc P (.s x y) (.seq c d) Q s = tc P x c (thenT (tc P y d) Q) s := by simp only [tc]
theorem Res.set {m : Mem} {p q : PV} (h : Tell m p q) : ∀ {l : List TV} {k : Nat}, l[k]? = some (.v p) → Res m l (l.set k (.v q))
  | [], _, e => by simp at e
  | x :: l, 0, e => by
    simp only [List.getElem?_cons_zero, Option.some.injEq] at e
    subst e
    exact .cons (.tell h) (Res.same m l)
  | x :: l, k + 1, e => by
    simp only [List.getElem?_cons_succ] at e
    exact .cons (.same x) (Res.set h e)
/-- All memory told as values. -/
theorem tc_z {x : HT} {c : Code} (tm' : List TV) (bx' : List (Nat × List TV)) (ht : Res s.mm s.tm tm') (hb : ReB s.mm s.bx bx') (h : tc P x c Q { s with tm := tm', bx := bx', mm := nomem }) : tc P (.z x) c Q s := by
  unfold tc
  exact ⟨tm', bx', ht, hb, h⟩
/-- The same, of one slot. -/
theorem tc_z1 {x : HT} {c : Code} (k : Nat) (p q : PV) (hk : s.tm[k]? = some (.v p)) (ht : Tell s.mm p q) (h : tc P x c Q { s with tm := s.tm.set k (.v q), mm := nomem }) : tc P (.z x) c Q s :=
  tc_z _ s.bx (Res.set ht hk) (ReB.same _ _) h
end
end Go.Proofs.YtambpjbpdackfaaGreat.A


set_option linter.unusedVariables false
namespace Go.Proofs.YtambpjbpdackfaaGreat.A
open Go Go.RowKit Go.Shelf
/- couplet/coupletlaw15.LanesBegin -/
def hZ6 : HT := .s (.h (.r [(0, { n := 4 })])) (.s (.h (.s (.r [(0, { off := 3 }), (1, { n := 1, agg := false })]) (.s (.s (.o) (.o)) (.o)))) (.s (.h (.r [(0, { n := 4, agg := true }), (5, { zero := [(.slice none 0 0), (.int .i64 0), (.int .i64 0), (.slice none 0 0), (.slice none 0 0), (.int .i64 0), (.int .i64 0), (.slice none 0 0), (.int .i64 0), (.int .i64 0), (.int .i64 0), (.bool false), (.int .i64 0), (.int .i64 0), (.int .i64 0), (.bool false), (.int .i64 0), (.int .i64 0), (.int .i64 0), (.bool false), (.int .i64 0), (.int .i64 0), (.int .i64 0), (.bool false)], acc := [(0, 1003), (3, 4003), (4, 5003), (7, 8003)] }), (6, { n := 24 })])) (.s (.h (.s (.r [(0, { n := 4, agg := true }), (4, { off := 0 }), (5, { n := 1, agg := false })]) (.s (.s (.r [(3, { n := 24, agg := true }), (8, { n := 24, agg := true })]) (.o)) (.o)))) (.s (.h (.r [(0, { n := 4, agg := true })])) (.s (.h (.s (.r [(4, { off := 2 }), (5, { n := 1, agg := false }), (9, { off := 2 }), (10, { n := 1, agg := false })]) (.s (.s (.o) (.o)) (.o)))) (.s (.h (.n [0, 1, 2, 3, 4, 5, 6, 7, 8, 9] [(1, { n := 1 }), (2, { n := 1, agg := false }), (5, { n := 1 }), (6, { n := 1, agg := false }), (7, { mc := 6 })])) (.s (.h (.s (.r [(0, { off := 2 }), (1, { n := 1, agg := false })]) (.b (.l [.junk [0, 2, 5, 8, 9, 10, 11, 12, 13, 14, 15, 16, 17, 18, 19, 20, 21, 22, 23, 24, 25, 26, 27, 28, 29, 30, 31, 32, 33, 34, 35, 36, 37, 38, 39, 40, 41, 42, 43, 44, 45, 46, 47, 48, 49, 50, 51, 52, 53, 54, 55, 56, 57, 58, 59, 60, 61, 62, 63, 64, 65, 68, 69, 70, 71, 72, 73, 74, 75, 76, 77, 78, 79, 80, 81, 82, 83, 84, 85, 86, 87, 88, 89, 90, 91, 92, 93, 94, 95, 96, 97, 98, 99, 100, 101, 102, 103, 104, 105, 106, 107, 108, 109, 110, 111, 112, 113, 114, 115, 116, 117, 118, 119, 120, 121, 122, 123, 124, 125, 126]] (.s (.o) (.s (.s (.o) (.o)) (.s (.b (.s (.o) (.s (.o) (.b (.l [.junk [0, 2, 5, 10, 11, 12, 13, 14, 15, 16, 17, 18, 19, 20, 21, 22, 23, 24, 25, 26, 27, 28, 29, 30, 31, 32, 33, 34, 35, 36, 37, 38, 39, 40, 41, 42, 43, 44, 45, 46, 47, 48, 49, 50, 51, 52, 53, 54, 55, 56, 57, 58, 59, 60, 61, 62, 63, 64, 65, 68, 69, 70, 71, 72, 73, 74, 75, 76, 77, 78, 79, 80, 81, 82, 83, 84, 85, 86, 87, 88, 89, 90, 91, 92, 93, 94, 95, 96, 97, 98, 99, 100, 101, 102, 103, 104, 105, 106, 107, 108, 109, 110, 111, 112, 113, 114, 115, 116, 117, 118, 119, 120, 121, 122, 123, 124, 125, 126]] (.s (.s (.r [(1, { off := 2 }), (2, { n := 1, agg := false })]) (.s (.o) (.o))) (.s (.b (.r [(2, { off := 2 }), (3, { n := 1, agg := false }), (7, { zero := [(.int .i64 0), (.int .i64 0), (.int .i64 0), (.bool false)], places := [(0, 1), (1, 1), (2, 1), (3, 1)] }), (8, { n := 4 }), (9, { n := 4 })])) (.o)))))))) (.o)))))))) (.s (.z (.h (.r [(2, { n := 24, agg := true }), (6, { off := 0 }), (7, { off := 0 }), (8, { n := 1, agg := false }), (13, { off := 4 }), (14, { off := 0 }), (15, { n := 1, agg := false }), (20, { off := 4 }), (21, { off := 1 }), (22, { n := 3, agg := true }), (27, { off := 0 }), (28, { off := 1 }), (29, { n := 3, agg := true }), (31, { off := 2 }), (32, { n := 1, agg := false })]))) (.h (.o))))))))))
theorem kZ6 : okP Tryz.prog Tryz.f6 hZ6 [(false, 0)] = true := by kernel_rfl

end Go.Proofs.YtambpjbpdackfaaGreat.A



set_option linter.unusedVariables false
set_option linter.unusedSimpArgs false
set_option maxRecDepth 100000
namespace Go.Proofs.YtambpjbpdackfaaGreat.A.E
open Go Go.RowKit Go.Shelf

/-! ### The function LanesBegin -/
def ptZ (n : Int) : Fr := ⟨n, n, n, false⟩
theorem point_of {n : Int} (h : rightX n = true) : point n = ptZ n := by
  unfold point ptZ
  rw [if_pos h]
theorem points_of {l : List Int} (h : ∀ x ∈ l, rightX x = true) : l.map point = l.map ptZ := List.map_congr_left fun x hx => point_of (h x hx)
theorem small_right {x : Int} (h : -17179869184 ≤ x ∧ x ≤ 17179869184) : rightX x = true := by
  unfold rightX
  exact decide_eq_true (by omega)
theorem part_mem {k : Int} {m : Nat} {l : List Int} {i : Nat} {x : Int} (h : x ∈ partZ k m l i) : x ∈ l := by
  unfold partZ pcZ at h
  exact List.mem_of_mem_take (List.mem_of_mem_drop h)
theorem part_points {k q : Int} {m : Nat} {l : List Int} (h : SoundF k q m l) (i : Nat) : (partZ k m l i).map point = (partZ k m l i).map ptZ :=
  points_of fun x hx => small_right (h.small x (part_mem hx))
theorem Mem.put_put (m : Mem) (c : Nat) (x y : List PV) : (m.put c x).put c y = m.put c y := by
  funext b
  unfold Mem.put
  by_cases h : b = c <;> simp [h]
theorem ok45 (e : Bool) (l : List Int) (hl : l.length ≤ 100000) : Ok Tryz.prog 45 [.sl e (l.map num)] (.sl false (frs (l.map ptZ))) := by
  refine ok_fn mixed Tryz.func45 (code := ?_) (h := hM45) ?_ kM45 ?_
  rotate_left
  · exact rfl
  unfold hM45 initS
  simp -implicitDefEqProofs (maxSteps := 10000000) only [rkA, rkB, stepA, valA, simprocAttr, Tryz.ntmps45, Tryz.results45]
  refine wp_loop (fun m s => ∃ i : Nat, i + m = l.length ∧ s = ⟨[jk, jk, jk, .acc 3 (frs ((l.take i).map ptZ)), jk, jk, .v (.sl e (l.map num)), nt l.length, nt i, jk, jk, jk, jk, jk, jk, jk, jk, jk, jk, jk, jk], [], [], [(2, 0), (3, i)], [], 0, nomem⟩) l.length ?_ ?_
  · simp -implicitDefEqProofs (maxSteps := 10000000) only [List.length_map, rkA, rkB, stepA, valA, simprocAttr]
    exact ⟨0, by omega, rfl⟩
  rintro m s ⟨i, hi, rfl⟩
  simp -implicitDefEqProofs (maxSteps := 10000000) only [rkA, rkB, stepA, valA, simprocAttr]
  refine gB_dec ?_ ?_ <;> intro hc <;> simp -implicitDefEqProofs (maxSteps := 10000000) only [hc, rkA, rkB, stepA, valA, simprocAttr]
  · have hlt : i < l.length := by omega
    have h0 : (0 : Int) ≤ (i : Int) := by omega
    have hg : (l.map num)[i]? = some (num l[i]) := by simp [hlt]
    have hw := wrapped (x := (i : Int) + 1) (by omega) (by omega)
    have hfit : fits 4 32 (frs ((l.take i).map ptZ)) [frV (ptZ l[i])] = true := fits_frs (k := (l.take i).map ptZ) (l := [ptZ l[i]]) (by simp only [List.length_map, List.length_take, List.length_cons, List.length_nil]; omega)
    have hfit' : fits 4 32 (frs ((l.take i).map ptZ)) [.agg [num l[i], num l[i], num l[i], tru false]] = true := hfit
    have hl' : (frs ((l.take i).map ptZ)).length = i := by simp only [List.length_map, List.length_take]; omega
    simp -implicitDefEqProofs (maxSteps := 10000000) only [h0, Int.toNat_natCast, hg, hfit', hl', hw, rkA, rkB, stepA, valA, simprocAttr]
    refine loopK_of (m' := m - 1) (by omega) ?_
    simp -implicitDefEqProofs (maxSteps := 10000000) only [rkA, rkB, stepA, valA, simprocAttr]
    refine ⟨i + 1, by omega, ?_⟩
    rw [List.take_succ_eq_append_getElem hlt]
    simp only [List.map_append, List.map_cons, List.map_nil, ptZ, Int.natCast_add, Int.natCast_one]
  · have hil : i = l.length := by omega
    subst hil
    rw [List.take_length]
theorem oka45 (e : Bool) (l : List Int) (hl : l.length ≤ 100000) (hne : l ≠ []) : OkA Tryz.prog 45 [.sl e (l.map num)] (frs (l.map ptZ)) := by
  refine oka_fn mixed Tryz.func45 (code := ?_) (h := hM45) ?_ kM45 rfl (RFs_frs _) (by simpa using hne) ?_
  rotate_left
  · exact rfl
  unfold hM45 initS
  simp -implicitDefEqProofs (maxSteps := 10000000) only [rkA, rkB, stepA, valA, simprocAttr, Tryz.ntmps45, Tryz.results45]
  refine wp_loop (fun m s => ∃ i : Nat, i + m = l.length ∧ s = ⟨[jk, jk, jk, .acc 3 (frs ((l.take i).map ptZ)), jk, jk, .v (.sl e (l.map num)), nt l.length, nt i, jk, jk, jk, jk, jk, jk, jk, jk, jk, jk, jk, jk], [], [], [(2, 0), (3, i)], [], 0, nomem⟩) l.length ?_ ?_
  · simp -implicitDefEqProofs (maxSteps := 10000000) only [List.length_map, rkA, rkB, stepA, valA, simprocAttr]
    exact ⟨0, by omega, rfl⟩
  rintro m s ⟨i, hi, rfl⟩
  simp -implicitDefEqProofs (maxSteps := 10000000) only [rkA, rkB, stepA, valA, simprocAttr]
  refine gB_dec ?_ ?_ <;> intro hc <;> simp -implicitDefEqProofs (maxSteps := 10000000) only [hc, rkA, rkB, stepA, valA, simprocAttr]
  · have hlt : i < l.length := by omega
    have h0 : (0 : Int) ≤ (i : Int) := by omega
    have hg : (l.map num)[i]? = some (num l[i]) := by simp [hlt]
    have hw := wrapped (x := (i : Int) + 1) (by omega) (by omega)
    have hfit : fits 4 32 (frs ((l.take i).map ptZ)) [frV (ptZ l[i])] = true := fits_frs (k := (l.take i).map ptZ) (l := [ptZ l[i]]) (by simp only [List.length_map, List.length_take, List.length_cons, List.length_nil]; omega)
    have hfit' : fits 4 32 (frs ((l.take i).map ptZ)) [.agg [num l[i], num l[i], num l[i], tru false]] = true := hfit
    have hl' : (frs ((l.take i).map ptZ)).length = i := by simp only [List.length_map, List.length_take]; omega
    simp -implicitDefEqProofs (maxSteps := 10000000) only [h0, Int.toNat_natCast, hg, hfit', hl', hw, rkA, rkB, stepA, valA, simprocAttr]
    refine loopK_of (m' := m - 1) (by omega) ?_
    simp -implicitDefEqProofs (maxSteps := 10000000) only [rkA, rkB, stepA, valA, simprocAttr]
    refine ⟨i + 1, by omega, ?_⟩
    rw [List.take_succ_eq_append_getElem hlt]
    simp only [List.map_append, List.map_cons, List.map_nil, ptZ, Int.natCast_add, Int.natCast_one]
  · have hil : i = l.length := by omega
    subst hil
    rw [List.take_length]
    exact .inl ⟨3, rfl, by simp⟩
theorem at_injB {n i k a b : Nat} (hk : k < n) (hb : b < n) (h : i * n + k = a * n + b) : i = a ∧ k = b := by
  have e : ∀ i k : Nat, k < n → (i * n + k) / n = i := fun i k hk => by
    rw [Nat.mul_comm, Nat.mul_add_div (by omega), Nat.div_eq_of_lt hk, Nat.add_zero]
  have h1 := e i k hk
  rw [h, e a b hb] at h1
  subst h1
  exact ⟨rfl, by omega⟩
theorem grid_setB {g : Nat → Nat → Fr} {n N i k : Nat} {x : Fr} (hi : i < N) (hk : k < n) : (gridP g n N 0).set (i * n + k) x = gridP (setM g i k x) n N 0 := by
  have hlen := gridP_length g n N 0
  refine grid_of (by rw [List.length_set, hlen, Nat.add_zero]) fun a b ha hb => ?_
  rw [List.getElem?_set]
  by_cases e : i * n + k = a * n + b
  · obtain ⟨rfl, rfl⟩ := at_injB hk hb e
    have := at_table (i := i) (j := k) (n := N) (m := n) hi hk
    rw [if_pos e, if_pos (by omega)]
    simp [setM]
  · rw [if_neg e, gridP_get _ _ _ _ _ ha hb]
    have : ¬ (a = i ∧ b = k) := fun h => e (by rw [h.1, h.2])
    simp [setM, this]
def clrTo (M : Nat → Nat → Fr) (i k : Nat) : Nat → Nat → Fr := fun a c => if a < c ∧ (a < i ∨ (a = i ∧ c < k)) then fz else M a c
theorem clr_step {M : Nat → Nat → Fr} {i k : Nat} (h : i < k) : setM (clrTo M i k) i k fz = clrTo M i (k + 1) := by
  funext a c
  unfold setM clrTo
  by_cases e : a = i ∧ c = k
  · obtain ⟨rfl, rfl⟩ := e
    rw [if_pos ⟨rfl, rfl⟩, if_pos ⟨h, .inr ⟨rfl, by omega⟩⟩]
  · rw [if_neg e]
    by_cases h1 : a < c ∧ (a < i ∨ a = i ∧ c < k)
    · rw [if_pos h1, if_pos ⟨h1.1, by rcases h1.2 with h2 | h2 <;> omega⟩]
    · have h4 : ¬ (a < c ∧ (a < i ∨ a = i ∧ c < k + 1)) := by
        rintro ⟨h2, h3 | h3⟩
        · exact h1 ⟨h2, .inl h3⟩
        · have : c ≠ k := fun ec => e ⟨h3.1, ec⟩
          exact h1 ⟨h2, .inr ⟨h3.1, by omega⟩⟩
      rw [if_neg h1, if_neg h4]
theorem clr_row {M : Nat → Nat → Fr} {i n N : Nat} : gridP (clrTo M i n) n N 0 = gridP (clrTo M (i + 1) (i + 2)) n N 0 := by
  refine gridP_congr fun a c ha hc => ?_
  unfold clrTo
  by_cases h : a < c ∧ (a < i ∨ a = i ∧ c < n)
  · rw [if_pos h, if_pos ⟨h.1, by rcases h.2 with h | h <;> omega⟩]
  · rw [if_neg h, if_neg (fun h2 => h ⟨h2.1, by rcases h2.2 with h3 | h3 <;> omega⟩)]
theorem clr_end {n : Nat} (hn : 1 ≤ n ∧ n ≤ 16) {S : List Fr} (hS : S.length = n * n) : gridP (clrTo (startF n n S) n (n + 1)) n n 0 = clearF n S := by
  unfold clearF
  refine gridP_congr fun a c ha hc => ?_
  unfold clrTo clearG startF
  by_cases h : a < c
  · rw [if_pos ⟨h, .inl ha⟩, if_pos h]
    decide +kernel
  · rw [if_neg (fun h2 => h h2.1), if_neg h]
set_option maxHeartbeats 2000000 in
theorem ok6 (e : Bool) (k q n : Int) (l : List Int) : Ok Tryz.prog 6 [frmV e k q n l] (tru true) := by
  have hb0 : ((0 : Int) != 0) = false := by decide
  refine okz_fn mixed Tryz.func6 (code := ?_) (h := hZ6) ?_ kZ6 ?_
  rotate_left
  · exact rfl
  unfold hZ6 initS
  simp -implicitDefEqProofs (maxSteps := 10000000) only [tc_s, tc_h, thenT_normal, thenT_ret, thenT_exit, rkA, rkB, stepA, valA, simprocAttr, Tryz.ntmps6, Tryz.results6]
  simp -implicitDefEqProofs (maxSteps := 10000000) only [List.length_map, tc_s, tc_h, thenT_normal, thenT_ret, thenT_exit, rkA, rkB, stepA, valA, simprocAttr]
  refine gB_dec ?_ ?_ <;> intro h40 <;> simp -implicitDefEqProofs (maxSteps := 10000000) only [h40, tc_s, tc_h, thenT_normal, thenT_ret, thenT_exit, rkA, rkB, stepA, valA, simprocAttr]
  · refine call_fn rfl rfl rfl (ok39) ?_
    simp -implicitDefEqProofs (maxSteps := 10000000) only [tc_s, tc_h, thenT_normal, thenT_ret, thenT_exit, rkA, rkB, stepA, valA, simprocAttr]
  have hl : l.length ≤ 4398046511104 := by omega
  have h8 := ok41 e k q n l hl
  by_cases hs : soundZ k q n l = 0 ∧ k = 1
  · obtain ⟨hs, rfl⟩ := hs
    have hbeg := ok40 e q n l hs
    obtain ⟨m, rfl, hS⟩ := soundF hs
    rw [hs] at h8
    rw [Int.toNat_natCast] at hbeg
    have gB := begin_good hS
    have hp := ok44 e 1 q m l hl hS.right
    rw [Int.toNat_natCast] at hp
    have l0 := part0_len hS.m1 hS.len
    rw [if_neg (by decide)] at l0
    have l1 := part_len hS.m1 hS.len
    rw [if_neg (by decide)] at l1
    have g0 := part_get (k := 1) (m := m) (l := l) (i := 0) (by unfold endsZ; simp)
    have g1 := part_get (k := 1) (m := m) (l := l) (i := 1) (by unfold endsZ; simp)
    have hpl : ((partsZ 1 m l).map rowV).length = 2 := by
      unfold partsZ endsZ
      simp
    have hm1 := hS.m1
    have hm4 := hS.m4
    have hmm : m * m ≤ 4 * 4 := Nat.mul_le_mul hm4 hm4
    have hmp : 1 * 1 ≤ m * m := Nat.mul_le_mul hm1 hm1
    have b2 : ((((2 : Nat) : Int)) != 2) = false := by decide
    have c1 : ¬ (m : Int) < 1 := by omega
    have c4 : ¬ (m : Int) > 4 := by omega
    have b1 : ((1 : Int) != 1) = false := by decide
    have e0 := part_points hS 0
    have e1 := part_points hS 1
    have hne : partZ 1 m l 1 ≠ [] := by
      intro hh
      rw [hh] at l1
      simp at l1
      omega
    refine call_fn rfl rfl rfl (hbeg) ?_
    simp -implicitDefEqProofs (maxSteps := 10000000) only [tc_s, tc_h, thenT_normal, thenT_ret, thenT_exit, rkA, rkB, stepA, valA, simprocAttr]
    refine call_fn rfl rfl rfl (h8) ?_
    simp -implicitDefEqProofs (maxSteps := 10000000) only [hb0, b1, tc_s, tc_h, thenT_normal, thenT_ret, thenT_exit, rkA, rkB, stepA, valA, simprocAttr]
    refine call_fn rfl rfl rfl (hp) ?_
    simp -implicitDefEqProofs (maxSteps := 10000000) only [hpl, b2, c1, c4, g0, tc_s, tc_h, thenT_normal, thenT_ret, thenT_exit, rkA, rkB, stepA, valA, simprocAttr]
    refine call_fn rfl rfl rfl (ok45 _ (partZ 1 m l 0) (by omega)) ?_
    simp -implicitDefEqProofs (maxSteps := 10000000) only [g1, tc_s, tc_h, thenT_normal, thenT_ret, thenT_exit, rkA, rkB, stepA, valA, simprocAttr]
    refine rowA_fn rfl rfl (Tells.same _ _) (oka45 _ (partZ 1 m l 1) (by omega) hne) (RFs_frs _) ?_
    intro c cap z sz hc hnr hcap hu hlen
    clear hc hnr hu hlen
    have hBn : (beginP m l).n = m := rfl
    have hBx : (beginP m l).x = (partZ 1 m l 0).map ptZ := e0
    have hBy : (beginP m l).y = (partZ 1 m l 0).map ptZ := e0
    have hBs : (beginP m l).s = clearF m ((partZ 1 m l 1).map ptZ) := by rw [← e1]; rfl
    have hBp : (beginP m l).p = sqF m (clearF m ((partZ 1 m l 1).map ptZ)) := by rw [← e1]; rfl
    have lS : ((partZ 1 m l 1).map ptZ).length = m * m := by rw [List.length_map, l1]
    have lS' : (frs ((partZ 1 m l 1).map ptZ)).length = m * m := by rw [List.length_map, lS]
    rw [lS'] at hcap ⊢
    rw [← hBx]
    generalize (partZ 1 m l 1).map ptZ = S at *
    generalize beginP m l = B at *
    simp -implicitDefEqProofs (maxSteps := 10000000) only [tc_s, tc_h, thenT_normal, thenT_ret, thenT_exit, rkA, rkB, stepA, valA, simprocAttr]
    have hst : S = gridP (clrTo (startF m m S) 0 1) m m 0 := by
      refine grid_of (by rw [lS]) fun i j hi hj => ?_
      have ht := at_table (i := i) (j := j) (n := m) (m := m) hi hj
      have : clrTo (startF m m S) 0 1 i j = startF m m S i j := by
        unfold clrTo
        rw [if_neg (by omega)]
      rw [this, startF, atF_eq (right_nat ⟨hm1, by omega⟩ ⟨hm1, by omega⟩ lS) (by simpa using hi) (by simpa using hj), Int.toNat_natCast, List.getD_eq_getElem?_getD, List.getElem?_eq_getElem (by omega)]
      rfl
    generalize hM : startF m m S = M at *
    have lg : ∀ g : Nat → Nat → Fr, (gridP g m m 0).length = m * m := fun g => by rw [gridP_length, Nat.add_zero]
    refine wp_loop (fun m' s => ∃ i : Nat, i + m' = m ∧ s = ⟨[jk, .ptr 1 0, jk, .ptr 3 0, .v (tru true), jk, .v (.sl false (frs B.x)), .v (.s (.slice (some ⟨c, 0, none⟩) (m * m) cap)), jk, jk, jk, jk, jk, jk, jk, jk, jk, jk, jk, jk, jk, jk, jk, jk, jk, jk, jk, jk, jk, jk, jk, jk, jk, jk, jk, jk, jk, jk, jk, jk, jk, jk, jk, jk, jk, jk, jk, jk, jk, jk, jk, jk, jk, jk, jk, jk, jk, jk, jk, jk, jk, jk, jk, jk, jk, jk, .v (num m), nt i, jk, jk, jk, jk, jk, jk, jk, jk, jk, jk, jk, jk, jk, jk, jk, jk, jk, jk, jk, jk, jk, jk, jk, jk, jk, jk, jk, jk, jk, jk, jk, jk, jk, jk, jk, jk, jk, jk, jk, jk, jk, jk, jk, jk, jk, jk, jk, jk, jk, jk, jk, jk, jk, jk, jk, jk, jk, jk, jk],
      [(1, [.v (num 1), .v (num q), .v (num m), .v (.sl e (l.map num))]), (3, bxP false false false false B)], [], [(1003, 0), (4003, 0), (5003, 0), (8003, 0)], [], 0, nomem.put c (flat (frs (gridP (clrTo M i (i + 1)) m m 0)) ++ jnk z)⟩) m ?_ ?_
    · simp -implicitDefEqProofs (maxSteps := 10000000) only [tc_s, tc_h, thenT_normal, thenT_ret, thenT_exit, rkA, rkB, stepA, valA, simprocAttr]
      exact ⟨0, by omega, by rw [← hst]; rfl⟩
    rintro m' s ⟨i, him, rfl⟩
    simp -implicitDefEqProofs (maxSteps := 10000000) only [tc_s, tc_h, thenT_normal, thenT_ret, thenT_exit, rkA, rkB, stepA, valA, simprocAttr]
    refine gB_dec ?_ ?_ <;> intro hin <;> simp -implicitDefEqProofs (maxSteps := 10000000) only [hin, tc_s, tc_h, thenT_normal, thenT_ret, thenT_exit, rkA, rkB, stepA, valA, simprocAttr]
    · have hin' : i < m := by omega
      have hw1 := wrapped (x := (i : Int) + 1) (by omega) (by omega)
      simp -implicitDefEqProofs (maxSteps := 10000000) only [hw1, tc_s, tc_h, thenT_normal, thenT_ret, thenT_exit, rkA, rkB, stepA, valA, simprocAttr]
      have hi1 : (i : Int) + 1 = ((i + 1 : Nat) : Int) := by simp
      refine wp_loop (fun m'' s => ∃ k : Nat, i < k ∧ k + m'' = m ∧ s = ⟨[jk, .ptr 1 0, jk, .ptr 3 0, .v (tru true), jk, .v (.sl false (frs B.x)), .v (.s (.slice (some ⟨c, 0, none⟩) (m * m) cap)), nt i, nt k, jk, jk, jk, jk, jk, jk, jk, jk, jk, jk, jk, jk, jk, jk, jk, jk, jk, jk, jk, jk, jk, jk, jk, jk, jk, jk, jk, jk, jk, jk, jk, jk, jk, jk, jk, jk, jk, jk, jk, jk, jk, jk, jk, jk, jk, jk, jk, jk, jk, jk, jk, jk, jk, jk, jk, jk, .v (num m), nt i, jk, jk, jk, jk, jk, jk, jk, jk, jk, jk, jk, jk, jk, jk, jk, jk, jk, jk, jk, jk, jk, jk, jk, jk, jk, jk, jk, jk, jk, jk, jk, jk, jk, jk, jk, jk, jk, jk, jk, jk, jk, jk, jk, jk, jk, jk, jk, jk, jk, jk, jk, jk, jk, jk, jk, jk, jk, jk, jk],
        [(1, [.v (num 1), .v (num q), .v (num m), .v (.sl e (l.map num))]), (3, bxP false false false false B)], [], [(1003, 0), (4003, 0), (5003, 0), (8003, 0)], [], 0, nomem.put c (flat (frs (gridP (clrTo M i k) m m 0)) ++ jnk z)⟩) (m - (i + 1)) ?_ ?_
      · simp -implicitDefEqProofs (maxSteps := 10000000) only [tc_s, tc_h, thenT_normal, thenT_ret, thenT_exit, rkA, rkB, stepA, valA, simprocAttr]
        exact ⟨i + 1, by omega, by omega, by simp only [Int.natCast_add, Int.natCast_one]⟩
      rintro m'' s ⟨k, hik, hkm, rfl⟩
      simp -implicitDefEqProofs (maxSteps := 10000000) only [tc_s, tc_h, thenT_normal, thenT_ret, thenT_exit, rkA, rkB, stepA, valA, simprocAttr]
      refine gB_dec ?_ ?_ <;> intro hkn <;> simp -implicitDefEqProofs (maxSteps := 10000000) only [hkn, tc_s, tc_h, thenT_normal, thenT_ret, thenT_exit, rkA, rkB, stepA, valA, simprocAttr]
      · have hkn' : k < m := by omega
        have t0 := at_table (i := i) (j := k) (n := m) (m := m) hin' hkn'
        have d1 : (i : Int) * (m : Int) = ((i * m : Nat) : Int) := by simp
        have d2 : ((i * m : Nat) : Int) + (k : Int) = ((i * m + k : Nat) : Int) := by simp
        have w1 := wrapped (x := ((i * m : Nat) : Int)) (by omega) (by omega)
        have w2 := wrapped (x := ((i * m + k : Nat) : Int)) (by omega) (by omega)
        have n1 : (0 : Int) ≤ ((i * m + k : Nat) : Int) := by omega
        have n2 : ((i * m + k : Nat) : Int) < ((m * m : Nat) : Int) := by omega
        have hss := stM_frj (l := gridP (clrTo M i k) m m 0) (k := i * m + k) (x := fz) (post := jnk z) (by rw [lg]; omega)
        rw [grid_setB hin' hkn', clr_step hik] at hss
        have hss' : stM 4 ((i * m + k) * 4) (flat (frs (gridP (clrTo M i k) m m 0)) ++ jnk z) (.agg [num 0, num 0, num 0, tru false]) = some (flat (frs (gridP (clrTo M i (k + 1)) m m 0)) ++ jnk z) := hss
        have hwk := wrapped (x := (k : Int) + 1) (by omega) (by omega)
        simp -implicitDefEqProofs (maxSteps := 10000000) only [d1, w1, d2, w2, n1, n2, Int.toNat_natCast, addr_add, Nat.zero_add, Mem.put_same, hss', hwk, tc_s, tc_h, thenT_normal, thenT_ret, thenT_exit, rkA, rkB, stepA, valA, simprocAttr]
        refine loopK_of (m' := m'' - 1) (by omega) ?_
        simp -implicitDefEqProofs (maxSteps := 10000000) only [tc_s, tc_h, thenT_normal, thenT_ret, thenT_exit, rkA, rkB, stepA, valA, simprocAttr]
        refine ⟨k + 1, by omega, by omega, ?_⟩
        rw [Mem.put_put]
        simp only [Int.natCast_add, Int.natCast_one]
      · have hkm2 : k = m := by omega
        subst hkm2
        simp -implicitDefEqProofs (maxSteps := 10000000) only [hw1, tc_s, tc_h, thenT_normal, thenT_ret, thenT_exit, rkA, rkB, stepA, valA, simprocAttr]
        refine loopK_of (m' := m' - 1) (by omega) ?_
        simp -implicitDefEqProofs (maxSteps := 10000000) only [tc_s, tc_h, thenT_normal, thenT_ret, thenT_exit, rkA, rkB, stepA, valA, simprocAttr]
        refine ⟨i + 1, by omega, ?_⟩
        rw [clr_row]
        simp only [Int.natCast_add, Int.natCast_one]
    · have hie : i = m := by omega
      subst hie
      have hend := clr_end (n := i) (by omega) (S := S) lS
      rw [hM] at hend
      rw [hend, ← hBs]
      have lB : (frs B.s).length = i * i := by rw [List.length_map, gB.ls, hBn]
      have hrow : Tell (nomem.put c (flat (frs B.s) ++ jnk z)) (.s (.slice (some ⟨c, 0, none⟩) (i * i) cap)) (.sl false (frs B.s)) := by
        have := tell_row (l := B.s) (cap := cap) (Mem.put_same nomem c (flat (frs B.s) ++ jnk z)) (by omega)
        rwa [lB] at this
      refine tc_z1 7 _ (.sl false (frs B.s)) rfl hrow ?_
      have hyx : B.y = B.x := by rw [hBy, hBx]
      have hR2 : Ok Tryz.prog 46 [.sl false (frs B.y), .sl false (frs B.x)] (tru true) := by
        rw [hyx]
        exact ok46 false false B.x (by rw [gB.lx]; have := gB.n4; omega)
      have hpB : B.p = sqF i B.s := by rw [hBp, hBs]
      have lq : (sqF i B.s).length ≤ 256 := by
        rw [sqF_len]
        omega
      simp -implicitDefEqProofs (maxSteps := 10000000) only [tc_s, tc_h, thenT_normal, thenT_ret, thenT_exit, rkA, rkB, stepA, valA, simprocAttr]
      refine call_fn rfl rfl rfl (ok42 false false false false B gB) ?_
      simp -implicitDefEqProofs (maxSteps := 10000000) only [tc_s, tc_h, thenT_normal, thenT_ret, thenT_exit, rkA, rkB, stepA, valA, simprocAttr]
      refine call_fn rfl rfl rfl (ok46 false false B.x (by rw [gB.lx]; have := gB.n4; omega)) ?_
      simp -implicitDefEqProofs (maxSteps := 10000000) only [tc_s, tc_h, thenT_normal, thenT_ret, thenT_exit, rkA, rkB, stepA, valA, simprocAttr]
      refine call_fn rfl rfl rfl (hR2) ?_
      simp -implicitDefEqProofs (maxSteps := 10000000) only [tc_s, tc_h, thenT_normal, thenT_ret, thenT_exit, rkA, rkB, stepA, valA, simprocAttr]
      refine call_fn rfl rfl rfl (ok20 false false B.n B.n B.s (by rw [gB.ls, hBn]; omega)) ?_
      simp -implicitDefEqProofs (maxSteps := 10000000) only [tc_s, tc_h, thenT_normal, thenT_ret, thenT_exit, rkA, rkB, stepA, valA, simprocAttr]
      have h90 := ok47 false B.s i (by omega) (by rw [gB.ls, hBn])
      refine call_fn rfl rfl rfl (h90) ?_
      have h03 := ok20 false false B.n B.n B.p (by rw [gB.lp, hBn]; omega)
      rw [hpB] at h03 ⊢
      simp -implicitDefEqProofs (maxSteps := 10000000) only [tc_s, tc_h, thenT_normal, thenT_ret, thenT_exit, rkA, rkB, stepA, valA, simprocAttr]
      refine call_fn rfl rfl rfl (h03) ?_
      simp -implicitDefEqProofs (maxSteps := 10000000) only [tc_s, tc_h, thenT_normal, thenT_ret, thenT_exit, rkA, rkB, stepA, valA, simprocAttr]
      refine call_fn rfl rfl rfl (ok39) ?_
      simp -implicitDefEqProofs (maxSteps := 10000000) only [tc_s, tc_h, thenT_normal, thenT_ret, thenT_exit, rkA, rkB, stepA, valA, simprocAttr]
  · have hbad : soundZ k q n l ≠ 0 ∨ k ≠ 1 := by
      by_cases h0 : soundZ k q n l = 0
      · exact .inr fun e => hs ⟨h0, e⟩
      · exact .inl h0
    have hbeg := ok40_bad e k q n l hl hbad
    refine call_fn rfl rfl rfl (hbeg) ?_
    simp -implicitDefEqProofs (maxSteps := 10000000) only [tc_s, tc_h, thenT_normal, thenT_ret, thenT_exit, rkA, rkB, stepA, valA, simprocAttr]
    refine call_fn rfl rfl rfl (h8) ?_
    by_cases h0 : soundZ k q n l = 0
    · have hk1 : (k != 1) = true := by
        have : k ≠ 1 := fun e => hs ⟨h0, e⟩
        simpa using this
      rw [h0]
      simp -implicitDefEqProofs (maxSteps := 10000000) only [hb0, hk1, tc_s, tc_h, thenT_normal, thenT_ret, thenT_exit, rkA, rkB, stepA, valA, simprocAttr]
      refine call_fn rfl rfl rfl (ok42_nil) ?_
      simp -implicitDefEqProofs (maxSteps := 10000000) only [tc_s, tc_h, thenT_normal, thenT_ret, thenT_exit, rkA, rkB, stepA, valA, simprocAttr]
      refine call_fn rfl rfl rfl (ok43_nil) ?_
      simp -implicitDefEqProofs (maxSteps := 10000000) only [tc_s, tc_h, thenT_normal, thenT_ret, thenT_exit, rkA, rkB, stepA, valA, simprocAttr]
      refine call_fn rfl rfl rfl (ok39) ?_
      simp -implicitDefEqProofs (maxSteps := 10000000) only [tc_s, tc_h, thenT_normal, thenT_ret, thenT_exit, rkA, rkB, stepA, valA, simprocAttr]
    · have hb1 : (soundZ k q n l != 0) = true := by simpa using h0
      simp -implicitDefEqProofs (maxSteps := 10000000) only [hb1, tc_s, tc_h, thenT_normal, thenT_ret, thenT_exit, rkA, rkB, stepA, valA, simprocAttr]
      refine call_fn rfl rfl rfl (ok42_nil) ?_
      simp -implicitDefEqProofs (maxSteps := 10000000) only [tc_s, tc_h, thenT_normal, thenT_ret, thenT_exit, rkA, rkB, stepA, valA, simprocAttr]
      refine call_fn rfl rfl rfl (ok43_nil) ?_
      simp -implicitDefEqProofs (maxSteps := 10000000) only [tc_s, tc_h, thenT_normal, thenT_ret, thenT_exit, rkA, rkB, stepA, valA, simprocAttr]
      refine call_fn rfl rfl rfl (ok39) ?_
      simp -implicitDefEqProofs (maxSteps := 10000000) only [tc_s, tc_h, thenT_normal, thenT_ret, thenT_exit, rkA, rkB, stepA, valA, simprocAttr]
def frmSh : List CSh := [.int .i64, .int .i64, .int .i64, .sl false [.int .i64]]
theorem frm_fit {xs : List PV} (h : FitL frmSh xs) : ∃ (k q n : Int) (l : List Int), xs = [num k, num q, num n, .sl false (l.map num)] := by
  simp only [frmSh, FitL] at h
  obtain ⟨_, _, rfl, ⟨k, rfl, _⟩, _, _, rfl, ⟨q, rfl, _⟩, _, _, rfl, ⟨n, rfl, _⟩, _, _, rfl, hl, rfl⟩ := h
  obtain ⟨l, rfl, _⟩ := FitC.ints hl
  exact ⟨k, q, n, l, rfl⟩
theorem LanesBegin_ok {xs : List PV} (h : FitL frmSh xs) : Ok Tryz.prog 6 [.agg xs] (tru true) := by
  obtain ⟨k, q, n, l, rfl⟩ := frm_fit h
  exact ok6 false k q n l
end Go.Proofs.YtambpjbpdackfaaGreat.A.E


