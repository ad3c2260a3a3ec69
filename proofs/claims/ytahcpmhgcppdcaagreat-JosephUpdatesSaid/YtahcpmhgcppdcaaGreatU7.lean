import Derived.Test.YtahcpmhgcppdcaaGreatU6
set_option linter.unusedVariables false
set_option linter.unusedSimpArgs false
set_option maxRecDepth 100000
namespace Go.Proofs.YtahcpmhgcppdcaaGreat.A.E
open Go Go.RowKit Go.Shelf

/-! ### The law JosephUpdates -/
abbrev numSt : List CSh := [.int .i64, .int .i64, .int .i64, .bool]
set_option maxHeartbeats 2000000 in
theorem ok3 (ex ep eh : Bool) (x p h : List Fr) (r z : Fr) (n : Int) (lx : x.length ≤ 4398046511104) (lp : p.length ≤ 4398046511104) (lh : h.length ≤ 4398046511104) :
    Ok Tryz.prog 3 [.sl ex (frs x), .sl ep (frs p), .sl eh (frs h), frV r, frV z, num n] (tru true) := by
  have la : (frs x).length = x.length := by simp
  have lb : (frs h).length = h.length := by simp
  obtain ⟨a1, p1, i1, m1⟩ := made ep n p lp
  refine ok_fn mixed Tryz.func3 (code := ?_) (h := h3) ?_ k3 ?_
  rotate_left
  · exact rfl
  unfold h3 initS
  simp -implicitDefEqProofs (maxSteps := 10000000) only [rkA, rkB, stepA, valA, simprocAttr, Tryz.ntmps3, Tryz.results3]
  refine call_fn rfl rfl rfl (m1.new) ?_
  simp -implicitDefEqProofs (maxSteps := 10000000) only [m1.cell, rkA, rkB, stepA, valA, simprocAttr]
  by_cases good : (1 ≤ n ∧ n ≤ 4) ∧ (x.length : Int) = n ∧ (h.length : Int) = n ∧ i1 = true
  · obtain ⟨⟨n1, n2⟩, hx, hh, rfl⟩ := good
    obtain ⟨r1, e1, rfl⟩ := m1.ok rfl
    obtain ⟨N, hNn⟩ := Int.eq_ofNat_of_zero_le (show 0 ≤ n by omega)
    subst hNn
    subst e1
    have hN : 1 ≤ N ∧ N ≤ 4 := by omega
    have hN' : 1 ≤ N ∧ N ≤ 16 := by omega
    have b16 : N * N ≤ 16 := Nat.mul_le_mul hN.2 hN.2
    have cN : (N : Int) * (N : Int) = ((N * N : Nat) : Int) := by simp
    have hx' : x.length = N := by omega
    have hh' : h.length = N := by omega
    have hp' : p.length = N * N := by have := (right_spec r1).2.2.2.2; omega
    refine call_fn rfl rfl rfl (ok19 ex false eh N x p h r z hN hx' hp' hh') ?_
    have c1 : ¬ (N : Int) < 1 := by omega
    have c2 : ¬ (N : Int) > 4 := by omega
    have c3 : ((x.length : Int) != (N : Int)) = false := by simp [hx']
    have c4 : ((h.length : Int) != (N : Int)) = false := by simp [hh']
    simp -implicitDefEqProofs (maxSteps := 10000000) only [la, lb, c1, c2, c3, c4, rkA, rkB, stepA, valA, simprocAttr]
    refine call_fn rfl rfl rfl (ok23 ex x (by omega)) ?_
    simp -implicitDefEqProofs (maxSteps := 10000000) only [rkA, rkB, stepA, valA, simprocAttr]
    refine call_fn rfl rfl rfl (ok23 ep p (by omega)) ?_
    simp -implicitDefEqProofs (maxSteps := 10000000) only [rkA, rkB, stepA, valA, simprocAttr]
    refine call_fn rfl rfl rfl (ok23 eh h (by omega)) ?_
    simp -implicitDefEqProofs (maxSteps := 10000000) only [rkA, rkB, stepA, valA, simprocAttr]
    refine call_fn rfl rfl rfl (ok24 r) ?_
    simp -implicitDefEqProofs (maxSteps := 10000000) only [rkA, rkB, stepA, valA, simprocAttr]
    refine call_fn rfl rfl rfl (ok24 z) ?_
    simp -implicitDefEqProofs (maxSteps := 10000000) only [rkA, rkB, stepA, valA, simprocAttr]
    refine call_fn rfl rfl rfl (ok22 false false false N x p h r z hN hx' hp' hh') ?_
    simp -implicitDefEqProofs (maxSteps := 10000000) only [rkA, rkB, stepA, valA, simprocAttr]
    have lt : (upP N p h r).length = N * N := turnedF_len _ _ _ _
    have ly : (upX N x p h r z).length = N := by
      unfold upX
      rw [List.length_zipWith, List.length_map, kF_len, hx', Nat.min_self]
    have h7 := ok20 false false (upX N x p h r z) (upP N p h r) N N
    rw [stRight_nat lt, ly, decide_eq_true (show 1 ≤ N ∧ N ≤ 4 ∧ N = N by omega)] at h7
    refine call_fn rfl rfl rfl (h7) ?_
    simp -implicitDefEqProofs (maxSteps := 10000000) only [rkA, rkB, stepA, valA, simprocAttr]
    refine call_fn rfl rfl rfl (ok25 false false (upX N x p h r z) (by omega)) ?_
    simp -implicitDefEqProofs (maxSteps := 10000000) only [rkA, rkB, stepA, valA, simprocAttr]
    refine call_fn rfl rfl rfl (ok26 false false N N (upP N p h r) (by omega)) ?_
    simp -implicitDefEqProofs (maxSteps := 10000000) only [rkA, rkB, stepA, valA, simprocAttr]
    refine call_fn rfl rfl rfl (ok24 (surpriseF x h z)) ?_
    have g1 := eq_frE (surpriseF x h z) (surpriseF x h z)
    have g2 := eq_frE (spreadF N p h r) (spreadF N p h r)
    rw [decide_eq_true rfl] at g1 g2
    simp -implicitDefEqProofs (maxSteps := 10000000) only [g1, rkA, rkB, stepA, valA, simprocAttr]
    refine call_fn rfl rfl rfl (ok24 (spreadF N p h r)) ?_
    simp -implicitDefEqProofs (maxSteps := 10000000) only [g2, rkA, rkB, stepA, valA, simprocAttr]
    refine call_fn rfl rfl rfl (ok21) ?_
    simp -implicitDefEqProofs (maxSteps := 10000000) only [rkA, rkB, stepA, valA, simprocAttr]
  · obtain ⟨bs, hs, hs'⟩ := m1.st ex x
    have hbad : bs = false ∨ h.length ≠ x.length := by
      cases bs with
      | false => exact .inl rfl
      | true =>
        obtain ⟨e1, e2, e3, e4⟩ := hs' rfl
        exact .inr fun e => good ⟨⟨e2, e3⟩, e4, by omega, e1⟩
    have hu := ok19_gen (.sl ex (frs x)) p1 eh h ex x a1 a1 r z bs rfl hs hbad m1.cell
    refine call_fn rfl rfl rfl (hu) ?_
    simp -implicitDefEqProofs (maxSteps := 10000000) only [la, rkA, rkB, stepA, valA, simprocAttr]
    by_cases c1 : n < 1
    · simp -implicitDefEqProofs (maxSteps := 10000000) only [c1, rkA, rkB, stepA, valA, simprocAttr]
      refine call_fn rfl rfl rfl (ok20_nil) ?_
      simp -implicitDefEqProofs (maxSteps := 10000000) only [rkA, rkB, stepA, valA, simprocAttr]
      refine call_fn rfl rfl rfl (ok21) ?_
      simp -implicitDefEqProofs (maxSteps := 10000000) only [rkA, rkB, stepA, valA, simprocAttr]
    · by_cases c2 : n > 4
      · simp -implicitDefEqProofs (maxSteps := 10000000) only [c1, c2, rkA, rkB, stepA, valA, simprocAttr]
        refine call_fn rfl rfl rfl (ok20_nil) ?_
        simp -implicitDefEqProofs (maxSteps := 10000000) only [rkA, rkB, stepA, valA, simprocAttr]
        refine call_fn rfl rfl rfl (ok21) ?_
        simp -implicitDefEqProofs (maxSteps := 10000000) only [rkA, rkB, stepA, valA, simprocAttr]
      · by_cases c3 : (x.length : Int) = n
        · have c3' : ((x.length : Int) != n) = false := by simp [c3]
          by_cases c4 : (h.length : Int) = n
          · have c4' : ((h.length : Int) != n) = false := by simp [c4]
            cases i1 with
            | false =>
              simp -implicitDefEqProofs (maxSteps := 10000000) only [la, lb, c1, c2, c3', c4', rkA, rkB, stepA, valA, simprocAttr]
              refine call_fn rfl rfl rfl (ok20_nil) ?_
              simp -implicitDefEqProofs (maxSteps := 10000000) only [rkA, rkB, stepA, valA, simprocAttr]
              refine call_fn rfl rfl rfl (ok21) ?_
              simp -implicitDefEqProofs (maxSteps := 10000000) only [rkA, rkB, stepA, valA, simprocAttr]
            | true => exact absurd ⟨⟨by omega, by omega⟩, c3, c4, rfl⟩ good
          · have c4' : ((h.length : Int) != n) = true := by simp [c4]
            simp -implicitDefEqProofs (maxSteps := 10000000) only [la, lb, c1, c2, c3', c4', rkA, rkB, stepA, valA, simprocAttr]
            refine call_fn rfl rfl rfl (ok20_nil) ?_
            simp -implicitDefEqProofs (maxSteps := 10000000) only [rkA, rkB, stepA, valA, simprocAttr]
            refine call_fn rfl rfl rfl (ok21) ?_
            simp -implicitDefEqProofs (maxSteps := 10000000) only [rkA, rkB, stepA, valA, simprocAttr]
        · have c3' : ((x.length : Int) != n) = true := by simp [c3]
          simp -implicitDefEqProofs (maxSteps := 10000000) only [la, lb, c1, c2, c3', rkA, rkB, stepA, valA, simprocAttr]
          refine call_fn rfl rfl rfl (ok20_nil) ?_
          simp -implicitDefEqProofs (maxSteps := 10000000) only [rkA, rkB, stepA, valA, simprocAttr]
          refine call_fn rfl rfl rfl (ok21) ?_
          simp -implicitDefEqProofs (maxSteps := 10000000) only [rkA, rkB, stepA, valA, simprocAttr]
theorem num_of {xs : List PV} (h : FitL numSt xs) : ∃ x : Fr, PV.agg xs = frV x := by
  simp only [FitC, FitL] at h
  obtain ⟨y1, ys, rfl, ⟨n1, rfl, _⟩, y2, ys, rfl, ⟨n2, rfl, _⟩, y3, ys, rfl, ⟨n3, rfl, _⟩, y4, ys, rfl, ⟨b, rfl⟩, rfl⟩ := h
  exact ⟨⟨n1, n2, n3, b⟩, rfl⟩
theorem JosephUpdates_ok {x p h : PV} {rs zs : List PV} (hx : FitC numSh x) (bx : ∀ ex els, x = .sl ex els → els.length * 32 ≤ 140737488351232) (hp : FitC numSh p) (bp : ∀ ex els, p = .sl ex els → els.length * 32 ≤ 140737488351232)
    (hh : FitC numSh h) (bh : ∀ ex els, h = .sl ex els → els.length * 32 ≤ 140737488351232) (hr : FitL numSt rs) (hz : FitL numSt zs) (n : Int) : Ok Tryz.prog 3 [x, p, h, .agg rs, .agg zs, num n] (tru true) := by
  obtain ⟨x, rfl, lx⟩ := nums_of hx bx
  obtain ⟨p, rfl, lp⟩ := nums_of hp bp
  obtain ⟨h, rfl, lh⟩ := nums_of hh bh
  obtain ⟨r, hr⟩ := num_of hr
  obtain ⟨z, hz⟩ := num_of hz
  rw [hr, hz]
  exact ok3 false false false x p h r z n lx lp lh
end Go.Proofs.YtahcpmhgcppdcaaGreat.A.E


