import Derived.Test.YtbflmeomkfjikaaM3
set_option linter.unusedVariables false
set_option linter.unusedSimpArgs false
set_option maxRecDepth 100000
namespace Go.Proofs.Ytbflmeomkfjikaa.A
open Go Go.RowKit Go.Shelf

theorem methAdd : Meth Try.prog 31 "Add" 81 := by
  intro v xs w
  rfl
theorem methMul : Meth Try.prog 31 "Mul" 83 := by
  intro v xs w
  rfl

def sumF (l : List Fr) : Fr := l.foldl addF (newF 0 1)

theorem ok45 (ex : Bool) (l : List Fr) (h : l.length ≤ 5864062014805) : Ok Try.prog 45 [.sl ex (frs l)] (frV (sumF l)) := by
  refine ok_fn mixed Try.func45 (code := ?_) (h := h45) ?_ k45 ?_
  rotate_left
  · exact rfl
  unfold h45 initS
  simp -implicitDefEqProofs only [rkA, rkB, stepA, valA, simprocAttr, Try.ntmps45, Try.results45]
  refine call_meth rfl rfl methOf (ok85 ⟨0, 0, false⟩ 0) ?_
  simp -implicitDefEqProofs only [rkA, rkB, stepA, valA, simprocAttr]
  refine wp_loop (fun m s => ∃ i, i + m = l.length ∧ s = ⟨[jk, jk, .ptr 2 0, jk, .ptr 4 0, jk, jk, jk, jk, jk, .v (.sl ex (frs l)), nt l.length, nt i, jk, jk, jk, jk, jk, jk, jk, jk, jk],
    [(2, [nt 0, nt 0, .v (tru false)]), (3, [nt 0, nt 0, .v (tru false)]), (4, [nt (sumF (l.take i)).n, nt (sumF (l.take i)).d, .v (tru (sumF (l.take i)).bad)])], [], [], [], 0, nomem⟩) l.length ?_ ?_
  · simp -implicitDefEqProofs only [rkA, rkB, stepA, valA, simprocAttr]
    refine ⟨0, by simp, ?_⟩
    simp [sumF]
  rintro m s ⟨i, hi, rfl⟩
  simp -implicitDefEqProofs only [rkA, rkB, stepA, valA, simprocAttr]
  refine gB_dec ?_ ?_ <;> intro hc <;> simp -implicitDefEqProofs only [hc, rkA, rkB, stepA, valA, simprocAttr]
  · have hlt : i < l.length := by omega
    have h0 : (0 : Int) ≤ (i : Int) := by omega
    have hg : (frs l)[i]? = some (frV l[i]) := by simp [hlt]
    simp -implicitDefEqProofs only [h0, Int.toNat_natCast, hg, rkA, rkB, stepA, valA, simprocAttr]
    refine call_meth rfl rfl methAdd (ok81 (sumF (l.take i)) l[i]) ?_
    have hw := wrapped (x := (i : Int) + 1) (by omega) (by omega)
    simp -implicitDefEqProofs only [hw, rkA, rkB, stepA, valA, simprocAttr]
    refine loopK_of (m' := m - 1) (by omega) ?_
    simp -implicitDefEqProofs only [rkA, rkB, stepA, valA, simprocAttr]
    refine ⟨i + 1, by omega, ?_⟩
    have e : sumF (l.take (i + 1)) = addF (sumF (l.take i)) l[i] := by
      unfold sumF
      rw [List.take_succ_eq_append_getElem hlt, List.foldl_append]
      rfl
    rw [e]
    simp only [Int.natCast_add, Int.natCast_one]
  · have : l.length ≤ i := by omega
    rw [List.take_of_length_le this]

theorem ok47 (a b : Fr) : Ok Try.prog 47 [frV a, frV b] (frV (mulF a b)) := by
  refine ok_fn mixed Try.func47 (code := ?_) (h := h47) ?_ k47 ?_
  rotate_left
  · exact rfl
  unfold h47 initS
  simp -implicitDefEqProofs only [rkA, rkB, stepA, valA, simprocAttr, Try.ntmps47, Try.results47]
  refine call_meth rfl rfl methMul (ok83 a b) ?_
  simp -implicitDefEqProofs only [rkA, rkB, stepA, valA, simprocAttr]

theorem sl_frs {ex : Bool} {l : List Fr} {a b : Nat} (h1 : a ≤ b) (h2 : b ≤ l.length) : sliceA 3 (frs l) ex (some a) (some b) none = some (.sl (exA none ex b (frs l).length) (frs ((l.take b).drop a))) := by
  unfold sliceA
  simp only [Option.getD_some]
  rw [if_pos ⟨h1, by simpa using h2, by simp, by simp [PV.cells]⟩]
  simp

/-- A row. -/
def rowF (r c : Int) (l : List Fr) (i : Int) : List Fr := if right r c l.length = true ∧ 0 ≤ i ∧ i < r then (l.take ((i + 1) * c).toNat).drop (i * c).toNat else []

theorem ok18 (ex : Bool) (r c i : Int) (l : List Fr) : Ok Try.prog 18 [matV ex r c (frs l), num i] (.sl false (frs (rowF r c l i))) := by
  refine ok_fn mixed Try.func18 (code := ?_) (h := h18) ?_ k18 ?_
  rotate_left
  · exact rfl
  unfold h18 initS
  simp -implicitDefEqProofs only [rkA, rkB, stepA, valA, simprocAttr, Try.ntmps18, Try.results18]
  refine call_fn rfl rfl rfl (ok44 ex r c (frs l)) ?_
  have e : (frs l).length = l.length := by simp
  rw [e]
  cases hr : right r c l.length with
  | false =>
    simp -implicitDefEqProofs only [rkA, rkB, stepA, valA, simprocAttr]
    simp [rowF, hr]
  | true =>
    obtain ⟨r1, r2, c1, c2, hn⟩ := right_spec hr
    simp -implicitDefEqProofs only [rkA, rkB, stepA, valA, simprocAttr]
    repeat' (refine gB_dec ?_ ?_ <;> intro hc <;> first | (exfalso; omega) | simp -implicitDefEqProofs only [hc, rkA, rkB, stepA, valA, simprocAttr])
    · rw [show rowF r c l i = [] from if_neg (fun ⟨_, _, _⟩ => by omega)]; rfl
    · rw [show rowF r c l i = [] from if_neg (fun ⟨_, _, _⟩ => by omega)]; rfl
    · obtain ⟨b1, b2, b3, b4, b5⟩ := at_bound (i := i) (k := 0) r2 ⟨c1, c2⟩ (by omega) (by omega)
      have b6 : (i + 1) * c = i * c + c := by rw [Int.add_mul, Int.one_mul]
      have b7 : (i + 1) * c ≤ r * c := Int.mul_le_mul_of_nonneg_right (by omega) (by omega)
      have w1 := wrapped (x := i * c) (by omega) (by omega)
      have w2 := wrapped (x := i + 1) (by omega) (by omega)
      have w3 := wrapped (x := (i + 1) * c) (by omega) (by omega)
      have h3 : 0 ≤ (i + 1) * c := by omega
      have hs := sl_frs (ex := ex) (l := l) (a := (i * c).toNat) (b := ((i + 1) * c).toNat) (by omega) (by omega)
      have hrow : rowF r c l i = (l.take ((i + 1) * c).toNat).drop (i * c).toNat := if_pos ⟨hr, by omega, by omega⟩
      rw [hrow]
      simp -implicitDefEqProofs only [w1, w2, w3, b1, h3, hs, rkA, rkB, stepA, valA, simprocAttr]
      refine call_fn rfl rfl rfl (ok48 _ _ (by simp; omega)) ?_
      simp -implicitDefEqProofs only [rkA, rkB, stepA, valA, simprocAttr]
end Go.Proofs.Ytbflmeomkfjikaa.A


set_option linter.unusedVariables false
set_option linter.unusedSimpArgs false
set_option maxRecDepth 100000
namespace Go.Proofs.Ytbflmeomkfjikaa.A
open Go Go.RowKit Go.Shelf

def rowsF (r c : Int) (l : List Fr) : List (List PV) := if right r c l.length = true then (List.range r.toNat).map fun (i : Nat) => [num (i : Int), .sl false (frs (rowF r c l (i : Int)))] else []

theorem it54 (ex : Bool) (r c : Int) (l : List Fr) : IterOk Try.prog (.fn (.func 54) [.vp [num r, num c, .sl ex (frs l)]]) (rowsF r c l) := by
  refine iter_fn mixed Try.func54 (code := ?_) (h := h54) ?_ k54 ?_ ?_
  rotate_left
  · exact rfl
  · exact rfl
  intro yl
  unfold h54 initS
  simp -implicitDefEqProofs only [rkA, rkB, stepA, valA, simprocAttr, Try.ntmps54]
  refine wp_loop (fun m s => ∃ i : Nat, i + m = (rowsF r c l).length ∧ s = ⟨[.v (.fn (.yield yl) []), .v (.vp [num r, num c, .sl ex (frs l)]), jk, nt i, jk, jk, jk, jk, jk, jk, jk, jk, jk, jk, jk, jk, jk, jk, jk, jk, jk], [], [], [], [], i, nomem⟩) (rowsF r c l).length ?_ ?_
  · simp -implicitDefEqProofs only [rkA, rkB, stepA, valA, simprocAttr]
    exact ⟨0, by simp, rfl⟩
  rintro m s ⟨i, hi, rfl⟩
  simp -implicitDefEqProofs only [rkA, rkB, stepA, valA, simprocAttr]
  refine call_fn rfl rfl rfl (ok44 ex r c (frs l)) ?_
  have e : (frs l).length = l.length := by simp
  rw [e]
  cases hr : right r c l.length with
  | false =>
    simp -implicitDefEqProofs only [rkA, rkB, stepA, valA, simprocAttr]
    have hl : (rowsF r c l).length = 0 := by simp [rowsF, hr]
    omega
  | true =>
    obtain ⟨r1, r2, c1, c2, hn⟩ := right_spec hr
    have hl : (rowsF r c l).length = r.toNat := by simp [rowsF, hr]
    simp -implicitDefEqProofs only [rkA, rkB, stepA, valA, simprocAttr]
    refine gB_dec ?_ ?_ <;> intro hc <;> simp -implicitDefEqProofs only [hc, rkA, rkB, stepA, valA, simprocAttr]
    · refine call_fn rfl rfl rfl (ok18 ex r c i l) ?_
      simp -implicitDefEqProofs only [rkA, rkB, stepA, valA, simprocAttr]
      have hx : (rowsF r c l)[i]? = some [num (i : Int), .sl false (frs (rowF r c l i))] := by
        have : i < r.toNat := by omega
        simp [rowsF, hr, this]
      have hw := wrapped (x := (i : Int) + 1) (by omega) (by omega)
      refine call_yield rfl rfl rfl rfl rfl hx ?_ ?_
      · simp -implicitDefEqProofs only [hw, rkA, rkB, stepA, valA, simprocAttr]
        refine loopK_of (m' := m - 1) (by omega) ?_
        simp -implicitDefEqProofs only [rkA, rkB, stepA, valA, simprocAttr]
        exact ⟨i + 1, by omega, by simp only [Int.natCast_add, Int.natCast_one]⟩
      · simp -implicitDefEqProofs only [rkA, rkB, stepA, valA, simprocAttr]
        exact .inr trivial
    · omega

theorem ok41 (ex : Bool) (r c : Int) (l : List Fr) : Ok Try.prog 41 [matV ex r c (frs l)] (.fn (.func 54) [.vp [num r, num c, .sl ex (frs l)]]) := by
  refine ok_fn mixed Try.func41 (code := ?_) (h := h41) ?_ k41 ?_
  rotate_left
  · exact rfl
  unfold h41 initS
  simp -implicitDefEqProofs only [rkA, rkB, stepA, valA, simprocAttr, Try.ntmps41, Try.results41]

/-! ### Pairs -/
def pairsF (a b : List Fr) : List (List PV) := (List.zip a b).map fun p => [frV p.1, frV p.2]

theorem it59 (ea eb : Bool) (a b : List Fr) (ha : a.length ≤ 5864062014805) (hb : b.length ≤ 5864062014805) : IterOk Try.prog (.fn (.func 59) [.vp [.sl ea (frs a)], .vp [.sl eb (frs b)]]) (pairsF a b) := by
  refine iter_fn mixed Try.func59 (code := ?_) (h := h59) ?_ k59 ?_ ?_
  rotate_left
  · exact rfl
  · exact rfl
  intro yl
  unfold h59 initS
  simp -implicitDefEqProofs only [rkA, rkB, stepA, valA, simprocAttr, Try.ntmps59]
  have hl : (pairsF a b).length = min a.length b.length := by simp [pairsF]
  have hx0 : ∀ (i : Nat) (ha : i < a.length) (hb : i < b.length), (pairsF a b)[i]? = some [frV a[i], frV b[i]] := fun i h1 h2 => by
    rw [pairsF, List.getElem?_map, List.getElem?_eq_getElem (by simp; omega), Option.map_some, List.getElem_zip]
  have hmin : (if ((frs b).length : Int) < ((frs a).length : Int) then ((frs b).length : Int) else ((frs a).length : Int)) = ((min a.length b.length : Nat) : Int) := by
    simp only [List.length_map]
    split <;> omega
  simp only [hmin]
  refine wp_loop (fun m s => ∃ i : Nat, i + m = (pairsF a b).length ∧ s = ⟨[.v (.fn (.yield yl) []), .v (.vp [.sl ea (frs a)]), .v (.vp [.sl eb (frs b)]), jk, jk, jk, jk, jk, jk, nt ((min a.length b.length : Nat) : Int), nt i, jk, jk, jk, jk, jk, jk, jk, jk, jk, jk, jk, jk, jk, jk], [], [], [], [], i, nomem⟩) (pairsF a b).length ?_ ?_
  · simp -implicitDefEqProofs only [rkA, rkB, stepA, valA, simprocAttr]
    exact ⟨0, by simp, rfl⟩
  rintro m s ⟨i, hi, rfl⟩
  simp -implicitDefEqProofs only [rkA, rkB, stepA, valA, simprocAttr]
  refine gB_dec ?_ ?_ <;> intro hc <;> simp -implicitDefEqProofs only [hc, rkA, rkB, stepA, valA, simprocAttr]
  · have h1 : i < a.length := by omega
    have h2 : i < b.length := by omega
    have h0 : (0 : Int) ≤ (i : Int) := by omega
    have g1 : (frs a)[i]? = some (frV a[i]) := by simp [h1]
    have g2 : (frs b)[i]? = some (frV b[i]) := by simp [h2]
    simp -implicitDefEqProofs only [h0, Int.toNat_natCast, g1, g2, rkA, rkB, stepA, valA, simprocAttr]
    have hw := wrapped (x := (i : Int) + 1) (by omega) (by omega)
    refine call_yield rfl rfl rfl rfl rfl (hx0 i h1 h2) ?_ ?_
    · simp -implicitDefEqProofs only [hw, rkA, rkB, stepA, valA, simprocAttr]
      refine loopK_of (m' := m - 1) (by omega) ?_
      simp -implicitDefEqProofs only [rkA, rkB, stepA, valA, simprocAttr]
      exact ⟨i + 1, by omega, by simp only [Int.natCast_add, Int.natCast_one]⟩
    · simp -implicitDefEqProofs only [rkA, rkB, stepA, valA, simprocAttr]
      exact .inr trivial
  · omega

theorem ok56 (ea eb : Bool) (a b : List Fr) : Ok Try.prog 56 [.sl ea (frs a), .sl eb (frs b)] (.fn (.func 59) [.vp [.sl ea (frs a)], .vp [.sl eb (frs b)]]) := by
  refine ok_fn mixed Try.func56 (code := ?_) (h := h56) ?_ k56 ?_
  rotate_left
  · exact rfl
  unfold h56 initS
  simp -implicitDefEqProofs only [rkA, rkB, stepA, valA, simprocAttr, Try.ntmps56, Try.results56]
end Go.Proofs.Ytbflmeomkfjikaa.A


set_option linter.unusedVariables false
set_option linter.unusedSimpArgs false
set_option maxRecDepth 100000
namespace Go.Proofs.Ytbflmeomkfjikaa.A
open Go Go.RowKit Go.Shelf

theorem ok46 (k : Nat) (F : Fr → Fr → Fr) (hF : ∀ x y, Ok Try.prog k [frV x, frV y] (frV (F x y))) (ea eb : Bool) (a b : List Fr) (ha : a.length ≤ 5864062014805) (hb : b.length ≤ 5864062014805) :
    Ok Try.prog 46 [.sl ea (frs a), .sl eb (frs b), .fn (.func k) []] (.sl false (frs (List.zipWith F a b))) := by
  refine ok_fn mixed Try.func46 (code := ?_) (h := h46) ?_ k46 ?_
  rotate_left
  · exact rfl
  unfold h46 initS
  simp -implicitDefEqProofs only [rkA, rkB, stepA, valA, simprocAttr, Try.ntmps46, Try.results46]
  refine call_fn rfl rfl rfl (ok56 ea eb a b) ?_
  simp -implicitDefEqProofs only [rkA, rkB, stepA, valA, simprocAttr]
  have hlz : (List.zipWith F a b).length = min a.length b.length := by simp
  have hpl : (pairsF a b).length = min a.length b.length := by simp [pairsF]
  refine wp_rf (items := pairsF a b) rfl (it59 ea eb a b ha hb) (fun i s => i ≤ (pairsF a b).length ∧ s = ⟨[], [(5, [.v (.fn (.func k) [])]), (7, [.acc 1007 (frs ((List.zipWith F a b).take i))])], [], [(6, 0), (1007, i)],
    [[.v (.sl ea (frs a)), .v (.sl eb (frs b)), .v (.fn (.func k) []), jk, jk, .ptr 5 0, .acc 6 [], .ptr 7 0, jk, jk, .v (.sl ea (frs a)), .v (.sl eb (frs b)), .v (.fn (.func 59) [.vp [.sl ea (frs a)], .vp [.sl eb (frs b)]]), jk, jk, jk, jk, jk, jk, jk, jk, jk, jk]], 0, nomem⟩) ?_ ?_ ?_
  · simp -implicitDefEqProofs only [rkA, rkB, stepA, valA, simprocAttr]
    exact Nat.zero_le _
  · rintro i x' s' R hx ⟨hi, rfl⟩ hR
    have hlt : i < (pairsF a b).length := (List.getElem?_eq_some_iff.1 hx).1
    have h1 : i < a.length := by omega
    have h2 : i < b.length := by omega
    have hx' : x' = [frV a[i], frV b[i]] := by
      rw [pairsF, List.getElem?_map, List.getElem?_eq_getElem (by simp; omega), Option.map_some, List.getElem_zip] at hx
      exact (Option.some.inj hx).symm
    subst hx'
    refine ⟨rfl, ?_⟩
    simp -implicitDefEqProofs only [rkA, rkB, stepA, valA, simprocAttr]
    refine call_fn rfl rfl rfl (hF a[i] b[i]) ?_
    have hfit : fits 3 24 (frs ((List.zipWith F a b).take i)) [frV (F a[i] b[i])] = true := fits_frs (l := [F a[i] b[i]]) (by simp; omega)
    have hl : (frs ((List.zipWith F a b).take i)).length = i := by simp; omega
    simp -implicitDefEqProofs only [hfit, hl, rkA, rkB, stepA, valA, simprocAttr]
    refine hR _ ⟨by omega, ?_⟩
    rw [List.take_succ_eq_append_getElem (by simp; omega)]
    simp only [frs, List.map_append, List.map_cons, List.map_nil, List.getElem_zipWith]
  · rintro s' ⟨hi, rfl⟩
    simp -implicitDefEqProofs only [rkA, rkB, stepA, valA, simprocAttr]
    rw [List.take_of_length_le (by simp; omega)]

def dotF (a b : List Fr) : Fr := sumF (List.zipWith mulF a b)

theorem ok17 (ea eb : Bool) (a b : List Fr) (ha : a.length ≤ 5864062014805) (hb : b.length ≤ 5864062014805) : Ok Try.prog 17 [.sl ea (frs a), .sl eb (frs b)] (frV (dotF a b)) := by
  refine ok_fn mixed Try.func17 (code := ?_) (h := h17) ?_ k17 ?_
  rotate_left
  · exact rfl
  unfold h17 initS
  simp -implicitDefEqProofs only [rkA, rkB, stepA, valA, simprocAttr, Try.ntmps17, Try.results17]
  refine call_fn rfl rfl rfl (ok46 47 mulF ok47 ea eb a b ha hb) ?_
  simp -implicitDefEqProofs only [rkA, rkB, stepA, valA, simprocAttr]
  refine call_fn rfl rfl rfl (ok45 false (List.zipWith mulF a b) (by simp; omega)) ?_
  simp -implicitDefEqProofs only [rkA, rkB, stepA, valA, simprocAttr, dotF]

/-- A matrix, turned. -/
def turnF (r c : Int) (l : List Fr) : List Fr := if right r c l.length = true then (List.range c.toNat).flatMap fun (k : Nat) => (List.range r.toNat).map fun (i : Nat) => atF r c l i k else []

/-- Of a turned matrix, what is told so far. -/
def turnP (r c : Int) (l : List Fr) (k i : Nat) : List Fr := (List.range k).flatMap (fun (k : Nat) => (List.range r.toNat).map fun (i : Nat) => atF r c l i k) ++ (List.range i).map fun (i : Nat) => atF r c l i k
theorem turnP_succ (r c : Int) (l : List Fr) (k i : Nat) : turnP r c l k (i + 1) = turnP r c l k i ++ [atF r c l i k] := by
  simp [turnP, List.range_succ]
theorem turnP_next (r c : Int) (l : List Fr) (k : Nat) : turnP r c l k r.toNat = turnP r c l (k + 1) 0 := by
  simp [turnP, List.range_succ]
theorem turnP_length (r c : Int) (l : List Fr) (k i : Nat) : (turnP r c l k i).length = k * r.toNat + i := by
  simp [turnP, List.length_flatMap, List.map_const', List.sum_replicate_nat]

theorem ok20 (ex : Bool) (r c : Int) (l : List Fr) : Ok Try.prog 20 [matV ex r c (frs l)] (if right r c l.length = true then matV false c r (frs (turnF r c l)) else matNil) := by
  refine ok_fn mixed Try.func20 (code := ?_) (h := h20) ?_ k20 ?_
  rotate_left
  · exact rfl
  unfold h20 initS
  simp -implicitDefEqProofs only [rkA, rkB, stepA, valA, simprocAttr, Try.ntmps20, Try.results20]
  refine call_fn rfl rfl rfl (ok44 ex r c (frs l)) ?_
  have e : (frs l).length = l.length := by simp
  rw [e]
  cases hr : right r c l.length with
  | false => simp -implicitDefEqProofs only [rkA, rkB, stepA, valA, simprocAttr]
  | true =>
    obtain ⟨r1, r2, c1, c2, hn⟩ := right_spec hr
    simp -implicitDefEqProofs only [rkA, rkB, stepA, valA, simprocAttr]
    refine wp_loop (fun m s => ∃ k : Nat, k + m = c.toNat ∧ s = ⟨[jk, .ptr 1 0, .ptr 2 0, .ptr 3 0, jk, jk, jk, jk, jk, jk, jk, jk, jk, jk, jk, jk, .v (num c), nt k, jk, jk, jk, jk, jk, jk, jk, jk, jk, jk, jk, jk, jk, jk, jk, jk, jk, jk, jk], [(1, [.v (num r), .v (num c), .v (.sl ex (frs l))]), (2, [nt 0, nt 0, .acc 3002 []]), (3, [nt c, nt r, .acc 15003 (frs (turnP r c l k 0))])], [],
      [(3002, 0), (3003, 0), (15003, (turnP r c l k 0).length)], [], 0, nomem⟩) c.toNat ?_ ?_
    · simp -implicitDefEqProofs only [rkA, rkB, stepA, valA, simprocAttr]
      exact ⟨0, by simp, rfl⟩
    rintro m s ⟨k, hk, rfl⟩
    simp -implicitDefEqProofs only [rkA, rkB, stepA, valA, simprocAttr]
    refine gB_dec ?_ ?_ <;> intro hc <;> simp -implicitDefEqProofs only [hc, rkA, rkB, stepA, valA, simprocAttr]
    · refine wp_loop (fun m s => ∃ i : Nat, i + m = r.toNat ∧ s = ⟨[jk, .ptr 1 0, .ptr 2 0, .ptr 3 0, nt k, jk, jk, jk, jk, jk, jk, jk, jk, jk, jk, jk, .v (num c), nt k, jk, jk, jk, nt r, nt i, jk, jk, jk, jk, jk, jk, jk, jk, jk, jk, jk, jk, jk, jk], [(1, [.v (num r), .v (num c), .v (.sl ex (frs l))]), (2, [nt 0, nt 0, .acc 3002 []]), (3, [nt c, nt r, .acc 15003 (frs (turnP r c l k i))])], [],
        [(3002, 0), (3003, 0), (15003, (turnP r c l k i).length)], [], 0, nomem⟩) r.toNat ?_ ?_
      · simp -implicitDefEqProofs only [rkA, rkB, stepA, valA, simprocAttr]
        exact ⟨0, by simp, rfl⟩
      rintro m' s ⟨i, hi, rfl⟩
      simp -implicitDefEqProofs only [rkA, rkB, stepA, valA, simprocAttr]
      have hlen := turnP_length r c l k i
      have hb : k * r.toNat + i ≤ 256 := by
        have : (k + 1) * r.toNat ≤ 16 * 16 := Nat.mul_le_mul (by omega) (by omega)
        rw [Nat.add_mul] at this
        omega
      refine gB_dec ?_ ?_ <;> intro hc2 <;> simp -implicitDefEqProofs only [hc2, rkA, rkB, stepA, valA, simprocAttr]
      · refine call_fn rfl rfl rfl (ok40 ex r c i k l) ?_
        have hfit : fits 3 24 (frs (turnP r c l k i)) [frV (atF r c l i k)] = true := fits_frs (l := [atF r c l i k]) (by simp only [List.length_cons, List.length_nil]; omega)
        have hl : (frs (turnP r c l k i)).length = (turnP r c l k i).length := by simp
        have hw := wrapped (x := (i : Int) + 1) (by omega) (by omega)
        simp -implicitDefEqProofs only [hfit, hl, hw, rkA, rkB, stepA, valA, simprocAttr]
        refine loopK_of (m' := m' - 1) (by omega) ?_
        simp -implicitDefEqProofs only [rkA, rkB, stepA, valA, simprocAttr]
        refine ⟨i + 1, by omega, ?_⟩
        rw [turnP_succ]
        simp only [frs, List.map_append, List.map_cons, List.map_nil, List.length_append, List.length_cons, List.length_nil, Int.natCast_add, Int.natCast_one]
      · have hw := wrapped (x := (k : Int) + 1) (by omega) (by omega)
        simp -implicitDefEqProofs only [hw, rkA, rkB, stepA, valA, simprocAttr]
        refine loopK_of (m' := m - 1) (by omega) ?_
        simp -implicitDefEqProofs only [rkA, rkB, stepA, valA, simprocAttr]
        refine ⟨k + 1, by omega, ?_⟩
        have hi2 : i = r.toNat := by omega
        rw [hi2, turnP_next]
        simp only [Int.natCast_add, Int.natCast_one]
    · have hk2 : k = c.toNat := by omega
      have : turnF r c l = turnP r c l k 0 := by
        rw [hk2]
        simp [turnF, hr, turnP]
      rw [this]
end Go.Proofs.Ytbflmeomkfjikaa.A


set_option linter.unusedVariables false
set_option linter.unusedSimpArgs false
set_option maxRecDepth 100000
namespace Go.Proofs.Ytbflmeomkfjikaa.A
open Go Go.RowKit Go.Shelf

theorem turnF_length {r c : Int} {l : List Fr} (h : right r c l.length = true) : (turnF r c l).length = c.toNat * r.toNat := by
  have : turnF r c l = turnP r c l c.toNat 0 := by simp [turnF, h, turnP]
  rw [this, turnP_length, Nat.add_zero]

theorem right_turn {r c : Int} {l : List Fr} (h : right r c l.length = true) : right c r (turnF r c l).length = true := by
  obtain ⟨r1, r2, c1, c2, hn⟩ := right_spec h
  rw [turnF_length h]
  simp only [right, Bool.and_eq_true, decide_eq_true_eq, beq_iff_eq]
  refine ⟨by omega, by omega, ?_⟩
  rw [Int.natCast_mul, Int.toNat_of_nonneg (by omega), Int.toNat_of_nonneg (by omega)]

section
variable {α β : Type} (f : α → α → β)
/-- A product, the rows given: what stands so far. -/
def prodP (xs ys : List α) (i k : Nat) : List β := (xs.take i).flatMap (fun x => ys.map (f x)) ++ (match xs[i]? with | some x => (ys.take k).map (f x) | none => [])
theorem prodP_succ {xs ys : List α} {i k : Nat} {x y : α} (hx : xs[i]? = some x) (hy : ys[k]? = some y) : prodP f xs ys i (k + 1) = prodP f xs ys i k ++ [f x y] := by
  obtain ⟨hk, rfl⟩ := List.getElem?_eq_some_iff.1 hy
  simp only [prodP, hx, List.take_succ_eq_append_getElem hk, List.map_append, List.map_cons, List.map_nil, List.append_assoc]
theorem prodP_zero (xs ys : List α) (i : Nat) : prodP f xs ys i 0 = (xs.take i).flatMap (fun x => ys.map (f x)) := by
  unfold prodP
  cases xs[i]? <;> simp
theorem prodP_next {xs ys : List α} {i : Nat} (hi : i < xs.length) : prodP f xs ys i ys.length = prodP f xs ys (i + 1) 0 := by
  rw [prodP_zero, List.take_succ_eq_append_getElem hi, prodP, List.getElem?_eq_getElem hi]
  simp only [List.take_length, List.flatMap_append, List.flatMap_cons, List.flatMap_nil, List.append_nil]
theorem prodP_length {xs ys : List α} {i k : Nat} (hi : i < xs.length) (hk : k ≤ ys.length) : (prodP f xs ys i k).length = i * ys.length + k := by
  rw [prodP, List.getElem?_eq_getElem hi]
  simp [List.length_flatMap, List.map_const', List.sum_replicate_nat, Nat.min_eq_left (Nat.le_of_lt hi), Nat.min_eq_left hk]
end

/-- All rows. -/
def allF (r c : Int) (l : List Fr) : List (List Fr) := (List.range r.toNat).map fun (i : Nat) => rowF r c l (i : Int)
def prodF (r m c : Int) (a b : List Fr) : List Fr := (allF r m a).flatMap fun x => (allF c m (turnF m c b)).map (dotF x)

theorem allF_length (r c : Int) (l : List Fr) : (allF r c l).length = r.toNat := by simp [allF]
theorem rowsF_all {r c : Int} {l : List Fr} (h : right r c l.length = true) {i : Nat} {x : List PV} (hx : (rowsF r c l)[i]? = some x) : i < r.toNat ∧ x = [num i, .sl false (frs (rowF r c l i))] ∧ (allF r c l)[i]? = some (rowF r c l i) := by
  obtain ⟨hi, rfl⟩ := List.getElem?_eq_some_iff.1 hx
  have hi' : i < r.toNat := by simpa [rowsF, h] using hi
  refine ⟨hi', by simp [rowsF, h], by simp [allF, hi']⟩
theorem rowsF_length {r c : Int} {l : List Fr} (h : right r c l.length = true) : (rowsF r c l).length = r.toNat := by simp [rowsF, h]
theorem rowF_length {r c : Int} {l : List Fr} (i : Int) : (rowF r c l i).length ≤ l.length := by
  unfold rowF
  split <;> simp <;> omega

theorem ok33 (ea eb : Bool) (r m m2 c : Int) (a b : List Fr) : Ok Try.prog 33 [matV ea r m (frs a), matV eb m2 c (frs b)]
    (if right r m a.length = true ∧ right m2 c b.length = true ∧ m = m2 then .tup [matV false r c (frs (prodF r m c a b)), tru true] else .tup [matNil, tru false]) := by
  refine ok_fn mixed Try.func33 (code := ?_) (h := h33) ?_ k33 ?_
  rotate_left
  · exact rfl
  unfold h33 initS
  simp -implicitDefEqProofs only [rkA, rkB, stepA, valA, simprocAttr, Try.ntmps33, Try.results33]
  refine call_fn rfl rfl rfl (ok44 ea r m (frs a)) ?_
  have e : (frs a).length = a.length := by simp
  have e' : (frs b).length = b.length := by simp
  rw [e]
  cases hr : right r m a.length with
  | false =>
    simp -implicitDefEqProofs only [rkA, rkB, stepA, valA, simprocAttr]
  | true =>
    simp -implicitDefEqProofs only [rkA, rkB, stepA, valA, simprocAttr]
    refine call_fn rfl rfl rfl (ok44 eb m2 c (frs b)) ?_
    rw [e']
    cases hr2 : right m2 c b.length with
    | false => simp -implicitDefEqProofs only [rkA, rkB, stepA, valA, simprocAttr]
    | true =>
      obtain ⟨r1, r2, c1, c2, hn⟩ := right_spec hr
      obtain ⟨m1, m3, d1, d2, hn2⟩ := right_spec hr2
      simp -implicitDefEqProofs only [rkA, rkB, stepA, valA, simprocAttr]
      refine gB_bool ?_ ?_ <;> intro hb
      · have hm : m ≠ m2 := by simpa using hb
        simp -implicitDefEqProofs only [hm, rkA, rkB, stepA, valA, simprocAttr]
      · have hm : m = m2 := by simpa using hb
        clear hb
        subst hm
        simp -implicitDefEqProofs only [rkA, rkB, stepA, valA, simprocAttr]
        have h25 := ok20 eb m c b
        rw [if_pos hr2] at h25
        refine call_fn rfl rfl rfl (h25) ?_
        simp -implicitDefEqProofs only [rkA, rkB, stepA, valA, simprocAttr]
        refine call_fn rfl rfl rfl (ok41 ea r m a) ?_
        simp -implicitDefEqProofs only [rkA, rkB, stepA, valA, simprocAttr]
        have hrt := right_turn hr2
        have hpl : ∀ i k, i < r.toNat → k ≤ c.toNat → (prodP dotF (allF r m a) (allF c m (turnF m c b)) i k).length = i * c.toNat + k := fun i k hi hk => by
          rw [prodP_length dotF (by rw [allF_length]; exact hi) (by rw [allF_length]; exact hk), allF_length]
        have hbig : ∀ i k, i < r.toNat → k ≤ c.toNat → i * c.toNat + k ≤ 256 := fun i k hi hk => by
          have : (i + 1) * c.toNat ≤ 16 * 16 := Nat.mul_le_mul (by omega) (by omega)
          rw [Nat.add_mul] at this
          omega
        have hal : a.length ≤ 256 := by
          have : r * m ≤ 16 * 16 := Int.mul_le_mul r2 c2 (by omega) (by omega)
          omega
        have hbl : (turnF m c b).length ≤ 256 := by
          have h1 := turnF_length hr2
          have : c.toNat * m.toNat ≤ 16 * 16 := Nat.mul_le_mul (by omega) (by omega)
          omega
        refine wp_rf' (items := rowsF r m a) rfl (it54 ea r m a) (fun sv i s => i ≤ r.toNat ∧ s = ⟨[], [(2, [nt r, nt m, .v (.sl ea (frs a))]), (3, [nt m, nt c, .v (.sl eb (frs b))]), (4, [nt 0, nt 0, .acc 3004 []]), (6, [nt r, nt c, .acc 15006 (frs (prodP dotF (allF r m a) (allF c m (turnF m c b)) i 0))]),
          (7, [nt c, nt m, .v (.sl false (frs (turnF m c b)))])], [], [(1009, 0), (3004, 0), (3006, 0), (3007, 0), (15006, (prodP dotF (allF r m a) (allF c m (turnF m c b)) i 0).length)], sv, 0, nomem⟩) ?_ ?_ ?_
        · simp -implicitDefEqProofs only [rkA, rkB, stepA, valA, simprocAttr]
          exact ⟨Nat.zero_le _, by rw [prodP_zero]; exact rfl⟩
        · rintro i x' s' R hx ⟨hi, rfl⟩ hR
          obtain ⟨hlt, rfl, hxi⟩ := rowsF_all hr hx
          refine ⟨rfl, ?_⟩
          simp -implicitDefEqProofs only [rkA, rkB, stepA, valA, simprocAttr]
          refine call_fn rfl rfl rfl (ok41 false c m (turnF m c b)) ?_
          simp -implicitDefEqProofs only [rkA, rkB, stepA, valA, simprocAttr]
          refine wp_rf' (items := rowsF c m (turnF m c b)) rfl (it54 false c m (turnF m c b)) (fun sv k s => k ≤ c.toNat ∧ s = ⟨[], [(2, [nt r, nt m, .v (.sl ea (frs a))]), (3, [nt m, nt c, .v (.sl eb (frs b))]), (4, [nt 0, nt 0, .acc 3004 []]), (6, [nt r, nt c, .acc 15006 (frs (prodP dotF (allF r m a) (allF c m (turnF m c b)) i k))]),
            (7, [nt c, nt m, .v (.sl false (frs (turnF m c b)))]), (9, [.v (.sl false (frs (rowF r m a i)))])], [], [(1009, 0), (3004, 0), (3006, 0), (3007, 0), (15006, (prodP dotF (allF r m a) (allF c m (turnF m c b)) i k).length)], sv, 0, nomem⟩) ?_ ?_ ?_
          · simp -implicitDefEqProofs only [rkA, rkB, stepA, valA, simprocAttr]
            exact Nat.zero_le _
          · rintro k x' s' R2 hx2 ⟨hk, rfl⟩ hR2
            obtain ⟨hlt2, rfl, hyk⟩ := rowsF_all hrt hx2
            refine ⟨rfl, ?_⟩
            simp -implicitDefEqProofs only [rkA, rkB, stepA, valA, simprocAttr]
            have hra := rowF_length (r := r) (c := m) (l := a) i
            have hrb := rowF_length (r := c) (c := m) (l := turnF m c b) k
            refine call_fn rfl rfl rfl (ok17 false false (rowF r m a i) (rowF c m (turnF m c b) k) (by omega) (by omega)) ?_
            have h1 := hpl i k hlt (by omega)
            have h2 := hbig i k hlt (by omega)
            have hfit : fits 3 24 (frs (prodP dotF (allF r m a) (allF c m (turnF m c b)) i k)) [frV (dotF (rowF r m a i) (rowF c m (turnF m c b) k))] = true := fits_frs (l := [dotF (rowF r m a i) (rowF c m (turnF m c b) k)]) (by simp only [List.length_cons, List.length_nil]; omega)
            have hl : (frs (prodP dotF (allF r m a) (allF c m (turnF m c b)) i k)).length = (prodP dotF (allF r m a) (allF c m (turnF m c b)) i k).length := by simp
            simp -implicitDefEqProofs only [hfit, hl, rkA, rkB, stepA, valA, simprocAttr]
            refine hR2 _ ⟨by omega, ?_⟩
            rw [prodP_succ dotF hxi hyk]
            simp only [frs, List.map_append, List.map_cons, List.map_nil, List.length_append, List.length_cons, List.length_nil]
          · rintro s' ⟨hk, rfl⟩
            simp -implicitDefEqProofs only [rkA, rkB, stepA, valA, simprocAttr]
            refine hR _ ⟨by omega, ?_⟩
            have hnx := prodP_next dotF (xs := allF r m a) (ys := allF c m (turnF m c b)) (i := i) (by rw [allF_length]; exact hlt)
            rw [allF_length] at hnx
            rw [rowsF_length hrt, hnx]
        · rintro s' ⟨hi, rfl⟩
          simp -implicitDefEqProofs only [rkA, rkB, stepA, valA, simprocAttr]
          have : prodF r m c a b = prodP dotF (allF r m a) (allF c m (turnF m c b)) (rowsF r m a).length 0 := by
            rw [prodP_zero, rowsF_length hr, ← allF_length r m a, List.take_length]
            rfl
          rw [this]
end Go.Proofs.Ytbflmeomkfjikaa.A


set_option linter.unusedVariables false
set_option linter.unusedSimpArgs false
set_option maxRecDepth 100000
namespace Go.Proofs.Ytbflmeomkfjikaa.A
open Go Go.RowKit Go.Shelf

/-- A contract for what is known better. -/
theorem Ok.args {P : Program} {f : FuncId} {xs ys : List PV} {r : PV} (k : Ok P f xs r) (h : ∀ I vs, Cs I ys vs → Cs I xs vs) : Ok P f ys r :=
  ⟨k.1, fun I w vs hg hc => k.2 I w vs hg (h I vs hc)⟩
theorem eq_fr (x y : Fr) : cellsEq [some .i64, some .i64, none] [num x.n, num x.d, tru x.bad] [num y.n, num y.d, tru y.bad] = some (decide (x = y)) := by
  obtain ⟨n, d, b⟩ := x
  obtain ⟨n', d', b'⟩ := y
  simp only [cellsEq, Fr.mk.injEq]
  cases b <;> cases b' <;> simp <;> rfl

end Go.Proofs.Ytbflmeomkfjikaa.A


set_option linter.unusedVariables false
set_option linter.unusedSimpArgs false
set_option maxRecDepth 100000
namespace Go.Proofs.Ytbflmeomkfjikaa.A
open Go Go.RowKit Go.Shelf

section
variable {α : Type} (g : Nat → Nat → α) (n : Nat)
/-- A table gone through row by row: what stands so far. -/
def gridP (i k : Nat) : List α := (List.range i).flatMap (fun i => (List.range n).map (g i)) ++ (List.range k).map (g i)
theorem gridP_succ (i k : Nat) : gridP g n i (k + 1) = gridP g n i k ++ [g i k] := by simp [gridP, List.range_succ]
theorem gridP_next (i : Nat) : gridP g n i n = gridP g n (i + 1) 0 := by simp [gridP, List.range_succ]
theorem gridP_length (i k : Nat) : (gridP g n i k).length = i * n + k := by simp [gridP, List.length_flatMap, List.map_const', List.sum_replicate_nat]
theorem gridP_zero (i : Nat) : gridP g n i 0 = (List.range i).flatMap (fun i => (List.range n).map (g i)) := by simp [gridP]
end

/-- The document's sum of products. -/
def dotI (a b : List Int) (many cols i k : Nat) : Nat → Int
  | 0 => 0
  | j + 1 => dotI a b many cols i k j + a.getD (i * many + j) 0 * b.getD (j * cols + k) 0
def small (a : List Int) : Prop := ∀ x ∈ a, -100 ≤ x ∧ x ≤ 100
theorem small_get {a : List Int} (h : small a) (i : Nat) : -100 ≤ a.getD i 0 ∧ a.getD i 0 ≤ 100 := by
  rw [List.getD_eq_getElem?_getD]
  cases hi : a[i]? with
  | none => simp
  | some x => exact h x (List.mem_of_getElem? hi)
theorem prod_small {x y : Int} (hx : -100 ≤ x ∧ x ≤ 100) (hy : -100 ≤ y ∧ y ≤ 100) : -10000 ≤ x * y ∧ x * y ≤ 10000 := by
  have h1 : (x * y).natAbs = x.natAbs * y.natAbs := Int.natAbs_mul x y
  have h2 : x.natAbs * y.natAbs ≤ 100 * 100 := Nat.mul_le_mul (by omega) (by omega)
  omega
/-- The document's product. -/
def mulI (a b : List Int) (rows many cols : Nat) : List Int := gridP (fun i k => dotI a b many cols i k many) cols rows 0

theorem at_num {a : List Int} {i : Nat} (h : i < a.length) : (a.map num)[i]? = some (num (a.getD i 0)) := by
  simp [h]
theorem at_table {i j n m : Nat} (hi : i < n) (hj : j < m) : i * m + j < n * m ∧ i * m ≤ n * m := by
  have : (i + 1) * m ≤ n * m := Nat.mul_le_mul_right _ (by omega)
  rw [Nat.add_mul] at this
  omega
theorem side16 {n m : Nat} (hn : n ≤ 16) (hm : m ≤ 16) : n * m ≤ 256 := Nat.mul_le_mul hn hm

end Go.Proofs.Ytbflmeomkfjikaa.A


set_option linter.unusedVariables false
set_option linter.unusedSimpArgs false
namespace Go.Proofs.Ytbflmeomkfjikaa.A
open Go Go.RowKit Go.Shelf

theorem gridP_get {α : Type} (g : Nat → Nat → α) (n : Nat) : ∀ (N i j : Nat), i < N → j < n → (gridP g n N 0)[i * n + j]? = some (g i j)
  | 0, i, j, h, _ => by omega
  | N + 1, i, j, hi, hj => by
    have e : gridP g n (N + 1) 0 = gridP g n N 0 ++ (List.range n).map (g N) := by
      rw [← gridP_next]
      simp [gridP]
    have hl := gridP_length g n N 0
    rw [e]
    by_cases h : i < N
    · have : (i + 1) * n ≤ N * n := Nat.mul_le_mul_right _ h
      rw [Nat.add_mul] at this
      rw [List.getElem?_append_left (by omega)]
      exact gridP_get g n N i j h hj
    · have : i = N := by omega
      subst this
      rw [List.getElem?_append_right (by omega), hl]
      simp [hj]

theorem flatMap_same {α β : Type} {l : List α} {f g : α → List β} (h : ∀ x ∈ l, f x = g x) : l.flatMap f = l.flatMap g := by
  rw [List.flatMap_def, List.flatMap_def, List.map_congr_left h]

/-- A stretch of a row. -/
theorem stretch {α : Type} (l : List α) (d : α) (i n : Nat) (h : (i + 1) * n ≤ l.length) : (l.take ((i + 1) * n)).drop (i * n) = (List.range n).map fun j => l.getD (i * n + j) d := by
  have hm : (i + 1) * n = i * n + n := by rw [Nat.add_mul, Nat.one_mul]
  apply List.ext_getElem
  · simp; omega
  · intro j h1 h2
    simp at h2
    simp [List.getElem?_eq_getElem (show i * n + j < l.length by omega)]

theorem rowF_eq {r c : Int} {l : List Fr} (d : Fr) (h : right r c l.length = true) {i : Nat} (hi : i < r.toNat) : rowF r c l i = (List.range c.toNat).map fun j => l.getD (i * c.toNat + j) d := by
  obtain ⟨r1, r2, c1, c2, hn⟩ := right_spec h
  obtain ⟨R, rfl⟩ := Int.eq_ofNat_of_zero_le (show 0 ≤ r by omega)
  obtain ⟨K, rfl⟩ := Int.eq_ofNat_of_zero_le (show 0 ≤ c by omega)
  simp only [Int.toNat_natCast] at hi ⊢
  unfold rowF
  rw [if_pos ⟨h, by omega, by omega⟩]
  have e1 : (((i : Int) + 1) * (K : Int)).toNat = (i + 1) * K := by
    have : ((i : Int) + 1) * (K : Int) = (((i + 1) * K : Nat) : Int) := by simp
    rw [this, Int.toNat_natCast]
  have e2 : ((i : Int) * (K : Int)).toNat = i * K := by
    have : (i : Int) * (K : Int) = ((i * K : Nat) : Int) := by simp
    rw [this, Int.toNat_natCast]
  rw [e1, e2]
  refine stretch l d i K ?_
  have h1 : (i + 1) * K ≤ R * K := Nat.mul_le_mul_right _ hi
  have h2 : ((R * K : Nat) : Int) = (l.length : Int) := by rw [hn]; simp
  omega

theorem atF_eq {r c : Int} {l : List Fr} (h : right r c l.length = true) {i k : Nat} (hi : i < r.toNat) (hk : k < c.toNat) : atF r c l i k = l.getD (i * c.toNat + k) ⟨0, 0, false⟩ := by
  obtain ⟨r1, r2, c1, c2, hn⟩ := right_spec h
  unfold atF
  rw [if_pos ⟨h, by omega, by omega, by omega, by omega⟩]
  congr 1
  obtain ⟨K, rfl⟩ := Int.eq_ofNat_of_zero_le (show 0 ≤ c by omega)
  have : (i : Int) * (K : Int) + (k : Int) = ((i * K + k : Nat) : Int) := by simp
  rw [this, Int.toNat_natCast, Int.toNat_natCast]

theorem turnF_eq {r c : Int} {l : List Fr} (h : right r c l.length = true) : turnF r c l = gridP (fun k i => atF r c l (i : Int) (k : Int)) r.toNat c.toNat 0 := by
  rw [gridP_zero]
  simp [turnF, h]

theorem getD_newF {a : List Int} {i : Nat} (h : i < a.length) (d : Fr) : (a.map (newF · 1)).getD i d = newF (a.getD i 0) 1 := by
  simp [h]

theorem sumF_whole (f : Nat → Int) (s : Nat → Int) (h0 : s 0 = 0) (hs : ∀ j, s (j + 1) = s j + f j) (N : Nat) (hf : ∀ j, j < N → few (f j)) (hb : ∀ j, j ≤ N → few (s j)) : ∀ n, n ≤ N → sumF ((List.range n).map fun j => whole (f j)) = whole (s n)
  | 0, _ => by
    have := newF_whole (n := 0) (by unfold few; omega)
    simp [sumF, this, h0]
  | n + 1, hn => by
    have ih := sumF_whole f s h0 hs N hf hb n (by omega)
    have : sumF ((List.range (n + 1)).map fun j => whole (f j)) = addF (sumF ((List.range n).map fun j => whole (f j))) (whole (f n)) := by
      unfold sumF
      rw [List.range_succ, List.map_append, List.foldl_append]
      rfl
    rw [this, ih, addF_whole (hb n (by omega)) (hf n (by omega)) (by rw [← hs]; exact hb _ hn), ← hs]

theorem few_small {x : Int} (h : -100 ≤ x ∧ x ≤ 100) : few x := by unfold few; omega

end Go.Proofs.Ytbflmeomkfjikaa.A


set_option linter.unusedVariables false
set_option linter.unusedSimpArgs false
set_option maxRecDepth 100000
namespace Go.Proofs.Ytbflmeomkfjikaa.A
open Go Go.RowKit Go.Shelf

theorem Cs.keep {I : Imm} {x : PV} {xs ys : List PV} {vs : List Value} (h : Cs I (x :: xs) vs) (k : ∀ us, Cs I xs us → Cs I ys us) : Cs I (x :: ys) vs := by
  cases h with | cons h1 h2 => exact .cons h1 (k _ h2)
end Go.Proofs.Ytbflmeomkfjikaa.A


set_option linter.unusedVariables false
set_option linter.unusedSimpArgs false
set_option maxRecDepth 100000
namespace Go.Proofs.Ytbflmeomkfjikaa.A
open Go Go.RowKit Go.Shelf

end Go.Proofs.Ytbflmeomkfjikaa.A


set_option linter.unusedVariables false
set_option linter.unusedSimpArgs false
set_option maxRecDepth 100000
namespace Go.Proofs.Ytbflmeomkfjikaa.A
open Go Go.RowKit Go.Shelf

theorem methSub : Meth Try.prog 31 "Sub" 87 := by
  intro v xs w
  rfl

theorem ok60 (a b : Fr) : Ok Try.prog 60 [frV a, frV b] (frV (subF a b)) := by
  refine ok_fn mixed Try.func60 (code := ?_) (h := h60) ?_ k60 ?_
  rotate_left
  · exact rfl
  unfold h60 initS
  simp -implicitDefEqProofs only [rkA, rkB, stepA, valA, simprocAttr, Try.ntmps60, Try.results60]
  refine call_meth rfl rfl methSub (ok87 a b) ?_
  simp -implicitDefEqProofs only [rkA, rkB, stepA, valA, simprocAttr]
theorem right_le {r c : Int} {n : Nat} (h : right r c n = true) : n ≤ 256 := by
  obtain ⟨r1, r2, c1, c2, hn⟩ := right_spec h
  have : r * c ≤ 16 * 16 := Int.mul_le_mul r2 c2 (by omega) (by omega)
  omega

/-! ### Beside -/
theorem rowF_len {r c : Int} {l : List Fr} (h : right r c l.length = true) {i : Nat} (hi : i < r.toNat) : (rowF r c l i).length = c.toNat := by
  rw [rowF_eq ⟨0, 0, false⟩ h hi]
  simp
/-! ### Mirrored -/
def mirF (r : Int) (l : List Fr) : List Fr := gridP (fun i k => atF r r l (max i k : Nat) (min i k : Nat)) r.toNat r.toNat 0
theorem ok16 (ex : Bool) (r c : Int) (l : List Fr) : Ok Try.prog 16 [matV ex r c (frs l)] (if right r c l.length = true ∧ r = c then .tup [matV false r c (frs (mirF r l)), tru true] else .tup [matNil, tru false]) := by
  refine ok_fn mixed Try.func16 (code := ?_) (h := h16) ?_ k16 ?_
  rotate_left
  · exact rfl
  unfold h16 initS
  simp -implicitDefEqProofs only [rkA, rkB, stepA, valA, simprocAttr, Try.ntmps16, Try.results16]
  refine call_fn rfl rfl rfl (ok44 ex r c (frs l)) ?_
  have e : (frs l).length = l.length := by simp
  rw [e]
  cases hr : right r c l.length with
  | false => simp -implicitDefEqProofs only [rkA, rkB, stepA, valA, simprocAttr]
  | true =>
    obtain ⟨r1, r2, c1, c2, hn⟩ := right_spec hr
    simp -implicitDefEqProofs only [rkA, rkB, stepA, valA, simprocAttr]
    by_cases h1 : r = c
    · subst h1
      simp -implicitDefEqProofs only [bne_self_eq_false, rkA, rkB, stepA, valA, simprocAttr]
      have hlen := gridP_length (fun i k => atF r r l (max i k : Nat) (min i k : Nat)) r.toNat
      refine wp_loop (fun m s => ∃ i : Nat, i + m = r.toNat ∧ s = ⟨[jk, .ptr 1 0, .ptr 2 0, jk, .ptr 4 0, jk, jk, jk, jk, jk, jk, jk, jk, jk, jk, jk, jk, jk, jk, jk, jk, jk, jk, jk, nt r, nt i, jk, jk, jk, jk, jk, jk, jk, jk, jk, jk, jk, jk, jk, jk, jk, jk, jk, jk, jk, jk, jk, jk, jk], [(1, [nt r, nt r, .v (.sl ex (frs l))]), (2, [nt 0, nt 0, .acc 3002 []]), (4, [nt r, nt r, .acc 15004 (frs (gridP (fun i k => atF r r l (max i k : Nat) (min i k : Nat)) r.toNat i 0))])], [],
        [(3002, 0), (3004, 0), (15004, (gridP (fun i k => atF r r l (max i k : Nat) (min i k : Nat)) r.toNat i 0).length)], [], 0, nomem⟩) r.toNat ?_ ?_
      · simp -implicitDefEqProofs only [rkA, rkB, stepA, valA, simprocAttr]
        exact ⟨0, by simp, rfl⟩
      rintro m s ⟨i, hi, rfl⟩
      simp -implicitDefEqProofs only [rkA, rkB, stepA, valA, simprocAttr]
      refine gB_dec ?_ ?_ <;> intro hc <;> simp -implicitDefEqProofs only [hc, rkA, rkB, stepA, valA, simprocAttr]
      · refine wp_loop (fun m s => ∃ k : Nat, k + m = r.toNat ∧ s = ⟨[jk, .ptr 1 0, .ptr 2 0, jk, .ptr 4 0, nt i, jk, jk, jk, jk, jk, jk, jk, jk, jk, jk, jk, jk, jk, jk, jk, jk, jk, jk, nt r, nt i, jk, jk, jk, nt r, nt k, jk, jk, jk, jk, jk, jk, jk, jk, jk, jk, jk, jk, jk, jk, jk, jk, jk, jk], [(1, [nt r, nt r, .v (.sl ex (frs l))]), (2, [nt 0, nt 0, .acc 3002 []]), (4, [nt r, nt r, .acc 15004 (frs (gridP (fun i k => atF r r l (max i k : Nat) (min i k : Nat)) r.toNat i k))])], [],
          [(3002, 0), (3004, 0), (15004, (gridP (fun i k => atF r r l (max i k : Nat) (min i k : Nat)) r.toNat i k).length)], [], 0, nomem⟩) r.toNat ?_ ?_
        · simp -implicitDefEqProofs only [rkA, rkB, stepA, valA, simprocAttr]
          exact ⟨0, by simp, rfl⟩
        rintro m' s ⟨k, hk, rfl⟩
        simp -implicitDefEqProofs only [rkA, rkB, stepA, valA, simprocAttr]
        refine gB_dec ?_ ?_ <;> intro hc2 <;> simp -implicitDefEqProofs only [hc2, rkA, rkB, stepA, valA, simprocAttr]
        · have hb : i * r.toNat + k ≤ 256 := by
            have : (i + 1) * r.toNat ≤ 16 * 16 := Nat.mul_le_mul (by omega) (by omega)
            rw [Nat.add_mul] at this
            omega
          have m1 : (if (i : Int) < (k : Int) then (k : Int) else (i : Int)) = ((max i k : Nat) : Int) := by split <;> omega
          have m2 : (if (k : Int) < (i : Int) then (k : Int) else (i : Int)) = ((min i k : Nat) : Int) := by split <;> omega
          simp only [m1, m2]
          refine call_fn rfl rfl rfl (ok40 ex r r (max i k : Nat) (min i k : Nat) l) ?_
          have hl1 := hlen i k
          have hfit : fits 3 24 (frs (gridP (fun i k => atF r r l (max i k : Nat) (min i k : Nat)) r.toNat i k)) [frV (atF r r l (max i k : Nat) (min i k : Nat))] = true := fits_frs (l := [atF r r l (max i k : Nat) (min i k : Nat)]) (by simp only [List.length_cons, List.length_nil]; omega)
          have hl : (frs (gridP (fun i k => atF r r l (max i k : Nat) (min i k : Nat)) r.toNat i k)).length = (gridP (fun i k => atF r r l (max i k : Nat) (min i k : Nat)) r.toNat i k).length := by simp
          have hw := wrapped (x := (k : Int) + 1) (by omega) (by omega)
          simp -implicitDefEqProofs only [hfit, hl, hw, rkA, rkB, stepA, valA, simprocAttr]
          refine loopK_of (m' := m' - 1) (by omega) ?_
          simp -implicitDefEqProofs only [rkA, rkB, stepA, valA, simprocAttr]
          refine ⟨k + 1, by omega, ?_⟩
          rw [gridP_succ]
          simp only [frs, List.map_append, List.map_cons, List.map_nil, List.length_append, List.length_cons, List.length_nil, Int.natCast_add, Int.natCast_one]
        · have hkr : k = r.toNat := by omega
          have hw := wrapped (x := (i : Int) + 1) (by omega) (by omega)
          simp -implicitDefEqProofs only [hw, rkA, rkB, stepA, valA, simprocAttr]
          refine loopK_of (m' := m - 1) (by omega) ?_
          simp -implicitDefEqProofs only [rkA, rkB, stepA, valA, simprocAttr]
          refine ⟨i + 1, by omega, ?_⟩
          rw [hkr, gridP_next]
          simp only [Int.natCast_add, Int.natCast_one]
      · have : i = r.toNat := by omega
        subst this
        simp only [mirF]
    · have hne : (r != c) = true := by simp [h1]
      simp -implicitDefEqProofs only [hne, h1, rkA, rkB, stepA, valA, simprocAttr]

/-! ### Alike -/
theorem ok13 (ea eb : Bool) (r c : Int) (l : List Fr) (h : l.length ≤ 5864062014805) : Ok Try.prog 13 [matV ea r c (frs l), matV eb r c (frs l)] (tru true) := by
  refine ok_fn mixed Try.func13 (code := ?_) (h := h13) ?_ k13 ?_
  rotate_left
  · exact rfl
  unfold h13 initS
  simp -implicitDefEqProofs only [rkA, rkB, stepA, valA, simprocAttr, Try.ntmps13, Try.results13]
  simp -implicitDefEqProofs only [bne_self_eq_false, rkA, rkB, stepA, valA, simprocAttr]
  refine wp_loop (fun m s => ∃ i : Nat, i + m = l.length ∧ s = ⟨[jk, jk, .ptr 2 0, .ptr 3 0, jk, jk, jk, jk, jk, jk, jk, jk, jk, jk, jk, jk, jk, jk, jk, jk, jk, jk, jk, jk, jk, jk, jk, jk, jk, nt (frs l).length, nt i, jk, jk, jk, jk, jk, jk, jk, jk, jk, jk, jk, jk, jk, jk], [(2, [nt r, nt c, .v (.sl ea (frs l))]), (3, [nt r, nt c, .v (.sl eb (frs l))])], [], [], [], 0, nomem⟩) l.length ?_ ?_
  · simp -implicitDefEqProofs only [rkA, rkB, stepA, valA, simprocAttr]
    exact ⟨0, by simp, rfl⟩
  rintro m s ⟨i, hi, rfl⟩
  simp -implicitDefEqProofs only [rkA, rkB, stepA, valA, simprocAttr]
  refine gB_dec ?_ ?_ <;> intro hc <;> simp -implicitDefEqProofs only [hc, rkA, rkB, stepA, valA, simprocAttr]
  · have hlt : i < l.length := by simpa using hc
    have h0 : (0 : Int) ≤ (i : Int) := by omega
    have hg : (frs l)[i]? = some (frV l[i]) := by simp [hlt]
    have hw := wrapped (x := (i : Int) + 1) (by omega) (by omega)
    simp -implicitDefEqProofs only [h0, Int.toNat_natCast, hg, eq_fr, hw, rkA, rkB, stepA, valA, simprocAttr]
    refine loopK_of (m' := m - 1) (by omega) ?_
    simp -implicitDefEqProofs only [rkA, rkB, stepA, valA, simprocAttr]
    exact ⟨i + 1, by omega, by simp only [Int.natCast_add, Int.natCast_one]⟩
end Go.Proofs.Ytbflmeomkfjikaa.A


set_option linter.unusedVariables false
set_option linter.unusedSimpArgs false
set_option maxRecDepth 100000
namespace Go.Proofs.Ytbflmeomkfjikaa.A
open Go Go.RowKit Go.Shelf

/-! ### Functions that hand new rows back -/
theorem frs_cells (l : List Fr) : ∀ e ∈ frs l, e.cells.length = 3 := fun e he => by
  obtain ⟨x, _, rfl⟩ := List.mem_map.1 he
  rfl
theorem RFs_frs : ∀ (l : List Fr), RFs (flat (frs l)) = true
  | [] => rfl
  | x :: l => by
    have h := RFs_frs l
    simp only [frs, List.map_cons, flat, List.flatMap_cons, PV.cells, List.cons_append, List.nil_append, RFs, RF, Bool.true_and] at h ⊢
    exact h

theorem okn48 (ex : Bool) (l : List Fr) (hl : l ≠ []) (h : l.length ≤ 5864062014805) : OkN Try.prog 48 [.sl ex (frs l)] (frs l) := by
  have hfit : fits 3 24 [] (frs l) = true := by
    have := fits_frs (k := []) (l := l) (by simpa using h)
    simpa using this
  have he : (frs l).isEmpty = false := by cases l <;> simp_all
  refine okn_fn mixed Try.func48 (code := ?_) (h := hN48) ?_ kN48 rfl (RFs_frs l) ?_
  rotate_left
  · exact rfl
  unfold hN48 initS
  simp -implicitDefEqProofs only [rkA, rkB, stepA, valA, simprocAttr, Try.ntmps48, Try.results48]
  refine nilA_sl _ _ rfl fun b hb => ?_
  have hb' := hb he
  subst hb'
  simp -implicitDefEqProofs only [hfit, he, rkA, rkB, stepA, valA, simprocAttr]
  refine .inl ⟨7, ?_⟩
  simp -implicitDefEqProofs only [rkA, rkB, stepA, valA, simprocAttr]

/-- A new matrix: its numbers lie in memory of their own. -/
def NewMat (r c : Int) (l : List PV) (x : PV) (m : Mem) : Prop := ∃ b cap q, l.length ≤ cap ∧ x = .tup [.agg [num r, num c, .s (.slice (some ⟨b, 0, none⟩) l.length cap)], tru true] ∧ m = nomem.put b (flat l ++ List.replicate q .junk)

theorem tell_row {m : Mem} {b cap q : Nat} {l : List Fr} (hm : m b = some (flat (frs l) ++ List.replicate q .junk)) (hc : (frs l).length ≤ cap) : Tell m (.s (.slice (some ⟨b, 0, none⟩) (frs l).length cap)) (.sl false (frs l)) := by
  refine .row hm (frs_cells l) rfl (by simp) hc (fun h => by cases h) ?_
  rw [List.drop_zero, List.take_left]
  exact Tells.same _ _

theorem okm35 (r c : Int) (ex : Bool) (l : List Fr) (hr : right r c l.length = true) : OkM Try.prog 35 [num r, num c, .sl ex (frs l)] nomem (NewMat r c (frs l)) := by
  have hn := right_le hr
  have hpos := right_spec hr
  have hl : l ≠ [] := by
    intro h
    subst h
    have h1 : r * c = 0 := by have := hpos.2.2.2.2; simpa using this.symm
    rcases Int.mul_eq_zero.1 h1 with h | h <;> omega
  refine okm_fn mixed Try.func35 (code := ?_) (h := hN35) ?_ kN35 ?_
  rotate_left
  · exact rfl
  unfold hN35 initS
  simp -implicitDefEqProofs only [rkA, rkB, stepA, valA, simprocAttr, Try.ntmps35, Try.results35]
  refine newRow_fn rfl rfl (Tells.same _ _) (okn48 ex l hl (by omega)) (RFs_frs l) (by simpa using hl) ?_
  intro b cap q hb hcap
  simp -implicitDefEqProofs only [rkA, rkB, stepA, valA, simprocAttr]
  have e : (frs l).length = l.length := by simp
  have h17 := ok44 false r c (frs l)
  rw [e, hr] at h17
  refine lend_fn rfl rfl (.cons (.agg (.cons (.same _) (.cons (.same _) (.cons (tell_row (Mem.put_same _ _ _) hcap) .nil)))) .nil) (h17) rfl ?_
  simp -implicitDefEqProofs only [rkA, rkB, stepA, valA, simprocAttr]
  exact ⟨_, rfl, b, cap, q, hcap, rfl, rfl⟩
end Go.Proofs.Ytbflmeomkfjikaa.A


set_option linter.unusedVariables false
set_option linter.unusedSimpArgs false
set_option maxRecDepth 100000
namespace Go.Proofs.Ytbflmeomkfjikaa.A
open Go Go.RowKit Go.Shelf

/-- A square matrix, number by number. -/
theorem okm38 (n : Nat) (hn : 1 ≤ n ∧ n ≤ 16) (K : Nat) (caps : List PV) (g : Nat → Nat → Fr) (hg : ∀ i k : Nat, i < n → k < n → Ok Try.prog K (num i :: num k :: caps) (frV (g i k))) :
    OkM Try.prog 38 [num n, .fn (.func K) caps] nomem (NewMat n n (frs (gridP g n n 0))) := by
  have hlen := gridP_length g n
  have hbig : ∀ i k, i ≤ n → k ≤ n → i * n + k ≤ 272 := fun i k h1 h2 => by
    have : i * n ≤ 16 * 16 := Nat.mul_le_mul (by omega) (by omega)
    omega
  refine okm_fn mixed Try.func38 (code := ?_) (h := h38) ?_ k38 ?_
  rotate_left
  · exact rfl
  unfold h38 initS
  simp -implicitDefEqProofs only [rkA, rkB, stepA, valA, simprocAttr, Try.ntmps38, Try.results38]
  refine wp_loop (fun m s => ∃ i : Nat, i + m = n ∧ s = ⟨[.v (num n), .v (.fn (.func K) caps), jk, jk, .ptr 4 0, jk, .acc 6 (frs (gridP g n i 0)), jk, jk, .v (num n), nt i, jk, jk, jk, jk, jk, jk, jk, jk, jk, jk, jk, jk, jk, jk, jk, jk, jk, jk, jk, jk, jk], [(4, [nt 0, nt 0, .acc 3004 []])], [],
    [(6, (gridP g n i 0).length), (3004, 0)], [], 0, nomem⟩) n ?_ ?_
  · simp -implicitDefEqProofs only [rkA, rkB, stepA, valA, simprocAttr]
    exact ⟨0, by simp, rfl⟩
  rintro m s ⟨i, hi, rfl⟩
  simp -implicitDefEqProofs only [rkA, rkB, stepA, valA, simprocAttr]
  refine gB_dec ?_ ?_ <;> intro hc <;> simp -implicitDefEqProofs only [hc, rkA, rkB, stepA, valA, simprocAttr]
  · refine wp_loop (fun m s => ∃ k : Nat, k + m = n ∧ s = ⟨[.v (num n), .v (.fn (.func K) caps), jk, jk, .ptr 4 0, jk, .acc 6 (frs (gridP g n i k)), nt i, jk, .v (num n), nt i, jk, jk, .v (num n), nt k, jk, jk, jk, jk, jk, jk, jk, jk, jk, jk, jk, jk, jk, jk, jk, jk, jk], [(4, [nt 0, nt 0, .acc 3004 []])], [],
      [(6, (gridP g n i k).length), (3004, 0)], [], 0, nomem⟩) n ?_ ?_
    · simp -implicitDefEqProofs only [rkA, rkB, stepA, valA, simprocAttr]
      exact ⟨0, by simp, rfl⟩
    rintro m' s ⟨k, hk, rfl⟩
    simp -implicitDefEqProofs only [rkA, rkB, stepA, valA, simprocAttr]
    refine gB_dec ?_ ?_ <;> intro hc2 <;> simp -implicitDefEqProofs only [hc2, rkA, rkB, stepA, valA, simprocAttr]
    · refine call_fn rfl rfl rfl (hg i k (by omega) (by omega)) ?_
      have hl1 := hlen i k
      have hb := hbig i k (by omega) (by omega)
      have hfit : fits 3 24 (frs (gridP g n i k)) [frV (g i k)] = true := fits_frs (l := [g i k]) (by simp only [List.length_cons, List.length_nil]; omega)
      have hl : (frs (gridP g n i k)).length = (gridP g n i k).length := by simp
      have hw := wrapped (x := (k : Int) + 1) (by omega) (by omega)
      simp -implicitDefEqProofs only [hfit, hl, hw, rkA, rkB, stepA, valA, simprocAttr]
      refine loopK_of (m' := m' - 1) (by omega) ?_
      simp -implicitDefEqProofs only [rkA, rkB, stepA, valA, simprocAttr]
      refine ⟨k + 1, by omega, ?_⟩
      rw [gridP_succ]
      simp only [frs, List.map_append, List.map_cons, List.map_nil, List.length_append, List.length_cons, List.length_nil, Int.natCast_add, Int.natCast_one]
    · have hkr : k = n := by omega
      have hw := wrapped (x := (i : Int) + 1) (by omega) (by omega)
      simp -implicitDefEqProofs only [hw, rkA, rkB, stepA, valA, simprocAttr]
      refine loopK_of (m' := m - 1) (by omega) ?_
      simp -implicitDefEqProofs only [rkA, rkB, stepA, valA, simprocAttr]
      refine ⟨i + 1, by omega, ?_⟩
      rw [hkr, gridP_next]
      simp only [Int.natCast_add, Int.natCast_one]
  · have : i = n := by omega
    subst this
    have hr : right (i : Int) (i : Int) (gridP g i i 0).length = true := by
      rw [hlen, Nat.add_zero]
      simp only [right, Bool.and_eq_true, decide_eq_true_eq, beq_iff_eq]
      exact ⟨⟨by omega, by omega⟩, ⟨by omega, by omega⟩, Int.natCast_mul i i⟩
    refine lendNew_fn rfl rfl (Tells.same _ _) (okm35 i i false (gridP g i i 0) hr) ?_ ?_
    · rintro r m' ⟨b, cap, q, h1, rfl, rfl⟩
      refine ⟨rfl, fun c cells hc => ?_⟩
      by_cases e : c = b
      · subst e
        rw [Mem.put_same] at hc
        cases hc
        exact RFs_append (RFs_frs _) (RFs_junk q)
      · rw [Mem.put_other _ _ e] at hc
        cases hc
    · rintro r m' ⟨b, cap, q, h1, rfl, rfl⟩ hfr
      simp -implicitDefEqProofs only [rkA, rkB, stepA, valA, simprocAttr]
      exact ⟨_, rfl, b, cap, q, h1, rfl, rfl⟩
end Go.Proofs.Ytbflmeomkfjikaa.A


set_option linter.unusedVariables false
set_option linter.unusedSimpArgs false
set_option maxRecDepth 100000
namespace Go.Proofs.Ytbflmeomkfjikaa.A
open Go Go.RowKit Go.Shelf

/-! ### Roots of whole numbers, bit by bit -/
def rtB (n K : Nat) : Nat → Nat
  | 0 => 0
  | j + 1 => if (rtB n K j + 2 ^ (K - 1 - j)) * (rtB n K j + 2 ^ (K - 1 - j)) ≤ n then rtB n K j + 2 ^ (K - 1 - j) else rtB n K j

theorem rtB_spec {n K : Nat} (hn : n < 2 ^ K * 2 ^ K) : ∀ j, j ≤ K → rtB n K j * rtB n K j ≤ n ∧ n < (rtB n K j + 2 ^ (K - j)) * (rtB n K j + 2 ^ (K - j)) ∧ (∃ q, rtB n K j = 2 ^ (K - j) * q) ∧ rtB n K j + 2 ^ (K - j) ≤ 2 ^ K
  | 0, _ => ⟨by simp [rtB], by simpa [rtB] using hn, ⟨0, by simp [rtB]⟩, by simp [rtB]⟩
  | j + 1, hj => by
    obtain ⟨h1, h2, ⟨q, hq⟩, h3⟩ := rtB_spec hn j (by omega)
    have e1 : K - j = (K - (j + 1)) + 1 := by omega
    have e2 : K - 1 - j = K - (j + 1) := by omega
    rw [e1, Nat.pow_succ] at h2 hq h3
    simp only [rtB, e2]
    generalize rtB n K j = r at *
    generalize 2 ^ (K - (j + 1)) = t at *
    split
    · rename_i hc
      refine ⟨hc, by rw [Nat.add_assoc, ← Nat.mul_two]; exact h2, ⟨2 * q + 1, ?_⟩, by omega⟩
      rw [hq, Nat.mul_add, Nat.mul_one, Nat.mul_assoc]
    · rename_i hc
      exact ⟨h1, by omega, ⟨2 * q, by rw [hq, Nat.mul_assoc]⟩, by omega⟩

theorem rtB_final {n K : Nat} (hn : n < 2 ^ K * 2 ^ K) : rtB n K K * rtB n K K ≤ n ∧ n < (rtB n K K + 1) * (rtB n K K + 1) ∧ rtB n K K < 2 ^ K := by
  obtain ⟨h1, h2, _, h3⟩ := rtB_spec hn K (Nat.le_refl _)
  rw [Nat.sub_self, Nat.pow_zero] at h2 h3
  exact ⟨h1, h2, by omega⟩

theorem sq_lt {a b : Nat} (h : a * a < b * b) : a < b := by
  rcases Nat.lt_or_ge a b with h1 | h1
  · exact h1
  · have := Nat.mul_le_mul h1 h1
    omega
theorem rtB_sq {s K : Nat} (hs : s < 2 ^ K) : rtB (s * s) K K = s := by
  have hn : s * s < 2 ^ K * 2 ^ K := Nat.mul_lt_mul'' hs hs
  obtain ⟨h1, h2, _⟩ := rtB_final hn
  have h3 : s < rtB (s * s) K K + 1 := sq_lt h2
  rcases Nat.lt_or_ge (rtB (s * s) K K) s with h4 | h4
  · omega
  · have : rtB (s * s) K K = s := by
      rcases Nat.lt_or_ge s (rtB (s * s) K K) with h5 | h5
      · have := Nat.mul_lt_mul'' h5 h5
        omega
      · omega
    exact this

theorem or_bit {r k : Nat} (hr : r < 2 ^ 62) (hk : k < 62) (hd : ∃ q, r = 2 ^ (k + 1) * q) : (BitVec.ofInt 64 (r : Int) ||| BitVec.ofInt 64 ((2 ^ k : Nat) : Int)).toNat = r + 2 ^ k := by
  obtain ⟨q, rfl⟩ := hd
  have h2 : (2 : Nat) ^ k < 2 ^ (k + 1) := Nat.pow_lt_pow_right (by omega) (by omega)
  have h3 : (2 : Nat) ^ k < 2 ^ 62 := Nat.pow_lt_pow_right (by omega) hk
  rw [BitVec.toNat_or, BitVec.ofInt_natCast, BitVec.ofInt_natCast, BitVec.toNat_ofNat, BitVec.toNat_ofNat, Nat.mod_eq_of_lt (by omega), Nat.mod_eq_of_lt (by omega), Nat.two_pow_add_eq_or_of_lt h2]

theorem wrapNat {n : Nat} (h : n < 9223372036854775808) : IntKind.wrap .i64 (n : Int) = (n : Int) := wrapped (by omega) (by omega)
def rootI (n : Int) : Int := if rtB n.toNat 16 16 * rtB n.toNat 16 16 = n.toNat then (rtB n.toNat 16 16 : Int) else -1

theorem ok92 (n : Int) (h0 : 0 ≤ n) (h1 : n ≤ 1073741824) : Ok Try.prog 92 [num n] (num (rootI n)) := by
  obtain ⟨N, rfl⟩ : ∃ N : Nat, n = N := ⟨n.toNat, by omega⟩
  have hN : N < 2 ^ 16 * 2 ^ 16 := by omega
  have hs := rtB_spec hN
  refine ok_fn mixed Try.func92 (code := ?_) (h := h92) ?_ k92 ?_
  rotate_left
  · exact rfl
  unfold h92 initS
  simp -implicitDefEqProofs only [rkA, rkB, stepA, valA, simprocAttr, Try.ntmps92, Try.results92]
  refine wp_loop (fun m s => ∃ j : Nat, j + m = 16 ∧ s = ⟨[nt N, jk, jk, nt (rtB N 16 j), nt (15 - (j : Int)), jk, jk, jk, jk, jk, jk, jk, jk, jk, jk, jk, jk, jk, jk, jk, jk, jk, jk, jk, jk, jk], [], [], [], [], 0, nomem⟩) 16 ?_ ?_
  · simp -implicitDefEqProofs only [rkA, rkB, stepA, valA, simprocAttr]
    exact ⟨0, rfl, by simp [nt, rtB]⟩
  rintro m s ⟨j, hj, rfl⟩
  simp -implicitDefEqProofs only [rkA, rkB, stepA, valA, simprocAttr]
  refine gB_dec ?_ ?_ <;> intro hc <;> simp -implicitDefEqProofs only [hc, rkA, rkB, stepA, valA, simprocAttr]
  · obtain ⟨s1, s2, s3, s4⟩ := hs j (by omega)
    have e1 : 16 - j = (15 - j) + 1 := by omega
    have e2 : (15 - (j : Int)) = ((15 - j : Nat) : Int) := by omega
    have e3 : 16 - 1 - j = 15 - j := by omega
    have h0k : (0 : Int) ≤ ((15 - j : Nat) : Int) := by omega
    have hkb : min ((15 - j : Nat) : Int).toNat (IntKind.bits .i64) = 15 - j := by
      have : IntKind.bits .i64 = 64 := rfl
      rw [this, Int.toNat_natCast]
      omega
    rw [e1] at s3
    have hp : (2 : Nat) ^ (15 - j) ≤ 2 ^ 15 := Nat.pow_le_pow_right (by omega) (by omega)
    have hrl : rtB N 16 j < 2 ^ 16 := by
      have : 0 < 2 ^ (16 - j) := Nat.pow_pos (by omega)
      omega
    have hpI : (1 : Int) * 2 ^ (15 - j) = ((2 ^ (15 - j) : Nat) : Int) := by rw [Int.one_mul, Int.natCast_pow]; rfl
    have hw1 : IntKind.wrap .i64 ((2 ^ (15 - j) : Nat) : Int) = ((2 ^ (15 - j) : Nat) : Int) := wrapNat (by omega)
    have hor := or_bit (r := rtB N 16 j) (k := 15 - j) (by omega) (by omega) s3
    have hbits : IntKind.bits .i64 = 64 := rfl
    have hw2 : IntKind.wrap .i64 ((rtB N 16 j + 2 ^ (15 - j) : Nat) : Int) = ((rtB N 16 j + 2 ^ (15 - j) : Nat) : Int) := wrapNat (by omega)
    have hx : (rtB N 16 j + 2 ^ (15 - j)) * (rtB N 16 j + 2 ^ (15 - j)) ≤ (2 ^ 16 + 2 ^ 15) * (2 ^ 16 + 2 ^ 15) := Nat.mul_le_mul (by omega) (by omega)
    have hw3 : IntKind.wrap .i64 (((rtB N 16 j + 2 ^ (15 - j) : Nat) : Int) * ((rtB N 16 j + 2 ^ (15 - j) : Nat) : Int)) = (((rtB N 16 j + 2 ^ (15 - j)) * (rtB N 16 j + 2 ^ (15 - j)) : Nat) : Int) := by
      rw [← Int.natCast_mul]
      exact wrapNat (by omega)
    have hA : IntKind.wrap .i64 (1 * 2 ^ min ((15 - j : Nat) : Int).toNat (IntKind.bits .i64)) = ((2 ^ (15 - j) : Nat) : Int) := by rw [hkb, hpI, hw1]
    have hB : IntKind.wrap .i64 ((BitVec.ofInt (IntKind.bits .i64) (rtB N 16 j : Int) ||| BitVec.ofInt (IntKind.bits .i64) ((2 ^ (15 - j) : Nat) : Int)).toNat : Int) = ((rtB N 16 j + 2 ^ (15 - j) : Nat) : Int) := by rw [hbits, hor, hw2]
    have hw4 : IntKind.wrap .i64 (((15 - j : Nat) : Int) - 1) = 15 - ((j + 1 : Nat) : Int) := by rw [wrapped (by omega) (by omega)]; omega
    simp -implicitDefEqProofs only [e2, h0k, hA, hB, hw3, rkA, rkB, stepA, valA, simprocAttr]
    refine gB_dec ?_ ?_ <;> intro hq
    · have hr : rtB N 16 (j + 1) = rtB N 16 j + 2 ^ (15 - j) := by simp only [rtB, e3]; rw [if_pos (by omega)]
      simp -implicitDefEqProofs only [hw4, rkA, rkB, stepA, valA, simprocAttr]
      refine loopK_of (m' := m - 1) (by omega) ?_
      simp -implicitDefEqProofs only [rkA, rkB, stepA, valA, simprocAttr]
      exact ⟨j + 1, by omega, by rw [hr]⟩
    · have hr : rtB N 16 (j + 1) = rtB N 16 j := by simp only [rtB, e3]; rw [if_neg (by omega)]
      simp -implicitDefEqProofs only [hw4, rkA, rkB, stepA, valA, simprocAttr]
      refine loopK_of (m' := m - 1) (by omega) ?_
      simp -implicitDefEqProofs only [rkA, rkB, stepA, valA, simprocAttr]
      exact ⟨j + 1, by omega, by rw [hr]⟩
  · have hj16 : j = 16 := by omega
    subst hj16
    obtain ⟨f1, f2, f3⟩ := rtB_final hN
    have hw3 : IntKind.wrap .i64 ((rtB N 16 16 : Int) * (rtB N 16 16 : Int)) = ((rtB N 16 16 * rtB N 16 16 : Nat) : Int) := by
      rw [← Int.natCast_mul]
      exact wrapNat (by omega)
    simp -implicitDefEqProofs only [hw3, rkA, rkB, stepA, valA, simprocAttr]
    unfold rootI
    rw [Int.toNat_natCast]
    refine gB_bool ?_ ?_ <;> intro hq
    · have : ¬ rtB N 16 16 * rtB N 16 16 = N := by
        have := bne_iff_ne.1 hq
        omega
      rw [if_neg this]
      simp -implicitDefEqProofs only [rkA, rkB, stepA, valA, simprocAttr]
    · have : rtB N 16 16 * rtB N 16 16 = N := by
        have := (bne_eq_false_iff_eq (a := ((rtB N 16 16 * rtB N 16 16 : Nat) : Int)) (b := (N : Int))).1 hq
        omega
      rw [if_pos this]
      simp -implicitDefEqProofs only [rkA, rkB, stepA, valA, simprocAttr]

def rootF (a : Fr) : Fr := if a.fine = false ∨ a.n < 0 ∨ rootI a.n < 0 ∨ rootI a.d < 0 then .wrong else newF (rootI a.n) (rootI a.d)
theorem fine_bnd {a : Fr} (h : a.fine = true) : 1 ≤ a.d ∧ a.d ≤ 1073741824 ∧ a.n ≤ 1073741824 ∧ -1073741824 ≤ a.n := by
  simp only [Fr.fine, Bool.and_eq_true, decide_eq_true_eq] at h
  omega
theorem ok86 (a : Fr) : Ok Try.prog 86 [frV a] (frV (rootF a)) := by
  refine ok_fn mixed Try.func86 (code := ?_) (h := h86) ?_ k86 ?_
  rotate_left
  · exact rfl
  unfold h86 initS
  simp -implicitDefEqProofs only [rkA, rkB, stepA, valA, simprocAttr, Try.ntmps86, Try.results86]
  refine call_fn rfl rfl rfl (ok49 a) ?_
  cases hf : a.fine with
  | false =>
    simp -implicitDefEqProofs only [rkA, rkB, stepA, valA, simprocAttr]
    refine call_fn rfl rfl rfl (ok50) ?_
    have : rootF a = .wrong := by unfold rootF; rw [if_pos (.inl hf)]
    rw [this]
    simp -implicitDefEqProofs only [rkA, rkB, stepA, valA, simprocAttr]
  | true =>
    obtain ⟨d1, d2, n1, n2⟩ := fine_bnd hf
    simp -implicitDefEqProofs only [rkA, rkB, stepA, valA, simprocAttr]
    refine gB_dec ?_ ?_ <;> intro hn <;> simp -implicitDefEqProofs only [hn, rkA, rkB, stepA, valA, simprocAttr]
    · refine call_fn rfl rfl rfl (ok50) ?_
      have : rootF a = .wrong := by unfold rootF; rw [if_pos (.inr (.inl hn))]
      rw [this]
      simp -implicitDefEqProofs only [rkA, rkB, stepA, valA, simprocAttr]
    · refine call_fn rfl rfl rfl (ok92 a.n (by omega) n1) ?_
      simp -implicitDefEqProofs only [rkA, rkB, stepA, valA, simprocAttr]
      refine gB_dec ?_ ?_ <;> intro hr <;> simp -implicitDefEqProofs only [hr, rkA, rkB, stepA, valA, simprocAttr]
      · refine call_fn rfl rfl rfl (ok50) ?_
        have : rootF a = .wrong := by unfold rootF; rw [if_pos (.inr (.inr (.inl hr)))]
        rw [this]
        simp -implicitDefEqProofs only [rkA, rkB, stepA, valA, simprocAttr]
      · refine call_fn rfl rfl rfl (ok92 a.d (by omega) d2) ?_
        simp -implicitDefEqProofs only [rkA, rkB, stepA, valA, simprocAttr]
        refine gB_dec ?_ ?_ <;> intro hs <;> simp -implicitDefEqProofs only [hs, rkA, rkB, stepA, valA, simprocAttr]
        · refine call_fn rfl rfl rfl (ok50) ?_
          have : rootF a = .wrong := by unfold rootF; rw [if_pos (.inr (.inr (.inr hs)))]
          rw [this]
          simp -implicitDefEqProofs only [rkA, rkB, stepA, valA, simprocAttr]
        · refine call_fn rfl rfl rfl (ok92 a.n (by omega) n1) ?_
          simp -implicitDefEqProofs only [rkA, rkB, stepA, valA, simprocAttr]
          refine call_fn rfl rfl rfl (ok92 a.d (by omega) d2) ?_
          simp -implicitDefEqProofs only [rkA, rkB, stepA, valA, simprocAttr]
          refine call_fn rfl rfl rfl (ok27 (rootI a.n) (rootI a.d)) ?_
          have : rootF a = newF (rootI a.n) (rootI a.d) := by
            unfold rootF
            rw [if_neg (by rw [hf]; rintro (h | h | h | h) <;> first | cases h | omega)]
          rw [this]
          simp -implicitDefEqProofs only [rkA, rkB, stepA, valA, simprocAttr]

def signF (a : Fr) : Int := if a.fine = false then 0 else if a.n = 0 then 0 else if a.n < 0 then -1 else 1
theorem ok19 (a : Fr) : Ok Try.prog 19 [frV a] (num (signF a)) := by
  refine ok_fn mixed Try.func19 (code := ?_) (h := h19) ?_ k19 ?_
  rotate_left
  · exact rfl
  unfold h19 initS
  simp -implicitDefEqProofs only [rkA, rkB, stepA, valA, simprocAttr, Try.ntmps19, Try.results19]
  refine call_fn rfl rfl rfl (ok49 a) ?_
  unfold signF
  cases hf : a.fine with
  | false => simp -implicitDefEqProofs only [rkA, rkB, stepA, valA, simprocAttr]
  | true =>
    simp -implicitDefEqProofs only [rkA, rkB, stepA, valA, simprocAttr]
    refine gB_bool ?_ ?_ <;> intro h0
    · have e0 : a.n = 0 := by simpa using h0
      simp -implicitDefEqProofs only [e0, rkA, rkB, stepA, valA, simprocAttr]
    · have e0 : ¬ a.n = 0 := by simpa using h0
      simp -implicitDefEqProofs only [e0, rkA, rkB, stepA, valA, simprocAttr]
      refine gB_dec ?_ ?_ <;> intro h1 <;> simp -implicitDefEqProofs only [h1, rkA, rkB, stepA, valA, simprocAttr]
end Go.Proofs.Ytbflmeomkfjikaa.A


set_option linter.unusedVariables false
set_option linter.unusedSimpArgs false
set_option maxRecDepth 100000
namespace Go.Proofs.Ytbflmeomkfjikaa.A
open Go Go.RowKit Go.Shelf

theorem grid_of {α : Type} {g : Nat → Nat → α} {n N : Nat} {l : List α} (hl : l.length = N * n) (h : ∀ i k, i < N → k < n → l[i * n + k]? = some (g i k)) : l = gridP g n N 0 := by
  have hg := gridP_length g n N 0
  apply List.ext_getElem?
  intro j
  by_cases hj : j < N * n
  · have hn : 0 < n := by
      rcases Nat.eq_zero_or_pos n with h0 | h0
      · subst h0; simp at hj
      · exact h0
    have h1 : j / n < N := Nat.div_lt_of_lt_mul (by rwa [Nat.mul_comm] at hj)
    have h2 : j % n < n := Nat.mod_lt _ hn
    have h3 : j / n * n + j % n = j := by rw [Nat.mul_comm]; exact Nat.div_add_mod j n
    have e1 := h _ _ h1 h2
    have e2 := gridP_get g n N _ _ h1 h2
    rw [h3] at e1 e2
    rw [e1, e2]
  · rw [List.getElem?_eq_none (by omega), List.getElem?_eq_none (by omega)]
theorem gridP_congr {α : Type} {g f : Nat → Nat → α} {n N : Nat} (h : ∀ i k, i < N → k < n → g i k = f i k) : gridP g n N 0 = gridP f n N 0 := by
  rw [gridP_zero, gridP_zero]
  apply flatMap_same
  intro i hi
  apply List.map_congr_left
  intro k hk
  exact h i k (List.mem_range.1 hi) (List.mem_range.1 hk)

section
variable (a b : List Int) (R K : Nat)
end

section
variable {a b : List Int} {R K : Nat}
theorem right_nat (hR : 1 ≤ R ∧ R ≤ 16) (hK : 1 ≤ K ∧ K ≤ 16) {n : Nat} (hl : n = R * K) : right (R : Int) (K : Int) n = true := by
  simp only [right, Bool.and_eq_true, decide_eq_true_eq, beq_iff_eq]
  refine ⟨by omega, by omega, ?_⟩
  rw [hl]
  simp
end
end Go.Proofs.Ytbflmeomkfjikaa.A


set_option linter.unusedVariables false
set_option linter.unusedSimpArgs false
namespace Go.Proofs.Ytbflmeomkfjikaa.A
open Go Go.RowKit Go.Shelf

/-- All numbers of a row lie within a bound. -/
def bnd (B : Nat) (l : List Int) : Prop := ∀ x ∈ l, x.natAbs ≤ B
theorem grid_getD {g : Nat → Nat → Int} {n N i k : Nat} (hi : i < N) (hk : k < n) : (gridP g n N 0).getD (i * n + k) 0 = g i k := by
  rw [List.getD_eq_getElem?_getD, gridP_get g n N i k hi hk, Option.getD_some]
end Go.Proofs.Ytbflmeomkfjikaa.A


set_option linter.unusedVariables false
set_option linter.unusedSimpArgs false
set_option maxRecDepth 100000
namespace Go.Proofs.Ytbflmeomkfjikaa.A
open Go Go.RowKit Go.Shelf

/-! ### The unit -/
end Go.Proofs.Ytbflmeomkfjikaa.A



set_option linter.unusedVariables false
set_option linter.unusedSimpArgs false
set_option maxRecDepth 100000
namespace Go.Proofs.Ytbflmeomkfjikaa.A
open Go Go.RowKit Go.Shelf

/-! ### Plain laws of products -/
theorem dotI_sum (a b : List Int) (many cols i k : Nat) : ∀ j, dotI a b many cols i k j = ((List.range j).map fun j => a.getD (i * many + j) 0 * b.getD (j * cols + k) 0).sum
  | 0 => rfl
  | j + 1 => by
    simp only [dotI, List.range_succ, List.map_append, List.sum_append, List.map_cons, List.map_nil, List.sum_cons, List.sum_nil]
    rw [dotI_sum a b many cols i k j]
    omega

theorem sum_congr {f g : Nat → Int} {n : Nat} (h : ∀ j, j < n → f j = g j) : ((List.range n).map f).sum = ((List.range n).map g).sum := by
  congr 1
  apply List.map_congr_left
  intro j hj
  exact h j (List.mem_range.1 hj)
theorem sum_mul (f : Nat → Int) (c : Int) : ∀ n, ((List.range n).map f).sum * c = ((List.range n).map fun j => f j * c).sum
  | 0 => by simp
  | n + 1 => by
    simp only [List.range_succ, List.map_append, List.sum_append, List.map_cons, List.map_nil, List.sum_cons, List.sum_nil, Int.add_mul]
    rw [sum_mul f c n]
    omega
theorem mul_sum' (f : Nat → Int) (c : Int) (n : Nat) : c * ((List.range n).map f).sum = ((List.range n).map fun j => c * f j).sum := by
  rw [Int.mul_comm, sum_mul]
  exact sum_congr fun j _ => Int.mul_comm _ _
theorem sum_add (f g : Nat → Int) : ∀ n, ((List.range n).map fun j => f j + g j).sum = ((List.range n).map f).sum + ((List.range n).map g).sum
  | 0 => rfl
  | n + 1 => by
    simp only [List.range_succ, List.map_append, List.sum_append, List.map_cons, List.map_nil, List.sum_cons, List.sum_nil]
    rw [sum_add f g n]
    omega
theorem sum_swap (f : Nat → Nat → Int) : ∀ n m, ((List.range n).map fun i => ((List.range m).map fun j => f i j).sum).sum = ((List.range m).map fun j => ((List.range n).map fun i => f i j).sum).sum
  | 0, m => by
    have : ∀ m : Nat, ((List.range m).map fun _ => (0 : Int)).sum = 0 := fun m => by
      induction m with
      | zero => rfl
      | succ m ih => simp [List.range_succ, ih]
    simp [this]
  | n + 1, m => by
    simp only [List.range_succ, List.map_append, List.sum_append, List.map_cons, List.map_nil, List.sum_cons, List.sum_nil, Int.add_zero]
    rw [sum_swap f n m, sum_add]

/-- Brackets do not matter. -/
theorem mul_assoc {a b c : List Int} {N : Nat} : mulI (mulI a b N N N) c N N N = mulI a (mulI b c N N N) N N N := by
  have hg : ∀ {x y : List Int} {i k : Nat}, i < N → k < N → (mulI x y N N N).getD (i * N + k) 0 = dotI x y N N i k N := fun hi hk => grid_getD hi hk
  show gridP _ N N 0 = gridP _ N N 0
  refine gridP_congr fun i k hi hk => ?_
  rw [dotI_sum, dotI_sum]
  have e1 : ((List.range N).map fun j => (mulI a b N N N).getD (i * N + j) 0 * c.getD (j * N + k) 0).sum = ((List.range N).map fun j => ((List.range N).map fun l => a.getD (i * N + l) 0 * b.getD (l * N + j) 0 * c.getD (j * N + k) 0).sum).sum :=
    sum_congr fun j hj => by rw [hg hi hj, dotI_sum, sum_mul]
  have e2 : ((List.range N).map fun l => a.getD (i * N + l) 0 * (mulI b c N N N).getD (l * N + k) 0).sum = ((List.range N).map fun l => ((List.range N).map fun j => a.getD (i * N + l) 0 * b.getD (l * N + j) 0 * c.getD (j * N + k) 0).sum).sum :=
    sum_congr fun l hl => by
      rw [hg hl hk, dotI_sum, mul_sum']
      exact sum_congr fun j _ => by rw [Int.mul_assoc]
  rw [e1, e2, sum_swap]

end Go.Proofs.Ytbflmeomkfjikaa.A


set_option linter.unusedVariables false
set_option linter.unusedSimpArgs false
set_option maxRecDepth 100000
namespace Go.Proofs.Ytbflmeomkfjikaa.A
open Go Go.RowKit Go.Shelf

/-! ### Division -/
theorem methDiv : Meth Try.prog 31 "Div" 82 := by
  intro v xs w
  rfl

def divF (a b : Fr) : Fr := if a.fine = false ∨ b.fine = false then .wrong else newF (a.n * b.d) (a.d * b.n)
theorem ok89 (a b : Fr) (ha : a.fine = true) (hb : b.fine = true) : Ok Try.prog 89 [.vp [num a.n, num a.d, tru a.bad], .vp [num b.n, num b.d, tru b.bad]] (.tup [num (a.n * b.d), num (a.d * b.n)]) := by
  obtain ⟨a1, a2, a3, a4, a5⟩ := Fr.fine_spec ha
  obtain ⟨b1, b2, b3, b4, b5⟩ := Fr.fine_spec hb
  have p1 := prod_le (x := a.n) (y := b.d) ⟨a5, a4⟩ (by omega)
  have p3 := prod_le (x := a.d) (y := b.n) (by omega) ⟨b5, b4⟩
  have w1 := wrapped (x := a.n * b.d) (by omega) (by omega)
  have w3 := wrapped (x := a.d * b.n) (by omega) (by omega)
  refine ok_fn mixed Try.func89 (code := ?_) (h := h89) ?_ k89 ?_
  rotate_left
  · exact rfl
  unfold h89 initS
  simp -implicitDefEqProofs only [rkA, rkB, stepA, valA, simprocAttr, Try.ntmps89, Try.results89]
  simp -implicitDefEqProofs only [w1, w3, rkA, rkB, stepA, valA, simprocAttr]
theorem ok82 (a b : Fr) : Ok Try.prog 82 [frV a, frV b] (frV (divF a b)) := by
  refine ok_fn mixed Try.func82 (code := ?_) (h := h82) ?_ k82 ?_
  rotate_left
  · exact rfl
  unfold h82 initS
  simp -implicitDefEqProofs only [rkA, rkB, stepA, valA, simprocAttr, Try.ntmps82, Try.results82]
  refine call_fn rfl rfl rfl (ok88 a b 89 _ _ _ (fun ha hb => ok89 a b ha hb)) ?_
  simp -implicitDefEqProofs only [rkA, rkB, stepA, valA, simprocAttr]
  simp [divF]

/-! ### A row, scaled -/
/-! ### Squares -/
theorem ok37 (ex : Bool) (r c : Int) (l : List Fr) : Ok Try.prog 37 [matV ex r c (frs l)] (tru (right r c l.length && (r == c))) := by
  refine ok_fn mixed Try.func37 (code := ?_) (h := h37) ?_ k37 ?_
  rotate_left
  · exact rfl
  unfold h37 initS
  simp -implicitDefEqProofs only [rkA, rkB, stepA, valA, simprocAttr, Try.ntmps37, Try.results37]
  refine call_fn rfl rfl rfl (ok44 ex r c (frs l)) ?_
  have e : (frs l).length = l.length := by simp
  rw [e]
  cases hr : right r c l.length with
  | false => simp -implicitDefEqProofs only [rkA, rkB, stepA, valA, simprocAttr]
  | true => simp -implicitDefEqProofs only [rkA, rkB, stepA, valA, simprocAttr]

/-- A square. -/
def sqF (r : Int) (l : List Fr) : List Fr := mirF r (prodF r r r l (turnF r r l))
theorem prodF_len {r m c : Int} {a b : List Fr} : (prodF r m c a b).length = r.toNat * c.toNat := by
  unfold prodF
  simp only [List.length_flatMap, List.length_map, allF, List.length_range, List.map_map]
  have e : ∀ l : List Nat, (l.map ((fun _ => c.toNat) ∘ fun (i : Nat) => rowF r m a (i : Int))).sum = l.length * c.toNat := fun l => by
    induction l with
    | nil => simp
    | cons x l ih => rw [List.map_cons, List.sum_cons, ih, List.length_cons, Nat.add_mul, Nat.one_mul, Nat.add_comm]; rfl
  rw [e, List.length_range]
theorem right_sq {n : Nat} (hn : 1 ≤ n ∧ n ≤ 16) {l : List Fr} (h : l.length = n * n) : right (n : Int) (n : Int) l.length = true := right_nat hn hn h
theorem ok14 (n : Nat) (hn : 1 ≤ n ∧ n ≤ 16) (ex : Bool) (l : List Fr) (h : l.length = n * n) : Ok Try.prog 14 [matV ex n n (frs l)] (.tup [matV false n n (frs (sqF n l)), tru true]) := by
  have hr := right_sq hn h
  refine ok_fn mixed Try.func14 (code := ?_) (h := h14) ?_ k14 ?_
  rotate_left
  · exact rfl
  unfold h14 initS
  simp -implicitDefEqProofs only [rkA, rkB, stepA, valA, simprocAttr, Try.ntmps14, Try.results14]
  refine call_fn rfl rfl rfl (ok37 ex n n l) ?_
  simp -implicitDefEqProofs only [hr, beq_self_eq_true, rkA, rkB, stepA, valA, simprocAttr]
  have h25 := ok20 ex n n l
  rw [if_pos hr] at h25
  refine call_fn rfl rfl rfl (h25) ?_
  simp -implicitDefEqProofs only [rkA, rkB, stepA, valA, simprocAttr]
  have hrt := right_turn hr
  have h13 := ok33 ex false n n n n l (turnF n n l)
  rw [if_pos ⟨hr, hrt, rfl⟩] at h13
  refine call_fn rfl rfl rfl (h13) ?_
  simp -implicitDefEqProofs only [rkA, rkB, stepA, valA, simprocAttr]
  have h33 := ok16 false n n (prodF n n n l (turnF n n l))
  have hp : right (n : Int) (n : Int) (prodF n n n l (turnF n n l)).length = true := right_sq hn (by rw [prodF_len]; simp)
  rw [if_pos ⟨hp, rfl⟩] at h33
  refine call_fn rfl rfl rfl (h33) ?_
  simp -implicitDefEqProofs only [rkA, rkB, stepA, valA, simprocAttr, sqF]
end Go.Proofs.Ytbflmeomkfjikaa.A


set_option linter.unusedVariables false
set_option linter.unusedSimpArgs false
set_option maxRecDepth 100000
namespace Go.Proofs.Ytbflmeomkfjikaa.A
open Go Go.RowKit Go.Shelf

/-! ### Squares in memory, row by row -/
def rowM (n : Nat) (M : Nat → Nat → Fr) (i : Nat) : List Fr := (List.range n).map (M i)
def setM (M : Nat → Nat → Fr) (i k : Nat) (x : Fr) : Nat → Nat → Fr := fun a b => if a = i ∧ b = k then x else M a b
theorem rowM_length (n : Nat) (M : Nat → Nat → Fr) (i : Nat) : (rowM n M i).length = n := by simp [rowM]
theorem rowM_get {n : Nat} {M : Nat → Nat → Fr} {i k : Nat} (h : k < n) : (rowM n M i)[k]? = some (M i k) := by simp [rowM, h]
theorem rowM_set {n : Nat} {M : Nat → Nat → Fr} {i k : Nat} {x : Fr} (h : k < n) : (rowM n M i).set k x = rowM n (setM M i k x) i := by
  apply List.ext_getElem?
  intro j
  rw [List.getElem?_set]
  by_cases hj : j < n
  · by_cases e : k = j
    · subst e
      rw [if_pos rfl, if_pos (by rw [rowM_length]; exact h), rowM_get h]
      simp [setM]
    · rw [if_neg e, rowM_get hj, rowM_get hj]
      have : ¬ (j = k) := fun h => e h.symm
      simp [setM, this]
  · rw [if_neg (by omega), List.getElem?_eq_none (by rw [rowM_length]; omega), List.getElem?_eq_none (by rw [rowM_length]; omega)]
theorem rowM_other {n : Nat} {M : Nat → Nat → Fr} {i j k : Nat} {x : Fr} (h : j ≠ i) : rowM n (setM M i k x) j = rowM n M j := by
  simp [rowM, setM, h]

abbrev rawRow (c n : Nat) : PV := .s (.slice (some ⟨c, 0, none⟩) n n)
abbrev nilRow : PV := .s (.slice none 0 0)
/-- The rows' row: b of n are there. -/
def headR (n b : Nat) (c : Nat → Nat) : List PV := (List.range n).map fun j => if j < b then rawRow (c j) n else nilRow
theorem headR_length (n b : Nat) (c : Nat → Nat) : (headR n b c).length = n := by simp [headR]
structure RowsIn (m : Mem) (R : Nat) (c : Nat → Nat) (n b : Nat) (M : Nat → Nat → Fr) : Prop where
  head : m R = some (headR n b c)
  row : ∀ i, i < b → m (c i) = some (flat (frs (rowM n M i)))
  ne : ∀ i, i < b → c i ≠ R
  inj : ∀ i j, i < b → j < b → c i = c j → i = j

theorem RowsIn.store {m : Mem} {R : Nat} {c : Nat → Nat} {n b : Nat} {M : Nat → Nat → Fr} (h : RowsIn m R c n b M) {i k : Nat} (hi : i < b) (hk : k < n) (x : Fr) :
    RowsIn (m.put (c i) (flat (frs ((rowM n M i).set k x)))) R c n b (setM M i k x) where
  head := by rw [Mem.put_other _ _ (fun e => h.ne i hi e.symm)]; exact h.head
  row := fun j hj => by
    by_cases e : j = i
    · subst e
      rw [Mem.put_same, rowM_set hk]
    · rw [Mem.put_other _ _ (fun e' => e (h.inj j i hj hi e')), rowM_other e]
      exact h.row j hj
  ne := h.ne
  inj := h.inj

theorem tells_map {α : Type} {m : Mem} {f g : α → PV} : ∀ {l : List α}, (∀ x ∈ l, Tell m (f x) (g x)) → Tells m (l.map f) (l.map g)
  | [], _ => .nil
  | x :: l, h => .cons (h x (by simp)) (tells_map fun y hy => h y (by simp [hy]))

/-- The rows, as values. -/
abbrev rowsV (n : Nat) (M : Nat → Nat → Fr) : PV := .sl true ((List.range n).map fun i => .sl false (frs (rowM n M i)))
theorem flat_one {l : List PV} (h : ∀ x ∈ l, x.cells = [x]) : flat l = l := by
  induction l with
  | nil => rfl
  | cons x l ih =>
    have e1 := h x (by simp)
    have e2 := ih fun y hy => h y (by simp [hy])
    simp only [flat, List.flatMap_cons, e1] at e2 ⊢
    rw [e2]
    rfl
theorem RowsIn.tell {m : Mem} {R : Nat} {c : Nat → Nat} {n : Nat} {M : Nat → Nat → Fr} (h : RowsIn m R c n n M) : Tell m (rawRow R n) (rowsV n M) := by
  have hf : flat ((List.range n).map fun i => PV.sl false (frs (rowM n M i))) = (List.range n).map fun i => PV.sl false (frs (rowM n M i)) := flat_one fun x hx => by
    obtain ⟨i, _, rfl⟩ := List.mem_map.1 hx
    rfl
  refine .row (sz := 1) h.head (fun x hx => ?_) (by simp) (by rw [hf, headR_length]; simp) (Nat.le_refl _) (fun _ => rfl) ?_
  · obtain ⟨i, _, rfl⟩ := List.mem_map.1 hx
    rfl
  · rw [hf, List.drop_zero, List.take_of_length_le (by rw [headR_length]; simp)]
    refine tells_map fun i hi => ?_
    have hi' := List.mem_range.1 hi
    rw [if_pos hi']
    have e := h.row i hi'
    rw [← List.append_nil (flat _)] at e
    have := tell_row (m := m) (b := c i) (cap := n) (q := 0) (l := rowM n M i) e (by simp [rowM_length])
    simpa [rowM_length] using this

/-! ### The root of a square -/
def leftM (n : Nat) (p : List Fr) (M : Nat → Nat → Fr) (i k : Nat) : Fr := subF (atF n n p i k) (dotF ((rowM n M i).take k) ((rowM n M k).take k))

theorem methRoot : Meth Try.prog 31 "Root" 86 := by
  intro v xs w
  rfl

def stepD (n : Nat) (p : List Fr) (M : Nat → Nat → Fr) (k : Nat) : Nat → Nat → Fr := setM M k k (rootF (leftM n p M k k))
/-- One column: k + 1 rows below its diagonal are done for every one counted. -/
def colS (n : Nat) (p : List Fr) (k : Nat) (M : Nat → Nat → Fr) : Nat → Nat → Nat → Fr
  | 0 => stepD n p M k
  | j + 1 => setM (colS n p k M j) (k + 1 + j) k (divF (leftM n p (colS n p k M j) (k + 1 + j) k) (colS n p k M j k k))
def rootS (n : Nat) (p : List Fr) : Nat → Nat → Nat → Fr
  | 0 => fun _ _ => newF 0 1
  | k + 1 => colS n p k (rootS n p k) (n - (k + 1))
/-- While the rows are made: noughts so far, zero values behind. -/
def zeroM (i k : Nat) : Nat → Nat → Fr := fun a b => if a < i ∨ a = i ∧ b < k then newF 0 1 else ⟨0, 0, false⟩

theorem flat_zeros : ∀ (n : Nat), (List.replicate n [num 0, num 0, tru false]).flatten = flat (frs (List.replicate n (⟨0, 0, false⟩ : Fr)))
  | 0 => rfl
  | n + 1 => by
    rw [List.replicate_succ, List.flatten_cons, flat_zeros n]
    rfl
theorem zero_row (n i : Nat) : rowM n (zeroM i 0) i = List.replicate n ⟨0, 0, false⟩ := by
  apply List.ext_getElem?
  intro j
  by_cases h : j < n
  · rw [rowM_get h]; simp [zeroM, h]
  · rw [List.getElem?_eq_none (by rw [rowM_length]; omega), List.getElem?_eq_none (by simp; omega)]
theorem RowsIn.grow {m : Mem} {R : Nat} {c : Nat → Nat} {n i b : Nat} (h : RowsIn m R c n i (zeroM i 0)) (hi : i < n) (hb : m b = none) :
    RowsIn ((m.put b (flat (frs (List.replicate n (⟨0, 0, false⟩ : Fr))))).put R (headR n (i + 1) (fun j => if j = i then b else c j))) R (fun j => if j = i then b else c j) n (i + 1) (zeroM i 0) := by
  have hRb : R ≠ b := fun e => by have := h.head; rw [e, hb] at this; cases this
  have hcb : ∀ j, j < i → c j ≠ b := fun j hj e => by have := h.row j hj; rw [e, hb] at this; cases this
  refine ⟨Mem.put_same _ _ _, fun j hj => ?_, fun j hj => ?_, fun j k hj hk => ?_⟩
  · by_cases e : j = i
    · subst e
      rw [if_pos rfl, Mem.put_other _ _ (fun e => hRb e.symm), Mem.put_same, zero_row]
    · rw [if_neg e, Mem.put_other _ _ (h.ne j (by omega)), Mem.put_other _ _ (hcb j (by omega))]
      exact h.row j (by omega)
  · by_cases e : j = i
    · rw [if_pos e]; exact fun e => hRb e.symm
    · rw [if_neg e]; exact h.ne j (by omega)
  · by_cases e : j = i <;> by_cases e' : k = i
    · intro _; omega
    · rw [if_pos e, if_neg e']
      exact fun h1 => absurd h1.symm (hcb k (by omega))
    · rw [if_neg e, if_pos e']
      exact fun h1 => absurd h1 (hcb j (by omega))
    · rw [if_neg e, if_neg e']
      exact h.inj j k (by omega) (by omega)
theorem RowsIn.congr {m : Mem} {R : Nat} {c : Nat → Nat} {n b : Nat} {M N : Nat → Nat → Fr} (h : RowsIn m R c n b M) (hMN : ∀ i k, i < b → k < n → M i k = N i k) : RowsIn m R c n b N :=
  ⟨h.head, fun i hi => by
    have e : rowM n N i = rowM n M i := by
      unfold rowM
      exact List.map_congr_left fun k hk => (hMN i k hi (List.mem_range.1 hk)).symm
    rw [e]
    exact h.row i hi, h.ne, h.inj⟩

end Go.Proofs.Ytbflmeomkfjikaa.A


set_option linter.unusedVariables false
set_option linter.unusedSimpArgs false
set_option maxRecDepth 100000
namespace Go.Proofs.Ytbflmeomkfjikaa.A
open Go Go.RowKit Go.Shelf

theorem ok38 (n : Nat) (hn : 1 ≤ n ∧ n ≤ 16) (K : Nat) (caps : List PV) (g : Nat → Nat → Fr) (hg : ∀ i k : Nat, i < n → k < n → Ok Try.prog K (num i :: num k :: caps) (frV (g i k))) :
    Ok Try.prog 38 [num n, .fn (.func K) caps] (.tup [matV false n n (frs (gridP g n n 0)), tru true]) := by
  refine Ok.ofM (okm38 n hn K caps g hg) ?_
  rintro r m ⟨b, cap, q, h1, rfl, rfl⟩
  have hl : (frs (gridP g n n 0)).length = (gridP g n n 0).length := by simp
  exact .tup (.cons (.agg (.cons (.same _) (.cons (.same _) (.cons (tell_row (Mem.put_same _ _ _) h1) .nil)))) (.cons (.same _) .nil))

/-! ### Cleared -/
def clearG (n : Nat) (l : List Fr) (i k : Nat) : Fr := if i < k then newF 0 1 else atF n n l i k
def clearF (n : Nat) (l : List Fr) : List Fr := gridP (clearG n l) n n 0
theorem ok39 (e : Bool) (n : Nat) (l : List Fr) (i k : Nat) : Ok Try.prog 39 [num i, num k, .vp [num 0, num 0, tru false], .vp [num n, num n, .sl e (frs l)]] (frV (clearG n l i k)) := by
  refine ok_fn mixed Try.func39 (code := ?_) (h := h39) ?_ k39 ?_
  rotate_left
  · exact rfl
  unfold h39 initS
  simp -implicitDefEqProofs only [rkA, rkB, stepA, valA, simprocAttr, Try.ntmps39, Try.results39]
  unfold clearG
  refine gB_dec ?_ ?_ <;> intro hc <;> simp -implicitDefEqProofs only [hc, rkA, rkB, stepA, valA, simprocAttr]
  · have : i < k := by omega
    refine call_meth rfl rfl methOf (ok85 ⟨0, 0, false⟩ 0) ?_
    rw [if_pos this]
    simp -implicitDefEqProofs only [rkA, rkB, stepA, valA, simprocAttr]
  · have : ¬ i < k := by omega
    refine call_fn rfl rfl rfl (ok40 e n n i k l) ?_
    rw [if_neg this]
    simp -implicitDefEqProofs only [rkA, rkB, stepA, valA, simprocAttr]

theorem ok11 (n : Nat) (hn : 1 ≤ n ∧ n ≤ 16) (e : Bool) (l : List Fr) (h : l.length = n * n) : Ok Try.prog 11 [matV e n n (frs l)] (.tup [matV false n n (frs (clearF n l)), tru true]) := by
  have hr := right_sq hn h
  refine ok_fn mixed Try.func11 (code := ?_) (h := h11) ?_ k11 ?_
  rotate_left
  · exact rfl
  unfold h11 initS
  simp -implicitDefEqProofs only [rkA, rkB, stepA, valA, simprocAttr, Try.ntmps11, Try.results11]
  refine call_fn rfl rfl rfl (ok37 e n n l) ?_
  simp -implicitDefEqProofs only [hr, beq_self_eq_true, rkA, rkB, stepA, valA, simprocAttr]
  refine call_fn rfl rfl rfl (ok38 n hn _ _ (clearG n l) (fun i k _ _ => ok39 e n l i k)) ?_
  simp -implicitDefEqProofs only [rkA, rkB, stepA, valA, simprocAttr, clearF]

/-! ### The diagonal -/
theorem rowF_get {r c : Int} {l : List Fr} (hr : right r c l.length = true) {i k : Nat} (hi : i < r.toNat) (hk : k < c.toNat) : (frs (rowF r c l i))[k]? = some (frV (atF r c l i k)) := by
  have h0 := rowF_eq ⟨0, 0, false⟩ hr (i := i) hi
  have h1 := atF_eq hr (i := i) (k := k) hi hk
  rw [h0, List.getElem?_map, List.getElem?_map, List.getElem?_range hk, h1]
  rfl
/-! ### Is it a triangle? -/
end Go.Proofs.Ytbflmeomkfjikaa.A


set_option linter.unusedVariables false
set_option linter.unusedSimpArgs false
set_option maxRecDepth 100000
namespace Go.Proofs.Ytbflmeomkfjikaa.A
open Go Go.RowKit Go.Shelf

/-! ### Rows in memory of their own -/
theorem okn18 (ex : Bool) (r c : Int) (i : Nat) (l : List Fr) (hr : right r c l.length = true) (hi : i < r.toNat) : OkN Try.prog 18 [matV ex r c (frs l), num i] (frs (rowF r c l i)) := by
  obtain ⟨r1, r2, c1, c2, hn⟩ := right_spec hr
  have hlen := rowF_len hr hi
  have hrow : rowF r c l i = (l.take (((i : Int) + 1) * c).toNat).drop ((i : Int) * c).toNat := if_pos ⟨hr, by omega, by omega⟩
  have hne : rowF r c l i ≠ [] := fun h => by rw [h] at hlen; simp at hlen; omega
  rw [hrow] at hne ⊢
  refine okn_fn mixed Try.func18 (code := ?_) (h := hN18) ?_ kN18 rfl (RFs_frs _) ?_
  rotate_left
  · exact rfl
  unfold hN18 initS
  simp -implicitDefEqProofs only [rkA, rkB, stepA, valA, simprocAttr, Try.ntmps18, Try.results18]
  refine call_fn rfl rfl rfl (ok44 ex r c (frs l)) ?_
  have e : (frs l).length = l.length := by simp
  have g1 : ¬ (i : Int) < 0 := by omega
  have g2 : ¬ (i : Int) ≥ r := by omega
  obtain ⟨b1, b2, b3, b4, b5⟩ := at_bound (i := i) (k := 0) r2 ⟨c1, c2⟩ (by omega) (by omega)
  have b6 : ((i : Int) + 1) * c = i * c + c := by rw [Int.add_mul, Int.one_mul]
  have b7 : ((i : Int) + 1) * c ≤ r * c := Int.mul_le_mul_of_nonneg_right (by omega) (by omega)
  have w1 := wrapped (x := (i : Int) * c) (by omega) (by omega)
  have w2 := wrapped (x := (i : Int) + 1) (by omega) (by omega)
  have w3 := wrapped (x := ((i : Int) + 1) * c) (by omega) (by omega)
  have h3 : 0 ≤ ((i : Int) + 1) * c := by omega
  have hs := sl_frs (ex := ex) (l := l) (a := ((i : Int) * c).toNat) (b := (((i : Int) + 1) * c).toNat) (by omega) (by omega)
  simp -implicitDefEqProofs only [e, hr, g1, g2, w1, w2, w3, b1, h3, hs, rkA, rkB, stepA, valA, simprocAttr]
  refine newRow_fn rfl rfl (Tells.same _ _) (okn48 _ _ hne (by simp; omega)) (RFs_frs _) (by simpa using hne) ?_
  intro b cap q hb hcap
  simp -implicitDefEqProofs only [rkA, rkB, stepA, valA, simprocAttr]
  exact .inr ⟨_, rfl, .inr ⟨by simpa using hne, b, cap, q, hcap, rfl, rfl⟩⟩

/-- Row i, in memory of its own. -/
def rowItem (r c : Int) (l : List Fr) (i : Nat) : Item := fun p m => ∃ b cap q, (frs (rowF r c l i)).length ≤ cap ∧ p = [num i, .s (.slice (some ⟨b, 0, none⟩) (frs (rowF r c l i)).length cap)] ∧ m = nomem.put b (flat (frs (rowF r c l i)) ++ List.replicate q .junk)
def rowItems (r c : Int) (l : List Fr) : List Item := (List.range r.toNat).map (rowItem r c l)
theorem itm54 (ex : Bool) (r c : Int) (l : List Fr) (hr : right r c l.length = true) : IterOkM Try.prog (.fn (.func 54) [.vp [num r, num c, .sl ex (frs l)]]) (rowItems r c l) := by
  obtain ⟨r1, r2, c1, c2, hn⟩ := right_spec hr
  have hl : (rowItems r c l).length = r.toNat := by simp [rowItems]
  have e : (frs l).length = l.length := by simp
  have h17 := ok44 ex r c (frs l)
  rw [e, hr] at h17
  refine iterM_fn mixed Try.func54 (code := ?_) (h := hN54) ?_ kN54 ?_ ?_
  rotate_left
  · exact rfl
  · exact rfl
  intro yl
  unfold hN54 initS
  simp -implicitDefEqProofs only [rkA, rkB, stepA, valA, simprocAttr, Try.ntmps54]
  refine wp_loop (fun m s => ∃ i : Nat, i + m = (rowItems r c l).length ∧ s = ⟨[.v (.fn (.yield yl) []), .v (.vp [num r, num c, .sl ex (frs l)]), jk, nt i, jk, jk, jk, jk, jk, jk, jk, jk, jk, jk, jk, jk, jk, jk, jk, jk, jk], [], [], [], [], i, nomem⟩) (rowItems r c l).length ?_ ?_
  · simp -implicitDefEqProofs only [rkA, rkB, stepA, valA, simprocAttr]
    exact ⟨0, by simp, rfl⟩
  rintro m s ⟨i, hi, rfl⟩
  simp -implicitDefEqProofs only [rkA, rkB, stepA, valA, simprocAttr]
  refine call_fn rfl rfl rfl (h17) ?_
  simp -implicitDefEqProofs only [rkA, rkB, stepA, valA, simprocAttr]
  refine gB_dec ?_ ?_ <;> intro hc <;> simp -implicitDefEqProofs only [hc, rkA, rkB, stepA, valA, simprocAttr]
  · have hlt : i < r.toNat := by omega
    have hlen := rowF_len hr hlt
    have hne : frs (rowF r c l i) ≠ [] := fun h => by
      have := congrArg List.length h
      rw [List.length_map, hlen, List.length_nil] at this
      omega
    refine newRow_fn rfl rfl (Tells.same _ _) (okn18 ex r c i l hr hlt) (RFs_frs _) hne ?_
    intro b cap q hb hcap
    simp -implicitDefEqProofs only [rkA, rkB, stepA, valA, simprocAttr]
    have hx : (rowItems r c l)[i]? = some (rowItem r c l i) := by simp [rowItems, hlt]
    have hw := wrapped (x := (i : Int) + 1) (by omega) (by omega)
    refine call_yieldM rfl rfl rfl rfl hx ⟨b, cap, q, hcap, rfl, rfl⟩ ?_ ?_
    · simp -implicitDefEqProofs only [hw, rkA, rkB, stepA, valA, simprocAttr]
      refine loopK_of (m' := m - 1) (by omega) ?_
      simp -implicitDefEqProofs only [rkA, rkB, stepA, valA, simprocAttr]
      exact ⟨i + 1, by omega, by simp only [Int.natCast_add, Int.natCast_one]⟩
    · simp -implicitDefEqProofs only [rkA, rkB, stepA, valA, simprocAttr]
      exact .inr trivial
  · omega

theorem okn58 (ex : Bool) (l : List Fr) (y : Fr) (h : l.length ≤ 5864062014805) : OkN Try.prog 58 [.sl ex (frs l), frV y] (frs (l.map (mulF · y))) := by
  refine okn_fn mixed Try.func58 (code := ?_) (h := hN58) ?_ kN58 rfl (RFs_frs _) ?_
  rotate_left
  · exact rfl
  unfold hN58 initS
  simp -implicitDefEqProofs only [rkA, rkB, stepA, valA, simprocAttr, Try.ntmps58, Try.results58]
  refine wp_loop (fun m s => ∃ i : Nat, i + m = l.length ∧ s = ⟨[jk, jk, jk, .ptr 3 0, jk, .acc 5 (frs ((l.take i).map (mulF · y))), jk, jk, .v (.sl ex (frs l)), nt (frs l).length, nt i, jk, jk, jk, jk, jk, jk, jk, jk, jk, jk, jk, jk], [(3, [nt y.n, nt y.d, .v (tru y.bad)])], [], [(4, 0), (5, i)], [], 0, nomem⟩) l.length ?_ ?_
  · simp -implicitDefEqProofs only [rkA, rkB, stepA, valA, simprocAttr]
    exact ⟨0, by simp, rfl⟩
  rintro m s ⟨i, hi, rfl⟩
  simp -implicitDefEqProofs only [rkA, rkB, stepA, valA, simprocAttr]
  refine gB_dec ?_ ?_ <;> intro hc <;> simp -implicitDefEqProofs only [hc, rkA, rkB, stepA, valA, simprocAttr]
  · have hlt : i < l.length := by simpa using hc
    have h0 : (0 : Int) ≤ (i : Int) := by omega
    have hg : (frs l)[i]? = some (frV l[i]) := by simp [hlt]
    simp -implicitDefEqProofs only [h0, Int.toNat_natCast, hg, rkA, rkB, stepA, valA, simprocAttr]
    refine call_meth rfl rfl methMul (ok83 l[i] y) ?_
    have hfit : fits 3 24 (frs ((l.take i).map (mulF · y))) [frV (mulF l[i] y)] = true := fits_frs (l := [mulF l[i] y]) (by simp; omega)
    have hw := wrapped (x := (i : Int) + 1) (by omega) (by omega)
    have hl : (frs ((l.take i).map (mulF · y))).length = i := by simp; omega
    simp -implicitDefEqProofs only [hfit, hl, hw, rkA, rkB, stepA, valA, simprocAttr]
    refine loopK_of (m' := m - 1) (by omega) ?_
    simp -implicitDefEqProofs only [rkA, rkB, stepA, valA, simprocAttr]
    refine ⟨i + 1, by omega, ?_⟩
    rw [List.take_succ_eq_append_getElem hlt]
    simp only [frs, List.map_append, List.map_cons, List.map_nil, Int.natCast_add, Int.natCast_one]
  · have : i = l.length := by simp only [List.length_map] at hc; omega
    rw [List.take_of_length_le (by omega)]
    refine .inl ⟨5, ?_⟩
    simp -implicitDefEqProofs only [rkA, rkB, stepA, valA, simprocAttr]
    simp [this]
theorem okn46 (k : Nat) (F : Fr → Fr → Fr) (hF : ∀ x y, Ok Try.prog k [frV x, frV y] (frV (F x y))) (ea eb : Bool) (a b : List Fr) (ha : a.length ≤ 5864062014805) (hb : b.length ≤ 5864062014805) :
    OkN Try.prog 46 [.sl ea (frs a), .sl eb (frs b), .fn (.func k) []] (frs (List.zipWith F a b)) := by
  refine okn_fn mixed Try.func46 (code := ?_) (h := hN46) ?_ kN46 rfl (RFs_frs _) ?_
  rotate_left
  · exact rfl
  unfold hN46 initS
  simp -implicitDefEqProofs only [rkA, rkB, stepA, valA, simprocAttr, Try.ntmps46, Try.results46]
  refine call_fn rfl rfl rfl (ok56 ea eb a b) ?_
  simp -implicitDefEqProofs only [rkA, rkB, stepA, valA, simprocAttr]
  have hlz : (List.zipWith F a b).length = min a.length b.length := by simp
  have hpl : (pairsF a b).length = min a.length b.length := by simp [pairsF]
  refine wp_rf (items := pairsF a b) rfl (it59 ea eb a b ha hb) (fun i s => i ≤ (pairsF a b).length ∧ s = ⟨[], [(5, [.v (.fn (.func k) [])]), (7, [.acc 1007 (frs ((List.zipWith F a b).take i))])], [], [(6, 0), (1007, i)],
    [[.v (.sl ea (frs a)), .v (.sl eb (frs b)), .v (.fn (.func k) []), jk, jk, .ptr 5 0, .acc 6 [], .ptr 7 0, jk, jk, .v (.sl ea (frs a)), .v (.sl eb (frs b)), .v (.fn (.func 59) [.vp [.sl ea (frs a)], .vp [.sl eb (frs b)]]), jk, jk, jk, jk, jk, jk, jk, jk, jk, jk]], 0, nomem⟩) ?_ ?_ ?_
  · simp -implicitDefEqProofs only [rkA, rkB, stepA, valA, simprocAttr]
    exact Nat.zero_le _
  · rintro i x' s' R hx ⟨hi, rfl⟩ hR
    have hlt : i < (pairsF a b).length := (List.getElem?_eq_some_iff.1 hx).1
    have h1 : i < a.length := by omega
    have h2 : i < b.length := by omega
    have hx' : x' = [frV a[i], frV b[i]] := by
      rw [pairsF, List.getElem?_map, List.getElem?_eq_getElem (by simp; omega), Option.map_some, List.getElem_zip] at hx
      exact (Option.some.inj hx).symm
    subst hx'
    refine ⟨rfl, ?_⟩
    simp -implicitDefEqProofs only [rkA, rkB, stepA, valA, simprocAttr]
    refine call_fn rfl rfl rfl (hF a[i] b[i]) ?_
    have hfit : fits 3 24 (frs ((List.zipWith F a b).take i)) [frV (F a[i] b[i])] = true := fits_frs (l := [F a[i] b[i]]) (by simp; omega)
    have hl : (frs ((List.zipWith F a b).take i)).length = i := by simp; omega
    simp -implicitDefEqProofs only [hfit, hl, rkA, rkB, stepA, valA, simprocAttr]
    refine hR _ ⟨by omega, ?_⟩
    rw [List.take_succ_eq_append_getElem (by simp; omega)]
    simp only [frs, List.map_append, List.map_cons, List.map_nil, List.getElem_zipWith]
  · rintro s' ⟨hi, rfl⟩
    simp -implicitDefEqProofs only [rkA, rkB, stepA, valA, simprocAttr]
    rw [List.take_of_length_le (by simp; omega)]
    refine .inl ⟨1007, ?_⟩
    simp -implicitDefEqProofs only [rkA, rkB, stepA, valA, simprocAttr]
    simp [pairsF]
theorem okn57 (ea eb : Bool) (a b : List Fr) (ha : a.length ≤ 5864062014805) (hb : b.length ≤ 5864062014805) (h0 : 0 < a.length) (h1 : 0 < b.length) : OkN Try.prog 57 [.sl ea (frs a), .sl eb (frs b)] (frs (List.zipWith subF a b)) := by
  have hne : frs (List.zipWith subF a b) ≠ [] := fun h => by
    have := congrArg List.length h
    simp only [List.length_map, List.length_zipWith, List.length_nil] at this
    omega
  refine okn_fn mixed Try.func57 (code := ?_) (h := hN57) ?_ kN57 rfl (RFs_frs _) ?_
  rotate_left
  · exact rfl
  unfold hN57 initS
  simp -implicitDefEqProofs only [rkA, rkB, stepA, valA, simprocAttr, Try.ntmps57, Try.results57]
  refine newRow_fn rfl rfl (Tells.same _ _) (okn46 60 subF ok60 ea eb a b ha hb) (RFs_frs _) hne ?_
  intro c cap q hc hcap
  simp -implicitDefEqProofs only [rkA, rkB, stepA, valA, simprocAttr]
  exact .inr ⟨_, rfl, .inr ⟨hne, c, cap, q, hcap, rfl, rfl⟩⟩
end Go.Proofs.Ytbflmeomkfjikaa.A


set_option linter.unusedVariables false
set_option linter.unusedSimpArgs false
set_option maxRecDepth 100000
namespace Go.Proofs.Ytbflmeomkfjikaa.A
open Go Go.RowKit Go.Shelf

/-! ### Rows in memory: each in a block of its own -/
abbrev rawC (c cap : Nat → Nat) (w i : Nat) : PV := .s (.slice (some ⟨c i, 0, none⟩) w (cap i))
abbrev jnk (q : Nat) : List PV := List.replicate q .junk
structure RowsC (m : Mem) (c q : Nat → Nat) (n w : Nat) (M : Nat → Nat → Fr) : Prop where
  row : ∀ i, i < n → m (c i) = some (flat (frs (rowM w M i)) ++ jnk (q i))
  inj : ∀ i j, i < n → j < n → c i = c j → i = j
theorem flat_frs_drop {l : List Fr} {k : Nat} (post : List PV) (h : k ≤ l.length) : (flat (frs l) ++ post).drop (k * 3) = flat (frs (l.drop k)) ++ post := by
  have e : frs l = frs (l.take k) ++ frs (l.drop k) := by rw [← List.map_append, List.take_append_drop]
  have hl : (flat (frs (l.take k))).length = k * 3 := by
    rw [flat_length (frs_cells _), List.length_map, List.length_take, Nat.min_eq_left h]
  rw [e, flat_append, List.append_assoc, ← hl, List.drop_left]
theorem flat_frs_take {l : List Fr} {k : Nat} (post : List PV) (h : k ≤ l.length) : (flat (frs l) ++ post).take (k * 3) = flat (frs (l.take k)) := by
  have e : frs l = frs (l.take k) ++ frs (l.drop k) := by rw [← List.map_append, List.take_append_drop]
  have hl : (flat (frs (l.take k))).length = k * 3 := by
    rw [flat_length (frs_cells _), List.length_map, List.length_take, Nat.min_eq_left h]
  conv => lhs; rw [e, flat_append, List.append_assoc, ← hl, List.take_left]
/-- The rest of a row in memory, told as a value. -/
theorem tell_rest {m : Mem} {b cap k : Nat} {l : List Fr} {post : List PV} (hm : m b = some (flat (frs l) ++ post)) (hk : k ≤ l.length) (hc : l.length ≤ cap) : Tell m (.s (.slice (some ⟨b, k * 3, none⟩) (l.length - k) (cap - k))) (.sl false (frs (l.drop k))) := by
  have hd := flat_frs_drop (l := l) (k := k) post hk
  have hl3 : (flat (frs (l.drop k))).length = (l.length - k) * 3 := by rw [flat_length (frs_cells _), List.length_map, List.length_drop]
  refine .row hm (frs_cells _) (by simp) ?_ (by omega) (fun h => by cases h) ?_
  · rw [List.length_append, hl3, flat_length (frs_cells _), List.length_map, Nat.sub_mul]
    have : k * 3 ≤ l.length * 3 := Nat.mul_le_mul_right _ hk
    omega
  · rw [hd, List.take_left]
    exact Tells.same _ _

theorem ldM_frj {l : List Fr} {k : Nat} {x : Fr} {post : List PV} (h : l[k]? = some x) : ldM true 3 (k * 3) (flat (frs l) ++ post) = some (.v (frV x)) :=
  ldM_elem (els := frs l) (sz := 3) (k := k) (e := frV x) (frs_cells l) (by simp [h]) post
theorem stM_frj {l : List Fr} {k : Nat} {x : Fr} {post : List PV} (h : k < l.length) : stM 3 (k * 3) (flat (frs l) ++ post) (frV x) = some (flat (frs (l.set k x)) ++ post) := by
  have := stM_elem (els := frs l) (sz := 3) (k := k) (e := frV x) (frs_cells l) (by simpa using h) rfl rfl post
  rw [this]
  simp [frs, List.map_set]
theorem frs_ok (l : List Fr) : (frs l).all (fun e => e.ok && e.cells.length == 3) = true := by
  rw [List.all_eq_true]
  intro e he
  obtain ⟨x, _, rfl⟩ := List.mem_map.1 he
  rfl
theorem methSign : Meth Try.prog 31 "Sign" 19 := by
  intro v xs w
  rfl
theorem methNeg : Meth Try.prog 31 "Neg" 84 := by
  intro v xs w
  rfl

/-! ### One column folded -/
def xF (w : Nat) (M : Nat → Nat → Fr) (k : Nat) : List Fr := (rowM w M k).drop k
def normF (w : Nat) (M : Nat → Nat → Fr) (k : Nat) : Fr := if 0 ≤ signF (M k k) then negF (rootF (dotF (xF w M k) (xF w M k))) else rootF (dotF (xF w M k) (xF w M k))
def vA (w : Nat) (M : Nat → Nat → Fr) (k c : Nat) : Fr := if c = k then subF (M k k) (normF w M k) else M k c
def vF (w : Nat) (M : Nat → Nat → Fr) (k : Nat) : List Fr := ((List.range w).map (vA w M k)).drop k
def tF (w : Nat) (M : Nat → Nat → Fr) (k i : Nat) : Fr := divF (addF (dotF ((rowM w M i).drop k) (vF w M k)) (dotF ((rowM w M i).drop k) (vF w M k))) (dotF (vF w M k) (vF w M k))
def foldTo (w : Nat) (M : Nat → Nat → Fr) (k j : Nat) : Nat → Nat → Fr := fun a c => if k < a ∧ a < j ∧ k ≤ c then subF (M a c) (mulF (vA w M k c) (tF w M k a)) else M a c
/-- Row k's first numbers are noughts: so many of them. -/
def foldZ (w : Nat) (M : Nat → Nat → Fr) (k n z : Nat) : Nat → Nat → Fr := fun a c => if a = k then (if k ≤ c ∧ c < k + z then newF 0 1 else M k c) else foldTo w M k n a c
def foldF (w : Nat) (M : Nat → Nat → Fr) (k n : Nat) : Nat → Nat → Fr := fun a c => if a = k then (if c < k then M k c else if c = k then normF w M k else newF 0 1) else foldTo w M k n a c
theorem vF_set {w k : Nat} (hk : k < w) (M : Nat → Nat → Fr) : (xF w M k).set 0 (subF (M k k) (normF w M k)) = vF w M k := by
  unfold xF vF rowM
  apply List.ext_getElem?
  intro j
  rw [List.getElem?_set]
  by_cases hj : k + j < w
  · by_cases e : 0 = j
    · subst e
      rw [if_pos rfl, if_pos (by simp; omega)]
      simp [vA, hk]
    · rw [if_neg e]
      simp only [List.getElem?_drop, List.getElem?_map, List.getElem?_range hj, Option.map_some, vA]
      rw [if_neg (by omega)]
  · rw [if_neg (by omega), List.getElem?_eq_none (by simp; omega), List.getElem?_eq_none (by simp; omega)]
theorem vF_len {w k : Nat} (M : Nat → Nat → Fr) : (vF w M k).length = w - k := by simp [vF]
theorem xF_len {w k : Nat} (M : Nat → Nat → Fr) : (xF w M k).length = w - k := by simp [xF, rowM_length]
/-- One row folded. -/
theorem foldTo_row (w : Nat) (M : Nat → Nat → Fr) (k i : Nat) : rowM w (foldTo w M k i) i = rowM w M i := by
  unfold rowM
  refine List.map_congr_left fun j _ => ?_
  unfold foldTo
  rw [if_neg (by omega)]
theorem row_fold {w k i : Nat} (hki : k < i) (M : Nat → Nat → Fr) : (rowM w M i).take k ++ List.zipWith subF ((rowM w M i).drop k) ((vF w M k).map (mulF · (tF w M k i))) = rowM w (foldTo w M k (i + 1)) i := by
  apply List.ext_getElem?
  intro j
  by_cases hj : j < w
  · rw [rowM_get hj]
    by_cases hjk : j < k
    · rw [List.getElem?_append_left (by rw [List.length_take, rowM_length]; omega), List.getElem?_take_of_lt hjk, rowM_get hj]
      unfold foldTo
      rw [if_neg (by omega)]
    · have hl : ((rowM w M i).take k).length = k := by rw [List.length_take, rowM_length]; omega
      rw [List.getElem?_append_right (by omega), hl, List.getElem?_zipWith]
      simp only [vF, List.getElem?_map, List.getElem?_drop, show k + (j - k) = j by omega, rowM_get hj, List.getElem?_range hj, Option.map_some]
      unfold foldTo
      rw [if_pos (by omega)]
  · rw [List.getElem?_eq_none (by simp [rowM_length, vF_len]; omega), List.getElem?_eq_none (by rw [rowM_length]; omega)]
/-- One row more is folded. -/
theorem RowsC.fold {mm : Mem} {c q : Nat → Nat} {n w k i : Nat} {M : Nat → Nat → Fr} (h : RowsC mm c q n w (foldTo w M k i)) (hi : i < n) (hki : k < i) :
    RowsC (mm.put (c i) (flat (frs (rowM w (foldTo w M k (i + 1)) i)) ++ jnk (q i))) c q n w (foldTo w M k (i + 1)) := ⟨fun a ha => by
  by_cases e : a = i
  · subst e
    rw [Mem.put_same]
  · rw [Mem.put_other _ _ (fun e' => e (h.inj a i ha hi e')), h.row a ha]
    congr 3
    unfold rowM
    congr 1
    refine List.map_congr_left fun j _ => ?_
    unfold foldTo
    by_cases h1 : k < a ∧ a < i ∧ k ≤ j
    · rw [if_pos h1, if_pos (by omega)]
    · rw [if_neg h1, if_neg (by omega)], h.inj⟩
theorem foldTo_first (w : Nat) (M : Nat → Nat → Fr) (k : Nat) : foldTo w M k (k + 1) = M := by
  funext a c
  unfold foldTo
  rw [if_neg (by omega)]
theorem RowsC.congr {mm : Mem} {c q : Nat → Nat} {n w : Nat} {M N : Nat → Nat → Fr} (h : RowsC mm c q n w M) (hMN : ∀ a j, a < n → j < w → M a j = N a j) : RowsC mm c q n w N := ⟨fun a ha => by
  have e : rowM w N a = rowM w M a := by
    unfold rowM
    exact List.map_congr_left fun j hj => (hMN a j ha (List.mem_range.1 hj)).symm
  rw [e]
  exact h.row a ha, h.inj⟩
theorem RowsC.store {mm : Mem} {c q : Nat → Nat} {n w : Nat} {M : Nat → Nat → Fr} (h : RowsC mm c q n w M) {i k : Nat} (hi : i < n) (hk : k < w) (x : Fr) :
    RowsC (mm.put (c i) (flat (frs ((rowM w M i).set k x)) ++ jnk (q i))) c q n w (setM M i k x) := ⟨fun j hj => by
  by_cases e : j = i
  · subst e
    rw [Mem.put_same, rowM_set hk]
  · rw [Mem.put_other _ _ (fun e' => e (h.inj j i hj hi e')), rowM_other e]
    exact h.row j hj, h.inj⟩
theorem foldZ_step (w : Nat) (M : Nat → Nat → Fr) (k n z : Nat) : setM (foldZ w M k n z) k (k + z) (newF 0 1) = foldZ w M k n (z + 1) := by
  funext a j
  unfold setM foldZ
  by_cases e : a = k
  · subst e
    by_cases e2 : j = a + z
    · subst e2
      rw [if_pos ⟨rfl, rfl⟩, if_pos rfl, if_pos ⟨by omega, by omega⟩]
    · rw [if_neg (fun h => e2 h.2), if_pos rfl, if_pos rfl]
      by_cases h : a ≤ j ∧ j < a + z
      · rw [if_pos h, if_pos (by omega)]
      · rw [if_neg h, if_neg (by omega)]
  · rw [if_neg (fun h => e h.1), if_neg e, if_neg e]
set_option maxHeartbeats 4000000 in
theorem okm52 (ex : Bool) (n w k : Nat) (hkn : k < n) (hnw : n ≤ w) (hw : w ≤ 16) (M : Nat → Nat → Fr) (c cap q : Nat → Nat) (hcap : ∀ i, i < n → w ≤ cap i) (m : Mem) (hm : RowsC m c q n w M) :
    OkM Try.prog 52 [.sl ex ((List.range n).map (rawC c cap w)), num k] m (fun _ m' => RowsC m' c q n w (foldF w M k n)) := by
  have h0 : (0 : Int) ≤ (k : Int) := by omega
  have g1 : ((List.range n).map (rawC c cap w))[k]? = some (rawC c cap w k) := by simp [hkn]
  have ck := hcap k hkn
  have ne : (cap k = k) = False := by simp; omega
  have s1 : (k ≤ w) = True := by simp; omega
  have s2 : (w ≤ cap k) = True := by simp; omega
  refine okm_fn mixed Try.func52 (code := ?_) (h := h52) ?_ k52 ?_
  rotate_left
  · exact rfl
  unfold h52 initS
  simp -implicitDefEqProofs only [rkA, rkB, stepA, valA, simprocAttr, Try.ntmps52, Try.results52]
  have im : (False → False) = True := by simp
  simp -implicitDefEqProofs only [h0, Int.toNat_natCast, g1, ne, s1, s2, im, addr_add, rkA, rkB, stepA, valA, simprocAttr]
  have hl : (rowM w M k).length = w := rowM_length _ _ _
  have hx : Tell m (.s (.slice (some ⟨c k, k * 3, none⟩) (w - k) (cap k - k))) (.sl false (frs (xF w M k))) := by
    have := tell_rest (m := m) (b := c k) (cap := cap k) (k := k) (l := rowM w M k) (hm.row k hkn) (by omega) (by omega)
    rwa [hl] at this
  have lx := xF_len (w := w) (k := k) M
  refine lend_fn rfl rfl (.cons hx (.cons hx .nil)) (ok17 false false _ _ (by omega) (by omega)) rfl ?_
  simp -implicitDefEqProofs only [rkA, rkB, stepA, valA, simprocAttr]
  refine call_meth rfl rfl methRoot (ok86 _) ?_
  have hw0 : (0 < ((w - k : Nat) : Int)) = True := by simp; omega
  have hrk := hm.row k hkn
  have hld := ldM_frj (post := jnk (q k)) (rowM_get (n := w) (M := M) (i := k) (k := k) (by omega))
  simp -implicitDefEqProofs only [hw0, Nat.add_zero, hrk, hld, rkA, rkB, stepA, valA, simprocAttr]
  refine call_meth rfl rfl methSign (ok19 _) ?_
  simp -implicitDefEqProofs only [rkA, rkB, stepA, valA, simprocAttr]
  refine gB_dec ?_ ?_ <;> intro hs <;> simp -implicitDefEqProofs only [hs, rkA, rkB, stepA, valA, simprocAttr]
  rotate_left
  have hp : rootF (dotF (xF w M k) (xF w M k)) = normF w M k := (if_neg hs).symm
  simp -implicitDefEqProofs only [hp, rkA, rkB, stepA, valA, simprocAttr]
  rotate_left
  refine call_meth rfl rfl methNeg (ok84 _) ?_
  have hp : negF (rootF (dotF (xF w M k) (xF w M k))) = normF w M k := (if_pos hs).symm
  simp -implicitDefEqProofs only [hp, rkA, rkB, stepA, valA, simprocAttr]
  all_goals
    refine new_make (T := 24) (N := 3) rfl rfl rfl rfl rfl (by omega) (by omega) (by omega) ?_
    intro b hb
    have hb' : m b = none := hb
    have hcb : ∀ i, i < n → c i ≠ b := fun i hi e => by have := hm.row i hi; rw [e, hb'] at this; cases this
    simp -implicitDefEqProofs only [Int.toNat_natCast, flat_zeros, rkA, rkB, stepA, valA, simprocAttr]
    have hxb := hx.mono (MemLe.put (flat (frs (List.replicate (w - k) (⟨0, 0, false⟩ : Fr)))) hb')
    have lz : (flat (frs (List.replicate (w - k) (⟨0, 0, false⟩ : Fr)))).length = (w - k) * 3 := by rw [flat_length (frs_cells _)]; simp
    have lfx : (flat (frs (xF w M k))).length = (w - k) * 3 := by rw [flat_length (frs_cells _)]; simp [lx]
    refine copy_of rfl rfl hxb (RFs_frs _) (Mem.put_same _ _ _) (frs_ok _) (by simp [lx]) (by rw [lz, lfx]; omega) ?_
    have hdr : (flat (frs (List.replicate (w - k) (⟨0, 0, false⟩ : Fr)))).drop (flat (frs (xF w M k))).length = [] := List.drop_of_length_le (by rw [lz, lfx]; omega)
    have h00 : (0 : Int) < ((w - k : Nat) : Int) := by omega
    have gx0 : (xF w M k)[0]? = some (M k k) := by
      unfold xF
      rw [List.getElem?_drop]
      exact rowM_get (by omega)
    have hl0 := ldM_frj (post := []) (k := 0) gx0
    have hs0 := stM_frj (l := xF w M k) (k := 0) (x := subF (M k k) (normF w M k)) (post := []) (by omega)
    rw [Nat.zero_mul, List.append_nil] at hl0 hs0
    rw [List.append_nil, vF_set (by omega)] at hs0
    simp -implicitDefEqProofs only [hdr, Mem.put_same, h00, hl0, List.length_map, lx, rkA, rkB, stepA, valA, simprocAttr]
    refine call_meth rfl rfl methSub (ok87 _ _) ?_
    simp -implicitDefEqProofs only [Mem.put_same, h00, hs0, rkA, rkB, stepA, valA, simprocAttr]
    have hbm : (((m.put b (flat (frs (List.replicate (w - k) (⟨0, 0, false⟩ : Fr))))).put b (flat (frs (xF w M k)))).put b (flat (frs (vF w M k)))) b = some (flat (frs (vF w M k))) := Mem.put_same _ _ _
    have hM1 : RowsC (((m.put b (flat (frs (List.replicate (w - k) (⟨0, 0, false⟩ : Fr))))).put b (flat (frs (xF w M k)))).put b (flat (frs (vF w M k)))) c q n w (foldTo w M k (k + 1)) :=
      ⟨fun i hi => by
        rw [Mem.put_other _ _ (hcb i hi), Mem.put_other _ _ (hcb i hi), Mem.put_other _ _ (hcb i hi), foldTo_first]
        exact hm.row i hi, hm.inj⟩
    clear hxb hs0 hl0
    generalize ((m.put b _).put b _).put b _ = mm at hbm hM1 ⊢
    have hv : ∀ mm : Mem, mm b = some (flat (frs (vF w M k))) → Tell mm (.s (.slice (some ⟨b, 0, none⟩) (w - k) (w - k))) (.sl false (frs (vF w M k))) := fun mm hbm => by
      have := tell_row (m := mm) (b := b) (cap := w - k) (q := 0) (l := vF w M k) (by rw [hbm, List.replicate_zero, List.append_nil]) (by rw [List.length_map, vF_len]; omega)
      rwa [List.length_map, vF_len] at this
    have lv := vF_len (w := w) (k := k) M
    refine lend_fn rfl rfl (.cons (hv mm hbm) (.cons (hv mm hbm) .nil)) (ok17 false false _ _ (by omega) (by omega)) rfl ?_
    have hw1 := wrapped (x := ((k + 1 : Nat) : Int)) (by omega) (by omega)
    have hk1 : (k : Int) + 1 = ((k + 1 : Nat) : Int) := by simp
    simp -implicitDefEqProofs only [hw1, hk1, rkA, rkB, stepA, valA, simprocAttr]
    refine wp_loop (fun m s => ∃ (i : Nat) (mm : Mem), k < i ∧ i + m = n ∧ RowsC mm c q n w (foldTo w M k i) ∧ mm b = some (flat (frs (vF w M k))) ∧ s = ⟨[.v (.sl ex ((List.range n).map (rawC c cap w))), .v (num k), jk, jk, .v (.s (.slice (some ⟨c k, k * 3, none⟩) (w - k) (cap k - k))), .ptr 5 0, .v (.s (.slice (some ⟨b, 0, none⟩) (w - k) (w - k))), .ptr 7 0, nt i, jk, jk, jk, jk, jk, jk, jk, jk, jk, jk, jk, jk, jk, jk, jk, jk, jk, jk, jk, jk, jk, jk, jk, jk, jk, jk, jk, jk, jk, jk, jk, jk, jk, jk, jk, jk, jk, jk, jk, jk, jk, jk, jk, jk, jk, jk, jk, jk, jk, jk, jk, jk, jk, jk, jk, jk, jk, jk, jk, jk, jk, jk, jk, jk, jk, jk, jk, jk, jk, jk, jk, jk, jk, jk, jk, jk, jk, jk, jk, jk, jk, jk, jk, jk, jk, jk],
      [(5, [.v (num (normF w M k).n), .v (num (normF w M k).d), .v (tru (normF w M k).bad)]), (7, [.v (num (dotF (vF w M k) (vF w M k)).n), .v (num (dotF (vF w M k) (vF w M k)).d), .v (tru (dotF (vF w M k) (vF w M k)).bad)])], [], [], [], 0, mm⟩) (n - (k + 1)) ?_ ?_
    · simp -implicitDefEqProofs only [rkA, rkB, stepA, valA, simprocAttr]
      exact ⟨k + 1, mm, by omega, by omega, hM1, hbm, rfl⟩
    clear hM1 hbm mm
    rintro m' s ⟨i, mm, hki, him, hM, hbm, rfl⟩
    have li : ((List.range n).map (rawC c cap w)).length = n := by simp
    simp -implicitDefEqProofs only [li, rkA, rkB, stepA, valA, simprocAttr]
    refine gB_dec ?_ ?_ <;> intro hc <;> simp -implicitDefEqProofs only [hc, rkA, rkB, stepA, valA, simprocAttr]
    · have hi : i < n := by omega
      have h0i : (0 : Int) ≤ (i : Int) := by omega
      have gi : ((List.range n).map (rawC c cap w))[i]? = some (rawC c cap w i) := by simp [hi]
      have ci := hcap i hi
      have nei : (cap i = k) = False := by simp; omega
      have s2i : (w ≤ cap i) = True := by simp; omega
      simp -implicitDefEqProofs only [h0i, h0, Int.toNat_natCast, gi, nei, s1, s2i, im, addr_add, rkA, rkB, stepA, valA, simprocAttr]
      have hri := hM.row i hi
      rw [foldTo_row] at hri
      have hli : (rowM w M i).length = w := rowM_length _ _ _
      have hxi := tell_rest (m := mm) (b := c i) (cap := cap i) (k := k) (l := rowM w M i) hri (by omega) (by omega)
      rw [hli] at hxi
      have hdl : ((rowM w M i).drop k).length = w - k := by rw [List.length_drop, hli]
      refine lend_fn rfl rfl (.cons hxi (.cons (hv mm hbm) .nil)) (ok17 false false _ _ (by omega) (by omega)) rfl ?_
      simp -implicitDefEqProofs only [rkA, rkB, stepA, valA, simprocAttr]
      refine call_meth rfl rfl methAdd (ok81 _ _) ?_
      simp -implicitDefEqProofs only [rkA, rkB, stepA, valA, simprocAttr]
      refine call_meth rfl rfl methDiv (ok82 _ _) ?_
      have et : divF (addF (dotF ((rowM w M i).drop k) (vF w M k)) (dotF ((rowM w M i).drop k) (vF w M k))) (dotF (vF w M k) (vF w M k)) = tF w M k i := rfl
      simp -implicitDefEqProofs only [et, rkA, rkB, stepA, valA, simprocAttr]
      have ne2 : frs ((vF w M k).map (mulF · (tF w M k i))) ≠ [] := fun h => by
        have := congrArg List.length h
        simp only [List.length_map, lv, List.length_nil] at this
        omega
      have ne3 : frs (List.zipWith subF ((rowM w M i).drop k) ((vF w M k).map (mulF · (tF w M k i)))) ≠ [] := fun h => by
        have := congrArg List.length h
        simp only [List.length_map, List.length_zipWith, lv, hdl, List.length_nil] at this
        omega
      refine newRow_fn rfl rfl (.cons (hv mm hbm) (.cons (.same _) .nil)) (okn58 false _ _ (by omega)) (RFs_frs _) ne2 ?_
      intro b2 cap2 q2 hb2 hcap2
      have hb2' : mm b2 = none := hb2
      simp -implicitDefEqProofs only [rkA, rkB, stepA, valA, simprocAttr]
      refine newRow_fn rfl rfl (.cons (hxi.mono (MemLe.put _ hb2')) (.cons (tell_row (Mem.put_same _ _ _) hcap2) .nil)) (okn57 false false _ _ (by omega) (by rw [List.length_map]; omega) (by omega) (by rw [List.length_map]; omega)) (RFs_frs _) ne3 ?_
      intro b3 cap3 q3 hb3 hcap3
      simp -implicitDefEqProofs only [rkA, rkB, stepA, valA, simprocAttr]
      have hb3' : (mm.put b2 (flat (frs ((vF w M k).map (mulF · (tF w M k i)))) ++ List.replicate q2 .junk)) b3 = none := hb3
      have hle : ∀ x y, mm x = some y → ((mm.put b2 (flat (frs ((vF w M k).map (mulF · (tF w M k i)))) ++ List.replicate q2 .junk)).put b3 (flat (frs (List.zipWith subF ((rowM w M i).drop k) ((vF w M k).map (mulF · (tF w M k i))))) ++ List.replicate q3 PV.junk)) x = some y := fun x y h =>
        MemLe.put _ hb3' _ _ (MemLe.put _ hb2' _ _ h)
      have hrow3 : ((mm.put b2 (flat (frs ((vF w M k).map (mulF · (tF w M k i)))) ++ List.replicate q2 .junk)).put b3 (flat (frs (List.zipWith subF ((rowM w M i).drop k) ((vF w M k).map (mulF · (tF w M k i))))) ++ List.replicate q3 PV.junk)) b3 = some (flat (frs (List.zipWith subF ((rowM w M i).drop k) ((vF w M k).map (mulF · (tF w M k i))))) ++ List.replicate q3 PV.junk) := Mem.put_same _ _ _
      clear hb2 hb3 hb2' hb3' hxi
      generalize ((mm.put b2 _).put b3 _) = mm2 at hle hrow3 ⊢
      have hM2 : RowsC mm2 c q n w (foldTo w M k i) := ⟨fun a ha => hle _ _ (hM.row a ha), hM.inj⟩
      have hbm2 := hle _ _ hbm
      have hri2 := hle _ _ hri
      have lz : (List.zipWith subF ((rowM w M i).drop k) ((vF w M k).map (mulF · (tF w M k i)))).length = w - k := by rw [List.length_zipWith, List.length_map, hdl, lv, Nat.min_self]
      have lfz : (flat (frs (List.zipWith subF ((rowM w M i).drop k) ((vF w M k).map (mulF · (tF w M k i)))))).length = (w - k) * 3 := by rw [flat_length (frs_cells _), List.length_map, lz]
      have lfr : (flat (frs (rowM w M i))).length = w * 3 := by rw [flat_length (frs_cells _), List.length_map, hli]
      refine copy_of rfl rfl (tell_row hrow3 hcap3) (RFs_frs _) hri2 (frs_ok _) (by rw [List.length_map, lz]; omega) (by rw [List.length_append, lfz, lfr]; omega) ?_
      have hcells : (flat (frs (rowM w M i)) ++ jnk (q i)).take (k * 3) ++ flat (frs (List.zipWith subF ((rowM w M i).drop k) ((vF w M k).map (mulF · (tF w M k i))))) ++ (flat (frs (rowM w M i)) ++ jnk (q i)).drop (k * 3 + (flat (frs (List.zipWith subF ((rowM w M i).drop k) ((vF w M k).map (mulF · (tF w M k i)))))).length) = flat (frs (rowM w (foldTo w M k (i + 1)) i)) ++ jnk (q i) := by
        rw [flat_frs_take _ (by omega), lfz, ← flat_append, ← List.map_append, row_fold hki, show k * 3 + (w - k) * 3 = w * 3 by omega, ← lfr, List.drop_left]
      have hM3 := hM2.fold hi hki
      have hcb2 := hcb i hi
      have hbm3 : (mm2.put (c i) (flat (frs (rowM w (foldTo w M k (i + 1)) i)) ++ jnk (q i))) b = some (flat (frs (vF w M k))) := by rw [Mem.put_other _ _ (fun e => hcb2 e.symm)]; exact hbm2
      have hw2 := wrapped (x := (i : Int) + 1) (by omega) (by omega)
      simp -implicitDefEqProofs only [hcells, hw2, rkA, rkB, stepA, valA, simprocAttr]
      refine loopK_of (m' := m' - 1) (by omega) ?_
      simp -implicitDefEqProofs only [rkA, rkB, stepA, valA, simprocAttr]
      exact ⟨i + 1, _, by omega, by omega, hM3, hbm3, by simp only [Int.natCast_add, Int.natCast_one]⟩
    · have hin : i = n := by omega
      subst hin
      have hM0 : RowsC mm c q i w (foldZ w M k i 0) := hM.congr fun a j ha hj => by
        unfold foldZ
        by_cases e : a = k
        · subst e
          rw [if_pos rfl, if_neg (by omega)]
          unfold foldTo
          rw [if_neg (by omega)]
        · rw [if_neg e]
      clear hM hbm
      refine wp_loop (fun m s => ∃ (z : Nat) (mm : Mem), z + m = w - k ∧ RowsC mm c q i w (foldZ w M k i z) ∧ s = ⟨[jk, jk, jk, jk, .v (.s (.slice (some ⟨c k, k * 3, none⟩) (w - k) (cap k - k))), .ptr 5 0, jk, jk, jk, jk, jk, jk, jk, jk, jk, jk, jk, jk, jk, jk, jk, jk, jk, jk, jk, jk, jk, jk, jk, jk, jk, jk, jk, jk, jk, jk, jk, jk, jk, jk, jk, jk, jk, jk, jk, jk, jk, jk, jk, jk, jk, jk, jk, jk, jk, jk, jk, jk, jk, jk, jk, jk, jk, jk, jk, jk, jk, jk, jk, jk, jk, jk, jk, jk, jk, jk, jk, jk, jk, jk, jk, nt ((w - k : Nat) : Int), nt z, jk, jk, jk, jk, jk, jk, jk, jk, jk, jk, jk, jk],
        [(5, [.v (num (normF w M k).n), .v (num (normF w M k).d), .v (tru (normF w M k).bad)]), (7, [.v (num (dotF (vF w M k) (vF w M k)).n), .v (num (dotF (vF w M k) (vF w M k)).d), .v (tru (dotF (vF w M k) (vF w M k)).bad)])], [], [], [], 0, mm⟩) (w - k) ?_ ?_
      · simp -implicitDefEqProofs only [rkA, rkB, stepA, valA, simprocAttr]
        exact ⟨0, mm, by omega, hM0, rfl⟩
      clear hM0 mm
      rintro m' s ⟨z, mm, hzm, hM, rfl⟩
      simp -implicitDefEqProofs only [rkA, rkB, stepA, valA, simprocAttr]
      refine gB_dec ?_ ?_ <;> intro hc2 <;> simp -implicitDefEqProofs only [hc2, rkA, rkB, stepA, valA, simprocAttr]
      · refine call_meth rfl rfl methOf (ok85 _ 0) ?_
        have h0z : (0 : Int) ≤ (z : Int) := by omega
        have hrz := hM.row k hkn
        have hst := stM_frj (l := rowM w (foldZ w M k i z) k) (k := k + z) (x := newF 0 1) (post := jnk (q k)) (by rw [rowM_length]; omega)
        rw [Nat.add_mul] at hst
        have hsto := hM.store hkn (show k + z < w by omega) (newF 0 1)
        have hw2 := wrapped (x := (z : Int) + 1) (by omega) (by omega)
        simp -implicitDefEqProofs only [h0z, hc2, Int.toNat_natCast, addr_add, hrz, hst, hw2, rkA, rkB, stepA, valA, simprocAttr]
        refine loopK_of (m' := m' - 1) (by omega) ?_
        simp -implicitDefEqProofs only [rkA, rkB, stepA, valA, simprocAttr]
        rw [foldZ_step] at hsto
        exact ⟨z + 1, _, by omega, hsto, by simp only [Int.natCast_add, Int.natCast_one]⟩
      · have hz : z = w - k := by omega
        subst hz
        have hrz := hM.row k hkn
        have hst := stM_frj (l := rowM w (foldZ w M k i (w - k)) k) (k := k) (x := normF w M k) (post := jnk (q k)) (by rw [rowM_length]; omega)
        have hsto := hM.store hkn (show k < w by omega) (normF w M k)
        simp -implicitDefEqProofs only [hw0, Nat.add_zero, addr_add, hrz, hst, rkA, rkB, stepA, valA, simprocAttr]
        refine ⟨_, rfl, hsto.congr fun a j ha hj => ?_⟩
        unfold setM foldZ foldF
        by_cases e : a = k
        · subst e
          by_cases e2 : j = a
          · subst e2
            rw [if_pos ⟨rfl, rfl⟩, if_pos rfl, if_neg (by omega), if_pos rfl]
          · rw [if_neg (fun h => e2 h.2), if_pos rfl, if_pos rfl, if_neg e2]
            by_cases h : j < a
            · rw [if_neg (by omega), if_pos h]
            · rw [if_pos (by omega), if_neg h]
        · rw [if_neg (fun h => e h.1), if_neg e, if_neg e]
end Go.Proofs.Ytbflmeomkfjikaa.A


set_option linter.unusedVariables false
set_option linter.unusedSimpArgs false
set_option maxRecDepth 100000
namespace Go.Proofs.Ytbflmeomkfjikaa.A
open Go Go.RowKit Go.Shelf

/-- What is saved is named. -/
theorem gen_sv {P : Program} {its : Option (Nat × List Item)} {c : AC} {Q : XA → St → Prop} {tm : List TV} {bx : List (Nat × List TV)} {ro : List (Nat × List PV)} {tk : List (Nat × Nat)} {sv : List (List TV)} {it : Nat} {mm : Mem}
    (h : ∀ SV, SV = sv → wpA P its c Q ⟨tm, bx, ro, tk, SV, it, mm⟩) : wpA P its c Q ⟨tm, bx, ro, tk, sv, it, mm⟩ := h sv rfl

/-! ### No diagonal below 0 -/
def signG (n : Nat) (l : List Fr) (i k : Nat) : Fr := if k ≤ i ∧ signF (atF n n l k k) < 0 then negF (atF n n l i k) else atF n n l i k
def signsF (n : Nat) (l : List Fr) : List Fr := gridP (signG n l) n n 0
set_option maxHeartbeats 1000000 in
theorem ok53 (n : Nat) (hn : 1 ≤ n ∧ n ≤ 16) (e : Bool) (l : List Fr) (h : l.length = n * n) : Ok Try.prog 53 [matV e n n (frs l)] (.tup [matV false n n (frs (signsF n l)), tru true]) := by
  have hr := right_sq hn h
  refine ok_fn mixed Try.func53 (code := ?_) (h := h53) ?_ k53 ?_
  rotate_left
  · exact rfl
  unfold h53 initS
  simp -implicitDefEqProofs only [rkA, rkB, stepA, valA, simprocAttr, Try.ntmps53, Try.results53]
  have h17 := ok44 e n n (frs l)
  have el : (frs l).length = l.length := by simp
  rw [el, hr] at h17
  refine call_fn rfl rfl rfl (h17) ?_
  simp -implicitDefEqProofs only [bne_self_eq_false, rkA, rkB, stepA, valA, simprocAttr]
  refine call_fn rfl rfl rfl (ok41 e n n l) ?_
  simp -implicitDefEqProofs only [rkA, rkB, stepA, valA, simprocAttr]
  have hlen := gridP_length (signG n l) n
  refine wp_rf' (items := rowsF n n l) rfl (it54 e n n l) (fun sv i s => i ≤ n ∧ s = ⟨[], [(1, [nt n, nt n, .v (.sl e (frs l))]), (2, [nt 0, nt 0, .acc 3002 []]), (4, [.acc 1004 (frs (gridP (signG n l) n i 0))])], [], [(1004, (gridP (signG n l) n i 0).length), (3002, 0)], sv, 0, nomem⟩) ?_ ?_ ?_
  · simp -implicitDefEqProofs only [rkA, rkB, stepA, valA, simprocAttr]
    exact ⟨Nat.zero_le _, rfl⟩
  · rintro i x' s' R hx ⟨hi, rfl⟩ hR
    obtain ⟨hlt, rfl, hxi⟩ := rowsF_all hr hx
    have hlt' : i < n := by simpa using hlt
    refine ⟨rfl, ?_⟩
    simp -implicitDefEqProofs only [rkA, rkB, stepA, valA, simprocAttr]
    refine gen_sv fun SV hSV => ?_
    have hkill : List.map (fun l => List.map (TV.killPtr 8) l) SV = SV := by rw [hSV]; rfl
    have lr : (frs (rowF n n l i)).length = n := by rw [List.length_map, rowF_len hr hlt, Int.toNat_natCast]
    rw [lr]
    refine wp_loop (fun m s => ∃ k : Nat, k + m = n ∧ s = ⟨[jk, .ptr 1 0, jk, jk, .ptr 4 0, .v (num i), jk, jk, jk, jk, jk, jk, jk, jk, jk, jk, jk, jk, jk, jk, jk, jk, jk, jk, .v (.sl false (frs (rowF n n l i))), nt n, nt k, jk, jk, jk, jk, jk, jk, jk, jk, jk, jk, jk, jk, jk, jk, jk, jk, jk, jk, jk, jk, jk, jk, jk, jk, jk, jk, jk, jk, jk, jk, jk, jk],
      [(1, [nt n, nt n, .v (.sl e (frs l))]), (2, [nt 0, nt 0, .acc 3002 []]), (4, [.acc 1004 (frs (gridP (signG n l) n i k))])], [], [(1004, (gridP (signG n l) n i k).length), (3002, 0)], SV, 0, nomem⟩) n ?_ ?_
    · simp -implicitDefEqProofs only [rkA, rkB, stepA, valA, simprocAttr]
      exact ⟨0, by simp, rfl⟩
    rintro m s ⟨k, hk, rfl⟩
    simp -implicitDefEqProofs only [rkA, rkB, stepA, valA, simprocAttr]
    refine gB_dec ?_ ?_ <;> intro hc <;> simp -implicitDefEqProofs only [hc, rkA, rkB, stepA, valA, simprocAttr]
    · have hk' : k < n := by omega
      have h0k : (0 : Int) ≤ (k : Int) := by omega
      have hgk := rowF_get hr hlt (k := k) (by simpa using hk')
      have hfit : ∀ x : Fr, fits 3 24 (frs (gridP (signG n l) n i k)) [frV x] = true := fun x => fits_frs (l := [x]) (by
        have := hlen i k
        have := side16 (n := i) (m := n) (by omega) (by omega)
        simp only [List.length_cons, List.length_nil]
        omega)
      have hlg : (frs (gridP (signG n l) n i k)).length = (gridP (signG n l) n i k).length := by simp
      have hw := wrapped (x := (k : Int) + 1) (by omega) (by omega)
      simp -implicitDefEqProofs only [h0k, hc, Int.toNat_natCast, hgk, hkill, rkA, rkB, stepA, valA, simprocAttr]
      have fin : ∀ x : Fr, x = signG n l i k → frs (gridP (signG n l) n i k) ++ [frV x] = frs (gridP (signG n l) n i (k + 1)) ∧ (gridP (signG n l) n i k).length + 1 = (gridP (signG n l) n i (k + 1)).length := fun x hx => by
        rw [gridP_succ, hx]
        simp only [frs, List.map_append, List.map_cons, List.map_nil, List.length_append, List.length_cons, List.length_nil, and_self]
      refine gB_dec ?_ ?_ <;> intro hik
      · simp -implicitDefEqProofs only [hik, rkA, rkB, stepA, valA, simprocAttr]
        refine call_fn rfl rfl rfl (ok40 e n n k k l) ?_
        simp -implicitDefEqProofs only [rkA, rkB, stepA, valA, simprocAttr]
        refine call_meth rfl rfl methSign (ok19 _) ?_
        simp -implicitDefEqProofs only [rkA, rkB, stepA, valA, simprocAttr]
        refine gB_dec ?_ ?_ <;> intro hsg <;> simp -implicitDefEqProofs only [hsg, rkA, rkB, stepA, valA, simprocAttr]
        · refine call_meth rfl rfl methNeg (ok84 _) ?_
          obtain ⟨f1, f2⟩ := fin (negF (atF n n l i k)) (if_pos ⟨by omega, hsg⟩).symm
          simp -implicitDefEqProofs only [hfit, hlg, f1, f2, hw, rkA, rkB, stepA, valA, simprocAttr]
          refine loopK_of (m' := m - 1) (by omega) ?_
          simp -implicitDefEqProofs only [rkA, rkB, stepA, valA, simprocAttr]
          exact ⟨k + 1, by omega, by simp only [Int.natCast_add, Int.natCast_one]⟩
        · obtain ⟨f1, f2⟩ := fin (atF n n l i k) (if_neg (fun h => hsg h.2)).symm
          simp -implicitDefEqProofs only [hfit, hlg, f1, f2, hw, rkA, rkB, stepA, valA, simprocAttr]
          refine loopK_of (m' := m - 1) (by omega) ?_
          simp -implicitDefEqProofs only [rkA, rkB, stepA, valA, simprocAttr]
          exact ⟨k + 1, by omega, by simp only [Int.natCast_add, Int.natCast_one]⟩
      · simp -implicitDefEqProofs only [hik, rkA, rkB, stepA, valA, simprocAttr]
        obtain ⟨f1, f2⟩ := fin (atF n n l i k) (if_neg (fun h => hik (by omega))).symm
        simp -implicitDefEqProofs only [hfit, hlg, f1, f2, hw, rkA, rkB, stepA, valA, simprocAttr]
        refine loopK_of (m' := m - 1) (by omega) ?_
        simp -implicitDefEqProofs only [rkA, rkB, stepA, valA, simprocAttr]
        exact ⟨k + 1, by omega, by simp only [Int.natCast_add, Int.natCast_one]⟩
    · have hkn : k = n := by omega
      subst hSV
      refine hR _ ⟨by omega, ?_⟩
      rw [hkn, gridP_next]
  · rintro s' ⟨hi, rfl⟩
    simp -implicitDefEqProofs only [rkA, rkB, stepA, valA, simprocAttr]
    have hL : (gridP (signG n l) n n 0).length = n * n := by rw [hlen, Nat.add_zero]
    rw [rowsF_length hr, Int.toNat_natCast]
    have h34 := ok35 n n false (gridP (signG n l) n n 0) (by rw [hL]; have := side16 (n := n) (m := n) (by omega) (by omega); omega)
    rw [right_sq hn hL, if_pos rfl] at h34
    refine call_fn rfl rfl rfl (h34) ?_
    simp -implicitDefEqProofs only [rkA, rkB, stepA, valA, simprocAttr, signsF]
end Go.Proofs.Ytbflmeomkfjikaa.A


set_option linter.unusedVariables false
set_option linter.unusedSimpArgs false
set_option maxRecDepth 100000
namespace Go.Proofs.Ytbflmeomkfjikaa.A
open Go Go.RowKit Go.Shelf

theorem wp_rfM' {P : Program} {Q : XA → St → Prop} {tm : List TV} {bx : List (Nat × List TV)} {ro : List (Nat × List PV)} {tk : List (Nat × Nat)} {sv : List (List TV)} {it : Nat} {mm : Mem} {f : Operand} {ps : Array Nat} {g : List Gh} {a b : Hint} {x y : Code} {p : PV} {items : List Item} (hf : ev ⟨tm, bx, ro, tk, sv, it, mm⟩ f = some (.v p)) (hI : IterOkM P p items)
    (Inv : List (List TV) → Nat → St → Prop) (h0 : opt (ghs g ⟨[], bx, ro, tk, tm :: sv, it, mm⟩) (Inv (tm :: sv) 0))
    (hr : ∀ (i : Nat) (x' : Item) (p : List PV) (m : Mem) (s' : St) (R : St → Prop), items[i]? = some x' → Inv (tm :: sv) i s' → x' p m → (∀ c, (m c).isSome = true → s'.mm c = none) → (∀ s1, Inv (tm :: sv) (i + 1) s1 → R s1) → p.length = ps.toList.length ∧ wpA P none (acOf a x) (rfK P (acOf b y) (roundK g R Q)) (enterR ps.toList p { s' with mm := s'.mm.join m }))
    (hq : ∀ s', Inv (tm :: sv) items.length s' → Q .normal (leaveR s')) :
    wpA P none (acOf (.f g a b) (.rangeFunc f ps x y)) Q ⟨tm, bx, ro, tk, sv, it, mm⟩ := wp_rfM hf hI (Inv (tm :: sv)) h0 hr hq
theorem fits_raw (c cap : Nat → Nat) (w i : Nat) (x : PV) (hx : ∃ b k j, x = .s (.slice b k j)) (hi : i ≤ 100) : fits 1 24 ((List.range i).map (rawC c cap w)) [x] = true := by
  obtain ⟨b, k, j, rfl⟩ := hx
  have h1 : ((List.range i).map (rawC c cap w)).all (fun e => e.ok && e.cells.length == 1) = true := by
    rw [List.all_eq_true]
    intro e he
    obtain ⟨a, _, rfl⟩ := List.mem_map.1 he
    rfl
  unfold fits
  rw [h1]
  simp [PV.ok, PV.cells]
  exact ⟨rfl, by omega⟩
theorem raw_grow (c cap : Nat → Nat) (w i b z : Nat) : (List.range i).map (rawC c cap w) ++ [.s (.slice (some ⟨b, 0, none⟩) w z)] = (List.range (i + 1)).map (rawC (fun j => if j = i then b else c j) (fun j => if j = i then z else cap j) w) := by
  rw [List.range_succ, List.map_append, List.map_singleton]
  congr 1
  · refine List.map_congr_left fun j hj => ?_
    have := List.mem_range.1 hj
    simp only [rawC, show ¬ j = i by omega, if_false]
  · simp only [rawC, if_true]
theorem RowsC.grow {mm : Mem} {c q : Nat → Nat} {i w b z : Nat} {M : Nat → Nat → Fr} (h : RowsC mm c q i w M) (hb : mm b = none) :
    RowsC (mm.put b (flat (frs (rowM w M i)) ++ jnk z)) (fun j => if j = i then b else c j) (fun j => if j = i then z else q j) (i + 1) w M := by
  have hcb : ∀ j, j < i → c j ≠ b := fun j hj e => by have := h.row j hj; rw [e, hb] at this; cases this
  refine ⟨fun j hj => ?_, fun j k hj hk => ?_⟩
  · by_cases e : j = i
    · subst e
      simp only [if_true]
      rw [Mem.put_same]
    · simp only [e, if_false]
      rw [Mem.put_other _ _ (hcb j (by omega))]
      exact h.row j (by omega)
  · by_cases e : j = i <;> by_cases e' : k = i
    · intro _; omega
    · simp only [e, e', if_true, if_false]
      exact fun h1 => absurd h1.symm (hcb k (by omega))
    · simp only [e, e', if_true, if_false]
      exact fun h1 => absurd h1 (hcb j (by omega))
    · simp only [e, e', if_false]
      exact h.inj j k (by omega) (by omega)
/-- A row's first numbers in memory, told as a value. -/
theorem tell_first {m : Mem} {b cap k : Nat} {l : List Fr} {post : List PV} (hm : m b = some (flat (frs l) ++ post)) (hk : k ≤ l.length) (hc : l.length ≤ cap) : Tell m (.s (.slice (some ⟨b, 0, none⟩) k cap)) (.sl false (frs (l.take k))) := by
  have hd := flat_frs_take (l := l) (k := k) post hk
  have hl3 : (flat (frs (l.take k))).length = k * 3 := by rw [flat_length (frs_cells _), List.length_map, List.length_take, Nat.min_eq_left hk]
  refine .row hm (frs_cells _) (by simp [Nat.min_eq_left hk]) ?_ (by omega) (fun h => by cases h) ?_
  · rw [List.length_append, hl3, flat_length (frs_cells _), List.length_map]
    have : k * 3 ≤ l.length * 3 := Nat.mul_le_mul_right _ hk
    omega
  · rw [List.drop_zero, hl3, hd]
    exact Tells.same _ _

/-! ### All columns folded -/
def startF (n w : Nat) (l : List Fr) : Nat → Nat → Fr := fun i c => atF n w l i c
def foldsF (w n : Nat) (M : Nat → Nat → Fr) : Nat → Nat → Nat → Fr
  | 0 => M
  | k + 1 => foldF w (foldsF w n M k) k n
def triF (n w : Nat) (l : List Fr) : List Fr := clearF n (signsF n (gridP (foldsF w n (startF n w l) n) n n 0))
theorem row_start {n w : Nat} {l : List Fr} (hr : right n w l.length = true) {i : Nat} (hi : i < n) : rowF n w l i = rowM w (startF n w l) i := by
  rw [rowF_eq ⟨0, 0, false⟩ hr (by simpa using hi), Int.toNat_natCast, rowM]
  refine List.map_congr_left fun j hj => ?_
  rw [startF, atF_eq hr (by simpa using hi) (by simpa using hj), Int.toNat_natCast]
set_option maxHeartbeats 2000000 in
theorem ok32 (n w : Nat) (hn : 1 ≤ n) (hnw : n ≤ w) (hw : w ≤ 16) (e : Bool) (l : List Fr) (h : l.length = n * w) : Ok Try.prog 32 [matV e n w (frs l)] (.tup [matV false n n (frs (triF n w l)), tru true]) := by
  have hr : right (n : Int) (w : Int) l.length = true := right_nat ⟨hn, by omega⟩ ⟨by omega, hw⟩ h
  refine okt_fn mixed Try.func32 (code := ?_) (h := h32) ?_ k32 ?_
  rotate_left
  · exact rfl
  unfold h32 initS
  simp -implicitDefEqProofs only [rkA, rkB, stepA, valA, simprocAttr, Try.ntmps32, Try.results32]
  have h17 := ok44 e n w (frs l)
  have el : (frs l).length = l.length := by simp
  rw [el, hr] at h17
  refine call_fn rfl rfl rfl (h17) ?_
  have hgt : ¬ (n : Int) > w := by omega
  simp -implicitDefEqProofs only [hgt, rkA, rkB, stepA, valA, simprocAttr]
  refine call_fn rfl rfl rfl (ok41 e n w l) ?_
  simp -implicitDefEqProofs only [rkA, rkB, stepA, valA, simprocAttr]
  refine wp_rfM' (items := rowItems n w l) rfl (itm54 e n w l hr) (fun sv i s => i ≤ n ∧ ∃ mm c cap q, RowsC mm c q i w (startF n w l) ∧ (∀ a, a < i → w ≤ cap a) ∧ s = ⟨[], [(1, [nt n, nt w, .v (.sl e (frs l))]), (2, [nt 0, nt 0, .acc 3002 []]), (4, [.acc 1004 ((List.range i).map (rawC c cap w))])], [], [(1004, i), (3002, 0)], sv, 0, mm⟩) ?_ ?_ ?_
  · simp -implicitDefEqProofs only [rkA, rkB, stepA, valA, simprocAttr]
    exact ⟨Nat.zero_le _, nomem, fun _ => 0, fun _ => 0, fun _ => 0, ⟨fun i h => by omega, fun i j h => by omega⟩, fun a h => by omega, rfl⟩
  · rintro i x' p m s' R hx ⟨hi, mm, c, cap, q, hM, hcap, rfl⟩ hxm hfr hR
    have hlt : i < n := by
      have := (List.getElem?_eq_some_iff.1 hx).1
      simpa [rowItems] using this
    have hx' : x' = rowItem n w l i := by
      rw [rowItems, List.getElem?_map, List.getElem?_range (by simpa using hlt), Option.map_some] at hx
      exact (Option.some.inj hx).symm
    subst hx'
    obtain ⟨b, cp, z, h1, rfl, rfl⟩ := hxm
    have hb : mm b = none := hfr b (by rw [Mem.put_same]; rfl)
    have lr : (frs (rowF n w l i)).length = w := by rw [List.length_map, row_start hr hlt, rowM_length]
    rw [lr] at h1
    rw [lr, row_start hr hlt]
    refine ⟨rfl, ?_⟩
    have hfit := fits_raw c cap w i (.s (.slice (some ⟨b, 0, none⟩) w cp)) ⟨_, _, _, rfl⟩ (by omega)
    have hl : ((List.range i).map (rawC c cap w)).length = i := by simp
    simp -implicitDefEqProofs only [hfit, hl, raw_grow, rkA, rkB, stepA, valA, simprocAttr]
    refine hR _ ⟨by omega, _, _, _, _, hM.grow (z := z) hb, fun a ha => ?_, rfl⟩
    by_cases e : a = i
    · simp only [e, if_true]; exact h1
    · simp only [e, if_false]; exact hcap a (by omega)
  · rintro s' ⟨hi, mm, c, cap, q, hM, hcap, rfl⟩
    have li : (rowItems n w l).length = n := by simp [rowItems]
    rw [li] at hM hcap ⊢
    clear hi
    simp -implicitDefEqProofs only [rkA, rkB, stepA, valA, simprocAttr]
    refine wp_loop (fun m s => ∃ (k : Nat) (mm : Mem), k + m = n ∧ RowsC mm c q n w (foldsF w n (startF n w l) k) ∧ s = ⟨[jk, .ptr 1 0, .ptr 2 0, jk, .ptr 4 0, jk, jk, jk, jk, jk, jk, jk, jk, jk, jk, jk, jk, jk, jk, jk, jk, jk, jk, jk, jk, jk, jk, jk, jk, jk, jk, jk, jk, nt n, nt k, jk, jk, jk, jk, jk, jk, jk, jk, jk, jk, jk, jk, jk, jk, jk, jk, jk, jk, jk, jk, jk, jk, jk, jk, jk, jk, jk, jk, jk, jk, jk, jk, jk, jk, jk, jk, jk],
      [(1, [nt n, nt w, .v (.sl e (frs l))]), (2, [nt 0, nt 0, .acc 3002 []]), (4, [.acc 1004 ((List.range n).map (rawC c cap w))])], [], [(1004, n), (3002, 0)], [], 0, mm⟩) n ?_ ?_
    · simp -implicitDefEqProofs only [rkA, rkB, stepA, valA, simprocAttr]
      exact ⟨0, mm, by omega, hM, rfl⟩
    clear hM mm
    rintro m s ⟨k, mm, hk, hM, rfl⟩
    simp -implicitDefEqProofs only [rkA, rkB, stepA, valA, simprocAttr]
    refine gB_dec ?_ ?_ <;> intro hc <;> simp -implicitDefEqProofs only [hc, rkA, rkB, stepA, valA, simprocAttr]
    · have hw2 := wrapped (x := (k : Int) + 1) (by omega) (by omega)
      refine mem_fn rfl rfl rfl (okm52 false n w k (by omega) hnw hw _ c cap q hcap mm hM) ?_
      intro r m' hm'
      simp -implicitDefEqProofs only [hw2, rkA, rkB, stepA, valA, simprocAttr]
      refine loopK_of (m' := m - 1) (by omega) ?_
      simp -implicitDefEqProofs only [rkA, rkB, stepA, valA, simprocAttr]
      exact ⟨k + 1, m', by omega, hm', by simp only [Int.natCast_add, Int.natCast_one]⟩
    · have hkn : k = n := by omega
      rw [hkn] at hM
      clear hc hk hkn
      generalize hS : foldsF w n (startF n w l) n = S at hM
      have ll : ((List.range n).map (rawC c cap w)).length = n := by simp
      simp -implicitDefEqProofs only [ll, rkA, rkB, stepA, valA, simprocAttr]
      have hlen := gridP_length S n
      refine wp_loop (fun m s => ∃ k : Nat, k + m = n ∧ s = ⟨[jk, .ptr 1 0, .ptr 2 0, jk, jk, jk, jk, jk, .acc 8 (frs (gridP S n k 0)), jk, jk, jk, jk, jk, jk, jk, jk, jk, jk, jk, jk, jk, jk, jk, jk, jk, jk, jk, jk, jk, jk, jk, jk, jk, jk, jk, jk, jk, jk, jk, jk, .acc 1004 ((List.range n).map (rawC c cap w)), nt n, nt k, jk, jk, jk, jk, jk, jk, jk, jk, jk, jk, jk, jk, jk, jk, jk, jk, jk, jk, jk, jk, jk, jk, jk, jk, jk, jk, jk, jk],
        [(1, [nt n, nt w, .v (.sl e (frs l))]), (2, [nt 0, nt 0, .acc 3002 []]), (4, [.acc 1004 ((List.range n).map (rawC c cap w))])], [], [(8, (gridP S n k 0).length), (1004, n), (3002, 0)], [], 0, mm⟩) n ?_ ?_
      · simp -implicitDefEqProofs only [rkA, rkB, stepA, valA, simprocAttr]
        exact ⟨0, by simp, rfl⟩
      rintro m s ⟨k, hk, rfl⟩
      simp -implicitDefEqProofs only [rkA, rkB, stepA, valA, simprocAttr]
      refine gB_dec ?_ ?_ <;> intro hc <;> simp -implicitDefEqProofs only [hc, rkA, rkB, stepA, valA, simprocAttr]
      · have hk' : k < n := by omega
        have h0k : (0 : Int) ≤ (k : Int) := by omega
        have h0n : (0 : Int) ≤ (n : Int) := by omega
        have gk : ((List.range n).map (rawC c cap w))[k]? = some (rawC c cap w k) := by simp [hk']
        have ck := hcap k hk'
        have ne : (cap k = 0) = False := by simp; omega
        have s2 : (n ≤ cap k) = True := by simp; omega
        have im : (False → True) = True := by simp
        have hz : (0 ≤ n) = True := by simp
        simp -implicitDefEqProofs only [h0k, h0n, hc, Int.toNat_natCast, gk, ne, s2, im, hz, addr_add, Nat.zero_mul, Nat.sub_zero, rkA, rkB, stepA, valA, simprocAttr]
        have hlr : (rowM w S k).length = w := rowM_length _ _ _
        have ht := tell_first (m := mm) (b := c k) (cap := cap k) (k := n) (hM.row k hk') (by omega) (by omega)
        refine appM_of rfl rfl ht (RFs_frs _) ?_
        have hfit : fits 3 24 (frs (gridP S n k 0)) (frs ((rowM w S k).take n)) = true := fits_frs (by
          have := hlen k 0
          have := side16 (n := k) (m := n) (by omega) (by omega)
          rw [List.length_take]
          omega)
        have hlg : (frs (gridP S n k 0)).length = (gridP S n k 0).length := by simp
        have hw2 := wrapped (x := (k : Int) + 1) (by omega) (by omega)
        have g1 : frs (gridP S n k 0) ++ frs ((rowM w S k).take n) = frs (gridP S n (k + 1) 0) := by
          rw [← List.map_append]
          congr 1
          rw [← gridP_next, gridP, gridP, rowM, ← List.map_take, List.take_range, Nat.min_eq_left hnw]
          simp
        have g2 : (gridP S n k 0).length + (frs ((rowM w S k).take n)).length = (gridP S n (k + 1) 0).length := by
          rw [hlen, hlen, List.length_map, List.length_take, hlr, Nat.min_eq_left hnw, Nat.succ_mul]
          omega
        simp -implicitDefEqProofs only [hfit, hlg, g1, g2, hw2, rkA, rkB, stepA, valA, simprocAttr]
        refine loopK_of (m' := m - 1) (by omega) ?_
        simp -implicitDefEqProofs only [rkA, rkB, stepA, valA, simprocAttr]
        exact ⟨k + 1, by omega, by simp only [Int.natCast_add, Int.natCast_one]⟩
      · have hkn : k = n := by omega
        subst hkn
        have hL : (gridP S k k 0).length = k * k := by rw [hlen, Nat.add_zero]
        have hb := side16 (n := k) (m := k) (by omega) (by omega)
        have h34 := ok35 k k false (gridP S k k 0) (by omega)
        rw [right_sq ⟨hn, by omega⟩ hL, if_pos rfl] at h34
        refine call_fn rfl rfl rfl (h34) ?_
        simp -implicitDefEqProofs only [rkA, rkB, stepA, valA, simprocAttr]
        refine call_fn rfl rfl rfl (ok53 k ⟨hn, by omega⟩ false (gridP S k k 0) hL) ?_
        simp -implicitDefEqProofs only [rkA, rkB, stepA, valA, simprocAttr]
        refine call_fn rfl rfl rfl (ok11 k ⟨hn, by omega⟩ false (signsF k (gridP S k k 0)) (by rw [signsF, gridP_length, Nat.add_zero])) ?_
        simp -implicitDefEqProofs only [rkA, rkB, stepA, valA, simprocAttr]
        rw [triF, hS]
        exact ⟨_, rfl, .same _⟩
end Go.Proofs.Ytbflmeomkfjikaa.A



set_option linter.unusedVariables false
set_option linter.unusedSimpArgs false
set_option maxRecDepth 100000
namespace Go.Proofs.Ytbflmeomkfjikaa.A
open Go Go.RowKit Go.Shelf

/-! ### States -/
/-! ### A new state -/
/-! ### Turned -/
end Go.Proofs.Ytbflmeomkfjikaa.A


set_option linter.unusedVariables false
set_option linter.unusedSimpArgs false
set_option maxRecDepth 100000
namespace Go.Proofs.Ytbflmeomkfjikaa.A
open Go Go.RowKit Go.Shelf

end Go.Proofs.Ytbflmeomkfjikaa.A



set_option linter.unusedVariables false
set_option linter.unusedSimpArgs false
set_option maxRecDepth 100000
namespace Go.Proofs.Ytbflmeomkfjikaa.A
open Go Go.RowKit Go.Shelf

/-! ### Predict -/
end Go.Proofs.Ytbflmeomkfjikaa.A



set_option linter.unusedVariables false
set_option linter.unusedSimpArgs false
set_option maxRecDepth 100000
namespace Go.Proofs.Ytbflmeomkfjikaa.A
open Go Go.RowKit Go.Shelf

/-! ### Update -/
section
variable (n : Nat) (x p h : List Fr) (r z : Fr)
end
end Go.Proofs.Ytbflmeomkfjikaa.A


set_option linter.unusedVariables false
set_option linter.unusedSimpArgs false
set_option maxRecDepth 100000
namespace Go.Proofs.Ytbflmeomkfjikaa.A
open Go Go.RowKit Go.Shelf

/-! ### Fractions as numbers -/
def Fr.val (x : Fr) : Rat := (x.n : Rat) / (x.d : Rat)
theorem cast_ne {d : Int} (h : d ≠ 0) : (d : Rat) ≠ 0 := by
  intro e
  exact h (Rat.intCast_inj.1 (by simpa using e))
theorem val_div {n d m e k : Int} (hd : d ≠ 0) (he : e ≠ 0) (h : n * e = m * d) : (n : Rat) / d = (m : Rat) / e := by
  have h1 := cast_ne hd
  have h2 := cast_ne he
  have h3 : (n : Rat) * e = (m : Rat) * d := by
    rw [← Rat.intCast_mul, ← Rat.intCast_mul, h]
  grind
theorem div_val {n d m e : Int} (hd : d ≠ 0) (he : e ≠ 0) (h : (n : Rat) / d = (m : Rat) / e) : n * e = m * d := by
  have h1 := cast_ne hd
  have h2 := cast_ne he
  have h3 : (n : Rat) * e = (m : Rat) * d := by grind
  rw [← Rat.intCast_mul, ← Rat.intCast_mul] at h3
  exact Rat.intCast_inj.1 h3

/-- What New tells, where it is not Bad. -/
theorem newF_spec {n d : Int} (h : (newF n d).bad = false) : d ≠ 0 ∧ 0 < (newF n d).d ∧ (newF n d).n * d = n * (newF n d).d ∧ Int.gcd (newF n d).n (newF n d).d = 1 ∧ (newF n d).d ≤ 1073741824 ∧ (newF n d).n ≤ 1073741824 ∧ -1073741824 ≤ (newF n d).n := by
  unfold newF at h ⊢
  by_cases h1 : n > 1152921504606846976 ∨ n < -1152921504606846976 ∨ d > 1152921504606846976 ∨ d < -1152921504606846976 ∨ d = 0
  · rw [if_pos h1] at h; cases h
  rw [if_neg h1] at h ⊢
  simp only at h ⊢
  have hd : d ≠ 0 := by omega
  have key : ∀ m e : Int, 0 < e → m * d = n * e → ∀ x : Fr, x = (if m.tdiv (Int.gcd m e : Int) > 1073741824 ∨ m.tdiv (Int.gcd m e : Int) < -1073741824 ∨ e.tdiv (Int.gcd m e : Int) > 1073741824 then Fr.wrong else ⟨m.tdiv (Int.gcd m e : Int), e.tdiv (Int.gcd m e : Int), false⟩) → x.bad = false →
      d ≠ 0 ∧ 0 < x.d ∧ x.n * d = n * x.d ∧ Int.gcd x.n x.d = 1 ∧ x.d ≤ 1073741824 ∧ x.n ≤ 1073741824 ∧ -1073741824 ≤ x.n := by
    intro m e he hme x hx hb
    have hg : 0 < Int.gcd m e := Int.gcd_pos_of_ne_zero_right m (by omega)
    obtain ⟨m', hm'⟩ := Int.gcd_dvd_left m e
    obtain ⟨e', he'⟩ := Int.gcd_dvd_right m e
    generalize hk : Int.gcd m e = k at *
    have hk0 : (k : Int) ≠ 0 := by omega
    have q1 : m.tdiv (k : Int) = m' := by rw [hm', Int.mul_tdiv_cancel_left _ hk0]
    have q2 : e.tdiv (k : Int) = e' := by rw [he', Int.mul_tdiv_cancel_left _ hk0]
    rw [q1, q2] at hx
    have hcop : Int.gcd m' e' = 1 := by
      have h3 : Int.gcd ((k : Int) * m') ((k : Int) * e') = k * Int.gcd m' e' := by
        rw [Int.gcd_mul_left]; simp
      rw [← hm', ← he', hk] at h3
      have : k * 1 = k * Int.gcd m' e' := by omega
      exact (Nat.eq_of_mul_eq_mul_left hg this).symm
    have he0 : 0 < e' := by
      have h4 : 0 < (k : Int) * e' := by rw [← he']; exact he
      exact Int.pos_of_mul_pos_right h4 (by omega)
    split at hx
    · rw [hx] at hb; cases hb
    · rename_i hns
      subst hx
      refine ⟨hd, he0, ?_, hcop, by simp only; omega, by simp only; omega, by simp only; omega⟩
      simp only
      rw [hm', he'] at hme
      have : (k : Int) * (m' * d) = (k : Int) * (n * e') := by
        rw [← Int.mul_assoc, hme, ← Int.mul_assoc, ← Int.mul_assoc, Int.mul_comm (k : Int) n]
      exact Int.eq_of_mul_eq_mul_left hk0 this
  by_cases hneg : d < 0
  · simp only [hneg, if_true] at h ⊢
    exact key (-n) (-d) (by omega) (by rw [Int.neg_mul, Int.mul_neg]) _ rfl h
  · simp only [hneg, if_false] at h ⊢
    exact key n d (by omega) rfl _ rfl h

theorem newF_low {n d : Int} (hd : 0 < d) (hg : Int.gcd n d = 1) (h1 : n ≤ 1073741824) (h2 : -1073741824 ≤ n) (h3 : d ≤ 1073741824) : newF n d = ⟨n, d, false⟩ := by
  unfold newF
  rw [if_neg (by omega)]
  simp only [show ¬ d < 0 by omega, if_false, hg]
  rw [if_neg (by simp; omega)]
  simp
theorem fine_of {x : Fr} (hb : x.bad = false) (hd : 0 < x.d) (hg : Int.gcd x.n x.d = 1) (h1 : x.n ≤ 1073741824) (h2 : -1073741824 ≤ x.n) (h3 : x.d ≤ 1073741824) : x.fine = true := by
  unfold Fr.fine
  rw [newF_low hd hg h1 h2 h3]
  simp [hb]
  omega
theorem fine_low {x : Fr} (h : x.fine = true) : x.bad = false ∧ 0 < x.d ∧ Int.gcd x.n x.d = 1 := by
  obtain ⟨h1, h2, h3, h4, h5⟩ := Fr.fine_spec h
  refine ⟨h1, by omega, ?_⟩
  have hn : newF x.n x.d = x := by
    unfold Fr.fine at h
    simp only [Bool.and_eq_true, beq_iff_eq, decide_eq_true_eq] at h
    obtain ⟨n, d, b⟩ := x
    obtain ⟨_, k1, k2, k3, _⟩ := h
    generalize newF n d = y at *
    obtain ⟨n', d', b'⟩ := y
    simp only at k1 k2 k3
    rw [k1, k2, k3]
  have hb : (newF x.n x.d).bad = false := by rw [hn]; exact h1
  obtain ⟨_, _, _, g, _⟩ := newF_spec hb
  rw [hn] at g
  exact g
theorem newF_fine {n d : Int} (h : (newF n d).bad = false) : (newF n d).fine = true ∧ (newF n d).val = (n : Rat) / (d : Rat) ∧ d ≠ 0 := by
  obtain ⟨h1, h2, h3, h4, h5, h6, h7⟩ := newF_spec h
  exact ⟨fine_of h h2 h4 h6 h7 h5, val_div (k := 0) (by omega) h1 h3, h1⟩
theorem dvd_cop {a b c : Int} (h : a ∣ b * c) (g : Int.gcd b a = 1) : a ∣ c := by
  rw [← Int.natAbs_dvd_natAbs] at h ⊢
  rw [Int.natAbs_mul] at h
  refine Nat.Coprime.dvd_of_dvd_mul_left ?_ h
  rw [Int.gcd_comm] at g
  exact g
/-- What stands for the same number is the same. -/
theorem fine_inj {a b : Fr} (ha : a.fine = true) (hb : b.fine = true) (h : a.val = b.val) : a = b := by
  obtain ⟨a1, a2, a3⟩ := fine_low ha
  obtain ⟨b1, b2, b3⟩ := fine_low hb
  have e := div_val (by omega) (by omega) h
  have c1 : a.d ∣ b.d := by
    have : a.d ∣ a.n * b.d := ⟨b.n, by rw [e, Int.mul_comm]⟩
    exact dvd_cop this a3
  have c2 : b.d ∣ a.d := by
    have : b.d ∣ b.n * a.d := ⟨a.n, by rw [← e, Int.mul_comm]⟩
    exact dvd_cop this b3
  have hd : a.d = b.d := Int.dvd_antisymm (by omega) (by omega) c1 c2
  rw [hd] at e
  have hn : a.n = b.n := Int.eq_of_mul_eq_mul_right (by omega) e
  obtain ⟨n, d, x⟩ := a
  obtain ⟨n', d', x'⟩ := b
  simp only at hd hn a1 b1
  rw [hd, hn, a1, b1]
theorem fine_bad {a : Fr} (h : a.fine = true) : a.bad = false := (Fr.fine_spec h).1

/-- x stands for the number v. -/
def Is (x : Fr) (v : Rat) : Prop := x.fine = true ∧ x.val = v
theorem Is.inj {a b : Fr} {v : Rat} (ha : Is a v) (hb : Is b v) : a = b := fine_inj ha.1 hb.1 (ha.2.trans hb.2.symm)
theorem fine_ne {a : Fr} (h : a.fine = true) : (a.d : Rat) ≠ 0 := cast_ne (by have := (Fr.fine_spec h).2.1; omega)
theorem two_fine {a b : Fr} {x : Fr} (h : (if a.fine = false ∨ b.fine = false then Fr.wrong else x).bad = false) : a.fine = true ∧ b.fine = true ∧ x.bad = false := by
  by_cases h1 : a.fine = false ∨ b.fine = false
  · rw [if_pos h1] at h; cases h
  · rw [if_neg h1] at h
    simp only [not_or, Bool.not_eq_false] at h1
    exact ⟨h1.1, h1.2, h⟩
theorem mulF_is {a b : Fr} (h : (mulF a b).bad = false) : a.fine = true ∧ b.fine = true ∧ Is (mulF a b) (a.val * b.val) := by
  have h0 := h
  unfold mulF at h
  obtain ⟨ha, hb, hx⟩ := two_fine h
  obtain ⟨f1, f2, f3⟩ := newF_fine hx
  have e : mulF a b = newF (a.n * b.n) (a.d * b.d) := by unfold mulF; rw [if_neg (by simp [ha, hb])]
  refine ⟨ha, hb, by rw [e]; exact f1, ?_⟩
  rw [e, f2]
  have h1 := fine_ne ha
  have h2 := fine_ne hb
  simp only [Fr.val, Rat.intCast_mul]
  grind
theorem divF_is {a b : Fr} (h : (divF a b).bad = false) : a.fine = true ∧ b.fine = true ∧ b.val ≠ 0 ∧ Is (divF a b) (a.val / b.val) := by
  unfold divF at h
  obtain ⟨ha, hb, hx⟩ := two_fine h
  obtain ⟨f1, f2, f3⟩ := newF_fine hx
  have e : divF a b = newF (a.n * b.d) (a.d * b.n) := by unfold divF; rw [if_neg (by simp [ha, hb])]
  have h1 := fine_ne ha
  have h2 := fine_ne hb
  have h3 : (b.n : Rat) ≠ 0 := cast_ne (fun e => f3 (by rw [e, Int.mul_zero]))
  refine ⟨ha, hb, ?_, by rw [e]; exact f1, ?_⟩
  · simp only [Fr.val]
    intro e
    apply h3
    have : (b.n : Rat) = (b.n : Rat) / (b.d : Rat) * (b.d : Rat) := by grind
    rw [this, e]
    grind
  · rw [e, f2]
    simp only [Fr.val, Rat.intCast_mul]
    grind
theorem addF_is {a b : Fr} (h : (addF a b).bad = false) : a.fine = true ∧ b.fine = true ∧ Is (addF a b) (a.val + b.val) := by
  unfold addF at h
  obtain ⟨ha, hb, hx⟩ := two_fine h
  obtain ⟨f1, f2, f3⟩ := newF_fine hx
  have e : addF a b = newF ((a.n * b.d + b.n * a.d).tdiv (Int.gcd (a.n * b.d + b.n * a.d) (a.d * b.d))) ((a.d * b.d).tdiv (Int.gcd (a.n * b.d + b.n * a.d) (a.d * b.d))) := by
    unfold addF; rw [if_neg (by simp [ha, hb])]
  have h1 := fine_ne ha
  have h2 := fine_ne hb
  refine ⟨ha, hb, by rw [e]; exact f1, ?_⟩
  rw [e, f2]
  have hd1 := (Fr.fine_spec ha).2.1
  have hd2 := (Fr.fine_spec hb).2.1
  have hdd : 0 < a.d * b.d := Int.mul_pos (by omega) (by omega)
  generalize hD : a.d * b.d = D at *
  generalize hN : a.n * b.d + b.n * a.d = Nn at *
  have hg : 0 < Int.gcd Nn D := Int.gcd_pos_of_ne_zero_right _ (by omega)
  obtain ⟨m', hm'⟩ := Int.gcd_dvd_left Nn D
  obtain ⟨e', he'⟩ := Int.gcd_dvd_right Nn D
  have hk0 : ((Int.gcd Nn D : Nat) : Int) ≠ 0 := by omega
  generalize hk : ((Int.gcd Nn D : Nat) : Int) = k at *
  have q1 : Nn.tdiv k = m' := by rw [hm', Int.mul_tdiv_cancel_left _ hk0]
  have q2 : D.tdiv k = e' := by rw [he', Int.mul_tdiv_cancel_left _ hk0]
  rw [q1, q2]
  have he0 : e' ≠ 0 := fun e0 => by rw [e0, Int.mul_zero] at he'; omega
  have h3 : (m' : Rat) / (e' : Rat) = (Nn : Rat) / (D : Rat) := by
    refine val_div (k := 0) he0 (by omega) ?_
    rw [hm', he', Int.mul_comm k e', ← Int.mul_assoc, Int.mul_comm k m']
    rw [Int.mul_assoc, Int.mul_assoc, Int.mul_comm e' k, Int.mul_comm k e']
  rw [h3, ← hN, ← hD]
  simp only [Fr.val, Rat.intCast_mul, Rat.intCast_add]
  grind
theorem negF_is {a : Fr} (h : (negF a).bad = false) : a.fine = true ∧ Is (negF a) (-a.val) := by
  unfold negF at h
  by_cases ha : a.fine = false
  · rw [if_pos ha] at h; cases h
  · rw [if_neg ha] at h
    simp only [Bool.not_eq_false] at ha
    obtain ⟨f1, f2, f3⟩ := newF_fine h
    have e : negF a = newF (-a.n) a.d := by unfold negF; rw [if_neg (by simp [ha])]
    refine ⟨ha, by rw [e]; exact f1, ?_⟩
    rw [e, f2]
    simp only [Fr.val, Rat.intCast_neg]
    grind
theorem subF_is {a b : Fr} (h : (subF a b).bad = false) : a.fine = true ∧ b.fine = true ∧ Is (subF a b) (a.val - b.val) := by
  unfold subF at h
  obtain ⟨h1, h2, h3⟩ := addF_is h
  obtain ⟨h4, h5⟩ := negF_is (fine_bad h2)
  refine ⟨h1, h4, h3.1, ?_⟩
  have e : (subF a b).val = a.val + (negF b).val := h3.2
  rw [e, h5.2]
  grind
theorem whole_is {n : Int} (h : few n) : Is (newF n 1) (n : Rat) := by
  rw [newF_whole h]
  refine ⟨fine_whole h, ?_⟩
  simp only [Fr.val]
  have : ((1 : Int) : Rat) = 1 := rfl
  rw [this]
  grind
end Go.Proofs.Ytbflmeomkfjikaa.A


set_option linter.unusedVariables false
set_option linter.unusedSimpArgs false
set_option maxRecDepth 100000
namespace Go.Proofs.Ytbflmeomkfjikaa.A
open Go Go.RowKit Go.Shelf

/-! ### Sums of numbers -/
def sumR : Nat → (Nat → Rat) → Rat
  | 0, _ => 0
  | n + 1, f => sumR n f + f n
theorem sumR_congr {f g : Nat → Rat} : ∀ {n : Nat}, (∀ j, j < n → f j = g j) → sumR n f = sumR n g
  | 0, _ => rfl
  | n + 1, h => by rw [sumR, sumR, sumR_congr fun j hj => h j (by omega), h n (by omega)]
theorem sumR_add (f g : Nat → Rat) : ∀ n, sumR n (fun j => f j + g j) = sumR n f + sumR n g
  | 0 => by simp only [sumR]; grind
  | n + 1 => by simp only [sumR, sumR_add f g n]; grind
theorem sumR_sub (f g : Nat → Rat) : ∀ n, sumR n (fun j => f j - g j) = sumR n f - sumR n g
  | 0 => by simp only [sumR]; grind
  | n + 1 => by simp only [sumR, sumR_sub f g n]; grind
theorem sumR_mul (c : Rat) (f : Nat → Rat) : ∀ n, sumR n (fun j => c * f j) = c * sumR n f
  | 0 => by simp only [sumR]; grind
  | n + 1 => by simp only [sumR, sumR_mul c f n]; grind
theorem sumR_zero : ∀ n, sumR n (fun _ => 0) = 0
  | 0 => rfl
  | n + 1 => by simp only [sumR, sumR_zero n]; grind
/-! ### Dots -/
abbrev dz : Fr := ⟨0, 0, false⟩
/-! ### Products, entry by entry -/
theorem prodF_grid {R M K : Nat} {a b : List Fr} (hR : 1 ≤ R ∧ R ≤ 16) (hM : 1 ≤ M ∧ M ≤ 16) (hK : 1 ≤ K ∧ K ≤ 16) (la : a.length = R * M) (lb : b.length = M * K) :
    prodF R M K a b = gridP (fun i k => dotF ((List.range M).map fun j => a.getD (i * M + j) dz) ((List.range M).map fun j => b.getD (j * K + k) dz)) K R 0 := by
  have h1 := right_nat (n := a.length) hR hM la
  have h2 := right_nat (n := b.length) hM hK lb
  have h3 := right_turn h2
  unfold prodF allF
  rw [gridP_zero, List.flatMap_map, Int.toNat_natCast, Int.toNat_natCast]
  apply flatMap_same
  intro i hi
  rw [List.mem_range] at hi
  rw [List.map_map]
  apply List.map_congr_left
  intro k hk
  rw [List.mem_range] at hk
  simp only [Function.comp]
  rw [rowF_eq dz h1 (by simpa using hi), rowF_eq dz h3 (by simpa using hk), Int.toNat_natCast]
  congr 1
  apply List.map_congr_left
  intro j hj
  rw [List.mem_range] at hj
  rw [turnF_eq h2, Int.toNat_natCast, Int.toNat_natCast, List.getD_eq_getElem?_getD, gridP_get _ _ _ _ _ hk hj, Option.getD_some, atF_eq h2 (by simpa using hj) (by simpa using hk), Int.toNat_natCast]
theorem grid_at {g : Nat → Nat → Fr} {n N i k : Nat} (hi : i < N) (hk : k < n) : (gridP g n N 0).getD (i * n + k) dz = g i k := by
  rw [List.getD_eq_getElem?_getD, gridP_get _ _ _ _ _ hi hk, Option.getD_some]
theorem turn_at {R K : Nat} {l : List Fr} (hR : 1 ≤ R ∧ R ≤ 16) (hK : 1 ≤ K ∧ K ≤ 16) (hl : l.length = R * K) {i k : Nat} (hi : i < R) (hk : k < K) : (turnF R K l).getD (k * R + i) dz = l.getD (i * K + k) dz := by
  have h := right_nat (n := l.length) hR hK hl
  rw [turnF_eq h, Int.toNat_natCast, Int.toNat_natCast, grid_at hk hi, atF_eq h (by simpa using hi) (by simpa using hk), Int.toNat_natCast]
theorem turnF_len {R K : Nat} {l : List Fr} (hR : 1 ≤ R ∧ R ≤ 16) (hK : 1 ≤ K ∧ K ≤ 16) (hl : l.length = R * K) : (turnF R K l).length = K * R := by
  rw [turnF_length (right_nat hR hK hl)]; simp
theorem mir_at {n : Nat} {l : List Fr} (hn : 1 ≤ n ∧ n ≤ 16) (hl : l.length = n * n) {i k : Nat} (hi : i < n) (hk : k < n) : (mirF n l).getD (i * n + k) dz = l.getD (max i k * n + min i k) dz := by
  have h := right_nat (n := l.length) hn hn hl
  rw [mirF, Int.toNat_natCast, grid_at hi hk, atF_eq h (by simp; omega) (by simp; omega), Int.toNat_natCast]
end Go.Proofs.Ytbflmeomkfjikaa.A


set_option linter.unusedVariables false
set_option linter.unusedSimpArgs false
set_option maxRecDepth 100000
namespace Go.Proofs.Ytbflmeomkfjikaa.A
open Go Go.RowKit Go.Shelf

/-! ### One column folded, in numbers -/
theorem sumR_pick (f : Nat → Rat) {k : Nat} : ∀ {n : Nat}, k < n → sumR n (fun j => if j = k then f j else 0) = f k
  | n + 1, h => by
    simp only [sumR]
    by_cases e : k = n
    · subst e
      have : sumR k (fun j => if j = k then f j else 0) = sumR k (fun _ => 0) := sumR_congr fun j hj => by rw [if_neg (by omega)]
      rw [this, sumR_zero, if_pos rfl]
      grind
    · rw [sumR_pick f (show k < n by omega), if_neg (by omega)]
      grind
def gramR (m : Nat) (A : Nat → Nat → Rat) (i l : Nat) : Rat := sumR m fun j => A i j * A l j
theorem gramR_comm (m : Nat) (A : Nat → Nat → Rat) (i l : Nat) : gramR m A i l = gramR m A l i := sumR_congr fun j _ => by grind
/-- The mirror's normal. -/
def vR (A : Nat → Nat → Rat) (k : Nat) (p : Rat) (c : Nat) : Rat := if c < k then 0 else if c = k then A k k - p else A k c
/-- The row that is folded, behind it. -/
def xR (A : Nat → Nat → Rat) (k : Nat) (p : Rat) (c : Nat) : Rat := if c < k then A k c else if c = k then p else 0
def qR (m : Nat) (A : Nat → Nat → Rat) (k : Nat) (p : Rat) : Rat := sumR m fun c => vR A k p c * vR A k p c
def dR (m : Nat) (A : Nat → Nat → Rat) (k : Nat) (p : Rat) (i : Nat) : Rat := sumR m fun c => A i c * vR A k p c
def tR (m : Nat) (A : Nat → Nat → Rat) (k : Nat) (p : Rat) (i : Nat) : Rat := (dR m A k p i + dR m A k p i) / qR m A k p
def foldR (m : Nat) (A : Nat → Nat → Rat) (k : Nat) (p : Rat) (i c : Nat) : Rat := if i < k then A i c else if i = k then xR A k p c else A i c - vR A k p c * tR m A k p i
/-- By how much p misses the row's length, squared. -/
def epsR (m : Nat) (A : Nat → Nat → Rat) (k : Nat) (p : Rat) : Rat := sumR m (fun c => if c < k then 0 else A k c * A k c) - p * p
theorem row_split (A : Nat → Nat → Rat) (k : Nat) (p : Rat) (c : Nat) : A k c = xR A k p c + vR A k p c := by
  unfold xR vR
  by_cases h : c < k
  · simp only [h, if_true]; grind
  · by_cases e : c = k
    · subst e; simp only [h, if_false, if_true]; grind
    · simp only [h, e, if_false]; grind
theorem xv_pick (A : Nat → Nat → Rat) (k : Nat) (p : Rat) (c : Nat) : xR A k p c * vR A k p c = if c = k then p * (A k k - p) else 0 := by
  unfold xR vR
  by_cases h : c < k
  · rw [if_pos h, if_pos h, if_neg (by omega)]; grind
  · by_cases e : c = k
    · subst e; simp only [h, if_false, if_true]
    · simp only [h, e, if_false]; grind
theorem xv_sum {m : Nat} (A : Nat → Nat → Rat) {k : Nat} (hk : k < m) (p : Rat) : sumR m (fun c => xR A k p c * vR A k p c) = p * (A k k - p) := by
  rw [sumR_congr (fun c _ => xv_pick A k p c)]
  exact sumR_pick (fun _ => p * (A k k - p)) hk
theorem eps_is {m : Nat} (A : Nat → Nat → Rat) {k : Nat} (hk : k < m) (p : Rat) : epsR m A k p = qR m A k p + (p * (A k k - p) + p * (A k k - p)) := by
  have e : sumR m (fun c => if c < k then 0 else A k c * A k c) = sumR m (fun c => vR A k p c * vR A k p c + ((if c = k then p * (A k k - p) + p * (A k k - p) + p * p else 0))) := sumR_congr fun c _ => by
    unfold vR
    by_cases h : c < k
    · rw [if_pos h, if_pos h, if_neg (by omega)]; grind
    · by_cases e : c = k
      · subst e; simp only [h, if_false, if_true]; grind
      · simp only [h, e, if_false]; grind
  unfold epsR qR
  rw [e, sumR_add, sumR_pick (fun _ => p * (A k k - p) + p * (A k k - p) + p * p) hk]
  grind
section
variable {m : Nat} {A : Nat → Nat → Rat} {k : Nat} {p : Rat}
theorem t_q (hq : qR m A k p ≠ 0) (i : Nat) : tR m A k p i * qR m A k p = dR m A k p i + dR m A k p i := by
  unfold tR
  grind
theorem gram_below (hq : qR m A k p ≠ 0) {i l : Nat} (hi : k < i) (hl : k < l) : gramR m (foldR m A k p) i l = gramR m A i l := by
  have e : gramR m (foldR m A k p) i l = sumR m (fun c => A i c * A l c - (tR m A k p l * (A i c * vR A k p c) + tR m A k p i * (A l c * vR A k p c)) + (tR m A k p i * tR m A k p l) * (vR A k p c * vR A k p c)) := sumR_congr fun c _ => by
    unfold foldR
    simp only [show ¬ i < k by omega, show ¬ i = k by omega, show ¬ l < k by omega, show ¬ l = k by omega, if_false]
    grind
  rw [e, sumR_add, sumR_sub, sumR_add, sumR_mul, sumR_mul, sumR_mul]
  have h1 := t_q hq i
  have h2 := t_q hq l
  unfold gramR
  simp only [dR, qR] at *
  grind
theorem gram_at (hk : k < m) (hq : qR m A k p ≠ 0) {i : Nat} (hi : k < i) : gramR m (foldR m A k p) i k = gramR m A i k - tR m A k p i * epsR m A k p / 2 := by
  have e : gramR m (foldR m A k p) i k = sumR m (fun c => A i c * A k c - (A i c * vR A k p c + tR m A k p i * (xR A k p c * vR A k p c))) := sumR_congr fun c _ => by
    unfold foldR
    simp only [show ¬ i < k by omega, show ¬ i = k by omega, show ¬ k < k by omega, if_false, if_true]
    have := row_split A k p c
    generalize xR A k p c = x at *
    generalize vR A k p c = v at *
    grind
  rw [e, sumR_sub, sumR_add, sumR_mul, xv_sum A hk]
  have h1 := t_q hq i
  have h2 := eps_is A hk p
  unfold gramR
  simp only [dR] at *
  generalize epsR m A k p = x at *
  generalize qR m A k p = q at *
  generalize tR m A k p i = t at *
  grind
theorem gram_kk (hk : k < m) : gramR m (foldR m A k p) k k = gramR m A k k - epsR m A k p := by
  have e : gramR m (foldR m A k p) k k = sumR m (fun c => A k c * A k c - (vR A k p c * vR A k p c + 2 * (xR A k p c * vR A k p c))) := sumR_congr fun c _ => by
    unfold foldR
    simp only [show ¬ k < k by omega, if_false, if_true]
    have := row_split A k p c
    generalize xR A k p c = x at *
    generalize vR A k p c = v at *
    grind
  rw [e, sumR_sub, sumR_add, sumR_mul, xv_sum A hk, eps_is A hk p]
  unfold gramR qR
  grind
theorem gram_above {i l : Nat} (hi : i < k) (hz : ∀ c, k ≤ c → A i c = 0) : gramR m (foldR m A k p) i l = gramR m A i l := by
  refine sumR_congr fun c _ => ?_
  have hv : A i c * vR A k p c = 0 := by
    unfold vR
    by_cases h : c < k
    · rw [if_pos h]; grind
    · rw [hz c (by omega)]; grind
  unfold foldR
  simp only [hi, if_true]
  by_cases h1 : l < k
  · simp only [h1, if_true]
  · by_cases h2 : l = k
    · subst h2
      simp only [h1, if_false, if_true]
      have := row_split A l p c
      generalize xR A l p c = x at *
      generalize vR A l p c = v at *
      grind
    · simp only [h1, h2, if_false]
      generalize vR A k p c = v at *
      grind
end
/-- All columns folded. -/
def foldsR (m : Nat) (P : Nat → Rat) (A : Nat → Nat → Rat) : Nat → Nat → Nat → Rat
  | 0 => A
  | k + 1 => foldR m (foldsR m P A k) k (P k)
theorem folds_zero (m : Nat) (P : Nat → Rat) (A : Nat → Nat → Rat) : ∀ k i c, i < k → i < c → foldsR m P A k i c = 0
  | k + 1, i, c, hi, hc => by
    rw [foldsR, foldR]
    by_cases h : i < k
    · rw [if_pos h]
      exact folds_zero m P A k i c h hc
    · have e : i = k := by omega
      rw [if_neg h, if_pos e, xR, if_neg (by omega), if_neg (by omega)]
theorem abs_mul {a b x y : Rat} (h1 : -a ≤ x ∧ x ≤ a) (h2 : -b ≤ y ∧ y ≤ b) : -(a * b) ≤ x * y ∧ x * y ≤ a * b := by
  have k1 : 0 ≤ (a - x) * (b + y) := Rat.mul_nonneg (by grind) (by grind)
  have k2 : 0 ≤ (a + x) * (b - y) := Rat.mul_nonneg (by grind) (by grind)
  have k3 : 0 ≤ (a - x) * (b - y) := Rat.mul_nonneg (by grind) (by grind)
  have k4 : 0 ≤ (a + x) * (b + y) := Rat.mul_nonneg (by grind) (by grind)
  constructor <;> grind
theorem folds_exact {m n : Nat} (hn : n ≤ m) {P : Nat → Rat} {A : Nat → Nat → Rat}
    (hq : ∀ k, k + 1 < n → qR m (foldsR m P A k) k (P k) ≠ 0) (hp : ∀ k, k < n → epsR m (foldsR m P A k) k (P k) = 0) :
    ∀ k, k ≤ n → ∀ i l, i < n → l < n → gramR m (foldsR m P A k) i l = gramR m A i l
  | 0, _, i, l, hi, hl => rfl
  | k + 1, hk, i, l, hi, hl => by
    refine Eq.trans ?_ (folds_exact hn hq hp k (by omega) i l hi hl)
    rw [foldsR]
    have two : ∀ i, k < i → i < n → gramR m (foldR m (foldsR m P A k) k (P k)) i k = gramR m (foldsR m P A k) i k := fun i h1 h2 => by
      rw [gram_at (by omega) (hq k (by omega)) h1, hp k (by omega)]
      grind
    have hz : ∀ i, i < k → ∀ c, k ≤ c → foldsR m P A k i c = 0 := fun i h c hc => folds_zero m P A k i c h (by omega)
    by_cases h1 : i < k
    · rw [gram_above h1 (hz i h1)]
    by_cases h2 : l < k
    · rw [gramR_comm, gram_above h2 (hz l h2), gramR_comm]
    by_cases h3 : i = k
    · subst h3
      by_cases h4 : l = i
      · subst h4
        rw [gram_kk (by omega), hp l (by omega)]
        grind
      · rw [gramR_comm, gramR_comm m (foldsR m P A i)]
        exact two l (by omega) hl
    · by_cases h4 : l = k
      · subst h4
        exact two i (by omega) hi
      · rw [gram_below (hq k (by omega)) (by omega) (by omega)]
end Go.Proofs.Ytbflmeomkfjikaa.A


set_option linter.unusedVariables false
set_option linter.unusedSimpArgs false
set_option maxRecDepth 100000
namespace Go.Proofs.Ytbflmeomkfjikaa.A
open Go Go.RowKit Go.Shelf

/-! ### Numbers that tend to one -/
def Tends (s : Nat → Rat) (v : Rat) : Prop := ∀ e : Rat, 0 < e → ∃ N : Nat, ∀ m, N ≤ m → -e < s m - v ∧ s m - v < e
theorem Tends.const (v : Rat) : Tends (fun _ => v) v := fun e he => ⟨0, fun m _ => by grind⟩
theorem Tends.add {s t : Nat → Rat} {v w : Rat} (h : Tends s v) (k : Tends t w) : Tends (fun m => s m + t m) (v + w) := fun e he => by
  obtain ⟨N, hN⟩ := h (e / 2) (by grind)
  obtain ⟨M, hM⟩ := k (e / 2) (by grind)
  refine ⟨max N M, fun m hm => ?_⟩
  have h1 := hN m (by omega)
  have h2 := hM m (by omega)
  grind
theorem Tends.neg {s : Nat → Rat} {v : Rat} (h : Tends s v) : Tends (fun m => - s m) (-v) := fun e he => by
  obtain ⟨N, hN⟩ := h e he
  exact ⟨N, fun m hm => by have := hN m hm; grind⟩
theorem Tends.sub {s t : Nat → Rat} {v w : Rat} (h : Tends s v) (k : Tends t w) : Tends (fun m => s m - t m) (v - w) := by
  have := h.add k.neg
  have e : (fun m => s m + - t m) = fun m => s m - t m := by funext m; grind
  rw [e] at this
  have e2 : v + -w = v - w := by grind
  rwa [e2] at this
/-- Bounded, and behind some number. -/
def BndS (s : Nat → Rat) : Prop := ∃ B : Rat, 0 < B ∧ ∃ N : Nat, ∀ m, N ≤ m → -B ≤ s m ∧ s m ≤ B
theorem rat_abs (v : Rat) : ∃ B : Rat, 0 < B ∧ -B ≤ v ∧ v ≤ B := by
  by_cases h : 0 ≤ v
  · exact ⟨v + 1, by grind, by grind, by grind⟩
  · exact ⟨-v + 1, by grind, by grind, by grind⟩
theorem Tends.bnd {s : Nat → Rat} {v : Rat} (h : Tends s v) : BndS s := by
  obtain ⟨B, hB, h1, h2⟩ := rat_abs v
  obtain ⟨N, hN⟩ := h 1 (by decide)
  exact ⟨B + 1, by grind, N, fun m hm => by have := hN m hm; grind⟩
theorem mul_small {x y e B : Rat} (hB : 0 < B) (hx : -B ≤ x ∧ x ≤ B) (hy : -(e / B) < y ∧ y < e / B) (he : 0 < e) : -e ≤ x * y ∧ x * y ≤ e := by
  have h1 := abs_mul hx (b := e / B) ⟨Rat.le_of_lt hy.1, Rat.le_of_lt hy.2⟩
  have e1 : B * (e / B) = e := by grind
  rwa [e1] at h1
theorem div_pos' {e B : Rat} (he : 0 < e) (hB : 0 < B) : 0 < e / B := by
  rw [Rat.div_def]
  exact Rat.mul_pos he (Rat.inv_pos.2 hB)
theorem Tends.null_mul {s t : Nat → Rat} (h : BndS s) (k : Tends t 0) : Tends (fun m => s m * t m) 0 := fun e he => by
  obtain ⟨B, hB, N, hN⟩ := h
  obtain ⟨M, hM⟩ := k (e / 2 / B) (div_pos' (by grind) hB)
  refine ⟨max N M, fun m hm => ?_⟩
  have h1 := hN m (by omega)
  have h2 := hM m (by omega)
  have h3 := mul_small (x := s m) (y := t m) hB h1 (by grind) (by grind : 0 < e / 2)
  grind
theorem Tends.zero_iff {s : Nat → Rat} {v : Rat} : Tends s v ↔ Tends (fun m => s m - v) 0 := by
  unfold Tends
  constructor
  · intro h e he
    obtain ⟨N, hN⟩ := h e he
    exact ⟨N, fun m hm => by have := hN m hm; grind⟩
  · intro h e he
    obtain ⟨N, hN⟩ := h e he
    exact ⟨N, fun m hm => by have := hN m hm; grind⟩
theorem Tends.mul {s t : Nat → Rat} {v w : Rat} (h : Tends s v) (k : Tends t w) : Tends (fun m => s m * t m) (v * w) := by
  rw [Tends.zero_iff]
  have h1 := Tends.null_mul h.bnd (Tends.zero_iff.1 k)
  have h2 := Tends.null_mul (Tends.const w).bnd (Tends.zero_iff.1 h)
  have h3 := h1.add h2
  have e : (fun m => s m * (t m - w) + w * (s m - v)) = fun m => s m * t m - v * w := by funext m; grind
  rw [e] at h3
  have e2 : (0 : Rat) + 0 = 0 := by grind
  rwa [e2] at h3
theorem Tends.inv {s : Nat → Rat} {v : Rat} (h : Tends s v) (hv : v ≠ 0) : Tends (fun m => (s m)⁻¹) v⁻¹ := by
  -- away from 0
  have hb : ∃ c : Rat, 0 < c ∧ ∃ N : Nat, ∀ m, N ≤ m → s m ≠ 0 ∧ -c ≤ (s m)⁻¹ ∧ (s m)⁻¹ ≤ c := by
    by_cases hp : 0 < v
    · obtain ⟨N, hN⟩ := h (v / 2) (by grind)
      refine ⟨(v / 2)⁻¹, Rat.inv_pos.2 (by grind), N, fun m hm => ?_⟩
      have h1 := hN m hm
      have h2 : 0 < s m := by grind
      have h3 : 0 < (s m)⁻¹ := Rat.inv_pos.2 h2
      have h4 : 0 < (v / 2)⁻¹ := Rat.inv_pos.2 (by grind)
      refine ⟨by grind, by grind, ?_⟩
      have h5 : 0 ≤ (s m - v / 2) * ((s m)⁻¹ * (v / 2)⁻¹) := Rat.mul_nonneg (by grind) (Rat.le_of_lt (Rat.mul_pos h3 h4))
      have e1 : (s m - v / 2) * ((s m)⁻¹ * (v / 2)⁻¹) = (v / 2)⁻¹ - (s m)⁻¹ := by
        have a1 : s m * (s m)⁻¹ = 1 := Rat.mul_inv_cancel _ (by grind)
        have a2 : (v / 2) * (v / 2)⁻¹ = 1 := Rat.mul_inv_cancel _ (by grind)
        generalize (s m)⁻¹ = a at *
        generalize (v / 2)⁻¹ = b at *
        grind
      grind
    · have hn : v < 0 := by grind
      obtain ⟨N, hN⟩ := h (-v / 2) (by grind)
      refine ⟨(-v / 2)⁻¹, Rat.inv_pos.2 (by grind), N, fun m hm => ?_⟩
      have h1 := hN m hm
      have h2 : 0 < - s m := by grind
      have h3 : 0 < (- s m)⁻¹ := Rat.inv_pos.2 h2
      have h4 : 0 < (-v / 2)⁻¹ := Rat.inv_pos.2 (by grind)
      have h6 : (s m)⁻¹ = -(- s m)⁻¹ := by
        have a1 : s m * (s m)⁻¹ = 1 := Rat.mul_inv_cancel _ (by grind)
        have a2 : (- s m) * (- s m)⁻¹ = 1 := Rat.mul_inv_cancel _ (by grind)
        generalize (s m)⁻¹ = a at *
        generalize (- s m)⁻¹ = b at *
        have : s m * a = s m * (-b) := by grind
        have h0 : s m ≠ 0 := by grind
        grind
      have h5 : 0 ≤ (- s m - -v / 2) * ((- s m)⁻¹ * (-v / 2)⁻¹) := Rat.mul_nonneg (by grind) (Rat.le_of_lt (Rat.mul_pos h3 h4))
      have e1 : (- s m - -v / 2) * ((- s m)⁻¹ * (-v / 2)⁻¹) = (-v / 2)⁻¹ - (- s m)⁻¹ := by
        have a1 : - s m * (- s m)⁻¹ = 1 := Rat.mul_inv_cancel _ (by grind)
        have a2 : (-v / 2) * (-v / 2)⁻¹ = 1 := Rat.mul_inv_cancel _ (by grind)
        generalize (- s m)⁻¹ = a at *
        generalize (-v / 2)⁻¹ = b at *
        grind
      refine ⟨by grind, by grind, by grind⟩
  obtain ⟨c, hc, N, hN⟩ := hb
  rw [Tends.zero_iff]
  have h2 : Tends (fun m => (s m)⁻¹ * (v⁻¹ * (v - s m))) 0 := by
    refine Tends.null_mul ⟨c, hc, N, fun m hm => (hN m hm).2⟩ ?_
    refine Tends.null_mul (Tends.const v⁻¹).bnd ?_
    have := (Tends.const v).sub h
    have e2 : v - v = 0 := by grind
    rwa [e2] at this
  intro e he
  obtain ⟨M, hM⟩ := h2 e he
  refine ⟨max N M, fun m hm => ?_⟩
  have h3 : -e < (s m)⁻¹ * (v⁻¹ * (v - s m)) - 0 ∧ (s m)⁻¹ * (v⁻¹ * (v - s m)) - 0 < e := hM m (by omega)
  have h4 := (hN m (by omega)).1
  have e1 : (s m)⁻¹ * (v⁻¹ * (v - s m)) = (s m)⁻¹ - v⁻¹ := by
    have a1 : s m * (s m)⁻¹ = 1 := Rat.mul_inv_cancel _ h4
    have a2 : v * v⁻¹ = 1 := Rat.mul_inv_cancel _ hv
    generalize (s m)⁻¹ = a at *
    generalize v⁻¹ = b at *
    grind
  rw [e1] at h3
  exact ⟨by grind, by grind⟩
theorem Tends.div {s t : Nat → Rat} {v w : Rat} (h : Tends s v) (k : Tends t w) (hw : w ≠ 0) : Tends (fun m => s m / t m) (v / w) := by
  have := h.mul (k.inv hw)
  simp only [← Rat.div_def] at this
  exact this
theorem Tends.sum {s : Nat → Nat → Rat} {v : Nat → Rat} (h : ∀ j, Tends (fun m => s m j) (v j)) : ∀ n, Tends (fun m => sumR n (s m)) (sumR n v)
  | 0 => Tends.const 0
  | n + 1 => (Tends.sum h n).add (h n)
/-- What stays below a bound has its limit there. -/
theorem Tends.le {s : Nat → Rat} {v b : Rat} (h : Tends s v) (hb : ∀ m, s m ≤ b) : v ≤ b := by
  by_cases hv : v ≤ b
  · exact hv
  · obtain ⟨N, hN⟩ := h (v - b) (by grind)
    have h1 := hN N (Nat.le_refl _)
    have h2 := hb N
    grind
theorem Tends.congr {s t : Nat → Rat} {v : Rat} (h : Tends s v) (k : ∀ m, s m = t m) : Tends t v := by
  have : s = t := funext k
  rwa [← this]
/-- What is within e / (m + 1) of one tends to it. -/
theorem Tends.near {s t : Nat → Rat} {v c : Rat} (h : Tends t v) (hc : 0 ≤ c) (k : ∀ m : Nat, -(c / ((m : Rat) + 1)) ≤ s m - t m ∧ s m - t m ≤ c / ((m : Rat) + 1)) : Tends s v := by
  have h0 : Tends (fun m => s m - t m) 0 := fun e he => by
    obtain ⟨N, hN⟩ : ∃ N : Nat, c / e < (N : Rat) := by
      refine ⟨((c / e).floor + 1).toNat, ?_⟩
      have h1 : c / e < ((c / e).floor + 1 : Int) := Rat.lt_floor_add_one _
      have h2 : ((c / e).floor + 1 : Int) ≤ (((c / e).floor + 1).toNat : Int) := Int.self_le_toNat _
      have h3 := Rat.intCast_le_intCast.2 h2
      rw [Rat.intCast_natCast] at h3
      grind
    refine ⟨N, fun m hm => ?_⟩
    have h1 := k m
    have hm' : (N : Rat) ≤ (m : Rat) := by exact_mod_cast hm
    have h2 : c < e * ((m : Rat) + 1) := by
      have h3 : c = e * (c / e) := by grind
      have h4 : 0 ≤ e * ((m : Rat) - c / e) := Rat.mul_nonneg (Rat.le_of_lt he) (by grind)
      grind
    have hm0 : 0 < (m : Rat) + 1 := by
      have : (0 : Rat) ≤ (N : Rat) := by exact_mod_cast Nat.zero_le N
      grind
    have h5 : c / ((m : Rat) + 1) < e := by
      have h6 : 0 < (e * ((m : Rat) + 1) - c) * ((m : Rat) + 1)⁻¹ := Rat.mul_pos (by grind) (Rat.inv_pos.2 hm0)
      have h7 : ((m : Rat) + 1) * ((m : Rat) + 1)⁻¹ = 1 := Rat.mul_inv_cancel _ (by grind)
      rw [Rat.div_def]
      generalize ((m : Rat) + 1)⁻¹ = a at *
      have h8 : (e * ((m : Rat) + 1) - c) * a = e * (((m : Rat) + 1) * a) - c * a := by grind
      rw [h8, h7] at h6
      grind
    constructor <;> grind
  have := h0.add h
  have e1 : (fun m => s m - t m + t m) = s := by funext m; grind
  have e2 : (0 : Rat) + v = v := by grind
  rwa [e1, e2] at this
/-! ### Roots, as near as is asked -/
end Go.Proofs.Ytbflmeomkfjikaa.A


set_option linter.unusedVariables false
set_option linter.unusedSimpArgs false
set_option maxRecDepth 100000
namespace Go.Proofs.Ytbflmeomkfjikaa.A
open Go Go.RowKit Go.Shelf

/-! ### The document's answers, of whole numbers -/
/-! ### What the document fixes of a root -/
end Go.Proofs.Ytbflmeomkfjikaa.A


set_option linter.unusedVariables false
set_option linter.unusedSimpArgs false
set_option maxRecDepth 100000
namespace Go.Proofs.Ytbflmeomkfjikaa.A
open Go Go.RowKit Go.Shelf

/-! ### Plain laws of clearing -/
/-! ### The function TriClears -/
end Go.Proofs.Ytbflmeomkfjikaa.A


set_option linter.unusedVariables false
set_option linter.unusedSimpArgs false
set_option maxRecDepth 100000
namespace Go.Proofs.Ytbflmeomkfjikaa.A
open Go Go.RowKit Go.Shelf

/-! ### Plain laws of squares -/
theorem sqF_len' (n : Nat) (l : List Fr) : (sqF n l).length = n * n := by rw [sqF, mirF, gridP_length]; simp
end Go.Proofs.Ytbflmeomkfjikaa.A



set_option linter.unusedVariables false
set_option linter.unusedSimpArgs false
set_option maxRecDepth 100000
namespace Go.Proofs.Ytbflmeomkfjikaa.A
open Go Go.RowKit Go.Shelf

/-! ### Nothing's triangles -/
/-! ### Plain laws of clearing, of whole numbers -/
/-! ### The function TriTells -/
end Go.Proofs.Ytbflmeomkfjikaa.A


set_option linter.unusedVariables false
set_option linter.unusedSimpArgs false
set_option maxRecDepth 100000
namespace Go.Proofs.Ytbflmeomkfjikaa.A
open Go Go.RowKit Go.Shelf

/-! ### What a root is, entry by entry -/
theorem rootI_is {n : Int} (h0 : 0 ≤ n) (h : ¬ rootI n < 0) : rootI n * rootI n = n := by
  unfold rootI at h ⊢
  split at h
  · rename_i e
    rw [if_pos e, ← Int.natCast_mul, e]
    omega
  · omega
theorem rootF_is {a : Fr} (h : (rootF a).bad = false) : a.fine = true ∧ (rootF a).fine = true ∧ (rootF a).val * (rootF a).val = a.val := by
  unfold rootF at h ⊢
  split at h
  · cases h
  · rename_i e
    rw [if_neg e]
    have hf : a.fine = true := by cases hf : a.fine with | true => rfl | false => exact absurd (.inl hf) e
    have h1 : ¬ a.n < 0 := fun h => e (.inr (.inl h))
    have h2 : ¬ rootI a.n < 0 := fun h => e (.inr (.inr (.inl h)))
    have h3 : ¬ rootI a.d < 0 := fun h => e (.inr (.inr (.inr h)))
    obtain ⟨f1, f2, f3⟩ := newF_fine h
    have hd := (Fr.fine_spec hf).2.1
    have r1 := rootI_is (by omega) h2
    have r2 := rootI_is (by omega) h3
    refine ⟨hf, f1, ?_⟩
    rw [f2]
    unfold Fr.val
    generalize rootI a.n = r at *
    generalize rootI a.d = t at *
    rw [← r1, ← r2]
    have ht : (t : Rat) ≠ 0 := cast_ne f3
    rw [Rat.intCast_mul, Rat.intCast_mul]
    grind
theorem take_rowM (n : Nat) (M : Nat → Nat → Fr) (i k : Nat) (hk : k ≤ n) : (rowM n M i).take k = (List.range k).map (M i) := by
  rw [rowM, ← List.map_take, List.take_range, Nat.min_eq_left hk]
theorem leftM_congr {n : Nat} {p : List Fr} {M N : Nat → Nat → Fr} {i k : Nat} (hk : k ≤ n) (h : ∀ j, j < k → M i j = N i j ∧ M k j = N k j) : leftM n p M i k = leftM n p N i k := by
  unfold leftM
  rw [take_rowM n M i k hk, take_rowM n M k k hk, take_rowM n N i k hk, take_rowM n N k k hk]
  congr 2
  · exact List.map_congr_left fun j hj => (h j (List.mem_range.1 hj)).1
  · exact List.map_congr_left fun j hj => (h j (List.mem_range.1 hj)).2
theorem colS_other (n : Nat) (p : List Fr) (k : Nat) (M : Nat → Nat → Fr) : ∀ (j a b : Nat), b ≠ k ∨ a < k → colS n p k M j a b = M a b
  | 0, a, b, h => by
    simp only [colS, stepD, setM]
    rw [if_neg (by omega)]
  | j + 1, a, b, h => by
    simp only [colS, setM]
    rw [if_neg (by omega)]
    exact colS_other n p k M j a b h
theorem colS_diag (n : Nat) (p : List Fr) (k : Nat) (M : Nat → Nat → Fr) : ∀ j, colS n p k M j k k = rootF (leftM n p M k k)
  | 0 => by
    simp only [colS, stepD, setM]
    rw [if_pos (by simp)]
  | j + 1 => by
    simp only [colS, setM]
    rw [if_neg (by rintro ⟨h, _⟩; omega)]
    exact colS_diag n p k M j
theorem colS_low (n : Nat) (p : List Fr) (k : Nat) (M : Nat → Nat → Fr) (hk : k ≤ n) : ∀ (j t : Nat), t < j → colS n p k M j (k + 1 + t) k = divF (leftM n p M (k + 1 + t) k) (rootF (leftM n p M k k))
  | 0, t, h => by omega
  | j + 1, t, h => by
    simp only [colS, setM]
    by_cases e : t = j
    · subst e
      rw [if_pos (by simp), colS_diag]
      congr 1
      exact leftM_congr hk fun q hq => ⟨colS_other n p k M t _ _ (.inl (by omega)), colS_other n p k M t _ _ (.inl (by omega))⟩
    · rw [if_neg (by omega)]
      exact colS_low n p k M hk j t (by omega)
theorem rootS_out (n : Nat) (p : List Fr) : ∀ (k a b : Nat), k ≤ b → rootS n p k a b = newF 0 1
  | 0, a, b, h => rfl
  | k + 1, a, b, h => by
    rw [rootS, colS_other n p k _ _ _ _ (.inl (by omega))]
    exact rootS_out n p k a b (by omega)
theorem rootS_keep (n : Nat) (p : List Fr) : ∀ (k a b : Nat), b < k → rootS n p k a b = rootS n p (b + 1) a b
  | 0, a, b, h => by omega
  | k + 1, a, b, h => by
    by_cases e : b = k
    · rw [e]
    · rw [rootS, colS_other n p k _ _ _ _ (.inl (by omega))]
      exact rootS_keep n p k a b (by omega)
theorem rootS_left {n : Nat} {p : List Fr} {i k : Nat} (hk : k ≤ n) : leftM n p (rootS n p k) i k = leftM n p (rootS n p n) i k :=
  leftM_congr hk fun j hj => ⟨(rootS_keep n p k i j hj).trans (rootS_keep n p n i j (by omega)).symm, (rootS_keep n p k k j hj).trans (rootS_keep n p n k j (by omega)).symm⟩
theorem root_up {n : Nat} {p : List Fr} {i k : Nat} (h : i < k) (hk : k < n) : rootS n p n i k = newF 0 1 := by
  rw [rootS_keep n p n i k hk, rootS, colS_other n p k _ _ _ _ (.inr h)]
  exact rootS_out n p k i k (Nat.le_refl _)
theorem root_diag {n : Nat} {p : List Fr} {k : Nat} (hk : k < n) : rootS n p n k k = rootF (leftM n p (rootS n p n) k k) := by
  rw [rootS_keep n p n k k hk, rootS, colS_diag, rootS_left (by omega)]
theorem root_low {n : Nat} {p : List Fr} {i k : Nat} (h : k < i) (hi : i < n) : rootS n p n i k = divF (leftM n p (rootS n p n) i k) (rootS n p n k k) := by
  rw [rootS_keep n p n i k (by omega), rootS]
  have := colS_low n p k (rootS n p k) (by omega) (n - (k + 1)) (i - (k + 1)) (by omega)
  rw [show k + 1 + (i - (k + 1)) = i by omega] at this
  rw [this, rootS_left (by omega), rootS_left (by omega), ← root_diag (by omega)]

end Go.Proofs.Ytbflmeomkfjikaa.A


set_option linter.unusedVariables false
set_option linter.unusedSimpArgs false
set_option maxRecDepth 100000
namespace Go.Proofs.Ytbflmeomkfjikaa.A
open Go Go.RowKit Go.Shelf

/-! ### Sums of whole numbers -/
def sumZ : Nat → (Nat → Int) → Int
  | 0, _ => 0
  | n + 1, f => sumZ n f + f n
theorem sumZ_tail {f : Nat → Int} {k n : Nat} (hk : k ≤ n) (h : ∀ j, k ≤ j → j < n → f j = 0) : sumZ n f = sumZ k f := by
  induction n with
  | zero => rw [show k = 0 by omega]
  | succ n ih =>
    by_cases e : k = n + 1
    · rw [e]
    · rw [sumZ, ih (by omega) (fun j h1 h2 => h j h1 (by omega)), h n (by omega) (by omega), Int.add_zero]
theorem sumZ_bnd {f : Nat → Int} {B : Int} (hB : 0 ≤ B) (hf : ∀ j, -B ≤ f j ∧ f j ≤ B) : ∀ n : Nat, -((n : Int) * B) ≤ sumZ n f ∧ sumZ n f ≤ (n : Int) * B
  | 0 => by simp [sumZ]
  | n + 1 => by
    have h := sumZ_bnd hB hf n
    have h2 := hf n
    have e : ((n + 1 : Nat) : Int) * B = (n : Int) * B + B := by rw [Int.natCast_add, Int.add_mul]; simp
    rw [sumZ, e]
    omega
theorem sumZ_cast (f : Nat → Int) : ∀ n, ((sumZ n f : Int) : Rat) = sumR n fun j => (f j : Rat)
  | 0 => rfl
  | n + 1 => by rw [sumZ, Rat.intCast_add, sumZ_cast f n, sumR]
/-- The dot of whole numbers. -/
theorem dot_whole {f g : Nat → Int} (hf : ∀ j, -100 ≤ f j ∧ f j ≤ 100) (hg : ∀ j, -100 ≤ g j ∧ g j ≤ 100) {n : Nat} (hn : n ≤ 16) :
    dotF ((List.range n).map fun j => newF (f j) 1) ((List.range n).map fun j => newF (g j) 1) = newF (sumZ n fun j => f j * g j) 1 := by
  have hb : ∀ j, -10000 ≤ f j * g j ∧ f j * g j ≤ 10000 := fun j => prod_small (hf j) (hg j)
  have hs : ∀ j, j ≤ 16 → few (sumZ j fun j => f j * g j) := fun j hj => by
    have := sumZ_bnd (B := 10000) (by omega) hb j
    unfold few
    omega
  unfold dotF
  rw [newF_whole (hs n hn), List.zipWith_map, List.zipWith_self]
  have e : ∀ j, mulF (newF (f j) 1) (newF (g j) 1) = whole (f j * g j) := fun j => by
    have h3 := hb j
    rw [newF_whole (few_small (hf j)), newF_whole (few_small (hg j)), mulF_whole (few_small (hf j)) (few_small (hg j)) (by unfold few; omega)]
  simp only [e]
  exact sumF_whole (fun j => f j * g j) (fun j => sumZ j fun j => f j * g j) rfl (fun j => rfl) n (fun j _ => by have := hb j; unfold few; omega) (fun j hj => hs j (by omega)) n (Nat.le_refl _)

/-! ### Roots of squares of whole triangles -/
theorem rootI_sq {s : Int} (h : 0 ≤ s ∧ s ≤ 100) : rootI (s * s) = s := by
  obtain ⟨S, rfl⟩ : ∃ S : Nat, s = S := ⟨s.toNat, by omega⟩
  have e : ((S : Int) * S).toNat = S * S := by rw [← Int.natCast_mul, Int.toNat_natCast]
  have hs : S < 2 ^ 16 := by omega
  unfold rootI
  rw [e, rtB_sq hs, if_pos rfl]
theorem root_whole {s : Int} (h : 0 ≤ s ∧ s ≤ 100) : rootF (newF (s * s) 1) = newF s 1 := by
  have hb : 0 ≤ s * s ∧ s * s ≤ 10000 := ⟨Int.mul_nonneg h.1 h.1, (prod_small ⟨by omega, h.2⟩ ⟨by omega, h.2⟩).2⟩
  have hf : few (s * s) := by unfold few; omega
  rw [newF_whole hf]
  unfold rootF
  have r1 := rootI_sq h
  have r2 : rootI 1 = 1 := by decide +kernel
  simp only [fine_whole hf]
  show (if true = false ∨ s * s < 0 ∨ rootI (s * s) < 0 ∨ rootI 1 < 0 then Fr.wrong else newF (rootI (s * s)) (rootI 1)) = _
  rw [r1, r2, if_neg (by rintro (h1 | h1 | h1 | h1) <;> first | cases h1 | omega)]
theorem div_whole {a b : Int} (ha : -100 ≤ a ∧ a ≤ 100) (hb : 1 ≤ b ∧ b ≤ 100) : divF (newF (a * b) 1) (newF b 1) = newF a 1 := by
  have hp := prod_small (x := a) (y := b) ha ⟨by omega, hb.2⟩
  have f1 : few (a * b) := by unfold few; omega
  have f2 : few b := by unfold few; omega
  have f3 : few a := by unfold few; omega
  rw [newF_whole f1, newF_whole f2]
  unfold divF
  rw [fine_whole f1, fine_whole f2, if_neg (by simp)]
  simp only [whole]
  rw [Int.mul_one, Int.one_mul]
  have h1 : newF (a * b) b = newF a 1 := by
    have hb0 : b ≠ 0 := by omega
    have i1 : Is (newF (a * b) b) (a : Rat) := by
      have hg : Int.gcd (a * b) b = b.natAbs := by
        show Nat.gcd (a * b).natAbs b.natAbs = _
        rw [Int.natAbs_mul]
        exact Nat.gcd_eq_right (Nat.dvd_mul_left _ _)
      have hq : (newF (a * b) b).bad = false := by
        unfold newF
        rw [if_neg (by omega)]
        simp only [show ¬ b < 0 by omega, if_false, hg]
        have e1 : ((b.natAbs : Nat) : Int) = b := by omega
        rw [e1, Int.mul_tdiv_cancel _ hb0, Int.tdiv_self hb0, if_neg (by omega)]
      obtain ⟨g1, g2, g3⟩ := newF_fine hq
      refine ⟨g1, g2.trans ?_⟩
      have := cast_ne hb0
      rw [Rat.intCast_mul]
      grind
    exact i1.inj (whole_is f3)
  exact h1
section
variable {n : Nat} {L : Nat → Nat → Int}
/-- A lower triangle of small whole numbers, its diagonal above 0. -/
structure LowTri (n : Nat) (L : Nat → Nat → Int) : Prop where
  small : ∀ i k, -100 ≤ L i k ∧ L i k ≤ 100
  zero : ∀ i k, i < k → k < n → L i k = 0
  diag : ∀ k, k < n → 1 ≤ L k k
theorem LowTri.sum (h : LowTri n L) {i k : Nat} (hk : k < n) (hki : k ≤ i) : sumZ n (fun j => L i j * L k j) = sumZ k (fun j => L i j * L k j) + L i k * L k k := by
  have : sumZ n (fun j => L i j * L k j) = sumZ (k + 1) (fun j => L i j * L k j) := sumZ_tail (by omega) fun j h1 h2 => by rw [h.zero k j (by omega) h2, Int.mul_zero]
  rw [this, sumZ]
theorem LowTri.left (hn : 1 ≤ n ∧ n ≤ 16) (h : LowTri n L) {p : List Fr} (hp : ∀ i k, i < n → k < n → atF n n p i k = newF (sumZ n fun j => L i j * L k j) 1) {S : Nat → Nat → Fr} {i k : Nat} (hk : k < n) (hki : k ≤ i) (hi : i < n)
    (hS : ∀ j, j < k → S i j = newF (L i j) 1 ∧ S k j = newF (L k j) 1) : leftM n p S i k = newF (L i k * L k k) 1 := by
  unfold leftM
  rw [take_rowM n S i k (by omega), take_rowM n S k k (by omega), hp i k hi hk, h.sum hk hki]
  have e1 : (List.range k).map (S i) = (List.range k).map fun j => newF (L i j) 1 := List.map_congr_left fun j hj => (hS j (List.mem_range.1 hj)).1
  have e2 : (List.range k).map (S k) = (List.range k).map fun j => newF (L k j) 1 := List.map_congr_left fun j hj => (hS j (List.mem_range.1 hj)).2
  rw [e1, e2, dot_whole (h.small i) (h.small k) (by omega)]
  have hb : ∀ j, -10000 ≤ L i j * L k j ∧ L i j * L k j ≤ 10000 := fun j => prod_small (h.small i j) (h.small k j)
  have hs := sumZ_bnd (B := 10000) (by omega) hb k
  have hk' := hb k
  generalize sumZ k (fun j => L i j * L k j) = s at *
  rw [newF_whole (n := s + L i k * L k k) (by unfold few; omega), newF_whole (n := s) (by unfold few; omega), subF_whole (by unfold few; omega) (by unfold few; omega) (by unfold few; omega), newF_whole (by unfold few; omega)]
  congr 1
  omega
theorem LowTri.root (hn : 1 ≤ n ∧ n ≤ 16) (h : LowTri n L) {p : List Fr} (hp : ∀ i k, i < n → k < n → atF n n p i k = newF (sumZ n fun j => L i j * L k j) 1) : ∀ k i, k < n → i < n → rootS n p n i k = newF (L i k) 1 := by
  intro k
  induction k using Nat.strongRecOn with
  | ind k ih =>
    intro i hk hi
    have hdiag : rootS n p n k k = newF (L k k) 1 := by
      rw [root_diag hk, LowTri.left hn h hp hk (Nat.le_refl _) hk (fun j hj => ⟨ih j hj k (by omega) hk, ih j hj k (by omega) hk⟩)]
      exact root_whole ⟨by have := h.diag k hk; omega, (h.small k k).2⟩
    rcases Nat.lt_trichotomy i k with h1 | h1 | h1
    · rw [root_up h1 hk, h.zero i k h1 hk]
    · rw [h1]; exact hdiag
    · rw [root_low h1 hi, hdiag, LowTri.left hn h hp hk (by omega) hi (fun j hj => ⟨ih j hj i (by omega) hi, ih j hj k (by omega) hk⟩)]
      exact div_whole (h.small i k) ⟨h.diag k hk, (h.small k k).2⟩
end
end Go.Proofs.Ytbflmeomkfjikaa.A


set_option linter.unusedVariables false
set_option linter.unusedSimpArgs false
set_option maxRecDepth 100000
namespace Go.Proofs.Ytbflmeomkfjikaa.A
open Go Go.RowKit Go.Shelf

/-! ### What a triangle times it is a row -/
end Go.Proofs.Ytbflmeomkfjikaa.A


set_option linter.unusedVariables false
set_option linter.unusedSimpArgs false
set_option maxRecDepth 100000
namespace Go.Proofs.Ytbflmeomkfjikaa.A
open Go Go.RowKit Go.Shelf

/-! ### What is solved, times the cleared triangle, is what was asked -/
theorem sumR_cut (f : Nat → Rat) {k n : Nat} (hk : k ≤ n) (h : ∀ j, k ≤ j → j < n → f j = 0) : sumR n f = sumR k f := by
  induction n with
  | zero => rw [show k = 0 by omega]
  | succ n ih =>
    by_cases e : k = n + 1
    · rw [e]
    · rw [sumR, ih (by omega) (fun j h1 h2 => h j h1 (by omega)), h n (by omega) (by omega)]
      grind
end Go.Proofs.Ytbflmeomkfjikaa.A


set_option linter.unusedVariables false
set_option linter.unusedSimpArgs false
set_option maxRecDepth 100000
namespace Go.Proofs.Ytbflmeomkfjikaa.A
open Go Go.RowKit Go.Shelf

/-! ### Fractions beside numbers: where it is fine, it stands for it -/
def Rf (x : Fr) (v : Rat) : Prop := x.fine = true → x.val = v
theorem add_fineF {a b : Fr} (h : (addF a b).fine = true) : a.fine = true ∧ b.fine = true := ⟨(addF_is (fine_bad h)).1, (addF_is (fine_bad h)).2.1⟩
theorem sub_fineF {a b : Fr} (h : (subF a b).fine = true) : a.fine = true ∧ b.fine = true := ⟨(subF_is (fine_bad h)).1, (subF_is (fine_bad h)).2.1⟩
theorem mul_fineF {a b : Fr} (h : (mulF a b).fine = true) : a.fine = true ∧ b.fine = true := ⟨(mulF_is (fine_bad h)).1, (mulF_is (fine_bad h)).2.1⟩
theorem div_fineF {a b : Fr} (h : (divF a b).fine = true) : a.fine = true ∧ b.fine = true ∧ b.val ≠ 0 := ⟨(divF_is (fine_bad h)).1, (divF_is (fine_bad h)).2.1, (divF_is (fine_bad h)).2.2.1⟩
theorem neg_fineF {a : Fr} (h : (negF a).fine = true) : a.fine = true := (negF_is (fine_bad h)).1
theorem Rf.add {a b : Fr} {v w : Rat} (ha : Rf a v) (hb : Rf b w) : Rf (addF a b) (v + w) := fun h => by
  obtain ⟨h1, h2⟩ := add_fineF h
  rw [(addF_is (fine_bad h)).2.2.2, ha h1, hb h2]
theorem Rf.sub {a b : Fr} {v w : Rat} (ha : Rf a v) (hb : Rf b w) : Rf (subF a b) (v - w) := fun h => by
  obtain ⟨h1, h2⟩ := sub_fineF h
  rw [(subF_is (fine_bad h)).2.2.2, ha h1, hb h2]
theorem Rf.mul {a b : Fr} {v w : Rat} (ha : Rf a v) (hb : Rf b w) : Rf (mulF a b) (v * w) := fun h => by
  obtain ⟨h1, h2⟩ := mul_fineF h
  rw [(mulF_is (fine_bad h)).2.2.2, ha h1, hb h2]
theorem Rf.div {a b : Fr} {v w : Rat} (ha : Rf a v) (hb : Rf b w) : Rf (divF a b) (v / w) := fun h => by
  obtain ⟨h1, h2, _⟩ := div_fineF h
  rw [(divF_is (fine_bad h)).2.2.2.2, ha h1, hb h2]
theorem Rf.neg {a : Fr} {v : Rat} (ha : Rf a v) : Rf (negF a) (-v) := fun h => by
  rw [(negF_is (fine_bad h)).2.2, ha (neg_fineF h)]
theorem Rf.self (x : Fr) : Rf x x.val := fun _ => rfl
theorem Rf.zero : Rf (newF 0 1) 0 := fun _ => by
  have := (whole_is (n := 0) (by unfold few; omega)).2
  rw [this]
  rfl
theorem sumF_succ (f : Nat → Fr) (n : Nat) : sumF ((List.range (n + 1)).map f) = addF (sumF ((List.range n).map f)) (f n) := by
  unfold sumF
  rw [List.range_succ, List.map_append, List.foldl_append]
  rfl
theorem Rf.sum {f : Nat → Fr} {v : Nat → Rat} : ∀ {n : Nat}, (∀ j, j < n → Rf (f j) (v j)) → Rf (sumF ((List.range n).map f)) (sumR n v)
  | 0, _ => Rf.zero
  | n + 1, h => by
    rw [sumF_succ]
    exact Rf.add (Rf.sum fun j hj => h j (by omega)) (h n (by omega))
theorem sum_fineF {f : Nat → Fr} : ∀ {n : Nat}, (sumF ((List.range n).map f)).fine = true → ∀ j, j < n → (f j).fine = true
  | 0, _, j, hj => by omega
  | n + 1, h, j, hj => by
    rw [sumF_succ] at h
    have := add_fineF h
    by_cases e : j = n
    · rw [e]; exact this.2
    · exact sum_fineF this.1 j (by omega)
theorem dotF_range (f g : Nat → Fr) (n : Nat) : dotF ((List.range n).map f) ((List.range n).map g) = sumF ((List.range n).map fun j => mulF (f j) (g j)) := by
  unfold dotF
  rw [List.zipWith_map, List.zipWith_self]
theorem Rf.dot {f g : Nat → Fr} {v w : Nat → Rat} {n : Nat} (hf : ∀ j, j < n → Rf (f j) (v j)) (hg : ∀ j, j < n → Rf (g j) (w j)) : Rf (dotF ((List.range n).map f) ((List.range n).map g)) (sumR n fun j => v j * w j) := by
  rw [dotF_range]
  exact Rf.sum fun j hj => (hf j hj).mul (hg j hj)
theorem dot_fineF {f g : Nat → Fr} {n : Nat} (h : (dotF ((List.range n).map f) ((List.range n).map g)).fine = true) : ∀ j, j < n → (f j).fine = true ∧ (g j).fine = true := fun j hj => by
  rw [dotF_range] at h
  exact mul_fineF (sum_fineF h j hj)
def SndA' (y : Fr) : Prop := y.bad = false → y.fine = true
theorem subF_sndA (a b : Fr) : SndA' (subF a b) := fun h => (subF_is h).2.2.1
theorem negF_sndA (a : Fr) : SndA' (negF a) := fun h => (negF_is h).2.1
theorem rootF_sndA (a : Fr) : SndA' (rootF a) := fun h => (rootF_is h).2.1

/-! ### Folding fractions, beside numbers -/
theorem drop_range {α : Type} (f : Nat → α) (w k : Nat) : ((List.range w).map f).drop k = (List.range (w - k)).map fun j => f (k + j) := by
  apply List.ext_getElem?
  intro j
  rw [List.getElem?_drop]
  by_cases h : k + j < w
  · simp [h, show j < w - k by omega]
  · rw [List.getElem?_eq_none (by simp; omega), List.getElem?_eq_none (by simp; omega)]
theorem sumR_drop {f : Nat → Rat} {k : Nat} (h : ∀ c, c < k → f c = 0) : ∀ {w : Nat}, k ≤ w → sumR w f = sumR (w - k) fun j => f (k + j) := by
  intro w hk
  induction w with
  | zero => simp [sumR]
  | succ w ih =>
    by_cases e : k = w + 1
    · subst e
      rw [Nat.sub_self, sumR, sumR_congr (g := fun _ => 0) (fun j hj => h j (by omega)), sumR_zero]
    · rw [show w + 1 - k = (w - k) + 1 by omega, sumR, sumR, ih (by omega), show k + (w - k) = w by omega]
def RfM (n w : Nat) (M : Nat → Nat → Fr) (A : Nat → Nat → Rat) : Prop := ∀ i c, i < n → c < w → Rf (M i c) (A i c)
section
variable {n w k : Nat} {M : Nat → Nat → Fr} {A : Nat → Nat → Rat} {p : Rat}
theorem v_rf (hM : RfM n w M A) (hk : k < n) (hnw : n ≤ w) (hp : Rf (normF w M k) p) {c : Nat} (hc : k ≤ c) (hcw : c < w) : Rf (vA w M k c) (vR A k p c) := by
  unfold vA vR
  by_cases e : c = k
  · subst e
    rw [if_pos rfl, if_neg (by omega), if_pos rfl]
    exact (hM c c hk hcw).sub hp
  · rw [if_neg e, if_neg (by omega), if_neg e]
    exact hM k c hk hcw
theorem v_zero {c : Nat} (hc : c < k) : vR A k p c = 0 := if_pos hc
theorem dot_rf (hM : RfM n w M A) (hk : k < n) (hnw : n ≤ w) (hp : Rf (normF w M k) p) {i : Nat} (hi : i < n) : Rf (dotF ((rowM w M i).drop k) (vF w M k)) (dR w A k p i) := by
  unfold rowM vF dR
  rw [drop_range, drop_range, sumR_drop (k := k) (fun c hc => by rw [v_zero hc]; grind) (by omega)]
  exact Rf.dot (fun j hj => hM i (k + j) hi (by omega)) (fun j hj => v_rf hM hk hnw hp (by omega) (by omega))
theorem q_rf (hM : RfM n w M A) (hk : k < n) (hnw : n ≤ w) (hp : Rf (normF w M k) p) : Rf (dotF (vF w M k) (vF w M k)) (qR w A k p) := by
  unfold vF qR
  rw [drop_range, sumR_drop (k := k) (fun c hc => by rw [v_zero hc]; grind) (by omega)]
  exact Rf.dot (fun j hj => v_rf hM hk hnw hp (by omega) (by omega)) (fun j hj => v_rf hM hk hnw hp (by omega) (by omega))
theorem t_rf (hM : RfM n w M A) (hk : k < n) (hnw : n ≤ w) (hp : Rf (normF w M k) p) {i : Nat} (hi : i < n) : Rf (tF w M k i) (tR w A k p i) :=
  ((dot_rf hM hk hnw hp hi).add (dot_rf hM hk hnw hp hi)).div (q_rf hM hk hnw hp)
theorem fold_rf (hM : RfM n w M A) (hk : k < n) (hnw : n ≤ w) (hp : Rf (normF w M k) p) : RfM n w (foldF w M k n) (foldR w A k p) := fun i c hi hc => by
  unfold foldF foldR
  by_cases e : i = k
  · subst e
    simp only [if_true, Nat.lt_irrefl, if_false, xR]
    by_cases h1 : c < i
    · simp only [h1, if_true]; exact hM i c hi hc
    · simp only [h1, if_false]
      by_cases h2 : c = i
      · simp only [h2, if_true]; exact hp
      · simp only [h2, if_false]; exact Rf.zero
  · rw [if_neg e]
    unfold foldTo
    by_cases h1 : i < k
    · rw [if_neg (by omega), if_pos h1]; exact hM i c hi hc
    · rw [if_neg h1, if_neg e]
      by_cases h2 : k ≤ c
      · rw [if_pos ⟨by omega, hi, h2⟩]
        exact (hM i c hi hc).sub ((v_rf hM hk hnw hp h2 hc).mul (t_rf hM hk hnw hp hi))
      · rw [if_neg (by omega), v_zero (by omega)]
        have e0 : A i c - 0 * tR w A k p i = A i c := by grind
        rw [e0]
        exact hM i c hi hc
theorem norm_eps (hM : RfM n w M A) (hk : k < n) (hnw : n ≤ w) (hf : (normF w M k).fine = true) : epsR w A k (normF w M k).val = 0 := by
  have hx : Rf (dotF (xF w M k) (xF w M k)) (sumR w fun c => if c < k then 0 else A k c * A k c) := by
    unfold xF rowM
    rw [drop_range, sumR_drop (k := k) (fun c hc => if_pos hc) (by omega)]
    have := Rf.dot (f := fun j => M k (k + j)) (g := fun j => M k (k + j)) (v := fun j => A k (k + j)) (w := fun j => A k (k + j)) (n := w - k) (fun j hj => hM k (k + j) hk (by omega)) (fun j hj => hM k (k + j) hk (by omega))
    rw [sumR_congr (g := fun j => A k (k + j) * A k (k + j)) (fun j hj => if_neg (by omega))]
    exact this
  unfold normF at hf ⊢
  by_cases hs : 0 ≤ signF (M k k)
  · rw [if_pos hs] at hf ⊢
    obtain ⟨r1, r2, r3⟩ := rootF_is (fine_bad (neg_fineF hf))
    rw [(negF_is (fine_bad hf)).2.2]
    unfold epsR
    rw [← hx r1]
    grind
  · rw [if_neg hs] at hf ⊢
    obtain ⟨r1, r2, r3⟩ := rootF_is (fine_bad hf)
    unfold epsR
    rw [← hx r1]
    grind
end
theorem folds_rf {n w : Nat} {M : Nat → Nat → Fr} {A : Nat → Nat → Rat} (hM : RfM n w M A) (hnw : n ≤ w) : ∀ k, k ≤ n → RfM n w (foldsF w n M k) (foldsR w (fun j => (normF w (foldsF w n M j) j).val) A k)
  | 0, _ => hM
  | k + 1, hk => by
    rw [foldsF, foldsR]
    exact fold_rf (folds_rf hM hnw k (by omega)) (by omega) hnw (Rf.self _)
/-- Numbers that are folded stay, left of the column at hand. -/
theorem folds_keep {w n : Nat} (M : Nat → Nat → Fr) {i c : Nat} : ∀ {m : Nat}, c < m → foldsF w n M m i c = foldsF w n M (c + 1) i c
  | m + 1, h => by
    by_cases e : c = m
    · rw [e]
    · rw [← folds_keep M (show c < m by omega), foldsF, foldF]
      by_cases e2 : i = m
      · rw [if_pos e2, if_pos (by omega), e2]
      · rw [if_neg e2, foldTo, if_neg (by omega)]
theorem folds_diag {w n : Nat} (M : Nat → Nat → Fr) {k m : Nat} (h : k < m) : foldsF w n M m k k = normF w (foldsF w n M k) k := by
  rw [folds_keep M h, foldsF, foldF, if_pos rfl, if_neg (by omega), if_pos rfl]
theorem folds_low {w n : Nat} (M : Nat → Nat → Fr) {i k m : Nat} (h : k < m) (hi : k < i) (hin : i < n) : foldsF w n M m i k = subF (foldsF w n M k i k) (mulF (vA w (foldsF w n M k) k k) (tF w (foldsF w n M k) k i)) := by
  rw [folds_keep M h, foldsF, foldF, if_neg (by omega), foldTo, if_pos ⟨hi, hin, Nat.le_refl _⟩]
theorem norm_sndA (w : Nat) (M : Nat → Nat → Fr) (k : Nat) : SndA' (normF w M k) := by
  unfold normF
  split
  · exact negF_sndA _
  · exact rootF_sndA _
theorem folds_fine {w n : Nat} {M : Nat → Nat → Fr} (h : ∀ i k, k ≤ i → i < n → (foldsF w n M n i k).bad = false) :
    (∀ k, k < n → (normF w (foldsF w n M k) k).fine = true) ∧ ∀ k i, k < i → i < n → (tF w (foldsF w n M k) k i).fine = true := by
  refine ⟨fun k hk => ?_, fun k i hki hi => ?_⟩
  · have := h k k (Nat.le_refl _) hk
    rw [folds_diag M hk] at this
    exact norm_sndA _ _ _ this
  · have := h i k (by omega) hi
    rw [folds_low M (by omega) hki hi] at this
    exact (mul_fineF (sub_fineF (subF_sndA _ _ this)).2).2
/-- What is folded keeps all rows' products. -/
theorem folds_same {n w : Nat} {M : Nat → Nat → Fr} {A : Nat → Nat → Rat} (hM : RfM n w M A) (hnw : n ≤ w) (h : ∀ i k, k ≤ i → i < n → (foldsF w n M n i k).bad = false) {i l : Nat} (hi : i < n) (hl : l < n) :
    gramR w (foldsR w (fun j => (normF w (foldsF w n M j) j).val) A n) i l = gramR w A i l := by
  obtain ⟨f1, f2⟩ := folds_fine h
  refine folds_exact hnw (fun k hk => ?_) (fun k hk => norm_eps (folds_rf hM hnw k (by omega)) hk hnw (f1 k hk)) n (Nat.le_refl _) i l hi hl
  obtain ⟨_, q1, q2⟩ := div_fineF (f2 k (k + 1) (by omega) hk)
  rw [q_rf (folds_rf hM hnw k (by omega)) (by omega) hnw (Rf.self _) q1] at q2
  exact q2
end Go.Proofs.Ytbflmeomkfjikaa.A


set_option linter.unusedVariables false
set_option linter.unusedSimpArgs false
set_option maxRecDepth 100000
namespace Go.Proofs.Ytbflmeomkfjikaa.A
open Go Go.RowKit Go.Shelf

/-! ### The triangle's square is the square of what was folded -/
theorem sq_entry {n : Nat} (hn : 1 ≤ n ∧ n ≤ 16) {t : List Fr} (lt : t.length = n * n) {i k : Nat} (hi : i < n) (hk : k < n) :
    (sqF n t).getD (i * n + k) dz = dotF ((List.range n).map fun j => t.getD (max i k * n + j) dz) ((List.range n).map fun j => t.getD (min i k * n + j) dz) := by
  have lt' : (turnF n n t).length = n * n := turnF_len hn hn lt
  have lp : (prodF n n n t (turnF n n t)).length = n * n := by rw [prodF_len]; simp
  unfold sqF
  rw [mir_at hn lp hi hk, prodF_grid hn hn hn lt lt', grid_at (by omega) (by omega)]
  congr 1
  refine List.map_congr_left fun j hj => ?_
  exact turn_at hn hn lt (by omega) (List.mem_range.1 hj)
theorem dot_sndA (f g : Nat → Fr) : ∀ n, SndA' (dotF ((List.range n).map f) ((List.range n).map g))
  | 0 => fun _ => by
    have := (whole_is (n := 0) (by unfold few; omega)).1
    exact this
  | n + 1 => fun h => by
    rw [dotF_range, sumF_succ] at h ⊢
    exact (addF_is h).2.2.1
section
variable {n w : Nat} {l : List Fr}
theorem tri_at (hn : 1 ≤ n ∧ n ≤ 16) {i k : Nat} (hi : i < n) (hk : k < n) : (triF n w l).getD (i * n + k) dz = if i < k then newF 0 1 else
    if signF (foldsF w n (startF n w l) n k k) < 0 then negF (foldsF w n (startF n w l) n i k) else foldsF w n (startF n w l) n i k := by
  have lG : (gridP (foldsF w n (startF n w l) n) n n 0).length = n * n := by rw [gridP_length, Nat.add_zero]
  have lS : (signsF n (gridP (foldsF w n (startF n w l) n) n n 0)).length = n * n := by rw [signsF, gridP_length, Nat.add_zero]
  have aG : ∀ i k : Nat, i < n → k < n → atF n n (gridP (foldsF w n (startF n w l) n) n n 0) i k = foldsF w n (startF n w l) n i k := fun i k hi hk => by
    rw [atF_eq (right_sq hn lG) (by simpa using hi) (by simpa using hk), Int.toNat_natCast]
    exact grid_at hi hk
  unfold triF clearF
  rw [grid_at hi hk]
  unfold clearG
  by_cases h : i < k
  · rw [if_pos h, if_pos h]
  · rw [if_neg h, if_neg h, atF_eq (right_sq hn lS) (by simpa using hi) (by simpa using hk), Int.toNat_natCast]
    unfold signsF
    have e : (gridP (signG n (gridP (foldsF w n (startF n w l) n) n n 0)) n n 0).getD (i * n + k) ⟨0, 0, false⟩ = signG n (gridP (foldsF w n (startF n w l) n) n n 0) i k := grid_at hi hk
    rw [e]
    unfold signG
    rw [aG k k hk hk, aG i k hi hk]
    by_cases hs : signF (foldsF w n (startF n w l) n k k) < 0
    · rw [if_pos ⟨by omega, hs⟩, if_pos hs]
    · rw [if_neg (fun h => hs h.2), if_neg hs]
theorem tri_len : (triF n w l).length = n * n := by rw [triF, clearF, gridP_length, Nat.add_zero]
/-- In numbers: the triangle, its signs set. -/
def triR (n : Nat) (M : Nat → Nat → Fr) (S : Nat → Nat → Rat) (i k : Nat) : Rat := if i < k then 0 else if signF (M k k) < 0 then -(S i k) else S i k
theorem tri_rf (hn : 1 ≤ n ∧ n ≤ 16) (hnw : n ≤ w) {S : Nat → Nat → Rat} (h : RfM n w (foldsF w n (startF n w l) n) S) {i k : Nat} (hi : i < n) (hk : k < n) :
    Rf ((triF n w l).getD (i * n + k) dz) (triR n (foldsF w n (startF n w l) n) S i k) := by
  rw [tri_at hn hi hk]
  unfold triR
  split
  · exact Rf.zero
  · split
    · exact (h i k hi (by omega)).neg
    · exact h i k hi (by omega)
theorem tri_gram {M : Nat → Nat → Fr} {P : Nat → Rat} {A : Nat → Nat → Rat} (hnw : n ≤ w) {i k : Nat} (hi : i < n) (hk : k < n) (hki : k ≤ i) :
    sumR n (fun j => triR n M (foldsR w P A n) i j * triR n M (foldsR w P A n) k j) = gramR w (foldsR w P A n) i k := by
  have e : ∀ j, triR n M (foldsR w P A n) i j * triR n M (foldsR w P A n) k j = foldsR w P A n i j * foldsR w P A n k j := fun j => by
    unfold triR
    by_cases h : k < j
    · rw [if_pos h, folds_zero w P A n k j hk h]; grind
    · rw [if_neg h, if_neg (by omega)]
      split <;> grind
  rw [sumR_congr (fun j _ => e j)]
  unfold gramR
  refine (sumR_cut _ hnw (fun j h1 h2 => ?_)).symm
  rw [folds_zero w P A n k j hk (by omega)]
  grind
theorem tri_square (hn : 1 ≤ n ∧ n ≤ 16) (hnw : n ≤ w) {A : Nat → Nat → Rat} (hM : RfM n w (startF n w l) A) (hb : ∀ m, m < n * n → ((sqF n (triF n w l)).getD m dz).bad = false) {i k : Nat} (hi : i < n) (hk : k < n) :
    Is ((sqF n (triF n w l)).getD (i * n + k) dz) (gramR w A i k) := by
  have hent : ∀ a b, a < n → b < n → ((sqF n (triF n w l)).getD (a * n + b) dz).fine = true := fun a b ha hb' => by
    have hlt := at_table (i := a) (j := b) (n := n) (m := n) ha hb'
    have := hb _ hlt.1
    rw [sq_entry hn tri_len ha hb'] at this ⊢
    exact dot_sndA _ _ _ this
  have hT : ∀ i k, k ≤ i → i < n → (foldsF w n (startF n w l) n i k).bad = false := fun i k hki hi => by
    have h1 := hent i i hi hi
    rw [sq_entry hn tri_len hi hi] at h1
    have h2 := (dot_fineF h1 k (by omega)).1
    rw [Nat.max_self, tri_at hn hi (by omega), if_neg (by omega)] at h2
    split at h2
    · exact fine_bad (neg_fineF h2)
    · exact fine_bad h2
  have hS := folds_rf hM hnw n (Nat.le_refl _)
  have hf := hent i k hi hk
  have hq : Rf ((sqF n (triF n w l)).getD (i * n + k) dz) (gramR w A i k) := by
    rw [sq_entry hn tri_len hi hk]
    have := Rf.dot (n := n) (fun j hj => tri_rf (l := l) hn hnw hS (show max i k < n by omega) hj) (fun j hj => tri_rf (l := l) hn hnw hS (show min i k < n by omega) hj)
    rw [tri_gram hnw (by omega) (by omega) (by omega)] at this
    have hm : gramR w (foldsR w (fun j => (normF w (foldsF w n (startF n w l) j) j).val) A n) (max i k) (min i k) = gramR w A i k := by
      rw [folds_same hM hnw hT (by omega) (by omega)]
      rcases Nat.le_total i k with h | h
      · rw [Nat.max_eq_right h, Nat.min_eq_left h, gramR_comm]
      · rw [Nat.max_eq_left h, Nat.min_eq_right h]
    rw [hm] at this
    exact this
  exact ⟨hf, hq hf⟩
end
/-- Whole numbers, as numbers. -/
def numR (l : List Int) (w : Nat) : Nat → Nat → Rat := fun i c => ((l.getD (i * w + c) 0 : Int) : Rat)
theorem start_whole {l : List Int} {n w : Nat} (hn : 1 ≤ n ∧ n ≤ 16) (hw : 1 ≤ w ∧ w ≤ 16) (hl : l.length = n * w) {i c : Nat} (hi : i < n) (hc : c < w) : startF n w (l.map (newF · 1)) i c = newF (l.getD (i * w + c) 0) 1 := by
  have hb := at_table (i := i) (j := c) (n := n) (m := w) hi hc
  have hr : right (n : Int) (w : Int) (l.map (newF · 1)).length = true := right_nat hn hw (by rw [List.length_map, hl])
  unfold startF
  rw [atF_eq hr (by simpa using hi) (by simpa using hc), Int.toNat_natCast, getD_newF (by omega)]
theorem start_rf {l : List Int} (hs : small l) {n w : Nat} (hn : 1 ≤ n ∧ n ≤ 16) (hw : 1 ≤ w ∧ w ≤ 16) (hl : l.length = n * w) : RfM n w (startF n w (l.map (newF · 1))) (numR l w) := fun i c hi hc => by
  rw [start_whole hn hw hl hi hc]
  exact fun _ => (whole_is (few_small (small_get hs _))).2
theorem gram_whole (l : List Int) (w i k : Nat) : gramR w (numR l w) i k = ((sumZ w fun j => l.getD (i * w + j) 0 * l.getD (k * w + j) 0 : Int) : Rat) := by
  rw [sumZ_cast]
  exact sumR_congr fun j hj => by unfold numR; rw [Rat.intCast_mul]
/-- The square of whole numbers, folded: where it is not Bad it is the same. -/
theorem exact_same {l : List Int} (hs : small l) {n w : Nat} (hn : 1 ≤ n ∧ n ≤ 16) (hw : 1 ≤ w ∧ w ≤ 16) (hnw : n ≤ w) (hl : l.length = n * w)
    (hb : ∀ m, m < n * n → ((sqF n (triF n w (l.map (newF · 1)))).getD m dz).bad = false) : sqF n (triF n w (l.map (newF · 1))) = prodF n w n (l.map (newF · 1)) (turnF n w (l.map (newF · 1))) := by
  have lM : (l.map (newF · 1)).length = n * w := by rw [List.length_map, hl]
  have lT : (turnF n w (l.map (newF · 1))).length = w * n := turnF_len hn hw lM
  have lQ : (sqF n (triF n w (l.map (newF · 1)))).length = n * n := sqF_len' _ _
  have e1 : ∀ i k, i < n → k < n → (sqF n (triF n w (l.map (newF · 1))))[i * n + k]? = some (dotF ((List.range w).map fun j => (l.map (newF · 1)).getD (i * w + j) dz) ((List.range w).map fun j => (turnF n w (l.map (newF · 1))).getD (j * n + k) dz)) := fun i k hi hk => by
    have hlt := at_table (i := i) (j := k) (n := n) (m := n) hi hk
    have h1 := tri_square hn hnw (start_rf hs hn hw hl) hb hi hk
    rw [gram_whole] at h1
    have a1 : ((List.range w).map fun j => (l.map (newF · 1)).getD (i * w + j) dz) = (List.range w).map fun j => newF (l.getD (i * w + j) 0) 1 := List.map_congr_left fun j hj => by
      have := at_table (i := i) (j := j) (n := n) (m := w) hi (List.mem_range.1 hj)
      exact getD_newF (by omega) _
    have a2 : ((List.range w).map fun j => (turnF n w (l.map (newF · 1))).getD (j * n + k) dz) = (List.range w).map fun j => newF (l.getD (k * w + j) 0) 1 := List.map_congr_left fun j hj => by
      have := at_table (i := k) (j := j) (n := n) (m := w) hk (List.mem_range.1 hj)
      rw [turn_at hn hw lM hk (List.mem_range.1 hj)]
      exact getD_newF (by omega) _
    rw [a1, a2, dot_whole (f := fun j => l.getD (i * w + j) 0) (g := fun j => l.getD (k * w + j) 0) (fun j => small_get hs _) (fun j => small_get hs _) hw.2]
    have hbd := sumZ_bnd (f := fun j => l.getD (i * w + j) 0 * l.getD (k * w + j) 0) (B := 10000) (by omega) (fun j => prod_small (small_get hs _) (small_get hs _)) w
    have h2 := whole_is (n := sumZ w fun j => l.getD (i * w + j) 0 * l.getD (k * w + j) 0) (by unfold few; omega)
    rw [← h1.inj h2, List.getD_eq_getElem?_getD, List.getElem?_eq_getElem (by omega), Option.getD_some]
  rw [prodF_grid hn hw hn lM lT]
  exact grid_of lQ e1
end Go.Proofs.Ytbflmeomkfjikaa.A


set_option linter.unusedVariables false
set_option linter.unusedSimpArgs false
set_option maxRecDepth 100000
namespace Go.Proofs.Ytbflmeomkfjikaa.A
open Go Go.RowKit Go.Shelf

/-! ### What the document fixes of one row -/
theorem ok31 : Ok Try.prog 31 [] (tru true) := by
  refine ok_fn mixed Try.func31 (code := ?_) (h := h31) ?_ k31 ?_
  rotate_left
  · exact rfl
  unfold h31 initS
  simp -implicitDefEqProofs only [rkA, rkB, stepA, valA, simprocAttr, Try.ntmps31, Try.results31]
  have h1 := ok10 1 2 true [3, 4] (by simp)
  rw [if_pos (by decide)] at h1
  refine call_fn rfl rfl rfl (h1) ?_
  have u1 : triF 1 2 ([3, 4].map (newF · 1)) = [5].map (newF · 1) := by decide +kernel
  generalize hR : [3, 4].map (newF · 1) = R at *
  have lR : R.length = 2 := by subst hR; rfl
  simp -implicitDefEqProofs only [rkA, rkB, stepA, valA, simprocAttr]
  have h2 := ok32 1 2 (by omega) (by omega) (by omega) false R lR
  rw [u1] at h2
  refine call_fn rfl rfl rfl (h2) ?_
  simp -implicitDefEqProofs only [rkA, rkB, stepA, valA, simprocAttr]
  refine call_fn rfl rfl rfl (ok40 false 1 1 0 0 ([5].map (newF · 1))) ?_
  simp -implicitDefEqProofs only [rkA, rkB, stepA, valA, simprocAttr]
  refine call_fn rfl rfl rfl (ok27 5 1) ?_
  have e1 : atF 1 1 [newF 5 1] 0 0 = newF 5 1 := by decide +kernel
  simp -implicitDefEqProofs only [e1, eq_fr, rkA, rkB, stepA, valA, simprocAttr]
end Go.Proofs.Ytbflmeomkfjikaa.A



set_option linter.unusedVariables false
set_option linter.unusedSimpArgs false
set_option maxRecDepth 100000
namespace Go.Proofs.Ytbflmeomkfjikaa.A
open Go Go.RowKit Go.Shelf

/-! ### The function HouseExact -/
set_option maxHeartbeats 4000000 in
theorem ok7 (e : Bool) (l : List Int) (r c : Int) (hlen : l.length ≤ 1048576) : Ok Try.prog 7 [.sl e (l.map num), num r, num c] (tru true) := by
  refine ok_fn mixed Try.func7 (code := ?_) (h := h7) ?_ k7 ?_
  rotate_left
  · exact rfl
  unfold h7 initS
  simp -implicitDefEqProofs (maxSteps := 10000000) only [rkA, rkB, stepA, valA, simprocAttr, Try.ntmps7, Try.results7]
  have ll : (l.map num).length = l.length := by simp
  simp -implicitDefEqProofs (maxSteps := 10000000) only [ll, rkA, rkB, stepA, valA, simprocAttr]
  refine wp_loop (fun m s => ∃ k : Nat, k + m = l.length ∧ (∀ a, a < k → -20 ≤ l.getD a 0 ∧ l.getD a 0 ≤ 20) ∧ s = ⟨[.v (.sl e (l.map num)), .v (num r), .v (num c), jk, jk, jk, jk, jk, jk, jk, jk, jk, jk, jk, jk, jk, jk, jk, .v (.sl e (l.map num)), nt l.length, nt k, jk, jk, jk, jk, jk, jk, jk, jk, jk, jk, jk, jk, jk, jk, jk, jk, jk, jk, jk, jk, jk, jk, jk, jk, jk, jk, jk, jk, jk, jk, jk, jk, jk, jk, jk, jk, jk, jk, jk, jk, jk, jk, jk, jk, jk, jk, jk, jk, jk, jk, jk, jk, jk, jk, jk, jk, jk, jk, jk, jk, jk, jk, jk, jk, jk, jk, jk, jk, jk, jk, jk, jk, jk, jk, jk, jk, jk], [], [], [], [], 0, nomem⟩) l.length ?_ ?_
  · simp -implicitDefEqProofs (maxSteps := 10000000) only [rkA, rkB, stepA, valA, simprocAttr]
    exact ⟨0, by simp, fun a h => by omega, rfl⟩
  rintro m s ⟨k, hk, hall, rfl⟩
  simp -implicitDefEqProofs (maxSteps := 10000000) only [rkA, rkB, stepA, valA, simprocAttr]
  refine gB_dec ?_ ?_ <;> intro hc <;> simp -implicitDefEqProofs (maxSteps := 10000000) only [hc, rkA, rkB, stepA, valA, simprocAttr]
  · have g := at_num (a := l) (i := k) (by omega)
    have h0 : (0 : Int) ≤ (k : Int) := by omega
    have w3 := wrapped (x := (k : Int) + 1) (by omega) (by omega)
    simp -implicitDefEqProofs (maxSteps := 10000000) only [h0, Int.toNat_natCast, g, rkA, rkB, stepA, valA, simprocAttr]
    refine gB_dec ?_ ?_ <;> intro h1 <;> simp -implicitDefEqProofs (maxSteps := 10000000) only [h1, rkA, rkB, stepA, valA, simprocAttr]
    · refine call_fn rfl rfl rfl (ok31) ?_
      simp -implicitDefEqProofs (maxSteps := 10000000) only [rkA, rkB, stepA, valA, simprocAttr]
    refine gB_dec ?_ ?_ <;> intro h2 <;> simp -implicitDefEqProofs (maxSteps := 10000000) only [h2, rkA, rkB, stepA, valA, simprocAttr]
    · refine call_fn rfl rfl rfl (ok31) ?_
      simp -implicitDefEqProofs (maxSteps := 10000000) only [rkA, rkB, stepA, valA, simprocAttr]
    simp -implicitDefEqProofs (maxSteps := 10000000) only [w3, rkA, rkB, stepA, valA, simprocAttr]
    refine loopK_of (m' := m - 1) (by omega) ?_
    simp -implicitDefEqProofs (maxSteps := 10000000) only [rkA, rkB, stepA, valA, simprocAttr]
    refine ⟨k + 1, by omega, fun a ha => ?_, by simp only [Int.natCast_add, Int.natCast_one]⟩
    by_cases ea : a = k
    · subst ea; omega
    · exact hall a (by omega)
  · have hkl : k = l.length := by omega
    have hs : small l := fun x hx => by
      obtain ⟨a, ha, rfl⟩ := List.getElem_of_mem hx
      have := hall a (by omega)
      rw [List.getD_eq_getElem?_getD, List.getElem?_eq_getElem ha, Option.getD_some] at this
      omega
    clear hall hc hk hkl
    have h12 := ok10 r c e l (by omega)
    refine call_fn rfl rfl rfl (h12) ?_
    by_cases hr : right r c l.length = true
    · rw [if_pos hr]
      simp -implicitDefEqProofs (maxSteps := 10000000) only [rkA, rkB, stepA, valA, simprocAttr]
      refine gB_dec ?_ ?_ <;> intro h4 <;> simp -implicitDefEqProofs (maxSteps := 10000000) only [h4, rkA, rkB, stepA, valA, simprocAttr]
      · refine call_fn rfl rfl rfl (ok31) ?_
        simp -implicitDefEqProofs (maxSteps := 10000000) only [rkA, rkB, stepA, valA, simprocAttr]
      refine gB_dec ?_ ?_ <;> intro h8 <;> simp -implicitDefEqProofs (maxSteps := 10000000) only [h8, rkA, rkB, stepA, valA, simprocAttr]
      · refine call_fn rfl rfl rfl (ok31) ?_
        simp -implicitDefEqProofs (maxSteps := 10000000) only [rkA, rkB, stepA, valA, simprocAttr]
      refine gB_dec ?_ ?_ <;> intro hrc <;> simp -implicitDefEqProofs (maxSteps := 10000000) only [hrc, rkA, rkB, stepA, valA, simprocAttr]
      · refine call_fn rfl rfl rfl (ok31) ?_
        simp -implicitDefEqProofs (maxSteps := 10000000) only [rkA, rkB, stepA, valA, simprocAttr]
      obtain ⟨r1, r16, c1, c16, hn0⟩ := right_spec hr
      obtain ⟨n, rfl⟩ := Int.eq_ofNat_of_zero_le (show 0 ≤ r by omega)
      obtain ⟨w, rfl⟩ := Int.eq_ofNat_of_zero_le (show 0 ≤ c by omega)
      have hn : 1 ≤ n ∧ n ≤ 16 := by omega
      have hw : 1 ≤ w ∧ w ≤ 16 := by omega
      have hnw : n ≤ w := by omega
      have hl : l.length = n * w := by
        rw [← Int.natCast_mul] at hn0
        omega
      have lM : (l.map (newF · 1)).length = n * w := by rw [List.length_map, hl]
      have lTu : (turnF n w (l.map (newF · 1))).length = w * n := turnF_len hn hw lM
      have hNN : n * n ≤ 16 * 16 := Nat.mul_le_mul hn.2 hn.2
      have hr' : right (n : Int) (w : Int) (l.map (newF · 1)).length = true := by rw [List.length_map]; exact hr
      refine call_fn rfl rfl rfl (ok32 n w hn.1 hnw hw.2 false _ lM) ?_
      simp -implicitDefEqProofs (maxSteps := 10000000) only [rkA, rkB, stepA, valA, simprocAttr]
      refine call_fn rfl rfl rfl (ok14 n hn false _ tri_len) ?_
      simp -implicitDefEqProofs (maxSteps := 10000000) only [rkA, rkB, stepA, valA, simprocAttr]
      have h25 := ok20 false n w (l.map (newF · 1))
      rw [if_pos hr'] at h25
      refine call_fn rfl rfl rfl (h25) ?_
      simp -implicitDefEqProofs (maxSteps := 10000000) only [rkA, rkB, stepA, valA, simprocAttr]
      have h13 := ok33 false false n w w n (l.map (newF · 1)) (turnF n w (l.map (newF · 1)))
      rw [if_pos ⟨hr', right_nat hw hn lTu, rfl⟩] at h13
      refine call_fn rfl rfl rfl (h13) ?_
      have key := exact_same hs hn hw hnw hl
      have lQ : (sqF n (triF n w (l.map (newF · 1)))).length = n * n := sqF_len' _ _
      have lQ' : (frs (sqF n (triF n w (l.map (newF · 1))))).length = n * n := by rw [List.length_map, lQ]
      generalize sqF n (triF n w (l.map (newF · 1))) = Q at *
      simp -implicitDefEqProofs (maxSteps := 10000000) only [lQ', rkA, rkB, stepA, valA, simprocAttr]
      have lP : (prodF n w n (l.map (newF · 1)) (turnF n w (l.map (newF · 1)))).length = n * n := by rw [prodF_len]; simp
      generalize prodF n w n (l.map (newF · 1)) (turnF n w (l.map (newF · 1))) = R at *
      refine wp_loop (fun m s => ∃ k : Nat, k + m = n * n ∧ (∀ a, a < k → (Q.getD a dz).bad = false) ∧ s = ⟨[jk, jk, jk, jk, jk, jk, jk, jk, jk, jk, jk, jk, jk, .ptr 13 0, jk, .ptr 15 0, jk, jk, jk, jk, jk, jk, jk, jk, jk, jk, jk, jk, jk, jk, jk, jk, jk, jk, jk, jk, jk, jk, jk, jk, jk, jk, jk, jk, jk, jk, jk, jk, jk, jk, jk, jk, jk, jk, jk, jk, jk, jk, jk, jk, jk, jk, jk, jk, jk, jk, jk, jk, jk, jk, jk, jk, jk, jk, jk, jk, jk, jk, jk, jk, nt ((n * n : Nat) : Int), nt k, jk, jk, jk, jk, jk, jk, jk, jk, jk, jk, jk, jk, jk, jk, jk, jk],
        [(9, [.v (num n), .v (num w), .v (.sl false (frs (l.map (newF · 1))))]), (11, [.v (num n), .v (num n), .v (.sl false (frs (triF n w (l.map (newF · 1)))))]), (13, [.v (num n), .v (num n), .v (.sl false (frs Q))]), (15, [.v (num n), .v (num n), .v (.sl false (frs R))])], [], [(3009, 0), (3011, 0), (3013, 0), (3015, 0)], [], 0, nomem⟩) (n * n) ?_ ?_
      · simp -implicitDefEqProofs (maxSteps := 10000000) only [rkA, rkB, stepA, valA, simprocAttr]
        exact ⟨0, by simp, fun a h => by omega, rfl⟩
      rintro m s ⟨k, hk, hbs, rfl⟩
      simp -implicitDefEqProofs (maxSteps := 10000000) only [rkA, rkB, stepA, valA, simprocAttr]
      refine gB_dec ?_ ?_ <;> intro hc <;> simp -implicitDefEqProofs (maxSteps := 10000000) only [hc, rkA, rkB, stepA, valA, simprocAttr]
      · have hltQ : k < Q.length := by omega
        have h0 : (0 : Int) ≤ (k : Int) := by omega
        have gQ : (frs Q)[k]? = some (frV Q[k]) := by simp [hltQ]
        have w3 := wrapped (x := (k : Int) + 1) (by omega) (by omega)
        simp -implicitDefEqProofs (maxSteps := 10000000) only [h0, Int.toNat_natCast, gQ, rkA, rkB, stepA, valA, simprocAttr]
        cases hbk : Q[k].bad with
        | true =>
          simp -implicitDefEqProofs (maxSteps := 10000000) only [rkA, rkB, stepA, valA, simprocAttr]
          refine call_fn rfl rfl rfl (ok31) ?_
          simp -implicitDefEqProofs (maxSteps := 10000000) only [rkA, rkB, stepA, valA, simprocAttr]
        | false =>
          simp -implicitDefEqProofs (maxSteps := 10000000) only [w3, rkA, rkB, stepA, valA, simprocAttr]
          refine loopK_of (m' := m - 1) (by omega) ?_
          simp -implicitDefEqProofs (maxSteps := 10000000) only [rkA, rkB, stepA, valA, simprocAttr]
          refine ⟨k + 1, by omega, fun a ha => ?_, by simp only [Int.natCast_add, Int.natCast_one]⟩
          by_cases ea : a = k
          · subst ea
            rw [List.getD_eq_getElem?_getD, List.getElem?_eq_getElem hltQ, Option.getD_some]
            exact hbk
          · exact hbs a (by omega)
      · have hkn : k = n * n := by omega
        have hQR := key (fun a ha => hbs a (by omega))
        subst hQR
        refine call_fn rfl rfl rfl (ok13 false false n n Q (by omega)) ?_
        simp -implicitDefEqProofs (maxSteps := 10000000) only [rkA, rkB, stepA, valA, simprocAttr]
        refine call_fn rfl rfl rfl (ok31) ?_
        simp -implicitDefEqProofs (maxSteps := 10000000) only [rkA, rkB, stepA, valA, simprocAttr]
    · rw [if_neg hr]
      simp -implicitDefEqProofs (maxSteps := 10000000) only [rkA, rkB, stepA, valA, simprocAttr]
      refine call_fn rfl rfl rfl (ok31) ?_
      simp -implicitDefEqProofs (maxSteps := 10000000) only [rkA, rkB, stepA, valA, simprocAttr]
end Go.Proofs.Ytbflmeomkfjikaa.A


