import Derived.Test.YtambpjbpdackfaaGreatM4
import Derived.Test.YtambpjbpdackfaaGreatM3
set_option linter.unusedVariables false
set_option linter.unusedSimpArgs false
set_option maxRecDepth 100000
namespace Go.Proofs.YtambpjbpdackfaaGreat.A
open Go Go.RowKit Go.Shelf

theorem methAdd : Meth Tryz.prog 47 "Add" 264 := by
  intro v xs w
  rfl
theorem methMul : Meth Tryz.prog 47 "Mul" 267 := by
  intro v xs w
  rfl

def sumF (l : List Fr) : Fr := l.foldl addF (newF 0 1)

theorem ok168 (ex : Bool) (l : List Fr) (h : l.length ≤ 5864062014805) : Ok Tryz.prog 168 [.sl ex (frs l)] (frV (sumF l)) := by
  refine ok_fn mixed Tryz.func168 (code := ?_) (h := h168) ?_ k168 ?_
  rotate_left
  · exact rfl
  unfold h168 initS
  simp -implicitDefEqProofs only [rkA, rkB, stepA, valA, simprocAttr, Tryz.ntmps168, Tryz.results168]
  refine call_meth rfl rfl methOf (ok269 ⟨0, 0, false⟩ 0) ?_
  simp -implicitDefEqProofs only [rkA, rkB, stepA, valA, simprocAttr]
  refine wp_loop (fun m s => ∃ i, i + m = l.length ∧ s = ⟨[jk, jk, .ptr 2 0, jk, .ptr 4 0, jk, jk, jk, jk, jk, .v (.sl ex (frs l)), nt l.length, nt i, jk, jk, jk, jk, jk, jk, jk, jk, jk],
    [(2, [nt 0, nt 0, .v (tru false)]), (3, [nt 0, nt 0, .v (tru false)]), (4, [nt (sumF (l.take i)).n, nt (sumF (l.take i)).d, .v (tru (sumF (l.take i)).bad)])], [], [], [], 0, nomem⟩) l.length ?_ ?_
  · simp -implicitDefEqProofs only [rkA, rkB, stepA, valA, simprocAttr]
    refine ⟨0, by simp, ?_⟩
    simp [sumF]
  rintro m s ⟨i, hi, rfl⟩
  simp -implicitDefEqProofs only [rkA, rkB, stepA, valA, simprocAttr]
  refine gB_dec ?_ ?_ <;> intro hc <;> simp -implicitDefEqProofs only [hc, rkA, rkB, stepA, valA, simprocAttr]
  · have hlt : i < l.length := by omega
    have h0 : (0 : Int) ≤ (i : Int) := by omega
    have hg : (frs l)[i]? = some (frV l[i]) := by simp [hlt]
    simp -implicitDefEqProofs only [h0, Int.toNat_natCast, hg, rkA, rkB, stepA, valA, simprocAttr]
    refine call_meth rfl rfl methAdd (ok264 (sumF (l.take i)) l[i]) ?_
    have hw := wrapped (x := (i : Int) + 1) (by omega) (by omega)
    simp -implicitDefEqProofs only [hw, rkA, rkB, stepA, valA, simprocAttr]
    refine loopK_of (m' := m - 1) (by omega) ?_
    simp -implicitDefEqProofs only [rkA, rkB, stepA, valA, simprocAttr]
    refine ⟨i + 1, by omega, ?_⟩
    have e : sumF (l.take (i + 1)) = addF (sumF (l.take i)) l[i] := by
      unfold sumF
      rw [List.take_succ_eq_append_getElem hlt, List.foldl_append]
      rfl
    rw [e]
    simp only [Int.natCast_add, Int.natCast_one]
  · have : l.length ≤ i := by omega
    rw [List.take_of_length_le this]

theorem ok170 (a b : Fr) : Ok Tryz.prog 170 [frV a, frV b] (frV (mulF a b)) := by
  refine ok_fn mixed Tryz.func170 (code := ?_) (h := h170) ?_ k170 ?_
  rotate_left
  · exact rfl
  unfold h170 initS
  simp -implicitDefEqProofs only [rkA, rkB, stepA, valA, simprocAttr, Tryz.ntmps170, Tryz.results170]
  refine call_meth rfl rfl methMul (ok267 a b) ?_
  simp -implicitDefEqProofs only [rkA, rkB, stepA, valA, simprocAttr]

theorem sl_frs {ex : Bool} {l : List Fr} {a b : Nat} (h1 : a ≤ b) (h2 : b ≤ l.length) : sliceA 3 (frs l) ex (some a) (some b) none = some (.sl (exA none ex b (frs l).length) (frs ((l.take b).drop a))) := by
  unfold sliceA
  simp only [Option.getD_some]
  rw [if_pos ⟨h1, by simpa using h2, by simp, by simp [PV.cells]⟩]
  simp

/-- A row. -/
def rowF (r c : Int) (l : List Fr) (i : Int) : List Fr := if right r c l.length = true ∧ 0 ≤ i ∧ i < r then (l.take ((i + 1) * c).toNat).drop (i * c).toNat else []

theorem ok200 (ex : Bool) (r c i : Int) (l : List Fr) : Ok Tryz.prog 200 [matV ex r c (frs l), num i] (.sl false (frs (rowF r c l i))) := by
  refine ok_fn mixed Tryz.func200 (code := ?_) (h := h200) ?_ k200 ?_
  rotate_left
  · exact rfl
  unfold h200 initS
  simp -implicitDefEqProofs only [rkA, rkB, stepA, valA, simprocAttr, Tryz.ntmps200, Tryz.results200]
  refine call_fn rfl rfl rfl (ok144 ex r c (frs l)) ?_
  have e : (frs l).length = l.length := by simp
  rw [e]
  cases hr : right r c l.length with
  | false =>
    simp -implicitDefEqProofs only [rkA, rkB, stepA, valA, simprocAttr]
    simp [rowF, hr]
  | true =>
    obtain ⟨r1, r2, c1, c2, hn⟩ := right_spec hr
    simp -implicitDefEqProofs only [rkA, rkB, stepA, valA, simprocAttr]
    repeat' (refine gB_dec ?_ ?_ <;> intro hc <;> first | (exfalso; omega) | simp -implicitDefEqProofs only [hc, rkA, rkB, stepA, valA, simprocAttr])
    · rw [show rowF r c l i = [] from if_neg (fun ⟨_, _, _⟩ => by omega)]; rfl
    · rw [show rowF r c l i = [] from if_neg (fun ⟨_, _, _⟩ => by omega)]; rfl
    · obtain ⟨b1, b2, b3, b4, b5⟩ := at_bound (i := i) (k := 0) r2 ⟨c1, c2⟩ (by omega) (by omega)
      have b6 : (i + 1) * c = i * c + c := by rw [Int.add_mul, Int.one_mul]
      have b7 : (i + 1) * c ≤ r * c := Int.mul_le_mul_of_nonneg_right (by omega) (by omega)
      have w1 := wrapped (x := i * c) (by omega) (by omega)
      have w2 := wrapped (x := i + 1) (by omega) (by omega)
      have w3 := wrapped (x := (i + 1) * c) (by omega) (by omega)
      have h3 : 0 ≤ (i + 1) * c := by omega
      have hs := sl_frs (ex := ex) (l := l) (a := (i * c).toNat) (b := ((i + 1) * c).toNat) (by omega) (by omega)
      have hrow : rowF r c l i = (l.take ((i + 1) * c).toNat).drop (i * c).toNat := if_pos ⟨hr, by omega, by omega⟩
      rw [hrow]
      simp -implicitDefEqProofs only [w1, w2, w3, b1, h3, hs, rkA, rkB, stepA, valA, simprocAttr]
      refine call_fn rfl rfl rfl (ok158 _ _ (by simp; omega)) ?_
      simp -implicitDefEqProofs only [rkA, rkB, stepA, valA, simprocAttr]
end Go.Proofs.YtambpjbpdackfaaGreat.A


set_option linter.unusedVariables false
set_option linter.unusedSimpArgs false
set_option maxRecDepth 100000
namespace Go.Proofs.YtambpjbpdackfaaGreat.A
open Go Go.RowKit Go.Shelf

def rowsF (r c : Int) (l : List Fr) : List (List PV) := if right r c l.length = true then (List.range r.toNat).map fun (i : Nat) => [num (i : Int), .sl false (frs (rowF r c l (i : Int)))] else []

theorem it199 (ex : Bool) (r c : Int) (l : List Fr) : IterOk Tryz.prog (.fn (.func 199) [.vp [num r, num c, .sl ex (frs l)]]) (rowsF r c l) := by
  refine iter_fn mixed Tryz.func199 (code := ?_) (h := h199) ?_ k199 ?_ ?_
  rotate_left
  · exact rfl
  · exact rfl
  intro yl
  unfold h199 initS
  simp -implicitDefEqProofs only [rkA, rkB, stepA, valA, simprocAttr, Tryz.ntmps199]
  refine wp_loop (fun m s => ∃ i : Nat, i + m = (rowsF r c l).length ∧ s = ⟨[.v (.fn (.yield yl) []), .v (.vp [num r, num c, .sl ex (frs l)]), jk, nt i, jk, jk, jk, jk, jk, jk, jk, jk, jk, jk, jk, jk, jk, jk, jk, jk, jk], [], [], [], [], i, nomem⟩) (rowsF r c l).length ?_ ?_
  · simp -implicitDefEqProofs only [rkA, rkB, stepA, valA, simprocAttr]
    exact ⟨0, by simp, rfl⟩
  rintro m s ⟨i, hi, rfl⟩
  simp -implicitDefEqProofs only [rkA, rkB, stepA, valA, simprocAttr]
  refine call_fn rfl rfl rfl (ok144 ex r c (frs l)) ?_
  have e : (frs l).length = l.length := by simp
  rw [e]
  cases hr : right r c l.length with
  | false =>
    simp -implicitDefEqProofs only [rkA, rkB, stepA, valA, simprocAttr]
    have hl : (rowsF r c l).length = 0 := by simp [rowsF, hr]
    omega
  | true =>
    obtain ⟨r1, r2, c1, c2, hn⟩ := right_spec hr
    have hl : (rowsF r c l).length = r.toNat := by simp [rowsF, hr]
    simp -implicitDefEqProofs only [rkA, rkB, stepA, valA, simprocAttr]
    refine gB_dec ?_ ?_ <;> intro hc <;> simp -implicitDefEqProofs only [hc, rkA, rkB, stepA, valA, simprocAttr]
    · refine call_fn rfl rfl rfl (ok200 ex r c i l) ?_
      simp -implicitDefEqProofs only [rkA, rkB, stepA, valA, simprocAttr]
      have hx : (rowsF r c l)[i]? = some [num (i : Int), .sl false (frs (rowF r c l i))] := by
        have : i < r.toNat := by omega
        simp [rowsF, hr, this]
      have hw := wrapped (x := (i : Int) + 1) (by omega) (by omega)
      refine call_yield rfl rfl rfl rfl rfl hx ?_ ?_
      · simp -implicitDefEqProofs only [hw, rkA, rkB, stepA, valA, simprocAttr]
        refine loopK_of (m' := m - 1) (by omega) ?_
        simp -implicitDefEqProofs only [rkA, rkB, stepA, valA, simprocAttr]
        exact ⟨i + 1, by omega, by simp only [Int.natCast_add, Int.natCast_one]⟩
      · simp -implicitDefEqProofs only [rkA, rkB, stepA, valA, simprocAttr]
        exact .inr trivial
    · omega

theorem ok145 (ex : Bool) (r c : Int) (l : List Fr) : Ok Tryz.prog 145 [matV ex r c (frs l)] (.fn (.func 199) [.vp [num r, num c, .sl ex (frs l)]]) := by
  refine ok_fn mixed Tryz.func145 (code := ?_) (h := h145) ?_ k145 ?_
  rotate_left
  · exact rfl
  unfold h145 initS
  simp -implicitDefEqProofs only [rkA, rkB, stepA, valA, simprocAttr, Tryz.ntmps145, Tryz.results145]

/-! ### Pairs -/
def pairsF (a b : List Fr) : List (List PV) := (List.zip a b).map fun p => [frV p.1, frV p.2]

theorem it227 (ea eb : Bool) (a b : List Fr) (ha : a.length ≤ 5864062014805) (hb : b.length ≤ 5864062014805) : IterOk Tryz.prog (.fn (.func 227) [.vp [.sl ea (frs a)], .vp [.sl eb (frs b)]]) (pairsF a b) := by
  refine iter_fn mixed Tryz.func227 (code := ?_) (h := h227) ?_ k227 ?_ ?_
  rotate_left
  · exact rfl
  · exact rfl
  intro yl
  unfold h227 initS
  simp -implicitDefEqProofs only [rkA, rkB, stepA, valA, simprocAttr, Tryz.ntmps227]
  have hl : (pairsF a b).length = min a.length b.length := by simp [pairsF]
  have hx0 : ∀ (i : Nat) (ha : i < a.length) (hb : i < b.length), (pairsF a b)[i]? = some [frV a[i], frV b[i]] := fun i h1 h2 => by
    rw [pairsF, List.getElem?_map, List.getElem?_eq_getElem (by simp; omega), Option.map_some, List.getElem_zip]
  have hmin : (if ((frs b).length : Int) < ((frs a).length : Int) then ((frs b).length : Int) else ((frs a).length : Int)) = ((min a.length b.length : Nat) : Int) := by
    simp only [List.length_map]
    split <;> omega
  simp only [hmin]
  refine wp_loop (fun m s => ∃ i : Nat, i + m = (pairsF a b).length ∧ s = ⟨[.v (.fn (.yield yl) []), .v (.vp [.sl ea (frs a)]), .v (.vp [.sl eb (frs b)]), jk, jk, jk, jk, jk, jk, nt ((min a.length b.length : Nat) : Int), nt i, jk, jk, jk, jk, jk, jk, jk, jk, jk, jk, jk, jk, jk, jk], [], [], [], [], i, nomem⟩) (pairsF a b).length ?_ ?_
  · simp -implicitDefEqProofs only [rkA, rkB, stepA, valA, simprocAttr]
    exact ⟨0, by simp, rfl⟩
  rintro m s ⟨i, hi, rfl⟩
  simp -implicitDefEqProofs only [rkA, rkB, stepA, valA, simprocAttr]
  refine gB_dec ?_ ?_ <;> intro hc <;> simp -implicitDefEqProofs only [hc, rkA, rkB, stepA, valA, simprocAttr]
  · have h1 : i < a.length := by omega
    have h2 : i < b.length := by omega
    have h0 : (0 : Int) ≤ (i : Int) := by omega
    have g1 : (frs a)[i]? = some (frV a[i]) := by simp [h1]
    have g2 : (frs b)[i]? = some (frV b[i]) := by simp [h2]
    simp -implicitDefEqProofs only [h0, Int.toNat_natCast, g1, g2, rkA, rkB, stepA, valA, simprocAttr]
    have hw := wrapped (x := (i : Int) + 1) (by omega) (by omega)
    refine call_yield rfl rfl rfl rfl rfl (hx0 i h1 h2) ?_ ?_
    · simp -implicitDefEqProofs only [hw, rkA, rkB, stepA, valA, simprocAttr]
      refine loopK_of (m' := m - 1) (by omega) ?_
      simp -implicitDefEqProofs only [rkA, rkB, stepA, valA, simprocAttr]
      exact ⟨i + 1, by omega, by simp only [Int.natCast_add, Int.natCast_one]⟩
    · simp -implicitDefEqProofs only [rkA, rkB, stepA, valA, simprocAttr]
      exact .inr trivial
  · omega

theorem ok215 (ea eb : Bool) (a b : List Fr) : Ok Tryz.prog 215 [.sl ea (frs a), .sl eb (frs b)] (.fn (.func 227) [.vp [.sl ea (frs a)], .vp [.sl eb (frs b)]]) := by
  refine ok_fn mixed Tryz.func215 (code := ?_) (h := h215) ?_ k215 ?_
  rotate_left
  · exact rfl
  unfold h215 initS
  simp -implicitDefEqProofs only [rkA, rkB, stepA, valA, simprocAttr, Tryz.ntmps215, Tryz.results215]
end Go.Proofs.YtambpjbpdackfaaGreat.A


set_option linter.unusedVariables false
set_option linter.unusedSimpArgs false
set_option maxRecDepth 100000
namespace Go.Proofs.YtambpjbpdackfaaGreat.A
open Go Go.RowKit Go.Shelf

theorem ok169 (k : Nat) (F : Fr → Fr → Fr) (hF : ∀ x y, Ok Tryz.prog k [frV x, frV y] (frV (F x y))) (ea eb : Bool) (a b : List Fr) (ha : a.length ≤ 5864062014805) (hb : b.length ≤ 5864062014805) :
    Ok Tryz.prog 169 [.sl ea (frs a), .sl eb (frs b), .fn (.func k) []] (.sl false (frs (List.zipWith F a b))) := by
  refine ok_fn mixed Tryz.func169 (code := ?_) (h := h169) ?_ k169 ?_
  rotate_left
  · exact rfl
  unfold h169 initS
  simp -implicitDefEqProofs only [rkA, rkB, stepA, valA, simprocAttr, Tryz.ntmps169, Tryz.results169]
  refine call_fn rfl rfl rfl (ok215 ea eb a b) ?_
  simp -implicitDefEqProofs only [rkA, rkB, stepA, valA, simprocAttr]
  have hlz : (List.zipWith F a b).length = min a.length b.length := by simp
  have hpl : (pairsF a b).length = min a.length b.length := by simp [pairsF]
  refine wp_rf (items := pairsF a b) rfl (it227 ea eb a b ha hb) (fun i s => i ≤ (pairsF a b).length ∧ s = ⟨[], [(5, [.v (.fn (.func k) [])]), (7, [.acc 1007 (frs ((List.zipWith F a b).take i))])], [], [(6, 0), (1007, i)],
    [[.v (.sl ea (frs a)), .v (.sl eb (frs b)), .v (.fn (.func k) []), jk, jk, .ptr 5 0, .acc 6 [], .ptr 7 0, jk, jk, .v (.sl ea (frs a)), .v (.sl eb (frs b)), .v (.fn (.func 227) [.vp [.sl ea (frs a)], .vp [.sl eb (frs b)]]), jk, jk, jk, jk, jk, jk, jk, jk, jk, jk]], 0, nomem⟩) ?_ ?_ ?_
  · simp -implicitDefEqProofs only [rkA, rkB, stepA, valA, simprocAttr]
    exact Nat.zero_le _
  · rintro i x' s' R hx ⟨hi, rfl⟩ hR
    have hlt : i < (pairsF a b).length := (List.getElem?_eq_some_iff.1 hx).1
    have h1 : i < a.length := by omega
    have h2 : i < b.length := by omega
    have hx' : x' = [frV a[i], frV b[i]] := by
      rw [pairsF, List.getElem?_map, List.getElem?_eq_getElem (by simp; omega), Option.map_some, List.getElem_zip] at hx
      exact (Option.some.inj hx).symm
    subst hx'
    refine ⟨rfl, ?_⟩
    simp -implicitDefEqProofs only [rkA, rkB, stepA, valA, simprocAttr]
    refine call_fn rfl rfl rfl (hF a[i] b[i]) ?_
    have hfit : fits 3 24 (frs ((List.zipWith F a b).take i)) [frV (F a[i] b[i])] = true := fits_frs (l := [F a[i] b[i]]) (by simp; omega)
    have hl : (frs ((List.zipWith F a b).take i)).length = i := by simp; omega
    simp -implicitDefEqProofs only [hfit, hl, rkA, rkB, stepA, valA, simprocAttr]
    refine hR _ ⟨by omega, ?_⟩
    rw [List.take_succ_eq_append_getElem (by simp; omega)]
    simp only [frs, List.map_append, List.map_cons, List.map_nil, List.getElem_zipWith]
  · rintro s' ⟨hi, rfl⟩
    simp -implicitDefEqProofs only [rkA, rkB, stepA, valA, simprocAttr]
    rw [List.take_of_length_le (by simp; omega)]

def dotF (a b : List Fr) : Fr := sumF (List.zipWith mulF a b)

theorem ok97 (ea eb : Bool) (a b : List Fr) (ha : a.length ≤ 5864062014805) (hb : b.length ≤ 5864062014805) : Ok Tryz.prog 97 [.sl ea (frs a), .sl eb (frs b)] (frV (dotF a b)) := by
  refine ok_fn mixed Tryz.func97 (code := ?_) (h := h97) ?_ k97 ?_
  rotate_left
  · exact rfl
  unfold h97 initS
  simp -implicitDefEqProofs only [rkA, rkB, stepA, valA, simprocAttr, Tryz.ntmps97, Tryz.results97]
  refine call_fn rfl rfl rfl (ok169 170 mulF ok170 ea eb a b ha hb) ?_
  simp -implicitDefEqProofs only [rkA, rkB, stepA, valA, simprocAttr]
  refine call_fn rfl rfl rfl (ok168 false (List.zipWith mulF a b) (by simp; omega)) ?_
  simp -implicitDefEqProofs only [rkA, rkB, stepA, valA, simprocAttr, dotF]

end Go.Proofs.YtambpjbpdackfaaGreat.A


set_option linter.unusedVariables false
set_option linter.unusedSimpArgs false
set_option maxRecDepth 100000
namespace Go.Proofs.YtambpjbpdackfaaGreat.A
open Go Go.RowKit Go.Shelf

section
variable {α β : Type} (f : α → α → β)
end

/-- All rows. -/
def allF (r c : Int) (l : List Fr) : List (List Fr) := (List.range r.toNat).map fun (i : Nat) => rowF r c l (i : Int)
theorem rowsF_all {r c : Int} {l : List Fr} (h : right r c l.length = true) {i : Nat} {x : List PV} (hx : (rowsF r c l)[i]? = some x) : i < r.toNat ∧ x = [num i, .sl false (frs (rowF r c l i))] ∧ (allF r c l)[i]? = some (rowF r c l i) := by
  obtain ⟨hi, rfl⟩ := List.getElem?_eq_some_iff.1 hx
  have hi' : i < r.toNat := by simpa [rowsF, h] using hi
  refine ⟨hi', by simp [rowsF, h], by simp [allF, hi']⟩
theorem rowsF_length {r c : Int} {l : List Fr} (h : right r c l.length = true) : (rowsF r c l).length = r.toNat := by simp [rowsF, h]
end Go.Proofs.YtambpjbpdackfaaGreat.A


set_option linter.unusedVariables false
set_option linter.unusedSimpArgs false
set_option maxRecDepth 100000
namespace Go.Proofs.YtambpjbpdackfaaGreat.A
open Go Go.RowKit Go.Shelf

/-- A contract for what is known better. -/
theorem Ok.args {P : Program} {f : FuncId} {xs ys : List PV} {r : PV} (k : Ok P f xs r) (h : ∀ I vs, Cs I ys vs → Cs I xs vs) : Ok P f ys r :=
  ⟨k.1, fun I w vs hg hc => k.2 I w vs hg (h I vs hc)⟩
theorem Cs.nil_of {I : Imm} {xs ys : List PV} {vs : List Value} {ex : Bool} (h : Cs I (.s (.slice none 0 0) :: xs) vs) (k : ∀ us, Cs I xs us → Cs I ys us) : Cs I (.sl ex [] :: ys) vs := by
  cases h with | cons h1 h2 => cases h1; exact .cons .sl0 (k _ h2)

theorem eq_fr (x y : Fr) : cellsEq [some .i64, some .i64, none] [num x.n, num x.d, tru x.bad] [num y.n, num y.d, tru y.bad] = some (decide (x = y)) := by
  obtain ⟨n, d, b⟩ := x
  obtain ⟨n', d', b'⟩ := y
  simp only [cellsEq, Fr.mk.injEq]
  cases b <;> cases b' <;> simp <;> rfl

end Go.Proofs.YtambpjbpdackfaaGreat.A


set_option linter.unusedVariables false
set_option linter.unusedSimpArgs false
set_option maxRecDepth 100000
namespace Go.Proofs.YtambpjbpdackfaaGreat.A
open Go Go.RowKit Go.Shelf

section
variable {α : Type} (g : Nat → Nat → α) (n : Nat)
/-- A table gone through row by row: what stands so far. -/
def gridP (i k : Nat) : List α := (List.range i).flatMap (fun i => (List.range n).map (g i)) ++ (List.range k).map (g i)
theorem gridP_succ (i k : Nat) : gridP g n i (k + 1) = gridP g n i k ++ [g i k] := by simp [gridP, List.range_succ]
theorem gridP_next (i : Nat) : gridP g n i n = gridP g n (i + 1) 0 := by simp [gridP, List.range_succ]
theorem gridP_length (i k : Nat) : (gridP g n i k).length = i * n + k := by simp [gridP, List.length_flatMap, List.map_const', List.sum_replicate_nat]
theorem gridP_zero (i : Nat) : gridP g n i 0 = (List.range i).flatMap (fun i => (List.range n).map (g i)) := by simp [gridP]
end

/-- The document's sum of products. -/
def dotI (a b : List Int) (many cols i k : Nat) : Nat → Int
  | 0 => 0
  | j + 1 => dotI a b many cols i k j + a.getD (i * many + j) 0 * b.getD (j * cols + k) 0
def small (a : List Int) : Prop := ∀ x ∈ a, -100 ≤ x ∧ x ≤ 100
theorem prod_small {x y : Int} (hx : -100 ≤ x ∧ x ≤ 100) (hy : -100 ≤ y ∧ y ≤ 100) : -10000 ≤ x * y ∧ x * y ≤ 10000 := by
  have h1 : (x * y).natAbs = x.natAbs * y.natAbs := Int.natAbs_mul x y
  have h2 : x.natAbs * y.natAbs ≤ 100 * 100 := Nat.mul_le_mul (by omega) (by omega)
  omega
/-- The document's product. -/
def mulI (a b : List Int) (rows many cols : Nat) : List Int := gridP (fun i k => dotI a b many cols i k many) cols rows 0

theorem fits_num {k l : List Int} (h : k.length + l.length ≤ 5864062014805) : fits 1 8 (k.map num) (l.map num) = true := by
  simp [fits, PV.cells, PV.ok, PV.cell, Value.oneCell']
  omega
theorem at_table {i j n m : Nat} (hi : i < n) (hj : j < m) : i * m + j < n * m ∧ i * m ≤ n * m := by
  have : (i + 1) * m ≤ n * m := Nat.mul_le_mul_right _ (by omega)
  rw [Nat.add_mul] at this
  omega
theorem side16 {n m : Nat} (hn : n ≤ 16) (hm : m ≤ 16) : n * m ≤ 256 := Nat.mul_le_mul hn hm

end Go.Proofs.YtambpjbpdackfaaGreat.A


set_option linter.unusedVariables false
set_option linter.unusedSimpArgs false
namespace Go.Proofs.YtambpjbpdackfaaGreat.A
open Go Go.RowKit Go.Shelf

theorem gridP_get {α : Type} (g : Nat → Nat → α) (n : Nat) : ∀ (N i j : Nat), i < N → j < n → (gridP g n N 0)[i * n + j]? = some (g i j)
  | 0, i, j, h, _ => by omega
  | N + 1, i, j, hi, hj => by
    have e : gridP g n (N + 1) 0 = gridP g n N 0 ++ (List.range n).map (g N) := by
      rw [← gridP_next]
      simp [gridP]
    have hl := gridP_length g n N 0
    rw [e]
    by_cases h : i < N
    · have : (i + 1) * n ≤ N * n := Nat.mul_le_mul_right _ h
      rw [Nat.add_mul] at this
      rw [List.getElem?_append_left (by omega)]
      exact gridP_get g n N i j h hj
    · have : i = N := by omega
      subst this
      rw [List.getElem?_append_right (by omega), hl]
      simp [hj]

theorem flatMap_same {α β : Type} {l : List α} {f g : α → List β} (h : ∀ x ∈ l, f x = g x) : l.flatMap f = l.flatMap g := by
  rw [List.flatMap_def, List.flatMap_def, List.map_congr_left h]

/-- A stretch of a row. -/
theorem stretch {α : Type} (l : List α) (d : α) (i n : Nat) (h : (i + 1) * n ≤ l.length) : (l.take ((i + 1) * n)).drop (i * n) = (List.range n).map fun j => l.getD (i * n + j) d := by
  have hm : (i + 1) * n = i * n + n := by rw [Nat.add_mul, Nat.one_mul]
  apply List.ext_getElem
  · simp; omega
  · intro j h1 h2
    simp at h2
    simp [List.getElem?_eq_getElem (show i * n + j < l.length by omega)]

theorem rowF_eq {r c : Int} {l : List Fr} (d : Fr) (h : right r c l.length = true) {i : Nat} (hi : i < r.toNat) : rowF r c l i = (List.range c.toNat).map fun j => l.getD (i * c.toNat + j) d := by
  obtain ⟨r1, r2, c1, c2, hn⟩ := right_spec h
  obtain ⟨R, rfl⟩ := Int.eq_ofNat_of_zero_le (show 0 ≤ r by omega)
  obtain ⟨K, rfl⟩ := Int.eq_ofNat_of_zero_le (show 0 ≤ c by omega)
  simp only [Int.toNat_natCast] at hi ⊢
  unfold rowF
  rw [if_pos ⟨h, by omega, by omega⟩]
  have e1 : (((i : Int) + 1) * (K : Int)).toNat = (i + 1) * K := by
    have : ((i : Int) + 1) * (K : Int) = (((i + 1) * K : Nat) : Int) := by simp
    rw [this, Int.toNat_natCast]
  have e2 : ((i : Int) * (K : Int)).toNat = i * K := by
    have : (i : Int) * (K : Int) = ((i * K : Nat) : Int) := by simp
    rw [this, Int.toNat_natCast]
  rw [e1, e2]
  refine stretch l d i K ?_
  have h1 : (i + 1) * K ≤ R * K := Nat.mul_le_mul_right _ hi
  have h2 : ((R * K : Nat) : Int) = (l.length : Int) := by rw [hn]; simp
  omega

theorem atF_eq {r c : Int} {l : List Fr} (h : right r c l.length = true) {i k : Nat} (hi : i < r.toNat) (hk : k < c.toNat) : atF r c l i k = l.getD (i * c.toNat + k) ⟨0, 0, false⟩ := by
  obtain ⟨r1, r2, c1, c2, hn⟩ := right_spec h
  unfold atF
  rw [if_pos ⟨h, by omega, by omega, by omega, by omega⟩]
  congr 1
  obtain ⟨K, rfl⟩ := Int.eq_ofNat_of_zero_le (show 0 ≤ c by omega)
  have : (i : Int) * (K : Int) + (k : Int) = ((i * K + k : Nat) : Int) := by simp
  rw [this, Int.toNat_natCast, Int.toNat_natCast]

theorem sumF_whole (f : Nat → Int) (s : Nat → Int) (h0 : s 0 = 0) (hs : ∀ j, s (j + 1) = s j + f j) (N : Nat) (hf : ∀ j, j < N → few (f j)) (hb : ∀ j, j ≤ N → few (s j)) : ∀ n, n ≤ N → sumF ((List.range n).map fun j => whole (f j)) = whole (s n)
  | 0, _ => by
    have := newF_whole (n := 0) (by unfold few; omega)
    simp [sumF, this, h0]
  | n + 1, hn => by
    have ih := sumF_whole f s h0 hs N hf hb n (by omega)
    have : sumF ((List.range (n + 1)).map fun j => whole (f j)) = addF (sumF ((List.range n).map fun j => whole (f j))) (whole (f n)) := by
      unfold sumF
      rw [List.range_succ, List.map_append, List.foldl_append]
      rfl
    rw [this, ih, addF_whole (hb n (by omega)) (hf n (by omega)) (by rw [← hs]; exact hb _ hn), ← hs]

theorem few_small {x : Int} (h : -100 ≤ x ∧ x ≤ 100) : few x := by unfold few; omega

end Go.Proofs.YtambpjbpdackfaaGreat.A


set_option linter.unusedVariables false
set_option linter.unusedSimpArgs false
set_option maxRecDepth 100000
namespace Go.Proofs.YtambpjbpdackfaaGreat.A
open Go Go.RowKit Go.Shelf

theorem Cs.keep {I : Imm} {x : PV} {xs ys : List PV} {vs : List Value} (h : Cs I (x :: xs) vs) (k : ∀ us, Cs I xs us → Cs I ys us) : Cs I (x :: ys) vs := by
  cases h with | cons h1 h2 => exact .cons h1 (k _ h2)
theorem Cs.mat_nil {I : Imm} {xs ys : List PV} {vs : List Value} (h : Cs I (matNil :: xs) vs) (k : ∀ us, Cs I xs us → Cs I ys us) : Cs I (matV false 0 0 (frs []) :: ys) vs := by
  have key : ∀ us, Cs I [num 0, num 0, .s (.slice none 0 0)] us → Cs I [num 0, num 0, .sl false []] us := fun us h => Cs.keep h fun us h => Cs.keep h fun us h => Cs.nil_of h fun us h => h
  cases h with | cons h1 h2 => cases h1 with | agg hl => exact .cons (.agg (key _ hl)) (k _ h2)

end Go.Proofs.YtambpjbpdackfaaGreat.A



set_option linter.unusedVariables false
set_option linter.unusedSimpArgs false
set_option maxRecDepth 100000
namespace Go.Proofs.YtambpjbpdackfaaGreat.A
open Go Go.RowKit Go.Shelf

/-! ### Numbers in units -/
def rightX (n : Int) : Bool := decide (-1125899906842624 ≤ n ∧ n ≤ 1125899906842624)
theorem ok138 (n : Int) : Ok Tryz.prog 138 [num n] (tru (rightX n)) := by
  refine ok_fn mixed Tryz.func138 (code := ?_) (h := h138) ?_ k138 ?_
  rotate_left
  · exact rfl
  unfold h138 initS
  simp -implicitDefEqProofs (maxSteps := 10000000) only [rkA, rkB, stepA, valA, simprocAttr, Tryz.ntmps138, Tryz.results138]
  by_cases h : n ≥ -1125899906842624
  · simp -implicitDefEqProofs (maxSteps := 10000000) only [h, rightX, rkA, rkB, stepA, valA, simprocAttr]
  · simp -implicitDefEqProofs (maxSteps := 10000000) only [h, rightX, rkA, rkB, stepA, valA, simprocAttr]
def toldF (n : Int) (is : Bool) (l : List Int) : Int × Bool := if is = true ∧ (l ++ [n]).all rightX = true then (n, true) else (0, false)
theorem ok192 (n : Int) (is : Bool) (l : List Int) (hl : l.length ≤ 2) : Ok Tryz.prog 192 [num n, tru is, .sl true (l.map num)] (.tup [num (toldF n is l).1, tru (toldF n is l).2]) := by
  have hfit : fits 1 8 (l.map num) [num n] = true := fits_num (l := [n]) (by simp; omega)
  refine ok_fn mixed Tryz.func192 (code := ?_) (h := h192) ?_ k192 ?_
  rotate_left
  · exact rfl
  unfold h192 initS
  simp -implicitDefEqProofs (maxSteps := 10000000) only [rkA, rkB, stepA, valA, simprocAttr, Tryz.ntmps192, Tryz.results192]
  simp -implicitDefEqProofs (maxSteps := 10000000) only [hfit, rkA, rkB, stepA, valA, simprocAttr]
  have e : l.map num ++ [num n] = (l ++ [n]).map num := by simp
  simp only [e]
  have hres : toldF n is l = if is = true ∧ (l ++ [n]).all rightX = true then (n, true) else (0, false) := rfl
  have hlen : (l ++ [n]).length ≤ 3 := by simp; omega
  have hne : 0 < (l ++ [n]).length := by simp
  generalize toldF n is l = R at *
  generalize l ++ [n] = L at *
  have hL : (L.map num).length = L.length := by simp
  refine wp_loop (fun m s => ∃ i : Nat, i + m = L.length ∧ (0 < i → is = true) ∧ (L.take i).all rightX = true ∧ s = ⟨[nt n, .v (tru is), jk, jk, jk, jk, jk, jk, jk, jk, jk, jk, jk, .v (.sl false (L.map num)), nt L.length, nt i, jk, jk, jk, jk, jk, jk, jk, jk, jk, jk, jk, jk], [], [], [], [], 0, nomem⟩) L.length ?_ ?_
  · simp -implicitDefEqProofs (maxSteps := 10000000) only [hL, rkA, rkB, stepA, valA, simprocAttr]
    exact ⟨0, by simp, by simp, by simp, rfl⟩
  rintro m s ⟨i, hi, h1, h2, rfl⟩
  simp -implicitDefEqProofs (maxSteps := 10000000) only [rkA, rkB, stepA, valA, simprocAttr]
  refine gB_dec ?_ ?_ <;> intro hc <;> simp -implicitDefEqProofs (maxSteps := 10000000) only [hc, rkA, rkB, stepA, valA, simprocAttr]
  · have hlt : i < L.length := by omega
    have h0 : (0 : Int) ≤ (i : Int) := by omega
    have hg : (L.map num)[i]? = some (num L[i]) := by simp [hlt]
    have hno : rightX L[i] = false → L.all rightX = false := fun h => by
      rw [List.all_eq_false]
      exact ⟨L[i], List.getElem_mem hlt, by simp [h]⟩
    simp -implicitDefEqProofs (maxSteps := 10000000) only [h0, Int.toNat_natCast, hg, rkA, rkB, stepA, valA, simprocAttr]
    cases is with
    | false =>
      rw [hres, if_neg (by simp)]
      simp -implicitDefEqProofs (maxSteps := 10000000) only [rkA, rkB, stepA, valA, simprocAttr]
    | true =>
      simp -implicitDefEqProofs (maxSteps := 10000000) only [rkA, rkB, stepA, valA, simprocAttr]
      refine call_fn rfl rfl rfl (ok138 L[i]) ?_
      cases hr : rightX L[i] with
      | false =>
        rw [hres, if_neg (by rw [hno hr]; simp)]
        simp -implicitDefEqProofs (maxSteps := 10000000) only [rkA, rkB, stepA, valA, simprocAttr]
      | true =>
        have hw := wrapped (x := (i : Int) + 1) (by omega) (by omega)
        simp -implicitDefEqProofs (maxSteps := 10000000) only [rkA, rkB, stepA, valA, simprocAttr]
        simp -implicitDefEqProofs (maxSteps := 10000000) only [hw, rkA, rkB, stepA, valA, simprocAttr]
        refine loopK_of (m' := m - 1) (by omega) ?_
        simp -implicitDefEqProofs (maxSteps := 10000000) only [rkA, rkB, stepA, valA, simprocAttr]
        refine ⟨i + 1, by omega, by simp, ?_, by simp only [Int.natCast_add, Int.natCast_one]⟩
        rw [List.take_succ_eq_append_getElem hlt, List.all_append, h2]
        simp [hr]
  · have hin : i = L.length := by omega
    subst hin
    rw [List.take_length] at h2
    rw [hres, if_pos ⟨h1 hne, h2⟩]
theorem ok192_nil (n : Int) (is : Bool) : Ok Tryz.prog 192 [num n, tru is, .s (.slice none 0 0)] (.tup [num (toldF n is []).1, tru (toldF n is []).2]) :=
  (ok192 n is [] (by simp)).args fun I vs h => Cs.keep h fun us h => Cs.keep h fun us h => Cs.nil_of h fun us h => h

def ofX (n : Int) : Int × Bool := toldF (mdF n 16777216 1 0).1 (mdF n 16777216 1 0).2 []
theorem ok177 (n : Int) : Ok Tryz.prog 177 [num n] (.tup [num (ofX n).1, tru (ofX n).2]) := by
  refine ok_fn mixed Tryz.func177 (code := ?_) (h := h177) ?_ k177 ?_
  rotate_left
  · exact rfl
  unfold h177 initS
  simp -implicitDefEqProofs (maxSteps := 10000000) only [rkA, rkB, stepA, valA, simprocAttr, Tryz.ntmps177, Tryz.results177]
  refine call_fn rfl rfl rfl (ok113 n 16777216 1 0) ?_
  simp -implicitDefEqProofs (maxSteps := 10000000) only [rkA, rkB, stepA, valA, simprocAttr]
  refine call_fn rfl rfl rfl (ok192_nil _ _) ?_
  simp -implicitDefEqProofs (maxSteps := 10000000) only [rkA, rkB, stepA, valA, simprocAttr, ofX]
def addX (a b : Int) : Int × Bool := if rightX a = true ∧ rightX b = true then toldF (a + b) true [] else (0, false)
def subX (a b : Int) : Int × Bool := if rightX a = true ∧ rightX b = true then toldF (a - b) true [] else (0, false)
theorem ok136 (a b : Int) : Ok Tryz.prog 136 [num a, num b] (.tup [num (addX a b).1, tru (addX a b).2]) := by
  refine ok_fn mixed Tryz.func136 (code := ?_) (h := h136) ?_ k136 ?_
  rotate_left
  · exact rfl
  unfold h136 initS
  simp -implicitDefEqProofs (maxSteps := 10000000) only [rkA, rkB, stepA, valA, simprocAttr, Tryz.ntmps136, Tryz.results136]
  refine call_fn rfl rfl rfl (ok138 a) ?_
  cases ha : rightX a with
  | false =>
    rw [show addX a b = (0, false) from if_neg (by simp [ha])]
    simp -implicitDefEqProofs (maxSteps := 10000000) only [rkA, rkB, stepA, valA, simprocAttr]
  | true =>
    simp -implicitDefEqProofs (maxSteps := 10000000) only [rkA, rkB, stepA, valA, simprocAttr]
    refine call_fn rfl rfl rfl (ok138 b) ?_
    cases hb : rightX b with
    | false =>
      rw [show addX a b = (0, false) from if_neg (by simp [hb])]
      simp -implicitDefEqProofs (maxSteps := 10000000) only [rkA, rkB, stepA, valA, simprocAttr]
    | true =>
      rw [show addX a b = toldF (a + b) true [] from if_pos ⟨ha, hb⟩]
      simp only [rightX, decide_eq_true_eq] at ha hb
      have hw := wrapped (x := a + b) (by omega) (by omega)
      simp -implicitDefEqProofs (maxSteps := 10000000) only [rkA, rkB, stepA, valA, simprocAttr]
      simp -implicitDefEqProofs (maxSteps := 10000000) only [hw, rkA, rkB, stepA, valA, simprocAttr]
      refine call_fn rfl rfl rfl (ok192_nil (a + b) true) ?_
      simp -implicitDefEqProofs (maxSteps := 10000000) only [rkA, rkB, stepA, valA, simprocAttr]
theorem ok261 (a b : Int) : Ok Tryz.prog 261 [num a, num b] (.tup [num (subX a b).1, tru (subX a b).2]) := by
  refine ok_fn mixed Tryz.func261 (code := ?_) (h := h261) ?_ k261 ?_
  rotate_left
  · exact rfl
  unfold h261 initS
  simp -implicitDefEqProofs (maxSteps := 10000000) only [rkA, rkB, stepA, valA, simprocAttr, Tryz.ntmps261, Tryz.results261]
  refine call_fn rfl rfl rfl (ok138 a) ?_
  cases ha : rightX a with
  | false =>
    rw [show subX a b = (0, false) from if_neg (by simp [ha])]
    simp -implicitDefEqProofs (maxSteps := 10000000) only [rkA, rkB, stepA, valA, simprocAttr]
  | true =>
    simp -implicitDefEqProofs (maxSteps := 10000000) only [rkA, rkB, stepA, valA, simprocAttr]
    refine call_fn rfl rfl rfl (ok138 b) ?_
    cases hb : rightX b with
    | false =>
      rw [show subX a b = (0, false) from if_neg (by simp [hb])]
      simp -implicitDefEqProofs (maxSteps := 10000000) only [rkA, rkB, stepA, valA, simprocAttr]
    | true =>
      rw [show subX a b = toldF (a - b) true [] from if_pos ⟨ha, hb⟩]
      simp only [rightX, decide_eq_true_eq] at ha hb
      have hw := wrapped (x := a - b) (by omega) (by omega)
      simp -implicitDefEqProofs (maxSteps := 10000000) only [rkA, rkB, stepA, valA, simprocAttr]
      simp -implicitDefEqProofs (maxSteps := 10000000) only [hw, rkA, rkB, stepA, valA, simprocAttr]
      refine call_fn rfl rfl rfl (ok192_nil (a - b) true) ?_
      simp -implicitDefEqProofs (maxSteps := 10000000) only [rkA, rkB, stepA, valA, simprocAttr]
def mulX (a b mode : Int) : Int × Bool := toldF (mdF a b 16777216 mode).1 (mdF a b 16777216 mode).2 [a, b]
def divX (a b mode : Int) : Int × Bool := toldF (mdF a 16777216 b mode).1 (mdF a 16777216 b mode).2 [a, b]
theorem ok257 (a b mode : Int) : Ok Tryz.prog 257 [num a, num b, num mode] (.tup [num (mulX a b mode).1, tru (mulX a b mode).2]) := by
  refine ok_fn mixed Tryz.func257 (code := ?_) (h := h257) ?_ k257 ?_
  rotate_left
  · exact rfl
  unfold h257 initS
  simp -implicitDefEqProofs (maxSteps := 10000000) only [rkA, rkB, stepA, valA, simprocAttr, Tryz.ntmps257, Tryz.results257]
  refine call_fn rfl rfl rfl (ok113 a b 16777216 mode) ?_
  simp -implicitDefEqProofs (maxSteps := 10000000) only [rkA, rkB, stepA, valA, simprocAttr]
  refine call_fn rfl rfl rfl (ok192 _ _ [a, b] (by simp)) ?_
  simp -implicitDefEqProofs (maxSteps := 10000000) only [rkA, rkB, stepA, valA, simprocAttr, mulX]
theorem ok255 (a b mode : Int) : Ok Tryz.prog 255 [num a, num b, num mode] (.tup [num (divX a b mode).1, tru (divX a b mode).2]) := by
  refine ok_fn mixed Tryz.func255 (code := ?_) (h := h255) ?_ k255 ?_
  rotate_left
  · exact rfl
  unfold h255 initS
  simp -implicitDefEqProofs (maxSteps := 10000000) only [rkA, rkB, stepA, valA, simprocAttr, Tryz.ntmps255, Tryz.results255]
  refine call_fn rfl rfl rfl (ok113 a 16777216 b mode) ?_
  simp -implicitDefEqProofs (maxSteps := 10000000) only [rkA, rkB, stepA, valA, simprocAttr]
  refine call_fn rfl rfl rfl (ok192 _ _ [a, b] (by simp)) ?_
  simp -implicitDefEqProofs (maxSteps := 10000000) only [rkA, rkB, stepA, valA, simprocAttr, divX]
end Go.Proofs.YtambpjbpdackfaaGreat.A



set_option linter.unusedVariables false
set_option linter.unusedSimpArgs false
set_option maxRecDepth 100000
namespace Go.Proofs.YtambpjbpdackfaaGreat.A.E
open Go Go.RowKit Go.Shelf

/-! ### Enclosed numbers -/
structure Fr where
  v : Int
  lo : Int
  hi : Int
  bad : Bool
  deriving DecidableEq
abbrev frV (x : Fr) : PV := .agg [num x.v, num x.lo, num x.hi, tru x.bad]
abbrev Fr.wrong : Fr := ⟨0, 0, 0, true⟩
def Fr.fine (x : Fr) : Bool := !x.bad && (rightX x.lo && (rightX x.hi && (decide (x.lo ≤ x.v) && decide (x.v ≤ x.hi))))
theorem ok111 (x : Fr) : Ok Tryz.prog 111 [frV x] (tru x.fine) := by
  refine ok_fn mixed Tryz.func111 (code := ?_) (h := h111) ?_ k111 ?_
  rotate_left
  · exact rfl
  unfold h111 initS
  simp -implicitDefEqProofs (maxSteps := 10000000) only [rkA, rkB, stepA, valA, simprocAttr, Tryz.ntmps111, Tryz.results111]
  cases hb : x.bad with
  | true => simp -implicitDefEqProofs (maxSteps := 10000000) only [Fr.fine, hb, rkA, rkB, stepA, valA, simprocAttr]
  | false =>
    simp -implicitDefEqProofs (maxSteps := 10000000) only [rkA, rkB, stepA, valA, simprocAttr]
    refine call_fn rfl rfl rfl (ok138 x.lo) ?_
    cases h1 : rightX x.lo with
    | false => simp -implicitDefEqProofs (maxSteps := 10000000) only [Fr.fine, hb, h1, rkA, rkB, stepA, valA, simprocAttr]
    | true =>
      simp -implicitDefEqProofs (maxSteps := 10000000) only [rkA, rkB, stepA, valA, simprocAttr]
      refine call_fn rfl rfl rfl (ok138 x.hi) ?_
      cases h2 : rightX x.hi with
      | false => simp -implicitDefEqProofs (maxSteps := 10000000) only [Fr.fine, hb, h1, h2, rkA, rkB, stepA, valA, simprocAttr]
      | true =>
        simp -implicitDefEqProofs (maxSteps := 10000000) only [rkA, rkB, stepA, valA, simprocAttr]
        by_cases h3 : x.lo ≤ x.v
        · simp -implicitDefEqProofs (maxSteps := 10000000) only [Fr.fine, hb, h1, h2, h3, rkA, rkB, stepA, valA, simprocAttr]
        · simp -implicitDefEqProofs (maxSteps := 10000000) only [Fr.fine, hb, h1, h2, h3, rkA, rkB, stepA, valA, simprocAttr]
theorem ok57 : Ok Tryz.prog 57 [] (frV .wrong) := by
  refine ok_fn mixed Tryz.func57 (code := ?_) (h := h57) ?_ k57 ?_
  rotate_left
  · exact rfl
  unfold h57 initS
  simp -implicitDefEqProofs (maxSteps := 10000000) only [rkA, rkB, stepA, valA, simprocAttr, Tryz.ntmps57, Tryz.results57]
def point (n : Int) : Fr := if rightX n = true then ⟨n, n, n, false⟩ else .wrong
theorem ok64 (n : Int) : Ok Tryz.prog 64 [num n] (frV (point n)) := by
  refine ok_fn mixed Tryz.func64 (code := ?_) (h := h64) ?_ k64 ?_
  rotate_left
  · exact rfl
  unfold h64 initS
  simp -implicitDefEqProofs (maxSteps := 10000000) only [rkA, rkB, stepA, valA, simprocAttr, Tryz.ntmps64, Tryz.results64]
  refine call_fn rfl rfl rfl (ok138 n) ?_
  cases h : rightX n with
  | false =>
    simp -implicitDefEqProofs (maxSteps := 10000000) only [rkA, rkB, stepA, valA, simprocAttr]
    refine call_fn rfl rfl rfl (ok57) ?_
    simp -implicitDefEqProofs (maxSteps := 10000000) only [point, h, rkA, rkB, stepA, valA, simprocAttr]
  | true => simp -implicitDefEqProofs (maxSteps := 10000000) only [point, h, rkA, rkB, stepA, valA, simprocAttr]
/-- A whole number. -/
def newF (n _d : Int) : Fr := if (ofX n).2 = true then point (ofX n).1 else .wrong
theorem ok107 (a : Fr) (n : Int) : Ok Tryz.prog 107 [frV a, num n] (frV (newF n 1)) := by
  refine ok_fn mixed Tryz.func107 (code := ?_) (h := h107) ?_ k107 ?_
  rotate_left
  · exact rfl
  unfold h107 initS
  simp -implicitDefEqProofs (maxSteps := 10000000) only [rkA, rkB, stepA, valA, simprocAttr, Tryz.ntmps107, Tryz.results107]
  refine call_fn rfl rfl rfl (ok177 n) ?_
  simp -implicitDefEqProofs (maxSteps := 10000000) only [rkA, rkB, stepA, valA, simprocAttr]
  cases h : (ofX n).2 with
  | false =>
    simp -implicitDefEqProofs (maxSteps := 10000000) only [rkA, rkB, stepA, valA, simprocAttr]
    refine call_fn rfl rfl rfl (ok57) ?_
    simp -implicitDefEqProofs (maxSteps := 10000000) only [newF, h, rkA, rkB, stepA, valA, simprocAttr]
  | true =>
    simp -implicitDefEqProofs (maxSteps := 10000000) only [rkA, rkB, stepA, valA, simprocAttr]
    refine call_fn rfl rfl rfl (ok64 (ofX n).1) ?_
    simp -implicitDefEqProofs (maxSteps := 10000000) only [newF, h, rkA, rkB, stepA, valA, simprocAttr]

def minL : List Int → Int
  | [] => 0
  | x :: l => l.foldl (fun m y => if y < m then y else m) x
def maxL : List Int → Int
  | [] => 0
  | x :: l => l.foldl (fun m y => if m < y then y else m) x
theorem ok193 (ex : Bool) (l : List Int) (h : l ≠ []) (hl : l.length ≤ 1000) : Ok Tryz.prog 193 [.sl ex (l.map num)] (num (minL l)) := by
  obtain ⟨x, l, rfl⟩ : ∃ x t, l = x :: t := by cases l with | nil => exact absurd rfl h | cons x t => exact ⟨x, t, rfl⟩
  simp only [List.length_cons] at hl
  have c : ¬ (((l.length + 1 : Nat) : Int) < 1) := by omega
  have hlen : ((x :: l).map num).length = l.length + 1 := by simp
  have g0 : ((x :: l).map num)[0]? = some (num x) := rfl
  have hres : minL (x :: l) = l.foldl (fun m y => if y < m then y else m) x := rfl
  generalize hL : (x :: l).map num = L at *
  refine ok_fn mixed Tryz.func193 (code := ?_) (h := h193) ?_ k193 ?_
  rotate_left
  · exact rfl
  unfold h193 initS
  simp -implicitDefEqProofs (maxSteps := 10000000) only [rkA, rkB, stepA, valA, simprocAttr, Tryz.ntmps193, Tryz.results193]
  simp -implicitDefEqProofs (maxSteps := 10000000) only [hlen, c, g0, rkA, rkB, stepA, valA, simprocAttr]
  refine wp_loop (fun m s => ∃ i : Nat, i + m = l.length ∧ s = ⟨[.v (.sl ex L), jk, jk, nt ((l.take i).foldl (fun m y => if y < m then y else m) x), nt ((i + 1 : Nat) : Int), jk, jk, jk, jk, jk, jk, jk, jk, jk, jk, jk, jk, jk, jk, jk, jk, jk, jk, jk, jk], [], [], [], [], 0, nomem⟩) l.length ?_ ?_
  · simp -implicitDefEqProofs (maxSteps := 10000000) only [rkA, rkB, stepA, valA, simprocAttr]
    exact ⟨0, by simp, rfl⟩
  rintro m s ⟨i, hi, rfl⟩
  simp -implicitDefEqProofs (maxSteps := 10000000) only [hlen, rkA, rkB, stepA, valA, simprocAttr]
  refine gB_dec ?_ ?_ <;> intro hc <;> simp -implicitDefEqProofs (maxSteps := 10000000) only [hc, rkA, rkB, stepA, valA, simprocAttr]
  · have hlt : i < l.length := by omega
    have h0 : (0 : Int) ≤ ((i + 1 : Nat) : Int) := by omega
    have hg : L[i + 1]? = some (num l[i]) := by rw [← hL]; simp [hlt]
    have hw := wrapped (x := ((i + 1 : Nat) : Int) + 1) (by omega) (by omega)
    simp -implicitDefEqProofs (maxSteps := 10000000) only [h0, Int.toNat_natCast, hg, rkA, rkB, stepA, valA, simprocAttr]
    simp -implicitDefEqProofs (maxSteps := 10000000) only [hw, rkA, rkB, stepA, valA, simprocAttr]
    refine loopK_of (m' := m - 1) (by omega) ?_
    simp -implicitDefEqProofs (maxSteps := 10000000) only [rkA, rkB, stepA, valA, simprocAttr]
    refine ⟨i + 1, by omega, ?_⟩
    rw [List.take_succ_eq_append_getElem hlt, List.foldl_append]
    simp only [List.foldl_cons, List.foldl_nil, Int.natCast_add, Int.natCast_one]
  · have hin : l.length ≤ i := by omega
    rw [List.take_of_length_le hin, hres]
theorem ok194 (ex : Bool) (l : List Int) (h : l ≠ []) (hl : l.length ≤ 1000) : Ok Tryz.prog 194 [.sl ex (l.map num)] (num (maxL l)) := by
  obtain ⟨x, l, rfl⟩ : ∃ x t, l = x :: t := by cases l with | nil => exact absurd rfl h | cons x t => exact ⟨x, t, rfl⟩
  simp only [List.length_cons] at hl
  have c : ¬ (((l.length + 1 : Nat) : Int) < 1) := by omega
  have hlen : ((x :: l).map num).length = l.length + 1 := by simp
  have g0 : ((x :: l).map num)[0]? = some (num x) := rfl
  have hres : maxL (x :: l) = l.foldl (fun m y => if m < y then y else m) x := rfl
  generalize hL : (x :: l).map num = L at *
  refine ok_fn mixed Tryz.func194 (code := ?_) (h := h194) ?_ k194 ?_
  rotate_left
  · exact rfl
  unfold h194 initS
  simp -implicitDefEqProofs (maxSteps := 10000000) only [rkA, rkB, stepA, valA, simprocAttr, Tryz.ntmps194, Tryz.results194]
  simp -implicitDefEqProofs (maxSteps := 10000000) only [hlen, c, g0, rkA, rkB, stepA, valA, simprocAttr]
  refine wp_loop (fun m s => ∃ i : Nat, i + m = l.length ∧ s = ⟨[.v (.sl ex L), jk, jk, nt ((l.take i).foldl (fun m y => if m < y then y else m) x), nt ((i + 1 : Nat) : Int), jk, jk, jk, jk, jk, jk, jk, jk, jk, jk, jk, jk, jk, jk, jk, jk, jk, jk, jk, jk], [], [], [], [], 0, nomem⟩) l.length ?_ ?_
  · simp -implicitDefEqProofs (maxSteps := 10000000) only [rkA, rkB, stepA, valA, simprocAttr]
    exact ⟨0, by simp, rfl⟩
  rintro m s ⟨i, hi, rfl⟩
  simp -implicitDefEqProofs (maxSteps := 10000000) only [hlen, rkA, rkB, stepA, valA, simprocAttr]
  refine gB_dec ?_ ?_ <;> intro hc <;> simp -implicitDefEqProofs (maxSteps := 10000000) only [hc, rkA, rkB, stepA, valA, simprocAttr]
  · have hlt : i < l.length := by omega
    have h0 : (0 : Int) ≤ ((i + 1 : Nat) : Int) := by omega
    have hg : L[i + 1]? = some (num l[i]) := by rw [← hL]; simp [hlt]
    have hw := wrapped (x := ((i + 1 : Nat) : Int) + 1) (by omega) (by omega)
    simp -implicitDefEqProofs (maxSteps := 10000000) only [h0, Int.toNat_natCast, hg, rkA, rkB, stepA, valA, simprocAttr]
    simp -implicitDefEqProofs (maxSteps := 10000000) only [hw, rkA, rkB, stepA, valA, simprocAttr]
    refine loopK_of (m' := m - 1) (by omega) ?_
    simp -implicitDefEqProofs (maxSteps := 10000000) only [rkA, rkB, stepA, valA, simprocAttr]
    refine ⟨i + 1, by omega, ?_⟩
    rw [List.take_succ_eq_append_getElem hlt, List.foldl_append]
    simp only [List.foldl_cons, List.foldl_nil, Int.natCast_add, Int.natCast_one]
  · have hin : l.length ≤ i := by omega
    rw [List.take_of_length_le hin, hres]

/-! ### What is told of values, and of pairs of bounds -/
abbrev prV (p : Int × Int) : PV := .agg [num p.1, num p.2]
def okP (F : Int → Int → Int → Int × Bool) (p : Int × Int) : Bool := (F p.1 p.2 1).2 && (F p.1 p.2 2).2
def madeE (F : Int → Int → Int → Int × Bool) (a b : Fr) (ps : List (Int × Int)) : Fr :=
  if ((F a.v b.v 0).2 && ps.all (okP F)) = true ∧ a.fine = true ∧ b.fine = true then ⟨(F a.v b.v 0).1, minL (ps.map fun p => (F p.1 p.2 1).1), maxL (ps.map fun p => (F p.1 p.2 2).1), false⟩ else .wrong
theorem ok137 (k : Nat) (F : Int → Int → Int → Int × Bool) (hF : ∀ x y m, Ok Tryz.prog k [num x, num y, num m] (.tup [num (F x y m).1, tru (F x y m).2])) (a b : Fr) (ex : Bool) (ps : List (Int × Int)) (h1 : ps ≠ []) (h2 : ps.length ≤ 4) :
    Ok Tryz.prog 137 [frV a, frV b, .fn (.func k) [], .sl ex (ps.map prV)] (frV (madeE F a b ps)) := by
  have hl : (ps.map prV).length = ps.length := by simp
  refine ok_fn mixed Tryz.func137 (code := ?_) (h := h137) ?_ k137 ?_
  rotate_left
  · exact rfl
  unfold h137 initS
  simp -implicitDefEqProofs (maxSteps := 10000000) only [rkA, rkB, stepA, valA, simprocAttr, Tryz.ntmps137, Tryz.results137]
  refine call_fn rfl rfl rfl (hF a.v b.v 0) ?_
  simp -implicitDefEqProofs (maxSteps := 10000000) only [rkA, rkB, stepA, valA, simprocAttr]
  refine wp_loop (fun m s => ∃ i : Nat, i + m = ps.length ∧ s = ⟨[jk, jk, .v (.fn (.func k) []), jk, .ptr 4 0, .ptr 5 0, jk, jk, .ptr 8 0, nt (F a.v b.v 0).1, .v (tru ((F a.v b.v 0).2 && (ps.take i).all (okP F))), .acc 11 ((ps.take i).map fun p => num (F p.1 p.2 1).1), .acc 12 ((ps.take i).map fun p => num (F p.1 p.2 2).1), jk, jk, jk, jk, jk, jk, jk, jk, jk, jk, jk, jk, jk, jk, jk, .v (.sl ex (ps.map prV)), nt ps.length, nt i, jk, jk, jk, jk, jk, jk, jk, jk, jk, jk, jk, jk, jk, jk, jk, jk, jk, jk, jk, jk, jk, jk, jk, jk, jk, jk, jk, jk, jk, jk, jk, jk, jk, jk, jk, jk, jk, jk, jk, jk, jk, jk, jk, jk, jk, jk, jk, jk, jk, jk, jk, jk, jk, jk, jk, jk],
    [(4, [nt a.v, nt a.lo, nt a.hi, .v (tru a.bad)]), (5, [nt b.v, nt b.lo, nt b.hi, .v (tru b.bad)]), (8, [nt 0, nt 0, nt 0, .v (tru false)])], [], [(11, i), (12, i)], [], 0, nomem⟩) ps.length ?_ ?_
  · simp -implicitDefEqProofs (maxSteps := 10000000) only [hl, rkA, rkB, stepA, valA, simprocAttr]
    refine ⟨0, by simp, ?_⟩
    simp
  rintro m s ⟨i, hi, rfl⟩
  simp -implicitDefEqProofs (maxSteps := 10000000) only [rkA, rkB, stepA, valA, simprocAttr]
  refine gB_dec ?_ ?_ <;> intro hc <;> simp -implicitDefEqProofs (maxSteps := 10000000) only [hc, rkA, rkB, stepA, valA, simprocAttr]
  · have hlt : i < ps.length := by omega
    have h0 : (0 : Int) ≤ (i : Int) := by omega
    have hg : (ps.map prV)[i]? = some (prV ps[i]) := by simp [hlt]
    simp -implicitDefEqProofs (maxSteps := 10000000) only [h0, Int.toNat_natCast, hg, rkA, rkB, stepA, valA, simprocAttr]
    refine call_fn rfl rfl rfl (hF ps[i].1 ps[i].2 1) ?_
    simp -implicitDefEqProofs (maxSteps := 10000000) only [rkA, rkB, stepA, valA, simprocAttr]
    refine call_fn rfl rfl rfl (hF ps[i].1 ps[i].2 2) ?_
    simp -implicitDefEqProofs (maxSteps := 10000000) only [rkA, rkB, stepA, valA, simprocAttr]
    have f1 : fits 1 8 ((ps.take i).map fun p => num (F p.1 p.2 1).1) [num (F ps[i].1 ps[i].2 1).1] = true := by
      have := fits_num (k := (ps.take i).map fun p => (F p.1 p.2 1).1) (l := [(F ps[i].1 ps[i].2 1).1]) (by simp; omega)
      simpa [Function.comp_def] using this
    have f2 : fits 1 8 ((ps.take i).map fun p => num (F p.1 p.2 2).1) [num (F ps[i].1 ps[i].2 2).1] = true := by
      have := fits_num (k := (ps.take i).map fun p => (F p.1 p.2 2).1) (l := [(F ps[i].1 ps[i].2 2).1]) (by simp; omega)
      simpa [Function.comp_def] using this
    have l1 : ((ps.take i).map fun p => num (F p.1 p.2 1).1).length = i := by simp; omega
    have l2 : ((ps.take i).map fun p => num (F p.1 p.2 2).1).length = i := by simp; omega
    have hw := wrapped (x := (i : Int) + 1) (by omega) (by omega)
    have hall : (ps.take (i + 1)).all (okP F) = ((ps.take i).all (okP F) && ((F ps[i].1 ps[i].2 1).2 && (F ps[i].1 ps[i].2 2).2)) := by
      rw [List.take_succ_eq_append_getElem hlt, List.all_append]
      simp [okP]
    have hnew : ((F a.v b.v 0).2 && (ps.take (i + 1)).all (okP F)) = (((F a.v b.v 0).2 && (ps.take i).all (okP F)) && ((F ps[i].1 ps[i].2 1).2 && (F ps[i].1 ps[i].2 2).2)) := by rw [hall, Bool.and_assoc]
    clear hall
    generalize ((F a.v b.v 0).2 && (ps.take i).all (okP F)) = b0 at *
    have htk := List.take_succ_eq_append_getElem hlt
    generalize (F ps[i].1 ps[i].2 1).2 = b1 at *
    generalize (F ps[i].1 ps[i].2 2).2 = b2 at *
    cases b0 with
    | false =>
      simp -implicitDefEqProofs (maxSteps := 10000000) only [f1, f2, l1, l2, rkA, rkB, stepA, valA, simprocAttr]
      simp -implicitDefEqProofs (maxSteps := 10000000) only [hw, rkA, rkB, stepA, valA, simprocAttr]
      refine loopK_of (m' := m - 1) (by omega) ?_
      simp -implicitDefEqProofs (maxSteps := 10000000) only [rkA, rkB, stepA, valA, simprocAttr]
      refine ⟨i + 1, by omega, ?_⟩
      rw [hnew, htk]
      simp only [Bool.false_and, Bool.true_and, List.map_append, List.map_cons, List.map_nil, Int.natCast_add, Int.natCast_one]
    | true =>
      cases b1 with
      | false =>
        simp -implicitDefEqProofs (maxSteps := 10000000) only [f1, f2, l1, l2, rkA, rkB, stepA, valA, simprocAttr]
        simp -implicitDefEqProofs (maxSteps := 10000000) only [hw, rkA, rkB, stepA, valA, simprocAttr]
        refine loopK_of (m' := m - 1) (by omega) ?_
        simp -implicitDefEqProofs (maxSteps := 10000000) only [rkA, rkB, stepA, valA, simprocAttr]
        refine ⟨i + 1, by omega, ?_⟩
        rw [hnew, htk]
        simp only [Bool.false_and, Bool.true_and, List.map_append, List.map_cons, List.map_nil, Int.natCast_add, Int.natCast_one]
      | true =>
        simp -implicitDefEqProofs (maxSteps := 10000000) only [f1, f2, l1, l2, rkA, rkB, stepA, valA, simprocAttr]
        simp -implicitDefEqProofs (maxSteps := 10000000) only [hw, rkA, rkB, stepA, valA, simprocAttr]
        refine loopK_of (m' := m - 1) (by omega) ?_
        simp -implicitDefEqProofs (maxSteps := 10000000) only [rkA, rkB, stepA, valA, simprocAttr]
        refine ⟨i + 1, by omega, ?_⟩
        rw [hnew, htk]
        simp only [Bool.false_and, Bool.true_and, List.map_append, List.map_cons, List.map_nil, Int.natCast_add, Int.natCast_one]
  · have hin : i = ps.length := by omega
    subst hin
    simp only [List.take_length]
    have m1 : (ps.map fun p => num (F p.1 p.2 1).1) = (ps.map fun p => (F p.1 p.2 1).1).map num := by simp
    have m2 : (ps.map fun p => num (F p.1 p.2 2).1) = (ps.map fun p => (F p.1 p.2 2).1).map num := by simp
    have n1 : (ps.map fun p => (F p.1 p.2 1).1) ≠ [] := by simpa using h1
    have n2 : (ps.map fun p => (F p.1 p.2 2).1) ≠ [] := by simpa using h1
    have k1 : (ps.map fun p => (F p.1 p.2 1).1).length ≤ 1000 := by simp; omega
    have k2 : (ps.map fun p => (F p.1 p.2 2).1).length ≤ 1000 := by simp; omega
    rw [m1, m2]
    have hres : madeE F a b ps = if ((F a.v b.v 0).2 && ps.all (okP F)) = true ∧ a.fine = true ∧ b.fine = true then ⟨(F a.v b.v 0).1, minL (ps.map fun p => (F p.1 p.2 1).1), maxL (ps.map fun p => (F p.1 p.2 2).1), false⟩ else .wrong := rfl
    generalize ((F a.v b.v 0).2 && ps.all (okP F)) = b0 at *
    cases b0 with
    | false =>
      rw [hres, if_neg (by simp)]
      simp -implicitDefEqProofs (maxSteps := 10000000) only [rkA, rkB, stepA, valA, simprocAttr]
      refine call_fn rfl rfl rfl (ok57) ?_
      simp -implicitDefEqProofs (maxSteps := 10000000) only [rkA, rkB, stepA, valA, simprocAttr]
    | true =>
      simp -implicitDefEqProofs (maxSteps := 10000000) only [rkA, rkB, stepA, valA, simprocAttr]
      refine call_fn rfl rfl rfl (ok111 a) ?_
      cases ha : a.fine with
      | false =>
        rw [hres, if_neg (by simp [ha])]
        simp -implicitDefEqProofs (maxSteps := 10000000) only [rkA, rkB, stepA, valA, simprocAttr]
        refine call_fn rfl rfl rfl (ok57) ?_
        simp -implicitDefEqProofs (maxSteps := 10000000) only [rkA, rkB, stepA, valA, simprocAttr]
      | true =>
        simp -implicitDefEqProofs (maxSteps := 10000000) only [rkA, rkB, stepA, valA, simprocAttr]
        refine call_fn rfl rfl rfl (ok111 b) ?_
        cases hb : b.fine with
        | false =>
          rw [hres, if_neg (by simp [hb])]
          simp -implicitDefEqProofs (maxSteps := 10000000) only [rkA, rkB, stepA, valA, simprocAttr]
          refine call_fn rfl rfl rfl (ok57) ?_
          simp -implicitDefEqProofs (maxSteps := 10000000) only [rkA, rkB, stepA, valA, simprocAttr]
        | true =>
          rw [hres, if_pos ⟨rfl, ha, hb⟩]
          simp -implicitDefEqProofs (maxSteps := 10000000) only [rkA, rkB, stepA, valA, simprocAttr]
          refine call_fn rfl rfl rfl (ok193 _ _ n1 k1) ?_
          simp -implicitDefEqProofs (maxSteps := 10000000) only [rkA, rkB, stepA, valA, simprocAttr]
          refine call_fn rfl rfl rfl (ok194 _ _ n2 k2) ?_
          simp -implicitDefEqProofs (maxSteps := 10000000) only [rkA, rkB, stepA, valA, simprocAttr]

/-! ### Sums, products .. -/
def allP (a b : Fr) : List (Int × Int) := [(a.lo, b.lo), (a.lo, b.hi), (a.hi, b.lo), (a.hi, b.hi)]
def addF (a b : Fr) : Fr := madeE (fun x y _ => addX x y) a b [(a.lo, b.lo), (a.hi, b.hi)]
def subF (a b : Fr) : Fr := madeE (fun x y _ => subX x y) a b [(a.lo, b.hi), (a.hi, b.lo)]
def mulF (a b : Fr) : Fr := madeE mulX a b (allP a b)
def divF (a b : Fr) : Fr := if b.lo ≤ 0 ∧ b.hi ≥ 0 then .wrong else madeE divX a b (allP a b)
theorem ok256 (a b : Fr) : Ok Tryz.prog 256 [frV a, frV b] (.sl true ((allP a b).map prV)) := by
  refine ok_fn mixed Tryz.func256 (code := ?_) (h := h256) ?_ k256 ?_
  rotate_left
  · exact rfl
  unfold h256 initS
  simp -implicitDefEqProofs (maxSteps := 10000000) only [rkA, rkB, stepA, valA, simprocAttr, Tryz.ntmps256, Tryz.results256]
  rfl
theorem ok135 (x y m : Int) : Ok Tryz.prog 135 [num x, num y, num m] (.tup [num (addX x y).1, tru (addX x y).2]) := by
  refine ok_fn mixed Tryz.func135 (code := ?_) (h := h135) ?_ k135 ?_
  rotate_left
  · exact rfl
  unfold h135 initS
  simp -implicitDefEqProofs (maxSteps := 10000000) only [rkA, rkB, stepA, valA, simprocAttr, Tryz.ntmps135, Tryz.results135]
  refine call_fn rfl rfl rfl (ok136 x y) ?_
  simp -implicitDefEqProofs (maxSteps := 10000000) only [rkA, rkB, stepA, valA, simprocAttr]
theorem ok260 (x y m : Int) : Ok Tryz.prog 260 [num x, num y, num m] (.tup [num (subX x y).1, tru (subX x y).2]) := by
  refine ok_fn mixed Tryz.func260 (code := ?_) (h := h260) ?_ k260 ?_
  rotate_left
  · exact rfl
  unfold h260 initS
  simp -implicitDefEqProofs (maxSteps := 10000000) only [rkA, rkB, stepA, valA, simprocAttr, Tryz.ntmps260, Tryz.results260]
  refine call_fn rfl rfl rfl (ok261 x y) ?_
  simp -implicitDefEqProofs (maxSteps := 10000000) only [rkA, rkB, stepA, valA, simprocAttr]
theorem ok63 (a b : Fr) : Ok Tryz.prog 63 [frV a, frV b] (frV (addF a b)) := by
  have h := ok137 _ _ (fun x y m => ok135 x y m) a b true [(a.lo, b.lo), (a.hi, b.hi)] (by simp) (by simp)
  refine ok_fn mixed Tryz.func63 (code := ?_) (h := h63) ?_ k63 ?_
  rotate_left
  · exact rfl
  unfold h63 initS
  simp -implicitDefEqProofs (maxSteps := 10000000) only [rkA, rkB, stepA, valA, simprocAttr, Tryz.ntmps63, Tryz.results63]
  refine call_fn rfl rfl rfl (h) ?_
  simp -implicitDefEqProofs (maxSteps := 10000000) only [rkA, rkB, stepA, valA, simprocAttr, addF]
theorem ok254 (a b : Fr) : Ok Tryz.prog 254 [frV a, frV b] (frV (subF a b)) := by
  have h := ok137 _ _ (fun x y m => ok260 x y m) a b true [(a.lo, b.hi), (a.hi, b.lo)] (by simp) (by simp)
  refine ok_fn mixed Tryz.func254 (code := ?_) (h := h254) ?_ k254 ?_
  rotate_left
  · exact rfl
  unfold h254 initS
  simp -implicitDefEqProofs (maxSteps := 10000000) only [rkA, rkB, stepA, valA, simprocAttr, Tryz.ntmps254, Tryz.results254]
  refine call_fn rfl rfl rfl (h) ?_
  simp -implicitDefEqProofs (maxSteps := 10000000) only [rkA, rkB, stepA, valA, simprocAttr, subF]
theorem ok250 (a b : Fr) : Ok Tryz.prog 250 [frV a, frV b] (frV (mulF a b)) := by
  have h := ok137 _ _ ok257 a b true (allP a b) (by simp [allP]) (by simp [allP])
  refine ok_fn mixed Tryz.func250 (code := ?_) (h := h250) ?_ k250 ?_
  rotate_left
  · exact rfl
  unfold h250 initS
  simp -implicitDefEqProofs (maxSteps := 10000000) only [rkA, rkB, stepA, valA, simprocAttr, Tryz.ntmps250, Tryz.results250]
  refine call_fn rfl rfl rfl (ok256 a b) ?_
  simp -implicitDefEqProofs (maxSteps := 10000000) only [rkA, rkB, stepA, valA, simprocAttr]
  refine call_fn rfl rfl rfl (h) ?_
  simp -implicitDefEqProofs (maxSteps := 10000000) only [rkA, rkB, stepA, valA, simprocAttr, mulF]
theorem ok249 (a b : Fr) : Ok Tryz.prog 249 [frV a, frV b] (frV (divF a b)) := by
  have h := ok137 _ _ ok255 a b true (allP a b) (by simp [allP]) (by simp [allP])
  refine ok_fn mixed Tryz.func249 (code := ?_) (h := h249) ?_ k249 ?_
  rotate_left
  · exact rfl
  unfold h249 initS
  simp -implicitDefEqProofs (maxSteps := 10000000) only [rkA, rkB, stepA, valA, simprocAttr, Tryz.ntmps249, Tryz.results249]
  by_cases h1 : b.lo ≤ 0
  · by_cases h2 : b.hi ≥ 0
    · simp -implicitDefEqProofs (maxSteps := 10000000) only [h1, h2, rkA, rkB, stepA, valA, simprocAttr]
      refine call_fn rfl rfl rfl (ok57) ?_
      simp -implicitDefEqProofs (maxSteps := 10000000) only [divF, h1, h2, rkA, rkB, stepA, valA, simprocAttr]
    · simp -implicitDefEqProofs (maxSteps := 10000000) only [h1, h2, rkA, rkB, stepA, valA, simprocAttr]
      refine call_fn rfl rfl rfl (ok256 a b) ?_
      simp -implicitDefEqProofs (maxSteps := 10000000) only [rkA, rkB, stepA, valA, simprocAttr]
      refine call_fn rfl rfl rfl (h) ?_
      simp -implicitDefEqProofs (maxSteps := 10000000) only [divF, h2, rkA, rkB, stepA, valA, simprocAttr]
  · simp -implicitDefEqProofs (maxSteps := 10000000) only [h1, rkA, rkB, stepA, valA, simprocAttr]
    refine call_fn rfl rfl rfl (ok256 a b) ?_
    simp -implicitDefEqProofs (maxSteps := 10000000) only [rkA, rkB, stepA, valA, simprocAttr]
    refine call_fn rfl rfl rfl (h) ?_
    simp -implicitDefEqProofs (maxSteps := 10000000) only [divF, h1, rkA, rkB, stepA, valA, simprocAttr]
end Go.Proofs.YtambpjbpdackfaaGreat.A.E



set_option linter.unusedVariables false
set_option linter.unusedSimpArgs false
set_option maxRecDepth 100000
namespace Go.Proofs.YtambpjbpdackfaaGreat.A
open Go Go.RowKit Go.Shelf

abbrev nb (x : Nat) : List PV := (rowB x).map num
abbrev nbt (x n : Nat) : List PV := (bitsTo x n).map num
theorem nb_get {x k : Nat} (h : k < 130) : (nb x)[k]? = some (num (bitN x k)) := by
  rw [nb, List.getElem?_map, rowB_get h]
  rfl
theorem nb_len (x : Nat) : (nb x).length = 130 := by rw [nb, List.length_map, rowB_length]
theorem nbt_len (x n : Nat) : (nbt x n).length = n := by rw [nbt, List.length_map, bitsTo_length]
theorem nbt_succ (x n : Nat) : nbt x n ++ [num (bitN x n)] = nbt x (n + 1) := by rw [nbt, nbt, bitsTo_succ, List.map_append]; rfl
theorem nbt_fit {x n : Nat} (h : n ≤ 130) (y : Int) : fits 1 8 (nbt x n) [num y] = true := fits_num (l := [y]) (by rw [bitsTo_length]; simp; omega)

theorem two0 : ((2 : Int) = 0) = False := by simp
theorem nat0 (n : Nat) : (0 : Int) ≤ (n : Int) := Int.natCast_nonneg n
theorem wrapN64 {n : Nat} (h : n < 9223372036854775808) : IntKind.wrap .i64 (n : Int) = (n : Int) := wrapped (by omega) (by omega)
theorem wrapB (x k : Nat) : IntKind.wrap .i64 (bitN x k : Int) = (bitN x k : Int) := wrapN64 (by have := bitN_lt x k; omega)

theorem ok224 (x : Nat) (hx : x < 9223372036854775808) : Ok Tryz.prog 224 [num x] (.sl false (nb x)) := by
  refine ok_fn mixed Tryz.func224 (code := ?_) (h := h224) ?_ k224 ?_
  rotate_left
  · exact rfl
  unfold h224 initS
  simp -implicitDefEqProofs (maxSteps := 10000000) only [rkA, rkB, stepA, valA, simprocAttr, Tryz.ntmps224, Tryz.results224]
  refine wp_loop (fun m s => ∃ i : Nat, i + m = 130 ∧ s = ⟨[nt ((x / 2 ^ i : Nat) : Int), jk, jk, .acc 3 (nbt x i), nt i, jk, jk, jk, jk, jk, jk, jk, jk, jk, jk, jk, jk], [], [], [(2, 0), (3, i)], [], 0, nomem⟩) 130 ?_ ?_
  · simp -implicitDefEqProofs (maxSteps := 10000000) only [rkA, rkB, stepA, valA, simprocAttr]
    exact ⟨0, by simp, by simp [nt, bitsTo]⟩
  rintro m s ⟨i, hi, rfl⟩
  simp -implicitDefEqProofs (maxSteps := 10000000) only [rkA, rkB, stepA, valA, simprocAttr]
  refine gB_dec ?_ ?_ <;> intro hc <;> simp -implicitDefEqProofs (maxSteps := 10000000) only [hc, rkA, rkB, stepA, valA, simprocAttr]
  · have e1 : ((x / 2 ^ i : Nat) : Int).tmod 2 = bitN x i := by rw [Int.tmod_eq_emod_of_nonneg (nat0 _)]; rfl
    have e2 : ((x / 2 ^ i : Nat) : Int).tdiv 2 = ((x / 2 ^ (i + 1) : Nat) : Int) := by
      rw [Int.tdiv_eq_ediv_of_nonneg (nat0 _), Nat.pow_succ, ← Nat.div_div_eq_div_mul]; rfl
    have hle : x / 2 ^ (i + 1) ≤ x := Nat.div_le_self _ _
    have w2 := wrapN64 (n := x / 2 ^ (i + 1)) (by omega)
    have hw := wrapped (x := (i : Int) + 1) (by omega) (by omega)
    simp -implicitDefEqProofs (maxSteps := 10000000) only [e1, two0, wrapB, nbt_fit (x := x) (n := i) (by omega), nbt_len, e2, w2, hw, rkA, rkB, stepA, valA, simprocAttr]
    refine loopK_of (m' := m - 1) (by omega) ?_
    simp -implicitDefEqProofs (maxSteps := 10000000) only [rkA, rkB, stepA, valA, simprocAttr]
    exact ⟨i + 1, by omega, by rw [nbt_succ]; simp only [Int.natCast_add, Int.natCast_one]⟩
  · have : i = 130 := by omega
    subst this
    rfl
theorem ok225 (ea eb : Bool) (a b : Nat) : Ok Tryz.prog 225 [.sl ea (nb a), .sl eb (nb b)] (.sl false (nb (a + b))) := by
  refine ok_fn mixed Tryz.func225 (code := ?_) (h := h225) ?_ k225 ?_
  rotate_left
  · exact rfl
  unfold h225 initS
  simp -implicitDefEqProofs (maxSteps := 10000000) only [rkA, rkB, stepA, valA, simprocAttr, Tryz.ntmps225, Tryz.results225]
  refine wp_loop (fun m s => ∃ i : Nat, i + m = 130 ∧ s = ⟨[.v (.sl ea (nb a)), .v (.sl eb (nb b)), jk, jk, jk, .acc 5 (nbt (a + b) i), nt ((carry a b i : Nat) : Int), nt i, jk, jk, jk, jk, jk, jk, jk, jk, jk, jk, jk, jk, jk, jk, jk, jk, jk, jk, jk, jk, jk, jk, jk, jk], [], [], [(4, 0), (5, i)], [], 0, nomem⟩) 130 ?_ ?_
  · simp -implicitDefEqProofs (maxSteps := 10000000) only [rkA, rkB, stepA, valA, simprocAttr]
    exact ⟨0, by simp, by simp [nt, bitsTo, carry_zero]⟩
  rintro m s ⟨i, hi, rfl⟩
  simp -implicitDefEqProofs (maxSteps := 10000000) only [rkA, rkB, stepA, valA, simprocAttr]
  refine gB_dec ?_ ?_ <;> intro hc <;> simp -implicitDefEqProofs (maxSteps := 10000000) only [hc, rkA, rkB, stepA, valA, simprocAttr]
  · have ga := nb_get (x := a) (k := i) (by omega)
    have gb := nb_get (x := b) (k := i) (by omega)
    have l1 := bitN_lt a i
    have l2 := bitN_lt b i
    have l3 := carry_lt a b i
    have l4 := carry_lt a b (i + 1)
    have w1 := wrapped (x := (bitN a i : Int) + bitN b i) (by omega) (by omega)
    have w2 := wrapped (x := (bitN a i : Int) + bitN b i + carry a b i) (by omega) (by omega)
    have e1 : ((bitN a i : Int) + bitN b i + carry a b i).tmod 2 = bitN (a + b) i := by
      rw [Int.tmod_eq_emod_of_nonneg (by omega), sum_bit]; rfl
    have e2 : ((bitN a i : Int) + bitN b i + carry a b i).tdiv 2 = carry a b (i + 1) := by
      rw [Int.tdiv_eq_ediv_of_nonneg (by omega), carry_succ]; rfl
    have w3 := wrapN64 (n := carry a b (i + 1)) (by omega)
    have hw := wrapped (x := (i : Int) + 1) (by omega) (by omega)
    have h0 := nat0 i
    simp -implicitDefEqProofs (maxSteps := 10000000) only [h0, Int.toNat_natCast, ga, gb, rkA, rkB, stepA, valA, simprocAttr]
    simp -implicitDefEqProofs (maxSteps := 10000000) only [w1, w2, e1, two0, wrapB, nbt_fit (x := a + b) (n := i) (by omega), nbt_len, e2, w3, hw, rkA, rkB, stepA, valA, simprocAttr]
    refine loopK_of (m' := m - 1) (by omega) ?_
    simp -implicitDefEqProofs (maxSteps := 10000000) only [rkA, rkB, stepA, valA, simprocAttr]
    exact ⟨i + 1, by omega, by rw [nbt_succ]; simp only [Int.natCast_add, Int.natCast_one]⟩
  · have : i = 130 := by omega
    subst this
    rfl
theorem ok232 (ea eb : Bool) (a b : Nat) (h : b ≤ a) : Ok Tryz.prog 232 [.sl ea (nb a), .sl eb (nb b)] (.sl false (nb (a - b))) := by
  refine ok_fn mixed Tryz.func232 (code := ?_) (h := h232) ?_ k232 ?_
  rotate_left
  · exact rfl
  unfold h232 initS
  simp -implicitDefEqProofs (maxSteps := 10000000) only [rkA, rkB, stepA, valA, simprocAttr, Tryz.ntmps232, Tryz.results232]
  refine wp_loop (fun m s => ∃ i : Nat, i + m = 130 ∧ s = ⟨[.v (.sl ea (nb a)), .v (.sl eb (nb b)), jk, jk, jk, .acc 5 (nbt (a - b) i), nt ((borrow a b i : Nat) : Int), nt i, jk, jk, jk, jk, jk, jk, jk, jk, jk, jk, jk, jk, jk, jk, jk, jk, jk, jk, jk, jk, jk, jk, jk, jk, jk, jk], [], [], [(4, 0), (5, i)], [], 0, nomem⟩) 130 ?_ ?_
  · simp -implicitDefEqProofs (maxSteps := 10000000) only [rkA, rkB, stepA, valA, simprocAttr]
    exact ⟨0, by simp, by simp [nt, bitsTo, borrow_zero]⟩
  rintro m s ⟨i, hi, rfl⟩
  simp -implicitDefEqProofs (maxSteps := 10000000) only [rkA, rkB, stepA, valA, simprocAttr]
  refine gB_dec ?_ ?_ <;> intro hc <;> simp -implicitDefEqProofs (maxSteps := 10000000) only [hc, rkA, rkB, stepA, valA, simprocAttr]
  · have ga := nb_get (x := a) (k := i) (by omega)
    have gb := nb_get (x := b) (k := i) (by omega)
    have l1 := bitN_lt a i
    have l2 := bitN_lt b i
    have l3 : borrow a b i < 2 := by unfold borrow; split <;> omega
    have l4 : borrow a b (i + 1) < 2 := by unfold borrow; split <;> omega
    have w1 := wrapped (x := (bitN a i : Int) - bitN b i) (by omega) (by omega)
    have w2 := wrapped (x := (bitN a i : Int) - bitN b i - borrow a b i) (by omega) (by omega)
    have w4 := wrapped (x := (bitN a i : Int) - bitN b i - borrow a b i + 2) (by omega) (by omega)
    obtain ⟨e1, e2⟩ := sub_bit h i
    have l5 : ((bitN a i : Int) - bitN b i - borrow a b i + 2).tdiv 2 = 1 - (borrow a b (i + 1) : Int) := by omega
    have w5 := wrapped (x := 1 - (borrow a b (i + 1) : Int)) (by omega) (by omega)
    have w3 : IntKind.wrap .i64 (1 - (1 - (borrow a b (i + 1) : Int))) = (borrow a b (i + 1) : Int) := by rw [wrapped (by omega) (by omega)]; omega
    have hw := wrapped (x := (i : Int) + 1) (by omega) (by omega)
    have h0 := nat0 i
    simp -implicitDefEqProofs (maxSteps := 10000000) only [h0, Int.toNat_natCast, ga, gb, rkA, rkB, stepA, valA, simprocAttr]
    simp -implicitDefEqProofs (maxSteps := 10000000) only [w1, w2, w4, e1, two0, wrapB, nbt_fit (x := a - b) (n := i) (by omega), nbt_len, l5, w5, w3, hw, rkA, rkB, stepA, valA, simprocAttr]
    refine loopK_of (m' := m - 1) (by omega) ?_
    simp -implicitDefEqProofs (maxSteps := 10000000) only [rkA, rkB, stepA, valA, simprocAttr]
    exact ⟨i + 1, by omega, by rw [nbt_succ]; simp only [Int.natCast_add, Int.natCast_one]⟩
  · have : i = 130 := by omega
    subst this
    rfl
theorem ok211 (ea eb : Bool) (a b : Nat) (ha : a < 2 ^ 130) (hb : b < 2 ^ 130) : Ok Tryz.prog 211 [.sl ea (nb a), .sl eb (nb b)] (tru (decide (a < b))) := by
  refine ok_fn mixed Tryz.func211 (code := ?_) (h := h211) ?_ k211 ?_
  rotate_left
  · exact rfl
  unfold h211 initS
  simp -implicitDefEqProofs (maxSteps := 10000000) only [rkA, rkB, stepA, valA, simprocAttr, Tryz.ntmps211, Tryz.results211]
  refine wp_loop (fun m s => ∃ i : Nat, i + m = 130 ∧ a / 2 ^ m = b / 2 ^ m ∧ s = ⟨[.v (.sl ea (nb a)), .v (.sl eb (nb b)), jk, jk, jk, nt ((m : Int) - 1), jk, jk, jk, jk, jk, jk, jk, jk, jk, jk, jk, jk, jk, jk, jk, jk, jk, jk, jk, jk, jk, jk], [], [], [], [], 0, nomem⟩) 130 ?_ ?_
  · simp -implicitDefEqProofs (maxSteps := 10000000) only [rkA, rkB, stepA, valA, simprocAttr]
    exact ⟨0, by simp, by rw [Nat.div_eq_of_lt ha, Nat.div_eq_of_lt hb]⟩
  rintro m s ⟨i, hm, he, rfl⟩
  simp -implicitDefEqProofs (maxSteps := 10000000) only [rkA, rkB, stepA, valA, simprocAttr]
  refine gB_dec ?_ ?_ <;> intro hc <;> simp -implicitDefEqProofs (maxSteps := 10000000) only [hc, rkA, rkB, stepA, valA, simprocAttr]
  · obtain ⟨k, rfl⟩ : ∃ k, m = k + 1 := ⟨m - 1, by omega⟩
    have ek : ((k + 1 : Nat) : Int) - 1 = (k : Int) := by omega
    have ga := nb_get (x := a) (k := k) (by omega)
    have gb := nb_get (x := b) (k := k) (by omega)
    have h0 := nat0 k
    have hw := wrapped (x := (k : Int) - 1) (by omega) (by omega)
    simp -implicitDefEqProofs (maxSteps := 10000000) only [ek, h0, Int.toNat_natCast, ga, gb, rkA, rkB, stepA, valA, simprocAttr]
    by_cases hne : bitN a k = bitN b k
    · have hne' : ((bitN a k : Int) != (bitN b k : Int)) = false := by simp [hne]
      simp -implicitDefEqProofs (maxSteps := 10000000) only [hne', hw, rkA, rkB, stepA, valA, simprocAttr]
      refine loopK_of (m' := k) (by omega) ?_
      simp -implicitDefEqProofs (maxSteps := 10000000) only [rkA, rkB, stepA, valA, simprocAttr]
      exact ⟨i + 1, by omega, less_next he hne⟩
    · have hne' : ((bitN a k : Int) != (bitN b k : Int)) = true := by simp; omega
      have hl := less_here he hne
      have e : decide ((bitN a k : Int) < (bitN b k : Int)) = decide (a < b) := by
        rw [decide_eq_decide, ← hl]; omega
      simp -implicitDefEqProofs (maxSteps := 10000000) only [hne', e, h0, Int.toNat_natCast, ga, gb, rkA, rkB, stepA, valA, simprocAttr]
  · have : m = 0 := by omega
    subst this
    simp only [Nat.pow_zero, Nat.div_one] at he
    have : decide (a < b) = false := by simp; omega
    rw [this]
theorem ok226 (ea : Bool) (a b : Nat) (hb : b < 2) : Ok Tryz.prog 226 [.sl ea (nb a), num b] (.sl false (nb (2 * a + b))) := by
  have t : (nb a).take 129 = nbt a 129 := by
    rw [nb, nbt, ← List.map_take, rowB, bitsTo, bitsTo, ← List.map_take, List.take_range]; rfl
  have hs : sliceA 1 (nb a) ea none (some 129) none = some (.sl (exA none ea 129 130) (nbt a 129)) := by
    unfold sliceA
    have hc : ((nb a).all fun e => e.cells.length == 1) = true := by simp [nb, PV.cells]
    have hl := nb_len a
    simp only [Option.getD_some, Option.getD_none]
    rw [if_pos ⟨by omega, by rw [hl]; omega, by simp, hc⟩, hl, t]
    rfl
  have hf : fits 1 8 [num b] (nbt a 129) = true := fits_num (k := [(b : Int)]) (l := bitsTo a 129) (by simp [bitsTo_length])
  have e : num (b : Int) :: nbt a 129 = nb (2 * a + b) := by
    rw [nb, nbt, rowB, ← up_bits a b 129 hb]; rfl
  refine ok_fn mixed Tryz.func226 (code := ?_) (h := h226) ?_ k226 ?_
  rotate_left
  · exact rfl
  unfold h226 initS
  simp -implicitDefEqProofs (maxSteps := 10000000) only [rkA, rkB, stepA, valA, simprocAttr, Tryz.ntmps226, Tryz.results226]
  simp -implicitDefEqProofs (maxSteps := 10000000) only [hs, hf, e, rkA, rkB, stepA, valA, simprocAttr]
end Go.Proofs.YtambpjbpdackfaaGreat.A



set_option linter.unusedVariables false
set_option linter.unusedSimpArgs false
set_option maxRecDepth 100000
namespace Go.Proofs.YtambpjbpdackfaaGreat.A
open Go Go.RowKit Go.Shelf

/-! ### Products of two words, compared -/
abbrev prW (p : Nat) : PV := .agg [uw (p / 18446744073709551616), uw (p % 18446744073709551616)]
theorem eq_prW (p q : Nat) : cellsEq [some .u64, some .u64] [uw (p / 18446744073709551616), uw (p % 18446744073709551616)] [uw (q / 18446744073709551616), uw (q % 18446744073709551616)] = some (decide (p = q)) := by
  have e : (p = q) ↔ (((p / 18446744073709551616 : Nat) : Int) = ((q / 18446744073709551616 : Nat) : Int) ∧ ((p % 18446744073709551616 : Nat) : Int) = ((q % 18446744073709551616 : Nat) : Int)) := by omega
  unfold uw
  generalize ((p / 18446744073709551616 : Nat) : Int) = A at *
  generalize ((q / 18446744073709551616 : Nat) : Int) = B at *
  generalize ((p % 18446744073709551616 : Nat) : Int) = C at *
  generalize ((q % 18446744073709551616 : Nat) : Int) = D at *
  simp only [cellsEq, e]
  by_cases h1 : A = B <;> by_cases h2 : C = D <;> simp [h1, h2]
theorem ok183 (p q : Nat) : Ok Tryz.prog 183 [prW p, prW q] (tru (decide (p < q))) := by
  refine ok_fn mixed Tryz.func183 (code := ?_) (h := h183) ?_ k183 ?_
  rotate_left
  · exact rfl
  unfold h183 initS
  simp -implicitDefEqProofs (maxSteps := 10000000) only [rkA, rkB, stepA, valA, simprocAttr, Tryz.ntmps183, Tryz.results183]
  have e1 := Nat.div_add_mod p 18446744073709551616
  have e2 := Nat.div_add_mod q 18446744073709551616
  have l1 := Nat.mod_lt p (show 0 < 18446744073709551616 by omega)
  have l2 := Nat.mod_lt q (show 0 < 18446744073709551616 by omega)
  refine gB_dec ?_ ?_ <;> intro h1
  · have : p < q := by omega
    simp -implicitDefEqProofs (maxSteps := 10000000) only [this, h1, rkA, rkB, stepA, valA, simprocAttr]
  · simp -implicitDefEqProofs (maxSteps := 10000000) only [h1, rkA, rkB, stepA, valA, simprocAttr]
    refine gB_bool ?_ ?_ <;> intro h2 <;> simp -implicitDefEqProofs (maxSteps := 10000000) only [h2, rkA, rkB, stepA, valA, simprocAttr]
    · have h3 : ((p / 18446744073709551616 : Nat) : Int) = ((q / 18446744073709551616 : Nat) : Int) := by simpa using h2
      have : (((p % 18446744073709551616 : Nat) : Int) < ((q % 18446744073709551616 : Nat) : Int)) = (p < q) := by apply propext; omega
      simp only [this]
    · have h3 : ¬ ((p / 18446744073709551616 : Nat) : Int) = ((q / 18446744073709551616 : Nat) : Int) := by simpa using h2
      have : ¬ p < q := by omega
      simp -implicitDefEqProofs (maxSteps := 10000000) only [this, rkA, rkB, stepA, valA, simprocAttr]

end Go.Proofs.YtambpjbpdackfaaGreat.A


set_option linter.unusedVariables false
set_option linter.unusedSimpArgs false
set_option maxRecDepth 100000
namespace Go.Proofs.YtambpjbpdackfaaGreat.A
open Go Go.RowKit Go.Shelf

/-! ### Roots of whole numbers, bit by bit -/
def rtB (n K : Nat) : Nat → Nat
  | 0 => 0
  | j + 1 => if (rtB n K j + 2 ^ (K - 1 - j)) * (rtB n K j + 2 ^ (K - 1 - j)) ≤ n then rtB n K j + 2 ^ (K - 1 - j) else rtB n K j

theorem rtB_spec {n K : Nat} (hn : n < 2 ^ K * 2 ^ K) : ∀ j, j ≤ K → rtB n K j * rtB n K j ≤ n ∧ n < (rtB n K j + 2 ^ (K - j)) * (rtB n K j + 2 ^ (K - j)) ∧ (∃ q, rtB n K j = 2 ^ (K - j) * q) ∧ rtB n K j + 2 ^ (K - j) ≤ 2 ^ K
  | 0, _ => ⟨by simp [rtB], by simpa [rtB] using hn, ⟨0, by simp [rtB]⟩, by simp [rtB]⟩
  | j + 1, hj => by
    obtain ⟨h1, h2, ⟨q, hq⟩, h3⟩ := rtB_spec hn j (by omega)
    have e1 : K - j = (K - (j + 1)) + 1 := by omega
    have e2 : K - 1 - j = K - (j + 1) := by omega
    rw [e1, Nat.pow_succ] at h2 hq h3
    simp only [rtB, e2]
    generalize rtB n K j = r at *
    generalize 2 ^ (K - (j + 1)) = t at *
    split
    · rename_i hc
      refine ⟨hc, by rw [Nat.add_assoc, ← Nat.mul_two]; exact h2, ⟨2 * q + 1, ?_⟩, by omega⟩
      rw [hq, Nat.mul_add, Nat.mul_one, Nat.mul_assoc]
    · rename_i hc
      exact ⟨h1, by omega, ⟨2 * q, by rw [hq, Nat.mul_assoc]⟩, by omega⟩

theorem rtB_final {n K : Nat} (hn : n < 2 ^ K * 2 ^ K) : rtB n K K * rtB n K K ≤ n ∧ n < (rtB n K K + 1) * (rtB n K K + 1) ∧ rtB n K K < 2 ^ K := by
  obtain ⟨h1, h2, _, h3⟩ := rtB_spec hn K (Nat.le_refl _)
  rw [Nat.sub_self, Nat.pow_zero] at h2 h3
  exact ⟨h1, h2, by omega⟩

theorem sq_lt {a b : Nat} (h : a * a < b * b) : a < b := by
  rcases Nat.lt_or_ge a b with h1 | h1
  · exact h1
  · have := Nat.mul_le_mul h1 h1
    omega
theorem rtB_sq {s K : Nat} (hs : s < 2 ^ K) : rtB (s * s) K K = s := by
  have hn : s * s < 2 ^ K * 2 ^ K := Nat.mul_lt_mul'' hs hs
  obtain ⟨h1, h2, _⟩ := rtB_final hn
  have h3 : s < rtB (s * s) K K + 1 := sq_lt h2
  rcases Nat.lt_or_ge (rtB (s * s) K K) s with h4 | h4
  · omega
  · have : rtB (s * s) K K = s := by
      rcases Nat.lt_or_ge s (rtB (s * s) K K) with h5 | h5
      · have := Nat.mul_lt_mul'' h5 h5
        omega
      · omega
    exact this

theorem or_bit {r k : Nat} (hr : r < 2 ^ 62) (hk : k < 62) (hd : ∃ q, r = 2 ^ (k + 1) * q) : (BitVec.ofInt 64 (r : Int) ||| BitVec.ofInt 64 ((2 ^ k : Nat) : Int)).toNat = r + 2 ^ k := by
  obtain ⟨q, rfl⟩ := hd
  have h2 : (2 : Nat) ^ k < 2 ^ (k + 1) := Nat.pow_lt_pow_right (by omega) (by omega)
  have h3 : (2 : Nat) ^ k < 2 ^ 62 := Nat.pow_lt_pow_right (by omega) hk
  rw [BitVec.toNat_or, BitVec.ofInt_natCast, BitVec.ofInt_natCast, BitVec.toNat_ofNat, BitVec.toNat_ofNat, Nat.mod_eq_of_lt (by omega), Nat.mod_eq_of_lt (by omega), Nat.two_pow_add_eq_or_of_lt h2]

theorem wrapNat {n : Nat} (h : n < 9223372036854775808) : IntKind.wrap .i64 (n : Int) = (n : Int) := wrapped (by omega) (by omega)
def rootI (n : Int) : Int := if rtB n.toNat 16 16 * rtB n.toNat 16 16 = n.toNat then (rtB n.toNat 16 16 : Int) else -1

theorem ok277 (n : Int) (h0 : 0 ≤ n) (h1 : n ≤ 1073741824) : Ok Tryz.prog 277 [num n] (num (rootI n)) := by
  obtain ⟨N, rfl⟩ : ∃ N : Nat, n = N := ⟨n.toNat, by omega⟩
  have hN : N < 2 ^ 16 * 2 ^ 16 := by omega
  have hs := rtB_spec hN
  refine ok_fn mixed Tryz.func277 (code := ?_) (h := h277) ?_ k277 ?_
  rotate_left
  · exact rfl
  unfold h277 initS
  simp -implicitDefEqProofs only [rkA, rkB, stepA, valA, simprocAttr, Tryz.ntmps277, Tryz.results277]
  refine wp_loop (fun m s => ∃ j : Nat, j + m = 16 ∧ s = ⟨[nt N, jk, jk, nt (rtB N 16 j), nt (15 - (j : Int)), jk, jk, jk, jk, jk, jk, jk, jk, jk, jk, jk, jk, jk, jk, jk, jk, jk, jk, jk, jk, jk], [], [], [], [], 0, nomem⟩) 16 ?_ ?_
  · simp -implicitDefEqProofs only [rkA, rkB, stepA, valA, simprocAttr]
    exact ⟨0, rfl, by simp [nt, rtB]⟩
  rintro m s ⟨j, hj, rfl⟩
  simp -implicitDefEqProofs only [rkA, rkB, stepA, valA, simprocAttr]
  refine gB_dec ?_ ?_ <;> intro hc <;> simp -implicitDefEqProofs only [hc, rkA, rkB, stepA, valA, simprocAttr]
  · obtain ⟨s1, s2, s3, s4⟩ := hs j (by omega)
    have e1 : 16 - j = (15 - j) + 1 := by omega
    have e2 : (15 - (j : Int)) = ((15 - j : Nat) : Int) := by omega
    have e3 : 16 - 1 - j = 15 - j := by omega
    have h0k : (0 : Int) ≤ ((15 - j : Nat) : Int) := by omega
    have hkb : min ((15 - j : Nat) : Int).toNat (IntKind.bits .i64) = 15 - j := by
      have : IntKind.bits .i64 = 64 := rfl
      rw [this, Int.toNat_natCast]
      omega
    rw [e1] at s3
    have hp : (2 : Nat) ^ (15 - j) ≤ 2 ^ 15 := Nat.pow_le_pow_right (by omega) (by omega)
    have hrl : rtB N 16 j < 2 ^ 16 := by
      have : 0 < 2 ^ (16 - j) := Nat.pow_pos (by omega)
      omega
    have hpI : (1 : Int) * 2 ^ (15 - j) = ((2 ^ (15 - j) : Nat) : Int) := by rw [Int.one_mul, Int.natCast_pow]; rfl
    have hw1 : IntKind.wrap .i64 ((2 ^ (15 - j) : Nat) : Int) = ((2 ^ (15 - j) : Nat) : Int) := wrapNat (by omega)
    have hor := or_bit (r := rtB N 16 j) (k := 15 - j) (by omega) (by omega) s3
    have hbits : IntKind.bits .i64 = 64 := rfl
    have hw2 : IntKind.wrap .i64 ((rtB N 16 j + 2 ^ (15 - j) : Nat) : Int) = ((rtB N 16 j + 2 ^ (15 - j) : Nat) : Int) := wrapNat (by omega)
    have hx : (rtB N 16 j + 2 ^ (15 - j)) * (rtB N 16 j + 2 ^ (15 - j)) ≤ (2 ^ 16 + 2 ^ 15) * (2 ^ 16 + 2 ^ 15) := Nat.mul_le_mul (by omega) (by omega)
    have hw3 : IntKind.wrap .i64 (((rtB N 16 j + 2 ^ (15 - j) : Nat) : Int) * ((rtB N 16 j + 2 ^ (15 - j) : Nat) : Int)) = (((rtB N 16 j + 2 ^ (15 - j)) * (rtB N 16 j + 2 ^ (15 - j)) : Nat) : Int) := by
      rw [← Int.natCast_mul]
      exact wrapNat (by omega)
    have hA : IntKind.wrap .i64 (1 * 2 ^ min ((15 - j : Nat) : Int).toNat (IntKind.bits .i64)) = ((2 ^ (15 - j) : Nat) : Int) := by rw [hkb, hpI, hw1]
    have hB : IntKind.wrap .i64 ((BitVec.ofInt (IntKind.bits .i64) (rtB N 16 j : Int) ||| BitVec.ofInt (IntKind.bits .i64) ((2 ^ (15 - j) : Nat) : Int)).toNat : Int) = ((rtB N 16 j + 2 ^ (15 - j) : Nat) : Int) := by rw [hbits, hor, hw2]
    have hw4 : IntKind.wrap .i64 (((15 - j : Nat) : Int) - 1) = 15 - ((j + 1 : Nat) : Int) := by rw [wrapped (by omega) (by omega)]; omega
    simp -implicitDefEqProofs only [e2, h0k, hA, hB, hw3, rkA, rkB, stepA, valA, simprocAttr]
    refine gB_dec ?_ ?_ <;> intro hq
    · have hr : rtB N 16 (j + 1) = rtB N 16 j + 2 ^ (15 - j) := by simp only [rtB, e3]; rw [if_pos (by omega)]
      simp -implicitDefEqProofs only [hw4, rkA, rkB, stepA, valA, simprocAttr]
      refine loopK_of (m' := m - 1) (by omega) ?_
      simp -implicitDefEqProofs only [rkA, rkB, stepA, valA, simprocAttr]
      exact ⟨j + 1, by omega, by rw [hr]⟩
    · have hr : rtB N 16 (j + 1) = rtB N 16 j := by simp only [rtB, e3]; rw [if_neg (by omega)]
      simp -implicitDefEqProofs only [hw4, rkA, rkB, stepA, valA, simprocAttr]
      refine loopK_of (m' := m - 1) (by omega) ?_
      simp -implicitDefEqProofs only [rkA, rkB, stepA, valA, simprocAttr]
      exact ⟨j + 1, by omega, by rw [hr]⟩
  · have hj16 : j = 16 := by omega
    subst hj16
    obtain ⟨f1, f2, f3⟩ := rtB_final hN
    have hw3 : IntKind.wrap .i64 ((rtB N 16 16 : Int) * (rtB N 16 16 : Int)) = ((rtB N 16 16 * rtB N 16 16 : Nat) : Int) := by
      rw [← Int.natCast_mul]
      exact wrapNat (by omega)
    simp -implicitDefEqProofs only [hw3, rkA, rkB, stepA, valA, simprocAttr]
    unfold rootI
    rw [Int.toNat_natCast]
    refine gB_bool ?_ ?_ <;> intro hq
    · have : ¬ rtB N 16 16 * rtB N 16 16 = N := by
        have := bne_iff_ne.1 hq
        omega
      rw [if_neg this]
      simp -implicitDefEqProofs only [rkA, rkB, stepA, valA, simprocAttr]
    · have : rtB N 16 16 * rtB N 16 16 = N := by
        have := (bne_eq_false_iff_eq (a := ((rtB N 16 16 * rtB N 16 16 : Nat) : Int)) (b := (N : Int))).1 hq
        omega
      rw [if_pos this]
      simp -implicitDefEqProofs only [rkA, rkB, stepA, valA, simprocAttr]

def rootF (a : Fr) : Fr := if a.fine = false ∨ a.n < 0 ∨ rootI a.n < 0 ∨ rootI a.d < 0 then .wrong else newF (rootI a.n) (rootI a.d)
theorem fine_bnd {a : Fr} (h : a.fine = true) : 1 ≤ a.d ∧ a.d ≤ 1073741824 ∧ a.n ≤ 1073741824 ∧ -1073741824 ≤ a.n := by
  simp only [Fr.fine, Bool.and_eq_true, decide_eq_true_eq] at h
  omega
theorem ok270 (a : Fr) : Ok Tryz.prog 270 [frV a] (frV (rootF a)) := by
  refine ok_fn mixed Tryz.func270 (code := ?_) (h := h270) ?_ k270 ?_
  rotate_left
  · exact rfl
  unfold h270 initS
  simp -implicitDefEqProofs only [rkA, rkB, stepA, valA, simprocAttr, Tryz.ntmps270, Tryz.results270]
  refine call_fn rfl rfl rfl (ok266 a) ?_
  cases hf : a.fine with
  | false =>
    simp -implicitDefEqProofs only [rkA, rkB, stepA, valA, simprocAttr]
    refine call_fn rfl rfl rfl (ok104) ?_
    have : rootF a = .wrong := by unfold rootF; rw [if_pos (.inl hf)]
    rw [this]
    simp -implicitDefEqProofs only [rkA, rkB, stepA, valA, simprocAttr]
  | true =>
    obtain ⟨d1, d2, n1, n2⟩ := fine_bnd hf
    simp -implicitDefEqProofs only [rkA, rkB, stepA, valA, simprocAttr]
    refine gB_dec ?_ ?_ <;> intro hn <;> simp -implicitDefEqProofs only [hn, rkA, rkB, stepA, valA, simprocAttr]
    · refine call_fn rfl rfl rfl (ok104) ?_
      have : rootF a = .wrong := by unfold rootF; rw [if_pos (.inr (.inl hn))]
      rw [this]
      simp -implicitDefEqProofs only [rkA, rkB, stepA, valA, simprocAttr]
    · refine call_fn rfl rfl rfl (ok277 a.n (by omega) n1) ?_
      simp -implicitDefEqProofs only [rkA, rkB, stepA, valA, simprocAttr]
      refine gB_dec ?_ ?_ <;> intro hr <;> simp -implicitDefEqProofs only [hr, rkA, rkB, stepA, valA, simprocAttr]
      · refine call_fn rfl rfl rfl (ok104) ?_
        have : rootF a = .wrong := by unfold rootF; rw [if_pos (.inr (.inr (.inl hr)))]
        rw [this]
        simp -implicitDefEqProofs only [rkA, rkB, stepA, valA, simprocAttr]
      · refine call_fn rfl rfl rfl (ok277 a.d (by omega) d2) ?_
        simp -implicitDefEqProofs only [rkA, rkB, stepA, valA, simprocAttr]
        refine gB_dec ?_ ?_ <;> intro hs <;> simp -implicitDefEqProofs only [hs, rkA, rkB, stepA, valA, simprocAttr]
        · refine call_fn rfl rfl rfl (ok104) ?_
          have : rootF a = .wrong := by unfold rootF; rw [if_pos (.inr (.inr (.inr hs)))]
          rw [this]
          simp -implicitDefEqProofs only [rkA, rkB, stepA, valA, simprocAttr]
        · refine call_fn rfl rfl rfl (ok277 a.n (by omega) n1) ?_
          simp -implicitDefEqProofs only [rkA, rkB, stepA, valA, simprocAttr]
          refine call_fn rfl rfl rfl (ok277 a.d (by omega) d2) ?_
          simp -implicitDefEqProofs only [rkA, rkB, stepA, valA, simprocAttr]
          refine call_fn rfl rfl rfl (ok31 (rootI a.n) (rootI a.d)) ?_
          have : rootF a = newF (rootI a.n) (rootI a.d) := by
            unfold rootF
            rw [if_neg (by rw [hf]; rintro (h | h | h | h) <;> first | cases h | omega)]
          rw [this]
          simp -implicitDefEqProofs only [rkA, rkB, stepA, valA, simprocAttr]

def signF (a : Fr) : Int := if a.fine = false then 0 else if a.n = 0 then 0 else if a.n < 0 then -1 else 1
theorem ok271 (a : Fr) : Ok Tryz.prog 271 [frV a] (num (signF a)) := by
  refine ok_fn mixed Tryz.func271 (code := ?_) (h := h271) ?_ k271 ?_
  rotate_left
  · exact rfl
  unfold h271 initS
  simp -implicitDefEqProofs only [rkA, rkB, stepA, valA, simprocAttr, Tryz.ntmps271, Tryz.results271]
  refine call_fn rfl rfl rfl (ok266 a) ?_
  unfold signF
  cases hf : a.fine with
  | false => simp -implicitDefEqProofs only [rkA, rkB, stepA, valA, simprocAttr]
  | true =>
    simp -implicitDefEqProofs only [rkA, rkB, stepA, valA, simprocAttr]
    refine gB_bool ?_ ?_ <;> intro h0
    · have e0 : a.n = 0 := by simpa using h0
      simp -implicitDefEqProofs only [e0, rkA, rkB, stepA, valA, simprocAttr]
    · have e0 : ¬ a.n = 0 := by simpa using h0
      simp -implicitDefEqProofs only [e0, rkA, rkB, stepA, valA, simprocAttr]
      refine gB_dec ?_ ?_ <;> intro h1 <;> simp -implicitDefEqProofs only [h1, rkA, rkB, stepA, valA, simprocAttr]
end Go.Proofs.YtambpjbpdackfaaGreat.A



set_option linter.unusedVariables false
set_option linter.unusedSimpArgs false
set_option maxRecDepth 100000
namespace Go.Proofs.YtambpjbpdackfaaGreat.A
open Go Go.RowKit Go.Shelf

/-! ### Roots of products, bit by bit -/
def rtW (p : Nat) : Nat := rtB p 63 63
def upW (p : Nat) (mode : Int) : Bool := decide (rtW p * rtW p ≠ p) && (decide (mode = 2) || (decide (mode = 0) && decide (rtW p * (rtW p + 1) < p)))
def wRootN (p : Nat) (mode : Int) : Nat := if upW p mode = true then rtW p + 1 else rtW p
def wRootOk (a b mode : Int) : Bool := rightW a && (rightW b && (decide (0 ≤ mode ∧ mode ≤ 2) && !((decide (a ≠ 0) && decide (b ≠ 0)) && (decide (a < 0) != decide (b < 0)))))
def wRoot (a b mode : Int) : Int × Bool := if wRootOk a b mode = true then ((wRootN (a.natAbs * b.natAbs) mode : Int), true) else (0, false)
theorem rtB_step {n K j : Nat} (hn : n < 2 ^ K * 2 ^ K) (hj : j < K) : ∃ q, rtB n K j = q * 2 ^ (K - j) ∧ rtB n K j + 2 ^ (K - j) ≤ 2 ^ K := by
  obtain ⟨_, _, ⟨q, hq⟩, h4⟩ := rtB_spec hn j (by omega)
  exact ⟨q, by rw [hq, Nat.mul_comm], h4⟩
theorem abs_right {n : Int} (h : rightW n = true) : n.natAbs ≤ 4611686018427387903 := by
  unfold rightW at h
  rw [decide_eq_true_eq] at h
  omega
theorem wRoot_no {a b mode : Int} (h : wRootOk a b mode = false) : wRoot a b mode = (0, false) := by unfold wRoot; rw [h]; rfl
theorem wRoot_yes {a b mode : Int} (h : wRootOk a b mode = true) : wRoot a b mode = ((wRootN (a.natAbs * b.natAbs) mode : Int), true) := by unfold wRoot; rw [if_pos h]
theorem rtW_spec {p : Nat} (hp : p ≤ 4611686018427387903 * 4611686018427387903) : rtW p * rtW p ≤ p ∧ p < (rtW p + 1) * (rtW p + 1) ∧ rtW p ≤ 4611686018427387903 := by
  have hp2 : p < 2 ^ 63 * 2 ^ 63 := by omega
  obtain ⟨f1, f2, f3⟩ := rtB_final hp2
  refine ⟨f1, f2, ?_⟩
  have f1' : rtW p * rtW p ≤ p := f1
  rcases Nat.lt_or_ge 4611686018427387903 (rtW p) with h | h
  · have := Nat.mul_lt_mul'' h h
    omega
  · exact h
set_option maxHeartbeats 4000000 in
theorem ok262 (a b mode : Int) : Ok Tryz.prog 262 [num a, num b, num mode] (.tup [num (wRoot a b mode).1, tru (wRoot a b mode).2]) := by
  refine ok_fn mixed Tryz.func262 (code := ?_) (h := h262) ?_ k262 ?_
  rotate_left
  · exact rfl
  unfold h262 initS
  simp -implicitDefEqProofs (maxSteps := 10000000) only [rkA, rkB, stepA, valA, simprocAttr, Tryz.ntmps262, Tryz.results262]
  refine call_fn rfl rfl rfl (ok164' a) ?_
  cases ha : rightW a with
  | false =>
    rw [wRoot_no (by unfold wRootOk; rw [ha]; rfl)]
    simp -implicitDefEqProofs (maxSteps := 10000000) only [rkA, rkB, stepA, valA, simprocAttr]
  | true =>
    simp -implicitDefEqProofs (maxSteps := 10000000) only [rkA, rkB, stepA, valA, simprocAttr]
    refine call_fn rfl rfl rfl (ok164' b) ?_
    cases hb : rightW b with
    | false =>
      rw [wRoot_no (by unfold wRootOk; rw [ha, hb]; rfl)]
      simp -implicitDefEqProofs (maxSteps := 10000000) only [rkA, rkB, stepA, valA, simprocAttr]
    | true =>
      simp -implicitDefEqProofs (maxSteps := 10000000) only [rkA, rkB, stepA, valA, simprocAttr]
      refine call_fn rfl rfl rfl (ok178 mode) ?_
      by_cases hm : 0 ≤ mode ∧ mode ≤ 2
      · have hm' : decide (0 ≤ mode ∧ mode ≤ 2) = true := decide_eq_true hm
        have hb1 := abs_right ha
        have hb2 := abs_right hb
        have hp : a.natAbs * b.natAbs ≤ 4611686018427387903 * 4611686018427387903 := Nat.mul_le_mul hb1 hb2
        simp -implicitDefEqProofs (maxSteps := 10000000) only [hm', rkA, rkB, stepA, valA, simprocAttr]
        have cs : (a = 0) ∨ (a ≠ 0 ∧ b = 0) ∨ (a ≠ 0 ∧ b ≠ 0 ∧ (decide (a < 0) != decide (b < 0)) = true) ∨ (a ≠ 0 ∧ b ≠ 0 ∧ (decide (a < 0) != decide (b < 0)) = false) := by
          cases (decide (a < 0) != decide (b < 0)) <;> simp <;> omega
        rcases cs with h1 | ⟨h1, h2⟩ | ⟨h1, h2, h3⟩ | ⟨h1, h2, h3⟩
        rotate_left 2
        · have n1 : (a != 0) = true := by simpa using h1
          have n2 : (b != 0) = true := by simpa using h2
          rw [wRoot_no (by unfold wRootOk; rw [ha, hb, hm', h3, decide_eq_true h1, decide_eq_true h2]; rfl)]
          have n3 : (!(decide (a < 0) == decide (b < 0))) = true := h3
          simp -implicitDefEqProofs (maxSteps := 10000000) only [n1, n2, n3, rkA, rkB, stepA, valA, simprocAttr]
        have hr := wRoot_yes (a := a) (b := b) (mode := mode) (by unfold wRootOk; rw [ha, hb, hm', h3]; simp)
        have n1 : (a != 0) = true := by simpa using h1
        have n2 : (b != 0) = true := by simpa using h2
        have n3 : (!(decide (a < 0) == decide (b < 0))) = false := h3
        simp -implicitDefEqProofs (maxSteps := 10000000) only [n1, n2, n3, rkA, rkB, stepA, valA, simprocAttr]
        clear h1 h2 h3 n1 n2 n3
        rotate_left
        have hr := wRoot_yes (a := a) (b := b) (mode := mode) (by unfold wRootOk; rw [ha, hb, hm', decide_eq_false (p := a ≠ 0) (by simpa using h1)]; rfl)
        have n1 : (a != 0) = false := by simpa using h1
        simp -implicitDefEqProofs (maxSteps := 10000000) only [n1, rkA, rkB, stepA, valA, simprocAttr]
        clear h1 n1
        rotate_left
        have hr := wRoot_yes (a := a) (b := b) (mode := mode) (by unfold wRootOk; rw [ha, hb, hm', decide_eq_false (p := b ≠ 0) (by simpa using h2)]; simp)
        have n1 : (a != 0) = true := by simpa using h1
        have n2 : (b != 0) = false := by simpa using h2
        simp -implicitDefEqProofs (maxSteps := 10000000) only [n1, n2, rkA, rkB, stepA, valA, simprocAttr]
        clear h1 h2 n1 n2
        all_goals
          rw [hr]
          clear hr
          refine call_fn rfl rfl rfl (ok180 a ha) ?_
          simp -implicitDefEqProofs (maxSteps := 10000000) only [rkA, rkB, stepA, valA, simprocAttr]
          refine call_fn rfl rfl rfl (ok180 b hb) ?_
          simp -implicitDefEqProofs (maxSteps := 10000000) only [rkA, rkB, stepA, valA, simprocAttr]
          refine call_fn rfl rfl rfl (ok179 a.natAbs b.natAbs (by omega) (by omega)) ?_
          simp -implicitDefEqProofs (maxSteps := 10000000) only [rkA, rkB, stepA, valA, simprocAttr]
          generalize a.natAbs * b.natAbs = p at *
          have hp2 : p < 2 ^ 63 * 2 ^ 63 := by omega
          refine wp_loop (fun m s => ∃ j : Nat, j + m = 63 ∧ s = ⟨[jk, jk, .v (num mode), jk, jk, jk, jk, jk, .ptr 8 0, ut (rtB p 63 j), jk, jk, jk, jk, jk, jk, jk, jk, jk, jk, jk, jk, jk, jk, jk, jk, jk, jk, jk, jk, jk, jk, jk, jk, jk, jk, jk, jk, jk, jk, jk, jk, jk, jk, jk, jk, jk, nt j, jk, jk, jk, jk, jk, jk, jk, jk, jk, jk, jk, jk, jk, jk, jk, jk, jk, jk, jk, jk, jk, jk, jk, jk, jk, jk, jk, jk, jk, jk, jk, jk, jk, jk, jk, jk, jk, jk, jk, jk, jk, jk, jk],
            [(8, [ut (p / 18446744073709551616), ut (p % 18446744073709551616)])], [], [], [], 0, nomem⟩) 63 ?_ ?_
          · simp -implicitDefEqProofs (maxSteps := 10000000) only [rkA, rkB, stepA, valA, simprocAttr]
            exact ⟨0, rfl, rfl⟩
          rintro m s ⟨j, hj, rfl⟩
          simp -implicitDefEqProofs (maxSteps := 10000000) only [rkA, rkB, stepA, valA, simprocAttr]
          refine gB_dec ?_ ?_ <;> intro hc <;> simp -implicitDefEqProofs (maxSteps := 10000000) only [hc, rkA, rkB, stepA, valA, simprocAttr]
          · obtain ⟨q, hq, hq2⟩ := rtB_step hp2 (show j < 63 by omega)
            obtain ⟨t, ht⟩ : ∃ t, 63 - j = t + 1 := ⟨62 - j, by omega⟩
            have ht2 : 63 - 1 - j = t := by omega
            have hti : (62 : Int) - (j : Int) = ((t : Nat) : Int) := by omega
            have h0t : (0 : Int) ≤ ((t : Nat) : Int) := by omega
            have hwt := wrapped (x := ((t : Nat) : Int)) (by omega) (by omega)
            have hshl := shlN 1 (k := t) (by omega)
            rw [ht] at hq hq2
            have hpt : 2 ^ t < 2 ^ (t + 1) := Nat.pow_lt_pow_right (by omega) (by omega)
            have hpt2 : 2 ^ (t + 1) ≤ 2 ^ 63 := Nat.pow_le_pow_right (by omega) (by omega)
            have hor := orN (a := q) (b := 2 ^ t) (k := t + 1) hpt (by rw [← hq]; omega)
            rw [← hq] at hor
            rw [Nat.one_mul, Nat.mod_eq_of_lt (by omega)] at hshl
            have e1 : ((1 : Nat) : Int) = 1 := rfl
            rw [e1] at hshl
            have hx : rtB p 63 j + 2 ^ t < 18446744073709551616 := by omega
            simp -implicitDefEqProofs (maxSteps := 10000000) only [hti, h0t, hwt, Int.toNat_natCast, hshl, hor, rkA, rkB, stepA, valA, simprocAttr]
            refine call_fn rfl rfl rfl (ok179 (rtB p 63 j + 2 ^ t) (rtB p 63 j + 2 ^ t) hx hx) ?_
            simp -implicitDefEqProofs (maxSteps := 10000000) only [rkA, rkB, stepA, valA, simprocAttr]
            refine call_fn rfl rfl rfl (ok183 p ((rtB p 63 j + 2 ^ t) * (rtB p 63 j + 2 ^ t))) ?_
            have hstep : rtB p 63 (j + 1) = if (rtB p 63 j + 2 ^ t) * (rtB p 63 j + 2 ^ t) ≤ p then rtB p 63 j + 2 ^ t else rtB p 63 j := by rw [rtB, ht2]
            have hw2 := wrapped (x := (j : Int) + 1) (by omega) (by omega)
            by_cases hlt : p < (rtB p 63 j + 2 ^ t) * (rtB p 63 j + 2 ^ t)
            · rw [if_neg (by omega)] at hstep
              simp -implicitDefEqProofs (maxSteps := 10000000) only [hlt, hw2, rkA, rkB, stepA, valA, simprocAttr]
              refine loopK_of (m' := m - 1) (by omega) ?_
              simp -implicitDefEqProofs (maxSteps := 10000000) only [rkA, rkB, stepA, valA, simprocAttr]
              exact ⟨j + 1, by omega, by rw [hstep, show ((j + 1 : Nat) : Int) = (j : Int) + 1 from rfl]⟩
            · rw [if_pos (by omega)] at hstep
              simp -implicitDefEqProofs (maxSteps := 10000000) only [hlt, hw2, rkA, rkB, stepA, valA, simprocAttr]
              refine loopK_of (m' := m - 1) (by omega) ?_
              simp -implicitDefEqProofs (maxSteps := 10000000) only [rkA, rkB, stepA, valA, simprocAttr]
              exact ⟨j + 1, by omega, by rw [hstep, show ((j + 1 : Nat) : Int) = (j : Int) + 1 from rfl]⟩
          · have hj' : j = 63 := by omega
            subst hj'
            obtain ⟨f1, f2, f3⟩ := rtW_spec hp
            have er : rtB p 63 63 = rtW p := by unfold rtW; rfl
            rw [er]
            clear er hp2
            unfold wRootN upW
            generalize rtW p = r at *
            have h64 : r < 18446744073709551616 := by omega
            have h65 : r + 1 < 18446744073709551616 := by omega
            have hw1 := wrapN (n := r + 1) h65
            have ea : ((r : Nat) : Int) + 1 = ((r + 1 : Nat) : Int) := by simp
            refine call_fn rfl rfl rfl (ok179 (r) (r) h64 h64) ?_
            simp -implicitDefEqProofs (maxSteps := 10000000) only [eq_prW, ea, hw1, rkA, rkB, stepA, valA, simprocAttr]
            refine call_fn rfl rfl rfl (ok179 (r) (r + 1) h64 h65) ?_
            simp -implicitDefEqProofs (maxSteps := 10000000) only [rkA, rkB, stepA, valA, simprocAttr]
            refine call_fn rfl rfl rfl (ok183 (r * (r + 1)) p) ?_
            simp -implicitDefEqProofs (maxSteps := 10000000) only [rkA, rkB, stepA, valA, simprocAttr]
            have hwi : IntKind.wrap .i64 ((r : Nat) : Int) = ((r : Nat) : Int) := wrapped (by omega) (by omega)
            have hwi2 : IntKind.wrap .i64 ((r + 1 : Nat) : Int) = ((r + 1 : Nat) : Int) := wrapped (by omega) (by omega)
            by_cases q1 : r * r = p
            · have d1 : decide (r * r = p) = true := decide_eq_true q1
              have d2 : decide (r * r ≠ p) = false := decide_eq_false (by simpa using q1)
              simp -implicitDefEqProofs (maxSteps := 10000000) only [d1, d2, hwi, rkA, rkB, stepA, valA, simprocAttr]
            · have d1 : decide (r * r = p) = false := decide_eq_false q1
              have d2 : decide (r * r ≠ p) = true := decide_eq_true q1
              have m2 : (mode == 2) = decide (mode = 2) := by by_cases h : mode = 2 <;> simp [h]
              have m0 : (mode == 0) = decide (mode = 0) := by by_cases h : mode = 0 <;> simp [h]
              by_cases q2 : mode = 2
              · have d3 : decide (mode = 2) = true := decide_eq_true q2
                simp -implicitDefEqProofs (maxSteps := 10000000) only [d1, d2, d3, m2, rkA, rkB, stepA, valA, simprocAttr]
                simp -implicitDefEqProofs (maxSteps := 10000000) only [ea, hw1, hwi2, rkA, rkB, stepA, valA, simprocAttr]
              · have d3 : decide (mode = 2) = false := decide_eq_false q2
                by_cases q3 : mode = 0
                · have d4 : decide (mode = 0) = true := decide_eq_true q3
                  by_cases q4 : r * (r + 1) < p
                  · have d5 : decide (r * (r + 1) < p) = true := decide_eq_true q4
                    simp -implicitDefEqProofs (maxSteps := 10000000) only [d1, d2, d3, d4, d5, m2, m0, rkA, rkB, stepA, valA, simprocAttr]
                    simp -implicitDefEqProofs (maxSteps := 10000000) only [ea, hw1, hwi2, rkA, rkB, stepA, valA, simprocAttr]
                  · have d5 : decide (r * (r + 1) < p) = false := decide_eq_false q4
                    simp -implicitDefEqProofs (maxSteps := 10000000) only [d1, d2, d3, d4, d5, m2, m0, hwi, rkA, rkB, stepA, valA, simprocAttr]
                · have d4 : decide (mode = 0) = false := decide_eq_false q3
                  simp -implicitDefEqProofs (maxSteps := 10000000) only [d1, d2, d3, d4, m2, m0, hwi, rkA, rkB, stepA, valA, simprocAttr]
      · have hm' : decide (0 ≤ mode ∧ mode ≤ 2) = false := decide_eq_false hm
        rw [wRoot_no (by unfold wRootOk; rw [ha, hb, hm']; rfl)]
        simp -implicitDefEqProofs (maxSteps := 10000000) only [hm', rkA, rkB, stepA, valA, simprocAttr]
end Go.Proofs.YtambpjbpdackfaaGreat.A



set_option linter.unusedVariables false
set_option linter.unusedSimpArgs false
set_option maxRecDepth 100000
namespace Go.Proofs.YtambpjbpdackfaaGreat.A
open Go Go.RowKit Go.Shelf

/-! ### The reference's numbers of two words: products, sizes -/
theorem ok212 (a b : Nat) (ha : a < 9223372036854775808) (hb : b < 9223372036854775808) : Ok Tryz.prog 212 [num a, num b] (.sl false (nb (a * b))) := by
  refine ok_fn mixed Tryz.func212 (code := ?_) (h := h212) ?_ k212 ?_
  rotate_left
  · exact rfl
  unfold h212 initS
  simp -implicitDefEqProofs (maxSteps := 10000000) only [rkA, rkB, stepA, valA, simprocAttr, Tryz.ntmps212, Tryz.results212]
  have h0 := ok224 0 (by omega)
  refine call_fn rfl rfl rfl (h0) ?_
  simp -implicitDefEqProofs (maxSteps := 10000000) only [rkA, rkB, stepA, valA, simprocAttr]
  refine call_fn rfl rfl rfl (ok224 a ha) ?_
  simp -implicitDefEqProofs (maxSteps := 10000000) only [rkA, rkB, stepA, valA, simprocAttr]
  refine call_fn rfl rfl rfl (ok224 b hb) ?_
  simp -implicitDefEqProofs (maxSteps := 10000000) only [rkA, rkB, stepA, valA, simprocAttr]
  refine wp_loop (fun m s => ∃ i : Nat, i + m = 63 ∧ s = ⟨[jk, jk, jk, jk, jk, .v (.sl false (nb (a * (b % 2 ^ i)))), .v (.sl false (nb (a * 2 ^ i))), .v (.sl false (nb b)), nt i, jk, jk, jk, jk, jk, jk, jk, jk, jk, jk, jk, jk, jk, jk, jk, jk, jk, jk, jk, jk], [], [], [(4, 0)], [], 0, nomem⟩) 63 ?_ ?_
  · simp -implicitDefEqProofs (maxSteps := 10000000) only [rkA, rkB, stepA, valA, simprocAttr]
    exact ⟨0, by omega, by simp [Nat.mod_one]⟩
  rintro m s ⟨i, hi, rfl⟩
  simp -implicitDefEqProofs (maxSteps := 10000000) only [rkA, rkB, stepA, valA, simprocAttr]
  refine gB_dec ?_ ?_ <;> intro hc <;> simp -implicitDefEqProofs (maxSteps := 10000000) only [hc, rkA, rkB, stepA, valA, simprocAttr]
  · have h0i := nat0 i
    have gb := nb_get (x := b) (k := i) (by omega)
    have hw := wrapped (x := (i : Int) + 1) (by omega) (by omega)
    have hmod := mod_bit b i
    have hup : 2 * (a * 2 ^ i) + 0 = a * 2 ^ (i + 1) := by rw [Nat.pow_succ, Nat.add_zero, Nat.mul_comm, Nat.mul_assoc]
    have h62 := ok226 false (a * 2 ^ i) 0 (by omega)
    rw [hup] at h62
    simp -implicitDefEqProofs (maxSteps := 10000000) only [h0i, Int.toNat_natCast, gb, rkA, rkB, stepA, valA, simprocAttr]
    rcases bitN_cases b i with e | e
    · have hne : ((bitN b i : Int) == 1) = false := by rw [e]; rfl
      rw [e, Nat.mul_zero, Nat.add_zero (b % 2 ^ i)] at hmod
      simp -implicitDefEqProofs (maxSteps := 10000000) only [hne, rkA, rkB, stepA, valA, simprocAttr]
      refine call_fn rfl rfl rfl (h62) ?_
      simp -implicitDefEqProofs (maxSteps := 10000000) only [hw, rkA, rkB, stepA, valA, simprocAttr]
      refine loopK_of (m' := m - 1) (by omega) ?_
      simp -implicitDefEqProofs (maxSteps := 10000000) only [rkA, rkB, stepA, valA, simprocAttr]
      exact ⟨i + 1, by omega, by rw [hmod]; simp only [Int.natCast_add, Int.natCast_one]⟩
    · have hne : ((bitN b i : Int) == 1) = true := by rw [e]; rfl
      rw [e, Nat.mul_one] at hmod
      have hs : a * (b % 2 ^ i) + a * 2 ^ i = a * (b % 2 ^ (i + 1)) := by rw [hmod, Nat.mul_add]
      have h61 := ok225 false false (a * (b % 2 ^ i)) (a * 2 ^ i)
      rw [hs] at h61
      simp -implicitDefEqProofs (maxSteps := 10000000) only [hne, rkA, rkB, stepA, valA, simprocAttr]
      refine call_fn rfl rfl rfl (h61) ?_
      simp -implicitDefEqProofs (maxSteps := 10000000) only [rkA, rkB, stepA, valA, simprocAttr]
      refine call_fn rfl rfl rfl (h62) ?_
      simp -implicitDefEqProofs (maxSteps := 10000000) only [hw, rkA, rkB, stepA, valA, simprocAttr]
      refine loopK_of (m' := m - 1) (by omega) ?_
      simp -implicitDefEqProofs (maxSteps := 10000000) only [rkA, rkB, stepA, valA, simprocAttr]
      exact ⟨i + 1, by omega, by simp only [Int.natCast_add, Int.natCast_one]⟩
  · have : i = 63 := by omega
    subst this
    rw [Nat.mod_eq_of_lt (by omega)]
theorem ok230 (n : Int) : Ok Tryz.prog 230 [num n] (tru (rightW n)) := by
  refine ok_fn mixed Tryz.func230 (code := ?_) (h := h230) ?_ k230 ?_
  rotate_left
  · exact rfl
  unfold h230 initS
  simp -implicitDefEqProofs (maxSteps := 10000000) only [rkA, rkB, stepA, valA, simprocAttr, Tryz.ntmps230, Tryz.results230]
  unfold rightW
  by_cases h1 : n ≥ -4611686018427387903
  · simp -implicitDefEqProofs (maxSteps := 10000000) only [h1, rkA, rkB, stepA, valA, simprocAttr]
  · simp -implicitDefEqProofs (maxSteps := 10000000) only [h1, rkA, rkB, stepA, valA, simprocAttr]
theorem ok231 (n : Int) (h : -9223372036854775807 ≤ n) (h' : n ≤ 9223372036854775807) : Ok Tryz.prog 231 [num n] (num n.natAbs) := by
  refine ok_fn mixed Tryz.func231 (code := ?_) (h := h231) ?_ k231 ?_
  rotate_left
  · exact rfl
  unfold h231 initS
  simp -implicitDefEqProofs (maxSteps := 10000000) only [rkA, rkB, stepA, valA, simprocAttr, Tryz.ntmps231, Tryz.results231]
  have hw := wrapped (x := 0 - n) (by omega) (by omega)
  refine gB_dec ?_ ?_ <;> intro hc <;> simp -implicitDefEqProofs (maxSteps := 10000000) only [hc, hw, rkA, rkB, stepA, valA, simprocAttr]
  · have : (0 : Int) - n = (n.natAbs : Int) := by omega
    rw [this]
  · have : n = (n.natAbs : Int) := by omega
    rw [← this]
/-- A row as a number. -/
theorem ok233 (e : Bool) (x : Nat) (hx : x < 2 ^ 62) : Ok Tryz.prog 233 [.sl e (nb x)] (.tup [num x, tru true]) := by
  refine ok_fn mixed Tryz.func233 (code := ?_) (h := h233) ?_ k233 ?_
  rotate_left
  · exact rfl
  unfold h233 initS
  simp -implicitDefEqProofs (maxSteps := 10000000) only [rkA, rkB, stepA, valA, simprocAttr, Tryz.ntmps233, Tryz.results233]
  refine wp_loop (fun m s => ∃ i : Nat, i + m = 130 ∧ s = ⟨[.v (.sl e (nb x)), jk, jk, jk, nt (x / 2 ^ m : Nat), nt ((m : Int) - 1), jk, jk, jk, jk, jk, jk, jk, jk, jk, jk, jk, jk, jk, jk, jk, jk, jk, jk, jk, jk, jk, jk, jk], [], [], [], [], 0, nomem⟩) 130 ?_ ?_
  · simp -implicitDefEqProofs (maxSteps := 10000000) only [rkA, rkB, stepA, valA, simprocAttr]
    exact ⟨0, by omega, by rw [Nat.div_eq_of_lt (Nat.lt_trans hx (by decide))]; rfl⟩
  rintro m s ⟨i, hm, rfl⟩
  simp -implicitDefEqProofs (maxSteps := 10000000) only [rkA, rkB, stepA, valA, simprocAttr]
  refine gB_dec ?_ ?_ <;> intro hc <;> simp -implicitDefEqProofs (maxSteps := 10000000) only [hc, rkA, rkB, stepA, valA, simprocAttr]
  · obtain ⟨k, rfl⟩ : ∃ k, m = k + 1 := ⟨m - 1, by omega⟩
    have ek : ((k + 1 : Nat) : Int) - 1 = (k : Int) := by omega
    have g := nb_get (x := x) (k := k) (by omega)
    have h0 := nat0 k
    have hw := wrapped (x := (k : Int) - 1) (by omega) (by omega)
    have hb := half_bit x k
    simp -implicitDefEqProofs (maxSteps := 10000000) only [ek, h0, Int.toNat_natCast, g, rkA, rkB, stepA, valA, simprocAttr]
    by_cases h62 : 62 ≤ k
    · have g62 : (k : Int) ≥ 62 := by omega
      have g62' : ¬ (k : Int) < 62 := by omega
      have e1 := bits_big hx (k := k) h62
      have z1 : x / 2 ^ k = 0 := Nat.div_eq_of_lt (Nat.lt_of_lt_of_le hx (Nat.pow_le_pow_right (by omega) h62))
      have z2 : x / 2 ^ (k + 1) = 0 := Nat.div_eq_of_lt (Nat.lt_of_lt_of_le hx (Nat.pow_le_pow_right (by omega) (by omega)))
      have hne : ((bitN x k : Int) == 1) = false := by rw [e1]; rfl
      simp -implicitDefEqProofs (maxSteps := 10000000) only [hne, g62', hw, rkA, rkB, stepA, valA, simprocAttr]
      refine loopK_of (m' := k) (by omega) ?_
      simp -implicitDefEqProofs (maxSteps := 10000000) only [rkA, rkB, stepA, valA, simprocAttr]
      exact ⟨i + 1, by omega, by rw [z1, z2]⟩
    · have g62 : ¬ (k : Int) ≥ 62 := by omega
      have g62' : (k : Int) < 62 := by omega
      have hle : x / 2 ^ k ≤ x := Nat.div_le_self _ _
      have w1 : IntKind.wrap .i64 (((x / 2 ^ (k + 1) : Nat) : Int) * 2) = ((2 * (x / 2 ^ (k + 1)) : Nat) : Int) := by rw [wrapped (by omega) (by omega)]; omega
      have w2 : IntKind.wrap .i64 (((2 * (x / 2 ^ (k + 1)) : Nat) : Int) + (bitN x k : Int)) = ((x / 2 ^ k : Nat) : Int) := by rw [wrapped (by omega) (by omega)]; omega
      rcases bitN_cases x k with e1 | e1
      · have hne : ((bitN x k : Int) == 1) = false := by rw [e1]; rfl
        simp -implicitDefEqProofs (maxSteps := 10000000) only [hne, g62, g62', w1, h0, Int.toNat_natCast, g, w2, hw, rkA, rkB, stepA, valA, simprocAttr]
        refine loopK_of (m' := k) (by omega) ?_
        simp -implicitDefEqProofs (maxSteps := 10000000) only [rkA, rkB, stepA, valA, simprocAttr]
        exact ⟨i + 1, by omega⟩
      · have hne : ((bitN x k : Int) == 1) = true := by rw [e1]; rfl
        simp -implicitDefEqProofs (maxSteps := 10000000) only [hne, g62, g62', w1, h0, Int.toNat_natCast, g, w2, hw, rkA, rkB, stepA, valA, simprocAttr]
        refine loopK_of (m' := k) (by omega) ?_
        simp -implicitDefEqProofs (maxSteps := 10000000) only [rkA, rkB, stepA, valA, simprocAttr]
        exact ⟨i + 1, by omega⟩
  · have : m = 0 := by omega
    subst this
    simp only [Nat.pow_zero, Nat.div_one]
theorem ok233n (e : Bool) (x : Nat) (hx : x < 2 ^ 130) (hbig : 2 ^ 62 ≤ x) : Ok Tryz.prog 233 [.sl e (nb x)] (.tup [num 0, tru false]) := by
  refine ok_fn mixed Tryz.func233 (code := ?_) (h := h233) ?_ k233 ?_
  rotate_left
  · exact rfl
  unfold h233 initS
  simp -implicitDefEqProofs (maxSteps := 10000000) only [rkA, rkB, stepA, valA, simprocAttr, Tryz.ntmps233, Tryz.results233]
  refine wp_loop (fun m s => ∃ i : Nat, i + m = 130 ∧ 62 < m ∧ x / 2 ^ m = 0 ∧ s = ⟨[.v (.sl e (nb x)), jk, jk, jk, nt 0, nt ((m : Int) - 1), jk, jk, jk, jk, jk, jk, jk, jk, jk, jk, jk, jk, jk, jk, jk, jk, jk, jk, jk, jk, jk, jk, jk], [], [], [], [], 0, nomem⟩) 130 ?_ ?_
  · simp -implicitDefEqProofs (maxSteps := 10000000) only [rkA, rkB, stepA, valA, simprocAttr]
    exact ⟨0, by omega, Nat.div_eq_of_lt hx⟩
  rintro m s ⟨i, hm, h62, hz, rfl⟩
  obtain ⟨k, rfl⟩ : ∃ k, m = k + 1 := ⟨m - 1, by omega⟩
  have ek : ((k + 1 : Nat) : Int) - 1 = (k : Int) := by omega
  have g := nb_get (x := x) (k := k) (by omega)
  have h0 := nat0 k
  have h0' : (k : Int) ≥ 0 := h0
  have hw := wrapped (x := (k : Int) - 1) (by omega) (by omega)
  have hb := half_bit x k
  have g62 : (k : Int) ≥ 62 := by omega
  have g62' : ¬ (k : Int) < 62 := by omega
  simp -implicitDefEqProofs (maxSteps := 10000000) only [ek, h0, h0', Int.toNat_natCast, g, rkA, rkB, stepA, valA, simprocAttr]
  rcases bitN_cases x k with e1 | e1
  · have hne : ((bitN x k : Int) == 1) = false := by rw [e1]; rfl
    rw [hz, e1] at hb
    have hk : k ≠ 62 := by
      intro h
      subst h
      have : 2 ^ 62 / 2 ^ 62 ≤ x / 2 ^ 62 := Nat.div_le_div_right hbig
      rw [Nat.div_self (by decide)] at this
      omega
    simp -implicitDefEqProofs (maxSteps := 10000000) only [hne, g62', hw, rkA, rkB, stepA, valA, simprocAttr]
    refine loopK_of (m' := k) (by omega) ?_
    simp -implicitDefEqProofs (maxSteps := 10000000) only [rkA, rkB, stepA, valA, simprocAttr]
    exact ⟨i + 1, by omega, by omega, by omega⟩
  · have hne : ((bitN x k : Int) == 1) = true := by rw [e1]; rfl
    simp -implicitDefEqProofs (maxSteps := 10000000) only [hne, g62, rkA, rkB, stepA, valA, simprocAttr]
end Go.Proofs.YtambpjbpdackfaaGreat.A


/- What holds behind code holds with less said, too ('wpA_mono'); two branches that are gone on with as one ('cond_join'). -/
set_option linter.unusedVariables false
set_option linter.unusedSimpArgs false
namespace Go.Proofs.YtambpjbpdackfaaGreat.A
open Go Go.RowKit

section
variable {P : Program} {its : Option (Nat × List Item)}
theorem jcallA_mono {s : St} {d : Option Nat} {c : Call} {K K' : St → Prop} (h : ∀ s, K s → K' s) (hc : callA P its s d c K) : callA P its s d c K' := by
  unfold callA at hc ⊢
  split at hc
  · exact hc
  · split at hc
    · obtain ⟨r, h1, h2⟩ := hc
      exact ⟨r, h1, h _ h2⟩
    · split at hc
      · obtain ⟨h1, h2, h3, h4, h5, h6⟩ := hc
        exact ⟨h1, h2, h3, h4, h _ h5, h _ h6⟩
      · exact hc
    · exact hc
  · split at hc
    · obtain ⟨f, r, h1, h2, h3⟩ := hc
      exact ⟨f, r, h1, h2, h _ h3⟩
    · exact hc
theorem jexecM_mono {s : St} {o : AO} {K K' : St → Prop} (h : ∀ s, K s → K' s) (hc : execM P s o K) : execM P s o K' := by
  unfold execM at hc ⊢
  split at hc
  · unfold lendA at hc ⊢
    split at hc
    · split at hc
      · obtain ⟨l, r, h1, h2, h3, h4⟩ := hc
        exact ⟨l, r, h1, h2, h3, h _ h4⟩
      · exact hc
    · exact hc
  · unfold memA at hc ⊢
    split at hc
    · split at hc
      · obtain ⟨R, h1, h2⟩ := hc
        exact ⟨R, h1, fun r m' hr => h _ (h2 r m' hr)⟩
      · exact hc
    · exact hc
  · unfold newA at hc ⊢
    split at hc
    · exact fun c hn => h _ (hc c hn)
    · split at hc
      · exact ⟨hc.1, fun c hn => h _ (hc.2 c hn)⟩
      · exact hc
    · split at hc
      · obtain ⟨h1, h2, h3, h4, h5⟩ := hc
        exact ⟨h1, h2, h3, h4, fun c hn => h _ (h5 c hn)⟩
      · exact hc
    · exact hc
  · unfold appMA at hc ⊢
    split at hc
    · split at hc
      · obtain ⟨ys, s', h1, h2, h3, h4⟩ := hc
        exact ⟨ys, s', h1, h2, h3, h _ h4⟩
      · exact hc
    · exact hc
  · unfold copyA at hc ⊢
    split at hc
    · split at hc
      · obtain ⟨ys, cells, h1, h2, h3, h4, h5, h6, h7⟩ := hc
        exact ⟨ys, cells, h1, h2, h3, h4, h5, h6, h _ h7⟩
      · exact hc
    · exact hc
  · unfold lendNewA at hc ⊢
    split at hc
    · split at hc
      · obtain ⟨l, R, h1, h2, h3, h4⟩ := hc
        exact ⟨l, R, h1, h2, h3, fun r m' hr hf => h _ (h4 r m' hr hf)⟩
      · exact hc
    · exact hc
  · unfold appInA at hc ⊢
    split at hc
    · split at hc
      · obtain ⟨ys, cells, h1, h2, h3, h4, h5, h6, h7⟩ := hc
        exact ⟨ys, cells, h1, h2, h3, h4, h5, h6, h _ h7⟩
      · exact hc
    · exact hc
  · unfold growA at hc ⊢
    split at hc
    · split at hc
      · obtain ⟨els, ys, h1, h2, h3, h4, h5, h6, h7⟩ := hc
        exact ⟨els, ys, h1, h2, h3, h4, h5, fun e => h _ (h6 e), fun e c cap k hn h8 h9 => h _ (h7 e c cap k hn h8 h9)⟩
      · exact hc
    · exact hc
  · exact hc
theorem jexecB_mono {s : St} {o : AO} {K K' : St → Prop} (h : ∀ s, K s → K' s) (hc : execB P its s o K) : execB P its s o K' := by
  unfold execB at hc ⊢
  split at hc
  · split at hc
    · obtain ⟨s', h1, h2⟩ := hc
      exact ⟨s', h1, h _ h2⟩
    · exact jcallA_mono h hc
  · obtain ⟨s', h1, h2⟩ := hc
    exact ⟨s', h1, h _ h2⟩
theorem jexecA_mono {s : St} {o : AO} {K K' : St → Prop} (h : ∀ s, K s → K' s) (hc : execA P its s o K) : execA P its s o K' := by
  unfold execA at hc ⊢
  split at hc
  · split at hc
    · unfold nilA at hc ⊢
      split at hc
      · exact fun b hb => h _ (hc b hb)
      · exact h _ hc
      · exact hc
    · exact jexecB_mono h hc
  · exact jexecM_mono h hc
theorem wpOp_mono {s : St} {all : List AO} {o : AO} {K K' : St → Prop} (h : ∀ s, K s → K' s) (hc : wpOp P its all o s K) : wpOp P its all o s K' := by
  unfold wpOp at hc ⊢
  split at hc
  · exact jexecA_mono h hc
  · split at hc
    · split at hc
      · rename_i e
        rw [if_pos e]
        exact jexecA_mono h hc
      · rename_i e
        rw [if_neg e]
        exact h _ hc
    · exact h _ hc
    · exact hc
theorem wpOpsA_mono {all : List AO} {K K' : St → Prop} (h : ∀ s, K s → K' s) : ∀ (l : List AO) {s : St}, wpOpsA P its all l s K → wpOpsA P its all l s K'
  | [], _, hc => h _ hc
  | _ :: os, _, hc => wpOp_mono (fun _ h1 => wpOpsA_mono h os h1) hc
theorem wpOpsC_mono {pa : List (Nat × Nat)} {all : List AO} {K K' : St → Prop} (h : ∀ s, K s → K' s) : ∀ (l : List AO) {s : St}, wpOpsC P pa all l s K → wpOpsC P pa all l s K'
  | [], _, hc => h _ hc
  | _ :: os, _, hc => wpOp_mono (fun _ h1 => ⟨h1.1, wpOpsC_mono h os h1.2⟩) hc
theorem Rounds_mono {g : List Gh} {ps : List Nat} {run run' : (XA → St → Prop) → St → Prop} {Q Q' : XA → St → Prop} (hr : ∀ {R R' : XA → St → Prop}, (∀ e s, R e s → R' e s) → ∀ {s}, run R s → run' R' s) (h : ∀ e s, Q e s → Q' e s) :
    ∀ (l : List Item) {s : St}, Rounds g ps run Q l s → Rounds g ps run' Q' l s
  | [], _, hc => h _ _ hc
  | x :: xs, _, hc => fun p m hx hm => ⟨(hc p m hx hm).1, hr (fun e s' h1 => by
      cases e with
      | normal => obtain ⟨s1, h2, h3⟩ := h1; exact ⟨s1, h2, Rounds_mono hr h xs h3⟩
      | ret => exact h _ _ h1
      | exit id => exact h _ _ h1) (hc p m hx hm).2⟩
theorem wpA_mono : ∀ {its : Option (Nat × List Item)} (x : AC) {Q Q' : XA → St → Prop} (h : ∀ e s, Q e s → Q' e s) {s : St}, wpA P its x Q s → wpA P its x Q' s
  | _, .skip, _, _, h, _, hc => h _ _ hc
  | _, .reg d y ops, _, _, h, _, hc => wpOpsA_mono (fun s hs => h _ s hs) ops hc
  | _, .seq x y, _, _, h, _, hc => wpA_mono x (fun e s' h1 => by
      cases e with
      | normal => exact wpA_mono y h h1
      | ret => exact h _ _ h1
      | exit id => exact h _ _ h1) hc
  | _, .cond c x y, _, _, h, s, hc => by
      unfold wpA at hc ⊢
      split at hc
      · split at hc
        · rename_i e; rw [if_pos e]; exact wpA_mono x h hc
        · rename_i e; rw [if_neg e]; exact wpA_mono y h hc
      · exact hc
  | _, .block id x, _, _, h, _, hc => wpA_mono x (fun e s' h1 => by
      cases e with
      | normal => exact h _ _ h1
      | ret => exact h _ _ h1
      | exit j =>
        show if j = id then _ else _
        have h1 : if j = id then _ else _ := h1
        split at h1
        · rename_i e; rw [if_pos e]; exact h _ _ h1
        · rename_i e; rw [if_neg e]; exact h _ _ h1) hc
  | _, .loop g x, _, _, h, _, hc => by
      obtain ⟨Inv, m, s0, h1, h2, h3⟩ := hc
      refine ⟨Inv, m, s0, h1, h2, fun m s hi => wpA_mono x (fun e s' h4 => ?_) (h3 m s hi)⟩
      cases e with
      | normal => exact h4
      | ret => exact h _ _ h4
      | exit id => exact h _ _ h4
  | _, .rf f ps g a b, _, _, h, _, hc => by
      obtain ⟨items, p, s1, h1, h2, h3, h4, h5⟩ := hc
      refine ⟨items, p, s1, h1, h2, h3, h4, Rounds_mono (run := fun Q' s' => wpA P none a (fun e s2 => match e with | .normal => wpA P none b Q' s2 | _ => False) s') (fun {R R'} hR {s} h6 => wpA_mono a (fun e s' h7 => ?_) h6) h items h5⟩
      cases e with
      | normal => exact wpA_mono b hR h7
      | ret => exact h7
      | exit id => exact h7
  | _, .exit id, _, _, h, _, hc => h _ _ hc
  | _, .ret, _, _, h, _, hc => h _ _ hc
  | _, .dead, _, _, _, _, hc => hc
  | _, .regd pa ops, _, _, h, _, hc => ⟨hc.1, wpOpsC_mono (fun s hs => h _ s hs) ops hc.2⟩
  | _, .regn ord ops, _, _, h, _, hc => wpOpsA_mono (fun s hs => h _ s hs) _ hc
  | _, .gh g x, _, _, h, _, hc => by
      obtain ⟨s1, h1, h2⟩ := hc
      exact ⟨s1, h1, wpA_mono x h h2⟩
/-- A state that is so but for some slots, which are what they are. -/
theorem slots_of {s : St} {G : (Nat → TV) → St} (h : s = G (fun k => (s.tm[k]?).getD (.v .junk))) : ∃ f, s = G f := ⟨_, h⟩
/-- Both branches come out normally, as J says; what is behind goes on from J. -/
theorem cond_join {b : Bool} {s : St} {h1 h2 : Hint} {c1 c2 : Code} {K : XA → St → Prop} (J : St → Prop) (hj : ∀ s', J s' → K .normal s')
    (t1 : b = true → wpA P its (acOf h1 c1) (fun e s' => e = .normal ∧ J s') s) (t2 : b = false → wpA P its (acOf h2 c2) (fun e s' => e = .normal ∧ J s') s) :
    gB (some (.v (.s (.bool b)))) s (wpK P its h1 c1 K) (wpK P its h2 c2 K) :=
  gB_bool (fun e => wpA_mono _ (fun e' s' h => by rw [h.1]; exact hj s' h.2) (t1 e)) (fun e => wpA_mono _ (fun e' s' h => by rw [h.1]; exact hj s' h.2) (t2 e))
/-- An operation under a guard: what is behind the region goes on from J. -/
theorem guard_join {b : Bool} {s : St} {d : Option Nat} {op : Op} {i : Inf} {all l : List AO} {K : St → Prop} (J : St → Prop) (hj : ∀ s', J s' → K s')
    (h : gB (some (.v (.s (.bool b)))) s (execK P its d op i (opsK P its all l J)) (junkK d (opsK P its all l J))) :
    gB (some (.v (.s (.bool b)))) s (execK P its d op i (opsK P its all l K)) (junkK d (opsK P its all l K)) := by
  cases b with
  | true => exact jexecA_mono (fun _ h1 => wpOpsA_mono hj l h1) h
  | false => exact wpOpsA_mono hj l h
end
end Go.Proofs.YtambpjbpdackfaaGreat.A



set_option linter.unusedVariables false
set_option linter.unusedSimpArgs false
set_option maxRecDepth 100000
namespace Go.Proofs.YtambpjbpdackfaaGreat.A
open Go Go.RowKit Go.Shelf

/-! ### The reference's product, divided -/
theorem md_no {a b c mode : Int} (h : mdOk a b c mode = false) : mdF a b c mode = (0, false) := by unfold mdF; rw [h]; rfl
theorem div_step {P d b : Nat} (hd : 0 < d) (hb : b < 2) : (2 * P + b) / d = 2 * (P / d) + (if 2 * (P % d) + b < d then 0 else 1) ∧ (2 * P + b) % d = if 2 * (P % d) + b < d then 2 * (P % d) + b else 2 * (P % d) + b - d := by
  have h1 := Nat.div_add_mod P d
  have h2 := Nat.mod_lt P hd
  generalize P / d = q at *
  generalize P % d = r at *
  by_cases h : 2 * r + b < d
  · rw [if_pos h, if_pos h]
    have e : 2 * P + b = (2 * r + b) + d * (2 * q) := by rw [← h1, Nat.mul_left_comm]; omega
    rw [e, Nat.add_mul_div_left _ _ hd, Nat.add_mul_mod_self_left, Nat.div_eq_of_lt h, Nat.mod_eq_of_lt h]
    omega
  · rw [if_neg h, if_neg h]
    have e : 2 * P + b = (2 * r + b - d) + d * (2 * q + 1) := by rw [← h1, Nat.mul_add d, Nat.mul_left_comm d, Nat.mul_one]; omega
    have h3 : 2 * r + b - d < d := by omega
    rw [e, Nat.add_mul_div_left _ _ hd, Nat.add_mul_mod_self_left, Nat.div_eq_of_lt h3, Nat.mod_eq_of_lt h3]
    omega
theorem neg_small {Q : Nat} (h : Q < 2 ^ 62) : IntKind.wrap .i64 (-(Q : Int)) = -(Q : Int) := wrapped (by omega) (by omega)
theorem md_fin {a b c mode : Int} {Q : Nat} (e : Bool) (hQ : Q < 2 ^ 130) (hN : mdN a b c mode = Q) (hok : mdOk a b c mode = decide (mdN a b c mode ≤ 4611686018427387903)) {G : Prop}
    (h1 : Q < 2 ^ 62 → mdF a b c mode = (if minus3 a b c = true then -(Q : Int) else (Q : Int), true) → G) (h2 : 2 ^ 62 ≤ Q → mdF a b c mode = (0, false) → G) : G := by
  rw [hN] at hok
  by_cases hq : Q < 2 ^ 62
  · refine h1 hq ?_
    unfold mdF
    rw [if_pos (by rw [hok]; exact decide_eq_true (by omega)), hN]
  · exact h2 (by omega) (md_no (by rw [hok]; exact decide_eq_false (by omega)))
set_option maxHeartbeats 8000000 in
theorem ok222 (a b c mode : Int) : Ok Tryz.prog 222 [num a, num b, num c, num mode] (.tup [num (mdF a b c mode).1, tru (mdF a b c mode).2]) := by
  refine ok_fn mixed Tryz.func222 (code := ?_) (h := h222) ?_ k222 ?_
  rotate_left
  · exact rfl
  unfold h222 initS
  simp -implicitDefEqProofs (maxSteps := 10000000) only [rkA, rkB, stepA, valA, simprocAttr, Tryz.ntmps222, Tryz.results222]
  refine call_fn rfl rfl rfl (ok230 a) ?_
  cases ha : rightW a with
  | false =>
    rw [md_no (by simp [mdOk, ha])]
    simp -implicitDefEqProofs (maxSteps := 10000000) only [rkA, rkB, stepA, valA, simprocAttr]
  | true =>
  simp -implicitDefEqProofs (maxSteps := 10000000) only [rkA, rkB, stepA, valA, simprocAttr]
  refine call_fn rfl rfl rfl (ok230 b) ?_
  cases hb : rightW b with
  | false =>
    rw [md_no (by simp [mdOk, hb])]
    simp -implicitDefEqProofs (maxSteps := 10000000) only [rkA, rkB, stepA, valA, simprocAttr]
  | true =>
  simp -implicitDefEqProofs (maxSteps := 10000000) only [rkA, rkB, stepA, valA, simprocAttr]
  refine call_fn rfl rfl rfl (ok230 c) ?_
  cases hc : rightW c with
  | false =>
    rw [md_no (by simp [mdOk, hc])]
    simp -implicitDefEqProofs (maxSteps := 10000000) only [rkA, rkB, stepA, valA, simprocAttr]
  | true =>
  by_cases c0 : c = 0
  · rw [md_no (by simp [mdOk, c0])]
    simp -implicitDefEqProofs (maxSteps := 10000000) only [c0, beq_self_eq_true, rkA, rkB, stepA, valA, simprocAttr]
  have c0' : (c == 0) = false := by simp [c0]
  by_cases hm : mode < 0
  · rw [md_no (by simp [mdOk]; omega)]
    simp -implicitDefEqProofs (maxSteps := 10000000) only [c0', hm, rkA, rkB, stepA, valA, simprocAttr]
  by_cases hm2 : mode > 2
  · rw [md_no (by simp [mdOk]; omega)]
    simp -implicitDefEqProofs (maxSteps := 10000000) only [c0', hm, hm2, rkA, rkB, stepA, valA, simprocAttr]
  have hok : mdOk a b c mode = decide (mdN a b c mode ≤ 4611686018427387903) := by
    have : decide (0 ≤ mode ∧ mode ≤ 2) = true := by simp; omega
    simp [mdOk, ha, hb, hc, c0, this]
  simp only [rightW, decide_eq_true_eq] at ha hb hc
  simp -implicitDefEqProofs (maxSteps := 10000000) only [c0', hm, hm2, rkA, rkB, stepA, valA, simprocAttr]
  refine call_fn rfl rfl rfl (ok231 a (by omega) (by omega)) ?_
  simp -implicitDefEqProofs (maxSteps := 10000000) only [rkA, rkB, stepA, valA, simprocAttr]
  refine call_fn rfl rfl rfl (ok231 b (by omega) (by omega)) ?_
  simp -implicitDefEqProofs (maxSteps := 10000000) only [rkA, rkB, stepA, valA, simprocAttr]
  refine call_fn rfl rfl rfl (ok212 a.natAbs b.natAbs (by omega) (by omega)) ?_
  simp -implicitDefEqProofs (maxSteps := 10000000) only [rkA, rkB, stepA, valA, simprocAttr]
  refine call_fn rfl rfl rfl (ok231 c (by omega) (by omega)) ?_
  simp -implicitDefEqProofs (maxSteps := 10000000) only [rkA, rkB, stepA, valA, simprocAttr]
  refine call_fn rfl rfl rfl (ok224 c.natAbs (by omega)) ?_
  simp -implicitDefEqProofs (maxSteps := 10000000) only [rkA, rkB, stepA, valA, simprocAttr]
  have z0 := ok224 0 (by omega)
  refine call_fn rfl rfl rfl (z0) ?_
  simp -implicitDefEqProofs (maxSteps := 10000000) only [rkA, rkB, stepA, valA, simprocAttr]
  refine call_fn rfl rfl rfl (z0) ?_
  simp -implicitDefEqProofs (maxSteps := 10000000) only [rkA, rkB, stepA, valA, simprocAttr]
  have hp : a.natAbs * b.natAbs ≤ 4611686018427387903 * 4611686018427387903 := Nat.mul_le_mul (by omega) (by omega)
  have hd : 0 < c.natAbs := by omega
  generalize hP : a.natAbs * b.natAbs = p at *
  generalize hD : c.natAbs = d at *
  have hp2 : p < 2 ^ 130 := by omega
  refine wp_loop (fun m s => ∃ i : Nat, i + m = 130 ∧ s = ⟨[.v (num a), .v (num b), .v (num c), .v (num mode), jk, jk, jk, jk, jk, jk, .v (.sl false (nb p)), .v (.sl false (nb d)), .v (.sl false (nb (p / 2 ^ m / d))), .v (.sl false (nb (p / 2 ^ m % d))), nt ((m : Int) - 1), jk, jk, jk, jk, jk, jk, jk, jk, jk, jk, jk, jk, jk, jk, jk, jk, jk, jk, jk, jk, jk, jk, jk, jk, jk, jk, jk, jk, jk, jk, jk, jk, jk, jk, jk, jk, jk, jk, jk, jk, jk, jk, jk, jk, jk, jk, jk, jk, jk, jk, jk, jk, jk, jk, jk, jk, jk, jk, jk, jk, jk, jk, jk, jk, jk, jk, jk, jk, jk, jk, jk, jk, jk, jk, jk, jk, jk, jk, jk, jk, jk, jk, jk, jk, jk, jk, jk, jk, jk, jk, jk, jk, jk, jk, jk, jk, jk, jk, jk, jk, jk, jk, jk, jk, jk, jk, jk, jk, jk, jk, jk, jk, jk, jk, jk, jk, jk, jk, jk, jk, jk, jk, jk, jk, jk, jk, jk, jk, jk, jk, jk, jk], [], [], [], [], 0, nomem⟩) 130 ?_ ?_
  · simp -implicitDefEqProofs (maxSteps := 10000000) only [rkA, rkB, stepA, valA, simprocAttr]
    have z : p / 2 ^ 130 = 0 := Nat.div_eq_of_lt hp2
    exact ⟨0, by omega, by rw [z, Nat.zero_div, Nat.zero_mod]⟩
  rintro m s ⟨i, him, rfl⟩
  simp -implicitDefEqProofs (maxSteps := 10000000) only [rkA, rkB, stepA, valA, simprocAttr]
  refine gB_dec ?_ ?_ <;> intro hc' <;> simp -implicitDefEqProofs (maxSteps := 10000000) only [hc', rkA, rkB, stepA, valA, simprocAttr]
  · obtain ⟨k, rfl⟩ : ∃ k, m = k + 1 := ⟨m - 1, by omega⟩
    have ek : ((k + 1 : Nat) : Int) - 1 = (k : Int) := by omega
    have g := nb_get (x := p) (k := k) (by omega)
    have h0 := nat0 k
    have hw := wrapped (x := (k : Int) - 1) (by omega) (by omega)
    have hb := half_bit p k
    have hlt := bitN_lt p k
    obtain ⟨s1, s2⟩ := div_step (P := p / 2 ^ (k + 1)) hd hlt
    rw [← hb] at s1 s2
    have hr := Nat.mod_lt (p / 2 ^ (k + 1)) hd
    simp -implicitDefEqProofs (maxSteps := 10000000) only [ek, h0, Int.toNat_natCast, g, rkA, rkB, stepA, valA, simprocAttr]
    refine call_fn rfl rfl rfl (ok226 false (p / 2 ^ (k + 1) % d) (bitN p k) hlt) ?_
    simp -implicitDefEqProofs (maxSteps := 10000000) only [rkA, rkB, stepA, valA, simprocAttr]
    refine call_fn rfl rfl rfl (ok211 false false (2 * (p / 2 ^ (k + 1) % d) + bitN p k) d (by omega) (by omega)) ?_
    by_cases hl : 2 * (p / 2 ^ (k + 1) % d) + bitN p k < d
    · have hl' : decide (2 * (p / 2 ^ (k + 1) % d) + bitN p k < d) = true := decide_eq_true hl
      rw [if_pos hl] at s1 s2
      simp -implicitDefEqProofs (maxSteps := 10000000) only [hl', rkA, rkB, stepA, valA, simprocAttr]
      have h62 := ok226 false (p / 2 ^ (k + 1) / d) 0 (by omega)
      rw [← s1] at h62
      refine call_fn rfl rfl rfl (h62) ?_
      simp -implicitDefEqProofs (maxSteps := 10000000) only [hw, rkA, rkB, stepA, valA, simprocAttr]
      refine loopK_of (m' := k) (by omega) ?_
      simp -implicitDefEqProofs (maxSteps := 10000000) only [rkA, rkB, stepA, valA, simprocAttr]
      exact ⟨i + 1, by omega, by rw [s2]⟩
    · have hl' : decide (2 * (p / 2 ^ (k + 1) % d) + bitN p k < d) = false := decide_eq_false hl
      rw [if_neg hl] at s1 s2
      simp -implicitDefEqProofs (maxSteps := 10000000) only [hl', rkA, rkB, stepA, valA, simprocAttr]
      have h63 := ok232 false false (2 * (p / 2 ^ (k + 1) % d) + bitN p k) d (by omega)
      rw [← s2] at h63
      refine call_fn rfl rfl rfl (h63) ?_
      simp -implicitDefEqProofs (maxSteps := 10000000) only [rkA, rkB, stepA, valA, simprocAttr]
      have h62 := ok226 false (p / 2 ^ (k + 1) / d) 1 (by omega)
      rw [← s1] at h62
      refine call_fn rfl rfl rfl (h62) ?_
      simp -implicitDefEqProofs (maxSteps := 10000000) only [hw, rkA, rkB, stepA, valA, simprocAttr]
      refine loopK_of (m' := k) (by omega) ?_
      simp -implicitDefEqProofs (maxSteps := 10000000) only [rkA, rkB, stepA, valA, simprocAttr]
      exact ⟨i + 1, by omega⟩
  · have hm0 : m = 0 := by omega
    subst hm0
    simp only [Nat.pow_zero, Nat.div_one]
    have bit1 : ∀ x : Int, 0 ≤ (if x < 0 then (1 : Int) else 0) ∧ (if x < 0 then (1 : Int) else 0) ≤ 1 := fun x => by split <;> omega
    have b1 := bit1 a
    have b2 := bit1 b
    have b3 := bit1 c
    obtain ⟨y57, hy57⟩ : ∃ y : TV, y = nt (-1) := ⟨_, rfl⟩
    obtain ⟨y58, hy58⟩ : ∃ y : TV, y = .v (tru false) := ⟨_, rfl⟩
    refine cond_join (fun s => ∃ x77 x78 x79 x80 : TV, s = ⟨[.v (num a), .v (num b), .v (num c), .v (num mode), jk, jk, jk, jk, jk, jk, .v (.sl false (nb p)), .v (.sl false (nb d)), .v (.sl false (nb (p / d))), .v (.sl false (nb (p % d))), nt (-1), jk, nt (if a < 0 then (1 : Int) else 0), jk, jk, jk, jk, jk, jk, jk, jk, jk, jk, jk, jk, jk, jk, jk, jk, jk, jk, jk, jk, jk, jk, jk, jk, jk, jk, jk, jk, jk, jk, jk, jk, jk, jk, jk, jk, jk, jk, jk, jk, y57, y58, jk, jk, jk, jk, jk, jk, jk, jk, jk, jk, jk, jk, jk, jk, jk, jk, jk, jk, x77, x78, x79, x80, jk, jk, jk, jk, jk, jk, jk, jk, jk, jk, jk, jk, jk, jk, jk, jk, jk, jk, jk, jk, jk, jk, jk, jk, jk, jk, jk, jk, jk, jk, jk, jk, jk, jk, jk, jk, jk, jk, jk, jk, jk, jk, jk, jk, jk, jk, jk, jk, jk, jk, jk, jk, jk, jk, jk, jk, jk, jk, jk, jk, jk, jk, jk, jk, jk, jk], [], [], [], [], 0, nomem⟩) ?_ ?_ ?_
    rotate_left
    · intro h
      have h' := of_decide_eq_true h
      have hw : IntKind.wrap .i64 1 = 1 := rfl
      simp -implicitDefEqProofs (maxSteps := 10000000) only [hw, rkA, rkB, stepA, valA, simprocAttr]
      rw [if_pos h']
      rw [hy57, hy58]
      exact ⟨_, _, _, _, rfl⟩
    · intro h
      have h' := of_decide_eq_false h
      simp -implicitDefEqProofs (maxSteps := 10000000) only [rkA, rkB, stepA, valA, simprocAttr]
      rw [if_neg h']
      rw [hy57, hy58]
      exact ⟨_, _, _, _, rfl⟩
    rintro s ⟨x77, x78, x79, x80, rfl⟩
    simp -implicitDefEqProofs (maxSteps := 10000000) only [rkA, rkB, stepA, valA, simprocAttr]
    refine cond_join (fun s => ∃ x81 x82 x83 x84 : TV, s = ⟨[.v (num a), .v (num b), .v (num c), .v (num mode), jk, jk, jk, jk, jk, jk, .v (.sl false (nb p)), .v (.sl false (nb d)), .v (.sl false (nb (p / d))), .v (.sl false (nb (p % d))), nt (-1), jk, nt ((if a < 0 then (1 : Int) else 0) + (if b < 0 then (1 : Int) else 0)), jk, jk, jk, jk, jk, jk, jk, jk, jk, jk, jk, jk, jk, jk, jk, jk, jk, jk, jk, jk, jk, jk, jk, jk, jk, jk, jk, jk, jk, jk, jk, jk, jk, jk, jk, jk, jk, jk, jk, jk, y57, y58, jk, jk, jk, jk, jk, jk, jk, jk, jk, jk, jk, jk, jk, jk, jk, jk, jk, jk, x77, x78, x79, x80, x81, x82, x83, x84, jk, jk, jk, jk, jk, jk, jk, jk, jk, jk, jk, jk, jk, jk, jk, jk, jk, jk, jk, jk, jk, jk, jk, jk, jk, jk, jk, jk, jk, jk, jk, jk, jk, jk, jk, jk, jk, jk, jk, jk, jk, jk, jk, jk, jk, jk, jk, jk, jk, jk, jk, jk, jk, jk, jk, jk, jk, jk, jk, jk, jk, jk], [], [], [], [], 0, nomem⟩) ?_ ?_ ?_
    rotate_left
    · intro h
      have h' := of_decide_eq_true h
      have hw : IntKind.wrap .i64 ((if a < 0 then (1 : Int) else 0) + 1) = (if a < 0 then (1 : Int) else 0) + 1 := wrapped (by omega) (by omega)
      simp -implicitDefEqProofs (maxSteps := 10000000) only [hw, rkA, rkB, stepA, valA, simprocAttr]
      rw [if_pos h']
      exact ⟨_, _, _, _, rfl⟩
    · intro h
      have h' := of_decide_eq_false h
      simp -implicitDefEqProofs (maxSteps := 10000000) only [rkA, rkB, stepA, valA, simprocAttr]
      rw [if_neg h', Int.add_zero]
      exact ⟨_, _, _, _, rfl⟩
    rintro s ⟨x81, x82, x83, x84, rfl⟩
    simp -implicitDefEqProofs (maxSteps := 10000000) only [rkA, rkB, stepA, valA, simprocAttr]
    refine cond_join (fun s => ∃ x85 x86 x87 x88 : TV, s = ⟨[.v (num a), .v (num b), .v (num c), .v (num mode), jk, jk, jk, jk, jk, jk, .v (.sl false (nb p)), .v (.sl false (nb d)), .v (.sl false (nb (p / d))), .v (.sl false (nb (p % d))), nt (-1), jk, nt ((if a < 0 then (1 : Int) else 0) + (if b < 0 then (1 : Int) else 0) + (if c < 0 then (1 : Int) else 0)), jk, jk, jk, jk, jk, jk, jk, jk, jk, jk, jk, jk, jk, jk, jk, jk, jk, jk, jk, jk, jk, jk, jk, jk, jk, jk, jk, jk, jk, jk, jk, jk, jk, jk, jk, jk, jk, jk, jk, jk, y57, y58, jk, jk, jk, jk, jk, jk, jk, jk, jk, jk, jk, jk, jk, jk, jk, jk, jk, jk, x77, x78, x79, x80, x81, x82, x83, x84, x85, x86, x87, x88, jk, jk, jk, jk, jk, jk, jk, jk, jk, jk, jk, jk, jk, jk, jk, jk, jk, jk, jk, jk, jk, jk, jk, jk, jk, jk, jk, jk, jk, jk, jk, jk, jk, jk, jk, jk, jk, jk, jk, jk, jk, jk, jk, jk, jk, jk, jk, jk, jk, jk, jk, jk, jk, jk, jk, jk, jk, jk], [], [], [], [], 0, nomem⟩) ?_ ?_ ?_
    rotate_left
    · intro h
      have h' := of_decide_eq_true h
      have hw : IntKind.wrap .i64 (((if a < 0 then (1 : Int) else 0) + (if b < 0 then (1 : Int) else 0)) + 1) = ((if a < 0 then (1 : Int) else 0) + (if b < 0 then (1 : Int) else 0)) + 1 := wrapped (by omega) (by omega)
      simp -implicitDefEqProofs (maxSteps := 10000000) only [hw, rkA, rkB, stepA, valA, simprocAttr]
      rw [if_pos h']
      exact ⟨_, _, _, _, rfl⟩
    · intro h
      have h' := of_decide_eq_false h
      simp -implicitDefEqProofs (maxSteps := 10000000) only [rkA, rkB, stepA, valA, simprocAttr]
      rw [if_neg h', Int.add_zero]
      exact ⟨_, _, _, _, rfl⟩
    rintro s ⟨x85, x86, x87, x88, rfl⟩
    simp -implicitDefEqProofs (maxSteps := 10000000) only [rkA, rkB, stepA, valA, simprocAttr]
    have hK : ((((if a < 0 then (1 : Int) else 0) + (if b < 0 then (1 : Int) else 0) + (if c < 0 then (1 : Int) else 0)).tmod 2) == 1) = minus3 a b c := by
      unfold minus3
      by_cases h1 : a < 0 <;> by_cases h2 : b < 0 <;> by_cases h3 : c < 0 <;> simp [h1, h2, h3]
    have hK0 : ((((if a < 0 then (1 : Int) else 0) + (if b < 0 then (1 : Int) else 0) + (if c < 0 then (1 : Int) else 0)).tmod 2) == 0) = !(minus3 a b c) := by
      unfold minus3
      by_cases h1 : a < 0 <;> by_cases h2 : b < 0 <;> by_cases h3 : c < 0 <;> simp [h1, h2, h3]
    have wK : IntKind.wrap .i64 (((if a < 0 then (1 : Int) else 0) + (if b < 0 then (1 : Int) else 0) + (if c < 0 then (1 : Int) else 0)).tmod 2) = ((if a < 0 then (1 : Int) else 0) + (if b < 0 then (1 : Int) else 0) + (if c < 0 then (1 : Int) else 0)).tmod 2 := by
      rw [Int.tmod_eq_emod_of_nonneg (by omega)]
      exact wrapped (by omega) (by omega)
    generalize (if a < 0 then (1 : Int) else 0) + (if b < 0 then (1 : Int) else 0) + (if c < 0 then (1 : Int) else 0) = K at hK hK0 wK ⊢
    have hr := Nat.mod_lt p hd
    have hqle : p / d ≤ p := Nat.div_le_self _ _
    refine call_fn rfl rfl rfl (z0) ?_
    simp -implicitDefEqProofs (maxSteps := 10000000) only [rkA, rkB, stepA, valA, simprocAttr]
    refine call_fn rfl rfl rfl (ok211 false false 0 (p % d) (by omega) (by omega)) ?_
    simp -implicitDefEqProofs (maxSteps := 10000000) only [rkA, rkB, stepA, valA, simprocAttr]
    refine call_fn rfl rfl rfl (ok226 false (p % d) 0 (by omega)) ?_
    have hmode : mode = 0 ∨ mode = 1 ∨ mode = 2 := by omega
    rw [Nat.add_zero]
    have b0 := nb_get (x := p / d) (k := 0) (by omega)
    have hbit0 : bitN (p / d) 0 = p / d % 2 := by unfold bitN; rw [Nat.pow_zero, Nat.div_one]
    have add1 := ok225 false false (p / d) 1
    have z1 := ok224 1 (by omega)
    rcases hmode with rfl | rfl | rfl
    · simp -implicitDefEqProofs (maxSteps := 10000000) only [rkA, rkB, stepA, valA, simprocAttr]
      refine call_fn rfl rfl rfl (ok211 false false d (2 * (p % d)) (by omega) (by omega)) ?_
      by_cases h1 : d < 2 * (p % d)
      · have hmore : moreF 0 (p / d) (p % d) d (minus3 a b c) = true := by
          unfold moreF
          rw [if_neg (by omega), if_pos rfl]
          simp
          omega
        simp -implicitDefEqProofs (maxSteps := 10000000) only [decide_eq_true h1, rkA, rkB, stepA, valA, simprocAttr]
        refine call_fn rfl rfl rfl (z1) ?_
        simp -implicitDefEqProofs (maxSteps := 10000000) only [rkA, rkB, stepA, valA, simprocAttr]
        refine call_fn rfl rfl rfl (add1) ?_
        simp -implicitDefEqProofs (maxSteps := 10000000) only [rkA, rkB, stepA, valA, simprocAttr]
        refine md_fin (Q := p / d + 1) false (by omega) (by unfold mdN; rw [hP, hD, hmore]; rfl) hok ?_ ?_
        · intro hq hF
          refine call_fn rfl rfl rfl (ok233 false (p / d + 1) hq) ?_
          rw [hF]
          have w1 := neg_small hq
          cases hM : minus3 a b c with
          | true =>
            rw [hM] at hK
            simp -implicitDefEqProofs (maxSteps := 10000000) only [two0, wK, hK, Int.zero_sub, w1, rkA, rkB, stepA, valA, simprocAttr]
          | false =>
            rw [hM] at hK
            simp -implicitDefEqProofs (maxSteps := 10000000) only [two0, wK, hK, rkA, rkB, stepA, valA, simprocAttr]
        · intro hq hF
          refine call_fn rfl rfl rfl (ok233n false (p / d + 1) (by omega) hq) ?_
          rw [hF]
          simp -implicitDefEqProofs (maxSteps := 10000000) only [rkA, rkB, stepA, valA, simprocAttr]
      · by_cases h2 : 0 < p % d
        · simp -implicitDefEqProofs (maxSteps := 10000000) only [decide_eq_false h1, decide_eq_true h2, rkA, rkB, stepA, valA, simprocAttr]
          refine call_fn rfl rfl rfl (ok211 false false (2 * (p % d)) d (by omega) (by omega)) ?_
          by_cases h3 : 2 * (p % d) < d
          · have hmore : moreF 0 (p / d) (p % d) d (minus3 a b c) = false := by
              unfold moreF
              rw [if_neg (by omega), if_pos rfl]
              simp
              omega
            simp -implicitDefEqProofs (maxSteps := 10000000) only [decide_eq_true h3, rkA, rkB, stepA, valA, simprocAttr]
            refine md_fin (Q := p / d) false (by omega) (by unfold mdN; rw [hP, hD, hmore]; rfl) hok ?_ ?_
            · intro hq hF
              refine call_fn rfl rfl rfl (ok233 false (p / d) hq) ?_
              rw [hF]
              have w1 := neg_small hq
              cases hM : minus3 a b c with
              | true =>
                rw [hM] at hK
                simp -implicitDefEqProofs (maxSteps := 10000000) only [two0, wK, hK, Int.zero_sub, w1, rkA, rkB, stepA, valA, simprocAttr]
              | false =>
                rw [hM] at hK
                simp -implicitDefEqProofs (maxSteps := 10000000) only [two0, wK, hK, rkA, rkB, stepA, valA, simprocAttr]
            · intro hq hF
              refine call_fn rfl rfl rfl (ok233n false (p / d) (by omega) hq) ?_
              rw [hF]
              simp -implicitDefEqProofs (maxSteps := 10000000) only [rkA, rkB, stepA, valA, simprocAttr]
          · rcases bitN_cases (p / d) 0 with e0 | e0
            · have hmore : moreF 0 (p / d) (p % d) d (minus3 a b c) = false := by
                unfold moreF
                rw [if_neg (by omega), if_pos rfl]
                simp
                omega
              have e0' : ((bitN (p / d) 0 : Int) == 1) = false := by rw [e0]; rfl
              simp -implicitDefEqProofs (maxSteps := 10000000) only [decide_eq_false h3, b0, e0', rkA, rkB, stepA, valA, simprocAttr]
              refine md_fin (Q := p / d) false (by omega) (by unfold mdN; rw [hP, hD, hmore]; rfl) hok ?_ ?_
              · intro hq hF
                refine call_fn rfl rfl rfl (ok233 false (p / d) hq) ?_
                rw [hF]
                have w1 := neg_small hq
                cases hM : minus3 a b c with
                | true =>
                  rw [hM] at hK
                  simp -implicitDefEqProofs (maxSteps := 10000000) only [two0, wK, hK, Int.zero_sub, w1, rkA, rkB, stepA, valA, simprocAttr]
                | false =>
                  rw [hM] at hK
                  simp -implicitDefEqProofs (maxSteps := 10000000) only [two0, wK, hK, rkA, rkB, stepA, valA, simprocAttr]
              · intro hq hF
                refine call_fn rfl rfl rfl (ok233n false (p / d) (by omega) hq) ?_
                rw [hF]
                simp -implicitDefEqProofs (maxSteps := 10000000) only [rkA, rkB, stepA, valA, simprocAttr]
            · have hmore : moreF 0 (p / d) (p % d) d (minus3 a b c) = true := by
                unfold moreF
                rw [if_neg (by omega), if_pos rfl]
                simp
                omega
              have e0' : ((bitN (p / d) 0 : Int) == 1) = true := by rw [e0]; rfl
              simp -implicitDefEqProofs (maxSteps := 10000000) only [decide_eq_false h3, b0, e0', rkA, rkB, stepA, valA, simprocAttr]
              refine call_fn rfl rfl rfl (z1) ?_
              simp -implicitDefEqProofs (maxSteps := 10000000) only [rkA, rkB, stepA, valA, simprocAttr]
              refine call_fn rfl rfl rfl (add1) ?_
              simp -implicitDefEqProofs (maxSteps := 10000000) only [rkA, rkB, stepA, valA, simprocAttr]
              refine md_fin (Q := p / d + 1) false (by omega) (by unfold mdN; rw [hP, hD, hmore]; rfl) hok ?_ ?_
              · intro hq hF
                refine call_fn rfl rfl rfl (ok233 false (p / d + 1) hq) ?_
                rw [hF]
                have w1 := neg_small hq
                cases hM : minus3 a b c with
                | true =>
                  rw [hM] at hK
                  simp -implicitDefEqProofs (maxSteps := 10000000) only [two0, wK, hK, Int.zero_sub, w1, rkA, rkB, stepA, valA, simprocAttr]
                | false =>
                  rw [hM] at hK
                  simp -implicitDefEqProofs (maxSteps := 10000000) only [two0, wK, hK, rkA, rkB, stepA, valA, simprocAttr]
              · intro hq hF
                refine call_fn rfl rfl rfl (ok233n false (p / d + 1) (by omega) hq) ?_
                rw [hF]
                simp -implicitDefEqProofs (maxSteps := 10000000) only [rkA, rkB, stepA, valA, simprocAttr]
        · have hmore : moreF 0 (p / d) (p % d) d (minus3 a b c) = false := by
            unfold moreF
            rw [if_pos (by omega)]
          simp -implicitDefEqProofs (maxSteps := 10000000) only [decide_eq_false h1, decide_eq_false h2, rkA, rkB, stepA, valA, simprocAttr]
          refine md_fin (Q := p / d) false (by omega) (by unfold mdN; rw [hP, hD, hmore]; rfl) hok ?_ ?_
          · intro hq hF
            refine call_fn rfl rfl rfl (ok233 false (p / d) hq) ?_
            rw [hF]
            have w1 := neg_small hq
            cases hM : minus3 a b c with
            | true =>
              rw [hM] at hK
              simp -implicitDefEqProofs (maxSteps := 10000000) only [two0, wK, hK, Int.zero_sub, w1, rkA, rkB, stepA, valA, simprocAttr]
            | false =>
              rw [hM] at hK
              simp -implicitDefEqProofs (maxSteps := 10000000) only [two0, wK, hK, rkA, rkB, stepA, valA, simprocAttr]
          · intro hq hF
            refine call_fn rfl rfl rfl (ok233n false (p / d) (by omega) hq) ?_
            rw [hF]
            simp -implicitDefEqProofs (maxSteps := 10000000) only [rkA, rkB, stepA, valA, simprocAttr]
    · by_cases h2 : 0 < p % d
      · cases hM : minus3 a b c with
        | true =>
          have hmore : moreF 1 (p / d) (p % d) d (minus3 a b c) = true := by
            unfold moreF
            rw [if_neg (by omega), hM]
            rfl
          have hK1 := hK
          rw [hM] at hK1
          simp -implicitDefEqProofs (maxSteps := 10000000) only [decide_eq_true h2, two0, wK, hK1, rkA, rkB, stepA, valA, simprocAttr]
          refine call_fn rfl rfl rfl (z1) ?_
          simp -implicitDefEqProofs (maxSteps := 10000000) only [rkA, rkB, stepA, valA, simprocAttr]
          refine call_fn rfl rfl rfl (add1) ?_
          simp -implicitDefEqProofs (maxSteps := 10000000) only [rkA, rkB, stepA, valA, simprocAttr]
          refine md_fin (Q := p / d + 1) false (by omega) (by unfold mdN; rw [hP, hD, hmore]; rfl) hok ?_ ?_
          · intro hq hF
            refine call_fn rfl rfl rfl (ok233 false (p / d + 1) hq) ?_
            rw [hF]
            have w1 := neg_small hq
            cases hM : minus3 a b c with
            | true =>
              rw [hM] at hK
              simp -implicitDefEqProofs (maxSteps := 10000000) only [two0, wK, hK, Int.zero_sub, w1, rkA, rkB, stepA, valA, simprocAttr]
            | false =>
              rw [hM] at hK
              simp -implicitDefEqProofs (maxSteps := 10000000) only [two0, wK, hK, rkA, rkB, stepA, valA, simprocAttr]
          · intro hq hF
            refine call_fn rfl rfl rfl (ok233n false (p / d + 1) (by omega) hq) ?_
            rw [hF]
            simp -implicitDefEqProofs (maxSteps := 10000000) only [rkA, rkB, stepA, valA, simprocAttr]
        | false =>
          have hmore : moreF 1 (p / d) (p % d) d (minus3 a b c) = false := by
            unfold moreF
            rw [if_neg (by omega), hM]
            rfl
          have hK1 := hK
          rw [hM] at hK1
          simp -implicitDefEqProofs (maxSteps := 10000000) only [decide_eq_true h2, two0, wK, hK1, rkA, rkB, stepA, valA, simprocAttr]
          refine md_fin (Q := p / d) false (by omega) (by unfold mdN; rw [hP, hD, hmore]; rfl) hok ?_ ?_
          · intro hq hF
            refine call_fn rfl rfl rfl (ok233 false (p / d) hq) ?_
            rw [hF]
            have w1 := neg_small hq
            cases hM : minus3 a b c with
            | true =>
              rw [hM] at hK
              simp -implicitDefEqProofs (maxSteps := 10000000) only [two0, wK, hK, Int.zero_sub, w1, rkA, rkB, stepA, valA, simprocAttr]
            | false =>
              rw [hM] at hK
              simp -implicitDefEqProofs (maxSteps := 10000000) only [two0, wK, hK, rkA, rkB, stepA, valA, simprocAttr]
          · intro hq hF
            refine call_fn rfl rfl rfl (ok233n false (p / d) (by omega) hq) ?_
            rw [hF]
            simp -implicitDefEqProofs (maxSteps := 10000000) only [rkA, rkB, stepA, valA, simprocAttr]
      · have hmore : moreF 1 (p / d) (p % d) d (minus3 a b c) = false := by
          unfold moreF
          rw [if_pos (by omega)]
        simp -implicitDefEqProofs (maxSteps := 10000000) only [decide_eq_false h2, rkA, rkB, stepA, valA, simprocAttr]
        refine md_fin (Q := p / d) false (by omega) (by unfold mdN; rw [hP, hD, hmore]; rfl) hok ?_ ?_
        · intro hq hF
          refine call_fn rfl rfl rfl (ok233 false (p / d) hq) ?_
          rw [hF]
          have w1 := neg_small hq
          cases hM : minus3 a b c with
          | true =>
            rw [hM] at hK
            simp -implicitDefEqProofs (maxSteps := 10000000) only [two0, wK, hK, Int.zero_sub, w1, rkA, rkB, stepA, valA, simprocAttr]
          | false =>
            rw [hM] at hK
            simp -implicitDefEqProofs (maxSteps := 10000000) only [two0, wK, hK, rkA, rkB, stepA, valA, simprocAttr]
        · intro hq hF
          refine call_fn rfl rfl rfl (ok233n false (p / d) (by omega) hq) ?_
          rw [hF]
          simp -implicitDefEqProofs (maxSteps := 10000000) only [rkA, rkB, stepA, valA, simprocAttr]
    · by_cases h2 : 0 < p % d
      · cases hM : minus3 a b c with
        | true =>
          have hmore : moreF 2 (p / d) (p % d) d (minus3 a b c) = false := by
            unfold moreF
            rw [if_neg (by omega), hM]
            rfl
          have hK1 := hK0
          rw [hM] at hK1
          simp -implicitDefEqProofs (maxSteps := 10000000) only [decide_eq_true h2, two0, wK, hK1, rkA, rkB, stepA, valA, simprocAttr]
          refine md_fin (Q := p / d) false (by omega) (by unfold mdN; rw [hP, hD, hmore]; rfl) hok ?_ ?_
          · intro hq hF
            refine call_fn rfl rfl rfl (ok233 false (p / d) hq) ?_
            rw [hF]
            have w1 := neg_small hq
            cases hM : minus3 a b c with
            | true =>
              rw [hM] at hK
              simp -implicitDefEqProofs (maxSteps := 10000000) only [two0, wK, hK, Int.zero_sub, w1, rkA, rkB, stepA, valA, simprocAttr]
            | false =>
              rw [hM] at hK
              simp -implicitDefEqProofs (maxSteps := 10000000) only [two0, wK, hK, rkA, rkB, stepA, valA, simprocAttr]
          · intro hq hF
            refine call_fn rfl rfl rfl (ok233n false (p / d) (by omega) hq) ?_
            rw [hF]
            simp -implicitDefEqProofs (maxSteps := 10000000) only [rkA, rkB, stepA, valA, simprocAttr]
        | false =>
          have hmore : moreF 2 (p / d) (p % d) d (minus3 a b c) = true := by
            unfold moreF
            rw [if_neg (by omega), hM]
            rfl
          have hK1 := hK0
          rw [hM] at hK1
          simp -implicitDefEqProofs (maxSteps := 10000000) only [decide_eq_true h2, two0, wK, hK1, rkA, rkB, stepA, valA, simprocAttr]
          refine call_fn rfl rfl rfl (z1) ?_
          simp -implicitDefEqProofs (maxSteps := 10000000) only [rkA, rkB, stepA, valA, simprocAttr]
          refine call_fn rfl rfl rfl (add1) ?_
          simp -implicitDefEqProofs (maxSteps := 10000000) only [rkA, rkB, stepA, valA, simprocAttr]
          refine md_fin (Q := p / d + 1) false (by omega) (by unfold mdN; rw [hP, hD, hmore]; rfl) hok ?_ ?_
          · intro hq hF
            refine call_fn rfl rfl rfl (ok233 false (p / d + 1) hq) ?_
            rw [hF]
            have w1 := neg_small hq
            cases hM : minus3 a b c with
            | true =>
              rw [hM] at hK
              simp -implicitDefEqProofs (maxSteps := 10000000) only [two0, wK, hK, Int.zero_sub, w1, rkA, rkB, stepA, valA, simprocAttr]
            | false =>
              rw [hM] at hK
              simp -implicitDefEqProofs (maxSteps := 10000000) only [two0, wK, hK, rkA, rkB, stepA, valA, simprocAttr]
          · intro hq hF
            refine call_fn rfl rfl rfl (ok233n false (p / d + 1) (by omega) hq) ?_
            rw [hF]
            simp -implicitDefEqProofs (maxSteps := 10000000) only [rkA, rkB, stepA, valA, simprocAttr]
      · have hmore : moreF 2 (p / d) (p % d) d (minus3 a b c) = false := by
          unfold moreF
          rw [if_pos (by omega)]
        simp -implicitDefEqProofs (maxSteps := 10000000) only [decide_eq_false h2, rkA, rkB, stepA, valA, simprocAttr]
        refine md_fin (Q := p / d) false (by omega) (by unfold mdN; rw [hP, hD, hmore]; rfl) hok ?_ ?_
        · intro hq hF
          refine call_fn rfl rfl rfl (ok233 false (p / d) hq) ?_
          rw [hF]
          have w1 := neg_small hq
          cases hM : minus3 a b c with
          | true =>
            rw [hM] at hK
            simp -implicitDefEqProofs (maxSteps := 10000000) only [two0, wK, hK, Int.zero_sub, w1, rkA, rkB, stepA, valA, simprocAttr]
          | false =>
            rw [hM] at hK
            simp -implicitDefEqProofs (maxSteps := 10000000) only [two0, wK, hK, rkA, rkB, stepA, valA, simprocAttr]
        · intro hq hF
          refine call_fn rfl rfl rfl (ok233n false (p / d) (by omega) hq) ?_
          rw [hF]
          simp -implicitDefEqProofs (maxSteps := 10000000) only [rkA, rkB, stepA, valA, simprocAttr]
end Go.Proofs.YtambpjbpdackfaaGreat.A



set_option linter.unusedVariables false
set_option linter.unusedSimpArgs false
set_option maxRecDepth 100000
namespace Go.Proofs.YtambpjbpdackfaaGreat.A
open Go Go.RowKit Go.Shelf

/-! ### The reference's root -/
theorem root_uniq {p r q : Nat} (h1 : r * r ≤ p) (h2 : p < (r + 1) * (r + 1)) (h3 : q * q ≤ p) (h4 : p < (q + 1) * (q + 1)) : r = q := by
  have a1 : r < q + 1 := sq_lt (Nat.lt_of_le_of_lt h1 h4)
  have a2 : q < r + 1 := sq_lt (Nat.lt_of_le_of_lt h3 h2)
  omega
theorem ok223 (a b : Int) (ha : -4611686018427387903 ≤ a ∧ a ≤ 4611686018427387903) (hb : -4611686018427387903 ≤ b ∧ b ≤ 4611686018427387903) :
    Ok Tryz.prog 223 [num a, num b] (.tup [num (rtW (a.natAbs * b.natAbs)), tru (decide (rtW (a.natAbs * b.natAbs) * rtW (a.natAbs * b.natAbs) = a.natAbs * b.natAbs))]) := by
  have hp : a.natAbs * b.natAbs ≤ 4611686018427387903 * 4611686018427387903 := Nat.mul_le_mul (by omega) (by omega)
  obtain ⟨r1, r2, r3⟩ := rtW_spec hp
  refine ok_fn mixed Tryz.func223 (code := ?_) (h := h223) ?_ k223 ?_
  rotate_left
  · exact rfl
  unfold h223 initS
  simp -implicitDefEqProofs (maxSteps := 10000000) only [rkA, rkB, stepA, valA, simprocAttr, Tryz.ntmps223, Tryz.results223]
  refine call_fn rfl rfl rfl (ok231 a (by omega) (by omega)) ?_
  simp -implicitDefEqProofs (maxSteps := 10000000) only [rkA, rkB, stepA, valA, simprocAttr]
  refine call_fn rfl rfl rfl (ok231 b (by omega) (by omega)) ?_
  simp -implicitDefEqProofs (maxSteps := 10000000) only [rkA, rkB, stepA, valA, simprocAttr]
  refine call_fn rfl rfl rfl (ok212 a.natAbs b.natAbs (by omega) (by omega)) ?_
  generalize a.natAbs * b.natAbs = p at *
  generalize rtW p = q at *
  simp -implicitDefEqProofs (maxSteps := 10000000) only [rkA, rkB, stepA, valA, simprocAttr]
  refine wp_loop (fun m s => ∃ (i r : Nat), i + m = 63 ∧ r * r ≤ p ∧ p < (r + 2 ^ m) * (r + 2 ^ m) ∧ r + 2 ^ m ≤ 9223372036854775808 ∧ s = ⟨[jk, jk, jk, jk, jk, jk, .v (.sl false (nb p)), nt r, nt (2 ^ m / 2 : Nat), jk, jk, jk, jk, jk, jk, jk, jk, jk, jk, jk, jk, jk, jk, jk, jk, jk, jk, jk, jk, jk, jk, jk, jk, jk, jk, jk], [], [], [], [], 0, nomem⟩) 63 ?_ ?_
  · simp -implicitDefEqProofs (maxSteps := 10000000) only [rkA, rkB, stepA, valA, simprocAttr]
    exact ⟨0, 0, rfl, by omega, by omega, by omega, rfl⟩
  rintro m s ⟨i, r, him, h1, h2, h3, rfl⟩
  simp -implicitDefEqProofs (maxSteps := 10000000) only [rkA, rkB, stepA, valA, simprocAttr]
  refine gB_dec ?_ ?_ <;> intro hc <;> simp -implicitDefEqProofs (maxSteps := 10000000) only [hc, rkA, rkB, stepA, valA, simprocAttr]
  · obtain ⟨k, rfl⟩ : ∃ k, m = k + 1 := by
      rcases Nat.eq_zero_or_pos m with h | h
      · subst h; exact absurd hc (by decide)
      · exact ⟨m - 1, by omega⟩
    have e2 : 2 ^ (k + 1) / 2 = 2 ^ k := by rw [Nat.pow_succ, Nat.mul_div_cancel _ (by omega)]
    have e3 : 2 ^ (k + 1) = 2 ^ k + 2 ^ k := by rw [Nat.pow_succ]; omega
    have hpos := Nat.two_pow_pos k
    have ed : ((2 ^ k : Nat) : Int).tdiv 2 = ((2 ^ k / 2 : Nat) : Int) := by rw [Int.tdiv_eq_ediv_of_nonneg (nat0 _)]; rfl
    rw [e3] at h2 h3
    rw [e2]
    generalize hst : 2 ^ k = st at *
    have hx : r + st < 9223372036854775808 := by omega
    have hxx : (r + st) * (r + st) < 2 ^ 130 := Nat.lt_of_le_of_lt (Nat.mul_le_mul (Nat.le_of_lt hx) (Nat.le_of_lt hx)) (by decide)
    have w1 : IntKind.wrap .i64 ((r : Int) + (st : Int)) = ((r + st : Nat) : Int) := by rw [wrapped (by omega) (by omega)]; omega
    have hle : st / 2 ≤ st := Nat.div_le_self _ _
    have w2 : IntKind.wrap .i64 ((st / 2 : Nat) : Int) = ((st / 2 : Nat) : Int) := wrapN64 (by omega)
    simp -implicitDefEqProofs (maxSteps := 10000000) only [w1, rkA, rkB, stepA, valA, simprocAttr]
    refine call_fn rfl rfl rfl (ok212 (r + st) (r + st) hx hx) ?_
    simp -implicitDefEqProofs (maxSteps := 10000000) only [rkA, rkB, stepA, valA, simprocAttr]
    refine call_fn rfl rfl rfl (ok211 false false p ((r + st) * (r + st)) (by omega) hxx) ?_
    by_cases hl : p < (r + st) * (r + st)
    · simp -implicitDefEqProofs (maxSteps := 10000000) only [decide_eq_true hl, two0, ed, w2, rkA, rkB, stepA, valA, simprocAttr]
      refine loopK_of (m' := k) (by omega) ?_
      simp -implicitDefEqProofs (maxSteps := 10000000) only [rkA, rkB, stepA, valA, simprocAttr]
      exact ⟨i + 1, r, by omega, h1, by rw [hst]; exact hl, by rw [hst]; omega, by rw [hst]⟩
    · simp -implicitDefEqProofs (maxSteps := 10000000) only [decide_eq_false hl, two0, ed, w2, rkA, rkB, stepA, valA, simprocAttr]
      refine loopK_of (m' := k) (by omega) ?_
      simp -implicitDefEqProofs (maxSteps := 10000000) only [rkA, rkB, stepA, valA, simprocAttr]
      exact ⟨i + 1, r + st, by omega, by omega, by rw [hst]; rw [← Nat.add_assoc] at h2; exact h2, by rw [hst]; omega, by rw [hst]⟩
  · have hm : m = 0 := by
      rcases Nat.eq_zero_or_pos m with h | h
      · exact h
      · exfalso
        obtain ⟨k, rfl⟩ : ∃ k, m = k + 1 := ⟨m - 1, by omega⟩
        have e2 : 2 ^ (k + 1) / 2 = 2 ^ k := by rw [Nat.pow_succ, Nat.mul_div_cancel _ (by omega)]
        have hpos := Nat.two_pow_pos k
        rw [e2] at hc
        omega
    subst hm
    have hr : r = q := root_uniq h1 (by simpa using h2) r1 r2
    subst hr
    refine call_fn rfl rfl rfl (ok212 r r (by omega) (by omega)) ?_
    simp -implicitDefEqProofs (maxSteps := 10000000) only [rkA, rkB, stepA, valA, simprocAttr]
    have hrr : r * r < 2 ^ 130 := Nat.lt_of_le_of_lt r1 (by omega)
    refine call_fn rfl rfl rfl (ok211 false false (r * r) p hrr (by omega)) ?_
    by_cases he : r * r = p
    · have hl : decide (r * r < p) = false := decide_eq_false (by omega)
      simp -implicitDefEqProofs (maxSteps := 10000000) only [hl, decide_eq_true he, rkA, rkB, stepA, valA, simprocAttr]
    · have hl : decide (r * r < p) = true := decide_eq_true (by omega)
      simp -implicitDefEqProofs (maxSteps := 10000000) only [hl, decide_eq_false he, rkA, rkB, stepA, valA, simprocAttr]
end Go.Proofs.YtambpjbpdackfaaGreat.A



set_option linter.unusedVariables false
set_option linter.unusedSimpArgs false
set_option maxRecDepth 100000
namespace Go.Proofs.YtambpjbpdackfaaGreat.A
open Go Go.RowKit Go.Shelf

/-! ### Roots of rounded numbers -/
def rtX (a mode : Int) : Int × Bool := toldF (wRoot a 16777216 mode).1 (wRoot a 16777216 mode).2 [a]
theorem ok259 (a mode : Int) : Ok Tryz.prog 259 [num a, num mode] (.tup [num (rtX a mode).1, tru (rtX a mode).2]) := by
  refine ok_fn mixed Tryz.func259 (code := ?_) (h := h259) ?_ k259 ?_
  rotate_left
  · exact rfl
  unfold h259 initS
  simp -implicitDefEqProofs (maxSteps := 10000000) only [rkA, rkB, stepA, valA, simprocAttr, Tryz.ntmps259, Tryz.results259]
  refine call_fn rfl rfl rfl (ok262 a 16777216 mode) ?_
  simp -implicitDefEqProofs (maxSteps := 10000000) only [rkA, rkB, stepA, valA, simprocAttr]
  refine call_fn rfl rfl rfl (ok192 _ _ [a] (by simp)) ?_
  simp -implicitDefEqProofs (maxSteps := 10000000) only [rkA, rkB, stepA, valA, simprocAttr, rtX]
theorem ok258 (x y m : Int) : Ok Tryz.prog 258 [num x, num y, num m] (.tup [num (rtX x m).1, tru (rtX x m).2]) := by
  refine ok_fn mixed Tryz.func258 (code := ?_) (h := h258) ?_ k258 ?_
  rotate_left
  · exact rfl
  unfold h258 initS
  simp -implicitDefEqProofs (maxSteps := 10000000) only [rkA, rkB, stepA, valA, simprocAttr, Tryz.ntmps258, Tryz.results258]
  refine call_fn rfl rfl rfl (ok259 x m) ?_
  simp -implicitDefEqProofs (maxSteps := 10000000) only [rkA, rkB, stepA, valA, simprocAttr]
end Go.Proofs.YtambpjbpdackfaaGreat.A
namespace Go.Proofs.YtambpjbpdackfaaGreat.A.E
open Go Go.RowKit Go.Shelf

/-! ### Roots, signs of enclosed numbers -/
def rootF (a : Fr) : Fr := madeE (fun x _ m => rtX x m) a a [(a.lo, a.lo), (a.hi, a.hi)]
theorem ok252 (a : Fr) : Ok Tryz.prog 252 [frV a] (frV (rootF a)) := by
  have h := ok137 _ (fun x _ m => rtX x m) (fun x y m => ok258 x y m) a a true [(a.lo, a.lo), (a.hi, a.hi)] (by simp) (by simp)
  refine ok_fn mixed Tryz.func252 (code := ?_) (h := h252) ?_ k252 ?_
  rotate_left
  · exact rfl
  unfold h252 initS
  simp -implicitDefEqProofs (maxSteps := 10000000) only [rkA, rkB, stepA, valA, simprocAttr, Tryz.ntmps252, Tryz.results252]
  refine call_fn rfl rfl rfl (h) ?_
  simp -implicitDefEqProofs (maxSteps := 10000000) only [rkA, rkB, stepA, valA, simprocAttr, rootF]
def negF (a : Fr) : Fr := subF (point 0) a
theorem ok251 (a : Fr) : Ok Tryz.prog 251 [frV a] (frV (negF a)) := by
  refine ok_fn mixed Tryz.func251 (code := ?_) (h := h251) ?_ k251 ?_
  rotate_left
  · exact rfl
  unfold h251 initS
  simp -implicitDefEqProofs (maxSteps := 10000000) only [rkA, rkB, stepA, valA, simprocAttr, Tryz.ntmps251, Tryz.results251]
  refine call_fn rfl rfl rfl (ok64 0) ?_
  simp -implicitDefEqProofs (maxSteps := 10000000) only [rkA, rkB, stepA, valA, simprocAttr]
  refine call_fn rfl rfl rfl (ok254 (point 0) a) ?_
  simp -implicitDefEqProofs (maxSteps := 10000000) only [rkA, rkB, stepA, valA, simprocAttr, negF]
def signF (a : Fr) : Int := if a.bad = true ∨ a.v = 0 then 0 else if a.v < 0 then -1 else 1
theorem ok253 (a : Fr) : Ok Tryz.prog 253 [frV a] (num (signF a)) := by
  refine ok_fn mixed Tryz.func253 (code := ?_) (h := h253) ?_ k253 ?_
  rotate_left
  · exact rfl
  unfold h253 initS
  simp -implicitDefEqProofs (maxSteps := 10000000) only [rkA, rkB, stepA, valA, simprocAttr, Tryz.ntmps253, Tryz.results253]
  cases hb : a.bad with
  | true =>
    have e : signF a = 0 := by unfold signF; rw [hb]; simp
    simp -implicitDefEqProofs (maxSteps := 10000000) only [e, rkA, rkB, stepA, valA, simprocAttr]
  | false =>
    simp -implicitDefEqProofs (maxSteps := 10000000) only [rkA, rkB, stepA, valA, simprocAttr]
    by_cases h0 : a.v = 0
    · have e : signF a = 0 := by unfold signF; rw [h0]; simp
      simp -implicitDefEqProofs (maxSteps := 10000000) only [e, h0, rkA, rkB, stepA, valA, simprocAttr]
    · have h0' : (a.v == 0) = false := by simpa using h0
      simp -implicitDefEqProofs (maxSteps := 10000000) only [h0, h0', rkA, rkB, stepA, valA, simprocAttr]
      refine gB_dec ?_ ?_ <;> intro h1 <;> simp -implicitDefEqProofs (maxSteps := 10000000) only [h1, rkA, rkB, stepA, valA, simprocAttr]
      · have e : signF a = -1 := by unfold signF; rw [hb, if_neg (by simp [h0]), if_pos h1]
        rw [e]
      · have e : signF a = 1 := by unfold signF; rw [hb, if_neg (by simp [h0]), if_neg h1]
        rw [e]
theorem methRoot : Meth Tryz.prog 28 "Root" 252 := by
  intro v xs w
  rfl
end Go.Proofs.YtambpjbpdackfaaGreat.A.E



set_option linter.unusedVariables false
set_option linter.unusedSimpArgs false
set_option maxRecDepth 100000
namespace Go.Proofs.YtambpjbpdackfaaGreat.A.E
open Go Go.RowKit Go.Shelf

/-! ### The reference's numbers in units -/
theorem ok195 (n : Int) : Ok Tryz.prog 195 [num n] (tru (rightX n)) := by
  refine ok_fn mixed Tryz.func195 (code := ?_) (h := h195) ?_ k195 ?_
  rotate_left
  · exact rfl
  unfold h195 initS
  simp -implicitDefEqProofs (maxSteps := 10000000) only [rkA, rkB, stepA, valA, simprocAttr, Tryz.ntmps195, Tryz.results195]
  unfold rightX
  by_cases h1 : n ≥ -1125899906842624
  · simp -implicitDefEqProofs (maxSteps := 10000000) only [h1, rkA, rkB, stepA, valA, simprocAttr]
  · simp -implicitDefEqProofs (maxSteps := 10000000) only [h1, rkA, rkB, stepA, valA, simprocAttr]
theorem told_nil (n : Int) (is : Bool) : toldF n is [] = if is = true ∧ rightX n = true then (n, true) else (0, false) := by
  unfold toldF
  simp
theorem ok207 (n : Int) (is : Bool) : Ok Tryz.prog 207 [num n, tru is] (.tup [num (toldF n is []).1, tru (toldF n is []).2]) := by
  refine ok_fn mixed Tryz.func207 (code := ?_) (h := h207) ?_ k207 ?_
  rotate_left
  · exact rfl
  unfold h207 initS
  simp -implicitDefEqProofs (maxSteps := 10000000) only [rkA, rkB, stepA, valA, simprocAttr, Tryz.ntmps207, Tryz.results207]
  rw [told_nil]
  cases is with
  | false => simp -implicitDefEqProofs (maxSteps := 10000000) only [rkA, rkB, stepA, valA, simprocAttr]
  | true =>
    simp -implicitDefEqProofs (maxSteps := 10000000) only [rkA, rkB, stepA, valA, simprocAttr]
    refine call_fn rfl rfl rfl (ok195 n) ?_
    cases h : rightX n with
    | false => simp -implicitDefEqProofs (maxSteps := 10000000) only [rkA, rkB, stepA, valA, simprocAttr]
    | true => simp -implicitDefEqProofs (maxSteps := 10000000) only [rkA, rkB, stepA, valA, simprocAttr]
theorem told_two (n a b : Int) (is : Bool) (ha : rightX a = true) (hb : rightX b = true) : toldF n is [a, b] = toldF n is [] := by
  unfold toldF
  simp [ha, hb]
theorem told_bad (n a b : Int) (is : Bool) (h : rightX a = false ∨ rightX b = false) : toldF n is [a, b] = (0, false) := by
  unfold toldF
  rw [if_neg]
  rintro ⟨_, h2⟩
  simp at h2
  rcases h with h | h
  · rw [h2.1] at h; cases h
  · rw [h2.2.1] at h; cases h
theorem ok208 (a b mode : Int) : Ok Tryz.prog 208 [num a, num b, num mode] (.tup [num (mulX a b mode).1, tru (mulX a b mode).2]) := by
  refine ok_fn mixed Tryz.func208 (code := ?_) (h := h208) ?_ k208 ?_
  rotate_left
  · exact rfl
  unfold h208 initS
  simp -implicitDefEqProofs (maxSteps := 10000000) only [rkA, rkB, stepA, valA, simprocAttr, Tryz.ntmps208, Tryz.results208]
  refine call_fn rfl rfl rfl (ok195 a) ?_
  unfold mulX
  cases ha : rightX a with
  | false =>
    rw [told_bad _ _ _ _ (.inl ha)]
    simp -implicitDefEqProofs (maxSteps := 10000000) only [rkA, rkB, stepA, valA, simprocAttr]
  | true =>
    simp -implicitDefEqProofs (maxSteps := 10000000) only [rkA, rkB, stepA, valA, simprocAttr]
    refine call_fn rfl rfl rfl (ok195 b) ?_
    cases hb : rightX b with
    | false =>
      rw [told_bad _ _ _ _ (.inr hb)]
      simp -implicitDefEqProofs (maxSteps := 10000000) only [rkA, rkB, stepA, valA, simprocAttr]
    | true =>
      rw [told_two _ _ _ _ ha hb]
      simp -implicitDefEqProofs (maxSteps := 10000000) only [rkA, rkB, stepA, valA, simprocAttr]
      refine call_fn rfl rfl rfl (ok222 a b 16777216 mode) ?_
      simp -implicitDefEqProofs (maxSteps := 10000000) only [rkA, rkB, stepA, valA, simprocAttr]
      refine call_fn rfl rfl rfl (ok207 (mdF a b 16777216 mode).1 (mdF a b 16777216 mode).2) ?_
      simp -implicitDefEqProofs (maxSteps := 10000000) only [rkA, rkB, stepA, valA, simprocAttr]
theorem ok209 (a b mode : Int) : Ok Tryz.prog 209 [num a, num b, num mode] (.tup [num (divX a b mode).1, tru (divX a b mode).2]) := by
  refine ok_fn mixed Tryz.func209 (code := ?_) (h := h209) ?_ k209 ?_
  rotate_left
  · exact rfl
  unfold h209 initS
  simp -implicitDefEqProofs (maxSteps := 10000000) only [rkA, rkB, stepA, valA, simprocAttr, Tryz.ntmps209, Tryz.results209]
  refine call_fn rfl rfl rfl (ok195 a) ?_
  unfold divX
  cases ha : rightX a with
  | false =>
    rw [told_bad _ _ _ _ (.inl ha)]
    simp -implicitDefEqProofs (maxSteps := 10000000) only [rkA, rkB, stepA, valA, simprocAttr]
  | true =>
    simp -implicitDefEqProofs (maxSteps := 10000000) only [rkA, rkB, stepA, valA, simprocAttr]
    refine call_fn rfl rfl rfl (ok195 b) ?_
    cases hb : rightX b with
    | false =>
      rw [told_bad _ _ _ _ (.inr hb)]
      simp -implicitDefEqProofs (maxSteps := 10000000) only [rkA, rkB, stepA, valA, simprocAttr]
    | true =>
      rw [told_two _ _ _ _ ha hb]
      simp -implicitDefEqProofs (maxSteps := 10000000) only [rkA, rkB, stepA, valA, simprocAttr]
      refine call_fn rfl rfl rfl (ok222 a 16777216 b mode) ?_
      simp -implicitDefEqProofs (maxSteps := 10000000) only [rkA, rkB, stepA, valA, simprocAttr]
      refine call_fn rfl rfl rfl (ok207 (mdF a 16777216 b mode).1 (mdF a 16777216 b mode).2) ?_
      simp -implicitDefEqProofs (maxSteps := 10000000) only [rkA, rkB, stepA, valA, simprocAttr]
theorem right_of {a : Int} (h : rightX a = true) : -1125899906842624 ≤ a ∧ a ≤ 1125899906842624 := by
  unfold rightX at h
  exact of_decide_eq_true h
theorem ok210 (a : Int) (h : rightX a = true) (h0 : 0 ≤ a) : Ok Tryz.prog 210 [num a] (.tup [num (rtW (a.natAbs * 16777216)), tru (decide (rtW (a.natAbs * 16777216) * rtW (a.natAbs * 16777216) = a.natAbs * 16777216))]) := by
  have hr := right_of h
  refine ok_fn mixed Tryz.func210 (code := ?_) (h := h210) ?_ k210 ?_
  rotate_left
  · exact rfl
  unfold h210 initS
  simp -implicitDefEqProofs (maxSteps := 10000000) only [rkA, rkB, stepA, valA, simprocAttr, Tryz.ntmps210, Tryz.results210]
  refine call_fn rfl rfl rfl (ok223 a 16777216 (by omega) (by omega)) ?_
  simp -implicitDefEqProofs (maxSteps := 10000000) only [rkA, rkB, stepA, valA, simprocAttr]

/-! ### One of the document's operations -/
theorem rtX_bad {a mode : Int} (h : rightX a = false ∨ a < 0) : rtX a mode = (0, false) := by
  unfold rtX toldF
  rw [if_neg]
  rintro ⟨h1, h2⟩
  rcases h with h | h
  · simp at h2
    rw [h2.1] at h; cases h
  · have : wRootOk a 16777216 mode = false := by
      unfold wRootOk
      have e1 : decide (a < 0) = true := decide_eq_true h
      have e2 : decide (a ≠ 0) = true := decide_eq_true (by omega)
      simp [e1, e2]
    rw [wRoot_no this] at h1
    cases h1
theorem rtX_ok {a mode : Int} (h : rightX a = true) (h0 : 0 ≤ a) (hm : 0 ≤ mode ∧ mode ≤ 2) : rtX a mode = ((wRootN (a.natAbs * 16777216) mode : Int), true) := by
  have hr := right_of h
  have hok : wRootOk a 16777216 mode = true := by
    unfold wRootOk rightW
    have e1 : decide (a < 0) = false := decide_eq_false (by omega)
    simp [e1, hm]
    omega
  have hp : a.natAbs * 16777216 ≤ 4611686018427387903 * 4611686018427387903 := by omega
  obtain ⟨r1, r2, r3⟩ := rtW_spec hp
  have hs : rtW (a.natAbs * 16777216) < 137438953473 := by
    refine sq_lt ?_
    omega
  unfold rtX
  rw [wRoot_yes hok]
  have hb : ((16777216 : Int)).natAbs = 16777216 := rfl
  rw [hb]
  unfold toldF
  rw [if_pos]
  refine ⟨rfl, ?_⟩
  have : wRootN (a.natAbs * 16777216) mode ≤ 137438953473 := by unfold wRootN; split <;> omega
  simp only [List.all_cons, List.all_nil, List.cons_append, List.nil_append, h, Bool.true_and, Bool.and_true]
  unfold rightX
  exact decide_eq_true (by omega)
theorem ok157a (a b mode : Int) : Ok Tryz.prog 157 [num 0, num a, num b, num mode] (.tup [num (addX a b).1, tru (addX a b).2]) := by
  refine ok_fn mixed Tryz.func157 (code := ?_) (h := h157) ?_ k157 ?_
  rotate_left
  · exact rfl
  unfold h157 initS
  simp -implicitDefEqProofs (maxSteps := 10000000) only [rkA, rkB, stepA, valA, simprocAttr, Tryz.ntmps157, Tryz.results157]
  unfold addX
  refine call_fn rfl rfl rfl (ok195 a) ?_
  cases ha : rightX a with
  | false => simp -implicitDefEqProofs (maxSteps := 10000000) only [rkA, rkB, stepA, valA, simprocAttr]
  | true =>
    simp -implicitDefEqProofs (maxSteps := 10000000) only [rkA, rkB, stepA, valA, simprocAttr]
    refine call_fn rfl rfl rfl (ok195 b) ?_
    cases hb : rightX b with
    | false => simp -implicitDefEqProofs (maxSteps := 10000000) only [rkA, rkB, stepA, valA, simprocAttr]
    | true =>
      have h1 := right_of ha
      have h2 := right_of hb
      have hw := wrapped (x := a + b) (by omega) (by omega)
      simp -implicitDefEqProofs (maxSteps := 10000000) only [hw, rkA, rkB, stepA, valA, simprocAttr]
      refine call_fn rfl rfl rfl (ok207 (a + b) true) ?_
      simp -implicitDefEqProofs (maxSteps := 10000000) only [rkA, rkB, stepA, valA, simprocAttr]
theorem ok157b (a b mode : Int) : Ok Tryz.prog 157 [num 1, num a, num b, num mode] (.tup [num (subX a b).1, tru (subX a b).2]) := by
  refine ok_fn mixed Tryz.func157 (code := ?_) (h := h157) ?_ k157 ?_
  rotate_left
  · exact rfl
  unfold h157 initS
  simp -implicitDefEqProofs (maxSteps := 10000000) only [rkA, rkB, stepA, valA, simprocAttr, Tryz.ntmps157, Tryz.results157]
  unfold subX
  refine call_fn rfl rfl rfl (ok195 a) ?_
  cases ha : rightX a with
  | false => simp -implicitDefEqProofs (maxSteps := 10000000) only [rkA, rkB, stepA, valA, simprocAttr]
  | true =>
    simp -implicitDefEqProofs (maxSteps := 10000000) only [rkA, rkB, stepA, valA, simprocAttr]
    refine call_fn rfl rfl rfl (ok195 b) ?_
    cases hb : rightX b with
    | false => simp -implicitDefEqProofs (maxSteps := 10000000) only [rkA, rkB, stepA, valA, simprocAttr]
    | true =>
      have h1 := right_of ha
      have h2 := right_of hb
      have hw := wrapped (x := a - b) (by omega) (by omega)
      simp -implicitDefEqProofs (maxSteps := 10000000) only [hw, rkA, rkB, stepA, valA, simprocAttr]
      refine call_fn rfl rfl rfl (ok207 (a - b) true) ?_
      simp -implicitDefEqProofs (maxSteps := 10000000) only [rkA, rkB, stepA, valA, simprocAttr]
theorem ok157c (a b mode : Int) : Ok Tryz.prog 157 [num 2, num a, num b, num mode] (.tup [num (mulX a b mode).1, tru (mulX a b mode).2]) := by
  refine ok_fn mixed Tryz.func157 (code := ?_) (h := h157) ?_ k157 ?_
  rotate_left
  · exact rfl
  unfold h157 initS
  simp -implicitDefEqProofs (maxSteps := 10000000) only [rkA, rkB, stepA, valA, simprocAttr, Tryz.ntmps157, Tryz.results157]
  refine call_fn rfl rfl rfl (ok208 a b mode) ?_
  simp -implicitDefEqProofs (maxSteps := 10000000) only [rkA, rkB, stepA, valA, simprocAttr]
theorem ok157d (a b mode : Int) : Ok Tryz.prog 157 [num 3, num a, num b, num mode] (.tup [num (divX a b mode).1, tru (divX a b mode).2]) := by
  refine ok_fn mixed Tryz.func157 (code := ?_) (h := h157) ?_ k157 ?_
  rotate_left
  · exact rfl
  unfold h157 initS
  simp -implicitDefEqProofs (maxSteps := 10000000) only [rkA, rkB, stepA, valA, simprocAttr, Tryz.ntmps157, Tryz.results157]
  refine call_fn rfl rfl rfl (ok209 a b mode) ?_
  simp -implicitDefEqProofs (maxSteps := 10000000) only [rkA, rkB, stepA, valA, simprocAttr]
theorem wRootN_exact {p : Nat} {mode : Int} (h : rtW p * rtW p = p) : wRootN p mode = rtW p := by
  unfold wRootN upW
  simp [h]
theorem wRootN_down {p : Nat} : wRootN p 1 = rtW p := by
  unfold wRootN upW
  simp
theorem wRootN_up {p : Nat} (h : ¬ rtW p * rtW p = p) : wRootN p 2 = rtW p + 1 := by
  unfold wRootN upW
  simp [h]
theorem wRootN_even {p : Nat} (h : ¬ rtW p * rtW p = p) : wRootN p 0 = if rtW p * (rtW p + 1) < p then rtW p + 1 else rtW p := by
  unfold wRootN upW
  simp [h]
theorem ok157e (a b mode : Int) (hm : 0 ≤ mode ∧ mode ≤ 2) : Ok Tryz.prog 157 [num 4, num a, num b, num mode] (.tup [num (rtX a mode).1, tru (rtX a mode).2]) := by
  refine ok_fn mixed Tryz.func157 (code := ?_) (h := h157) ?_ k157 ?_
  rotate_left
  · exact rfl
  unfold h157 initS
  simp -implicitDefEqProofs (maxSteps := 10000000) only [rkA, rkB, stepA, valA, simprocAttr, Tryz.ntmps157, Tryz.results157]
  refine call_fn rfl rfl rfl (ok195 a) ?_
  cases ha : rightX a with
  | false =>
    rw [rtX_bad (.inl ha)]
    simp -implicitDefEqProofs (maxSteps := 10000000) only [rkA, rkB, stepA, valA, simprocAttr]
  | true =>
    have hr := right_of ha
    by_cases h0 : a < 0
    · rw [rtX_bad (.inr h0)]
      simp -implicitDefEqProofs (maxSteps := 10000000) only [h0, rkA, rkB, stepA, valA, simprocAttr]
    · obtain ⟨p, hpd⟩ : ∃ p, a.natAbs * 16777216 = p := ⟨_, rfl⟩
      have hx := rtX_ok ha (by omega) hm
      have h979 := ok210 a ha (by omega)
      have hT2 := ok212 a.natAbs 16777216 (by omega) (by omega)
      rw [show ((a.natAbs : Nat) : Int) = a by omega, show ((16777216 : Nat) : Int) = 16777216 from rfl] at hT2
      rw [hpd] at hx h979 hT2
      rw [hx]
      simp -implicitDefEqProofs (maxSteps := 10000000) only [h0, rkA, rkB, stepA, valA, simprocAttr]
      refine call_fn rfl rfl rfl (h979) ?_
      have hp : p ≤ 4611686018427387903 * 4611686018427387903 := by omega
      have hp2 : p < 2 ^ 130 := Nat.lt_of_le_of_lt hp (by decide)
      obtain ⟨r1, r2, r3⟩ := rtW_spec hp
      have x1 := wRootN_exact (p := p) (mode := mode)
      have x2 := wRootN_down (p := p)
      have x3 := wRootN_up (p := p)
      have x4 := wRootN_even (p := p)
      generalize wRootN p = RR at *
      generalize rtW p = q at *
      by_cases hex : q * q = p
      · rw [x1 hex]
        simp -implicitDefEqProofs (maxSteps := 10000000) only [decide_eq_true hex, rkA, rkB, stepA, valA, simprocAttr]
      · simp -implicitDefEqProofs (maxSteps := 10000000) only [decide_eq_false hex, rkA, rkB, stepA, valA, simprocAttr]
        have hmode : mode = 0 ∨ mode = 1 ∨ mode = 2 := by omega
        have hw := wrapped (x := (q : Int) + 1) (by omega) (by omega)
        rcases hmode with rfl | rfl | rfl
        · simp -implicitDefEqProofs (maxSteps := 10000000) only [hw, rkA, rkB, stepA, valA, simprocAttr]
          have hT1 := ok212 q (q + 1) (by omega) (by omega)
          rw [Int.natCast_add, Int.natCast_one] at hT1
          refine call_fn rfl rfl rfl (hT1) ?_
          simp -implicitDefEqProofs (maxSteps := 10000000) only [rkA, rkB, stepA, valA, simprocAttr]
          refine call_fn rfl rfl rfl (hT2) ?_
          simp -implicitDefEqProofs (maxSteps := 10000000) only [rkA, rkB, stepA, valA, simprocAttr]
          have hb : q * (q + 1) < 2 ^ 130 := Nat.lt_of_le_of_lt (Nat.mul_le_mul r3 (show q + 1 ≤ 4611686018427387904 by omega)) (by decide)
          refine call_fn rfl rfl rfl (ok211 false false (q * (q + 1)) p hb hp2) ?_
          rw [x4 hex]
          by_cases hl : q * (q + 1) < p
          · rw [if_pos hl]
            simp -implicitDefEqProofs (maxSteps := 10000000) only [decide_eq_true hl, hw, Int.natCast_add, Int.natCast_one, rkA, rkB, stepA, valA, simprocAttr]
          · rw [if_neg hl]
            simp -implicitDefEqProofs (maxSteps := 10000000) only [decide_eq_false hl, rkA, rkB, stepA, valA, simprocAttr]
        · rw [x2]
          simp -implicitDefEqProofs (maxSteps := 10000000) only [rkA, rkB, stepA, valA, simprocAttr]
        · rw [x3 hex]
          simp -implicitDefEqProofs (maxSteps := 10000000) only [hw, Int.natCast_add, Int.natCast_one, rkA, rkB, stepA, valA, simprocAttr]
end Go.Proofs.YtambpjbpdackfaaGreat.A.E



set_option linter.unusedVariables false
set_option linter.unusedSimpArgs false
set_option maxRecDepth 100000
namespace Go.Proofs.YtambpjbpdackfaaGreat.A.E
open Go Go.RowKit Go.Shelf

/-! ### The document's operations of enclosed numbers -/
theorem ok140 (x : Fr) : Ok Tryz.prog 140 [frV x] (tru x.fine) := by
  refine ok_fn mixed Tryz.func140 (code := ?_) (h := h140) ?_ k140 ?_
  rotate_left
  · exact rfl
  unfold h140 initS
  simp -implicitDefEqProofs (maxSteps := 10000000) only [rkA, rkB, stepA, valA, simprocAttr, Tryz.ntmps140, Tryz.results140]
  cases hb : x.bad with
  | true => simp -implicitDefEqProofs (maxSteps := 10000000) only [Fr.fine, hb, rkA, rkB, stepA, valA, simprocAttr]
  | false =>
    simp -implicitDefEqProofs (maxSteps := 10000000) only [rkA, rkB, stepA, valA, simprocAttr]
    refine call_fn rfl rfl rfl (ok195 x.lo) ?_
    cases h1 : rightX x.lo with
    | false => simp -implicitDefEqProofs (maxSteps := 10000000) only [Fr.fine, hb, h1, rkA, rkB, stepA, valA, simprocAttr]
    | true =>
      simp -implicitDefEqProofs (maxSteps := 10000000) only [rkA, rkB, stepA, valA, simprocAttr]
      refine call_fn rfl rfl rfl (ok195 x.hi) ?_
      cases h2 : rightX x.hi with
      | false => simp -implicitDefEqProofs (maxSteps := 10000000) only [Fr.fine, hb, h1, h2, rkA, rkB, stepA, valA, simprocAttr]
      | true =>
        by_cases h3 : x.lo ≤ x.v
        · simp -implicitDefEqProofs (maxSteps := 10000000) only [Fr.fine, hb, h1, h2, h3, rkA, rkB, stepA, valA, simprocAttr]
        · simp -implicitDefEqProofs (maxSteps := 10000000) only [Fr.fine, hb, h1, h2, h3, rkA, rkB, stepA, valA, simprocAttr]
theorem minL_snoc {l : List Int} (h : l ≠ []) (x : Int) : minL (l ++ [x]) = if x < minL l then x else minL l := by
  cases l with
  | nil => exact absurd rfl h
  | cons a l =>
    simp only [minL, List.cons_append, List.foldl_append, List.foldl_cons, List.foldl_nil]
    rfl
theorem maxL_snoc {l : List Int} (h : l ≠ []) (x : Int) : maxL (l ++ [x]) = if maxL l < x then x else maxL l := by
  cases l with
  | nil => exact absurd rfl h
  | cons a l =>
    simp only [maxL, List.cons_append, List.foldl_append, List.foldl_cons, List.foldl_nil]
    rfl
abbrev prS (p : Int × Int) : PV := .sl true [num p.1, num p.2]
section
variable (F : Int → Int → Int → Int × Bool) (ps : List (Int × Int))
def loK (k : Nat) : Int := minL ((ps.take k).map fun p => (F p.1 p.2 1).1)
def hiK (k : Nat) : Int := maxL ((ps.take k).map fun p => (F p.1 p.2 2).1)
variable {F ps}
theorem loK_succ {k : Nat} {p : Int × Int} (h : ps[k]? = some p) : loK F ps (k + 1) = if k = 0 then (F p.1 p.2 1).1 else if (F p.1 p.2 1).1 < loK F ps k then (F p.1 p.2 1).1 else loK F ps k := by
  obtain ⟨hk, rfl⟩ := List.getElem?_eq_some_iff.1 h
  unfold loK
  rw [List.take_succ_eq_append_getElem hk, List.map_append, List.map_singleton]
  by_cases h0 : k = 0
  · subst h0
    rw [if_pos rfl]
    rfl
  · rw [if_neg h0, minL_snoc]
    intro e
    have := congrArg List.length e
    rw [List.length_map, List.length_take, List.length_nil] at this
    omega
theorem hiK_succ {k : Nat} {p : Int × Int} (h : ps[k]? = some p) : hiK F ps (k + 1) = if k = 0 then (F p.1 p.2 2).1 else if (F p.1 p.2 2).1 > hiK F ps k then (F p.1 p.2 2).1 else hiK F ps k := by
  obtain ⟨hk, rfl⟩ := List.getElem?_eq_some_iff.1 h
  unfold hiK
  rw [List.take_succ_eq_append_getElem hk, List.map_append, List.map_singleton]
  by_cases h0 : k = 0
  · subst h0
    rw [if_pos rfl]
    rfl
  · rw [if_neg h0, maxL_snoc]
    intro e
    have := congrArg List.length e
    rw [List.length_map, List.length_take, List.length_nil] at this
    omega
theorem all_succ {k : Nat} {p : Int × Int} (h : ps[k]? = some p) (b : Bool) : (b && (ps.take (k + 1)).all (okP F)) = ((b && (ps.take k).all (okP F)) && ((F p.1 p.2 1).2 && (F p.1 p.2 2).2)) := by
  obtain ⟨hk, rfl⟩ := List.getElem?_eq_some_iff.1 h
  rw [List.take_succ_eq_append_getElem hk, List.all_append, List.all_cons, List.all_nil, Bool.and_true, Bool.and_assoc]
  rfl
end
set_option maxHeartbeats 8000000 in
theorem ok79a (a b : Fr) : Ok Tryz.prog 79 [num 0, frV a, frV b] (frV (addF a b)) := by
  unfold addF
  refine ok_fn mixed Tryz.func79 (code := ?_) (h := h79) ?_ k79 ?_
  rotate_left
  · exact rfl
  unfold h79 initS
  simp -implicitDefEqProofs (maxSteps := 10000000) only [rkA, rkB, stepA, valA, simprocAttr, Tryz.ntmps79, Tryz.results79]
  refine call_fn rfl rfl rfl (ok140 a) ?_
  cases ha : a.fine with
  | false => simp -implicitDefEqProofs (maxSteps := 10000000) only [madeE, ha, rkA, rkB, stepA, valA, simprocAttr]
  | true =>
  simp -implicitDefEqProofs (maxSteps := 10000000) only [rkA, rkB, stepA, valA, simprocAttr]
  refine call_fn rfl rfl rfl (ok140 b) ?_
  cases hb : b.fine with
  | false => simp -implicitDefEqProofs (maxSteps := 10000000) only [madeE, hb, rkA, rkB, stepA, valA, simprocAttr]
  | true =>
  simp -implicitDefEqProofs (maxSteps := 10000000) only [rkA, rkB, stepA, valA, simprocAttr]
  obtain ⟨F, hFd⟩ : ∃ F : Int → Int → Int → Int × Bool, F = fun x y _ => addX x y := ⟨_, rfl⟩
  have hF : ∀ x y m, 0 ≤ m ∧ m ≤ 2 → Ok Tryz.prog 157 [num 0, num x, num y, num m] (.tup [num (F x y m).1, tru (F x y m).2]) := fun x y m hm => by rw [hFd]; exact ok157a x y m
  obtain ⟨ps, hps⟩ : ∃ ps : List (Int × Int), ps = [(a.lo, b.lo), (a.hi, b.hi)] := ⟨_, rfl⟩
  have hpl : ps.length = 2 := by rw [hps]; rfl
  rw [← hFd, ← hps]
  clear hFd
  refine call_fn rfl rfl rfl (hF a.v b.v 0 (by omega)) ?_
  simp -implicitDefEqProofs (maxSteps := 10000000) only [rkA, rkB, stepA, valA, simprocAttr]
  refine wp_loop (fun m s => ∃ (k : Nat), k + m = ps.length ∧ s = ⟨[.v (num 0), jk, jk, jk, jk, jk, .ptr 6 0, .ptr 7 0, .v (.sl true (ps.map prS)), jk, .v (tru ((F a.v b.v 0).2 && (ps.take k).all (okP F))), .ptr 11 0, nt k, jk, jk, jk, jk, jk, jk, jk, jk, jk, jk, jk, jk, jk, jk, jk, jk, jk, jk, jk, jk, jk, jk, jk, jk, jk, jk, jk, jk, jk, jk, jk, jk, jk, jk, jk, jk, jk, jk, jk, jk, jk, jk, jk, jk, jk, jk, jk, jk, jk, jk, jk, jk, jk, jk, jk, jk, jk, jk, jk, jk, jk, jk, jk, jk, jk, jk, jk, jk, jk, jk, jk, jk, jk, jk, jk, jk, jk, jk, jk, jk, jk, jk, jk, jk, jk, jk, jk, jk, jk, jk, jk, jk, jk, jk, jk, jk, jk, jk, jk, jk, jk, jk, jk, jk, jk, jk, jk, jk, jk, jk, jk, jk, jk, jk, jk, jk, jk, jk, jk, jk, jk, jk, jk, jk, jk, jk, jk, jk, jk, jk, jk, jk, jk, jk, jk, jk, jk, jk, jk, jk, jk, jk, jk, jk, jk, jk, jk, jk, jk, jk, jk, jk, jk, jk, jk, jk, jk, jk, jk, jk, jk], [(4, [nt a.v, nt a.lo, nt a.hi, .v (tru a.bad)]), (5, [nt b.v, nt b.lo, nt b.hi, .v (tru b.bad)]), (6, [nt 0, nt 0, nt 0, .v (tru false)]), (7, [nt 0, nt 0, nt 0, .v (tru true)]), (11, [nt (F a.v b.v 0).1, nt (loK F ps k), nt (hiK F ps k), .v (tru false)])], [], [], [], 0, nomem⟩) ps.length ?_ ?_
  · simp -implicitDefEqProofs (maxSteps := 10000000) only [rkA, rkB, stepA, valA, simprocAttr]
    refine ⟨0, by omega, ?_⟩
    rw [List.take_zero, List.all_nil, Bool.and_true, hps]
    rfl
  have lps : (ps.map prS).length = ps.length := by simp
  rintro m s ⟨k, hk, rfl⟩
  simp -implicitDefEqProofs (maxSteps := 10000000) only [lps, rkA, rkB, stepA, valA, simprocAttr]
  refine gB_dec ?_ ?_ <;> intro hc <;> simp -implicitDefEqProofs (maxSteps := 10000000) only [hc, rkA, rkB, stepA, valA, simprocAttr]
  · have hlt : k < ps.length := by omega
    obtain ⟨p, hp⟩ : ∃ p, ps[k]? = some p := ⟨ps[k], List.getElem?_eq_getElem hlt⟩
    have hg : (ps.map prS)[k]? = some (prS p) := by rw [List.getElem?_map, hp]; rfl
    have h0 := nat0 k
    have hw := wrapped (x := (k : Int) + 1) (by omega) (by omega)
    have s1 := loK_succ (F := F) hp
    have s2 := hiK_succ (F := F) hp
    have s3 := all_succ (F := F) hp (F a.v b.v 0).2
    simp -implicitDefEqProofs (maxSteps := 10000000) only [h0, Int.toNat_natCast, hg, rkA, rkB, stepA, valA, simprocAttr]
    refine call_fn rfl rfl rfl (hF p.1 p.2 1 (by omega)) ?_
    simp -implicitDefEqProofs (maxSteps := 10000000) only [h0, Int.toNat_natCast, hg, rkA, rkB, stepA, valA, simprocAttr]
    refine call_fn rfl rfl rfl (hF p.1 p.2 2 (by omega)) ?_
    generalize ((F a.v b.v 0).2 && (ps.take k).all (okP F)) = B at *
    generalize hB' : ((F a.v b.v 0).2 && (ps.take (k + 1)).all (okP F)) = B' at s3
    generalize F p.1 p.2 1 = X at *
    generalize F p.1 p.2 2 = Y at *
    obtain ⟨x, is⟩ := X
    obtain ⟨y, has⟩ := Y
    simp only at s1 s2 s3
    obtain ⟨j, hj, hjm⟩ : ∃ j, k + 1 + j = ps.length ∧ j < m := ⟨m - 1, by omega, by omega⟩
    simp -implicitDefEqProofs (maxSteps := 10000000) only [rkA, rkB, stepA, valA, simprocAttr]
    refine guard_join (fun s => ∃ f : Nat → TV, s = ⟨[.v (num 0), jk, jk, jk, jk, jk, .ptr 6 0, .ptr 7 0, .v (.sl true (ps.map prS)), jk, .v (tru B'), .ptr 11 0, nt k, nt x, .v (tru is), nt y, .v (tru has), jk, jk, jk, jk, jk, jk, jk, jk, jk, jk, jk, jk, jk, jk, jk, jk, jk, jk, jk, jk, jk, jk, jk, jk, jk, jk, jk, jk, jk, jk, jk, jk, jk, jk, jk, jk, jk, jk, jk, jk, jk, jk, jk, jk, jk, jk, jk, jk, jk, jk, jk, jk, jk, jk, jk, jk, jk, jk, jk, jk, jk, jk, jk, jk, jk, jk, jk, jk, jk, jk, jk, jk, jk, jk, jk, jk, jk, jk, jk, jk, jk, jk, jk, jk, jk, jk, f 103, f 104, f 105, f 106, jk, jk, f 109, f 110, f 111, f 112, f 113, f 114, f 115, f 116, f 117, f 118, f 119, f 120, f 121, f 122, f 123, f 124, f 125, f 126, f 127, f 128, f 129, f 130, f 131, f 132, f 133, f 134, f 135, f 136, f 137, f 138, f 139, f 140, f 141, f 142, f 143, f 144, f 145, f 146, f 147, f 148, f 149, jk, jk, jk, jk, jk, jk, jk, jk, jk, jk, jk, jk, jk, jk, jk, jk, jk, jk, jk, jk, jk, jk, jk, jk], [(4, [nt a.v, nt a.lo, nt a.hi, .v (tru a.bad)]), (5, [nt b.v, nt b.lo, nt b.hi, .v (tru b.bad)]), (6, [nt 0, nt 0, nt 0, .v (tru false)]), (7, [nt 0, nt 0, nt 0, .v (tru true)]), (11, [nt (F a.v b.v 0).1, nt (loK F ps k), nt (hiK F ps k), .v (tru false)])], [], [], [], 0, nomem⟩) ?_ ?_
    rotate_left
    · cases B with
      | false =>
        simp only [Bool.false_and] at s3
        subst s3
        simp -implicitDefEqProofs (maxSteps := 10000000) only [rkA, rkB, stepA, valA, simprocAttr]
        exact slots_of rfl
      | true =>
        cases is with
        | false =>
          simp only [Bool.false_and, Bool.and_false] at s3
          subst s3
          simp -implicitDefEqProofs (maxSteps := 10000000) only [rkA, rkB, stepA, valA, simprocAttr]
          exact slots_of rfl
        | true =>
          simp only [Bool.true_and] at s3
          subst s3
          simp -implicitDefEqProofs (maxSteps := 10000000) only [rkA, rkB, stepA, valA, simprocAttr]
          exact slots_of rfl
    rintro s ⟨f, rfl⟩
    clear s3
    simp -implicitDefEqProofs (maxSteps := 10000000) only [rkA, rkB, stepA, valA, simprocAttr]
    by_cases hk0 : k = 0
    · subst hk0
      rw [if_pos rfl] at s1 s2
      have hw1 : IntKind.wrap .i64 1 = 1 := rfl
      simp -implicitDefEqProofs (maxSteps := 10000000) only [hw1, Int.natCast_zero, rkA, rkB, stepA, valA, simprocAttr]
      refine loopK_of (m' := j) hjm ?_
      simp -implicitDefEqProofs (maxSteps := 10000000) only [rkA, rkB, stepA, valA, simprocAttr]
      exact ⟨0 + 1, hj, by rw [s1, s2, hB']; rfl⟩
    · rw [if_neg hk0] at s1 s2
      have e0 : ((k : Int) == 0) = false := by simp; omega
      simp -implicitDefEqProofs (maxSteps := 10000000) only [e0, rkA, rkB, stepA, valA, simprocAttr]
      refine cond_join (fun s => ∃ f : Nat → TV, s = ⟨[.v (num 0), jk, jk, jk, jk, jk, .ptr 6 0, .ptr 7 0, .v (.sl true (ps.map prS)), jk, .v (tru B'), .ptr 11 0, nt k, nt x, .v (tru is), nt y, .v (tru has), jk, jk, jk, jk, jk, jk, jk, jk, jk, jk, jk, jk, jk, jk, jk, jk, jk, jk, jk, jk, jk, jk, jk, jk, jk, jk, jk, jk, jk, jk, jk, jk, jk, jk, jk, jk, jk, jk, jk, jk, jk, jk, jk, jk, jk, jk, jk, jk, jk, jk, jk, jk, jk, jk, jk, jk, jk, jk, jk, jk, jk, jk, jk, jk, jk, jk, jk, jk, jk, jk, jk, jk, jk, jk, jk, jk, jk, jk, jk, jk, jk, jk, jk, jk, jk, jk, f 103, f 104, f 105, f 106, jk, jk, f 109, f 110, f 111, f 112, f 113, f 114, f 115, f 116, f 117, f 118, f 119, f 120, f 121, f 122, f 123, f 124, f 125, f 126, f 127, f 128, f 129, f 130, f 131, f 132, f 133, f 134, f 135, f 136, f 137, f 138, f 139, f 140, f 141, f 142, f 143, f 144, f 145, f 146, f 147, f 148, f 149, f 150, f 151, f 152, f 153, f 154, f 155, f 156, f 157, f 158, f 159, jk, jk, jk, jk, jk, jk, jk, jk, jk, jk, jk, jk, jk, jk], [(4, [nt a.v, nt a.lo, nt a.hi, .v (tru a.bad)]), (5, [nt b.v, nt b.lo, nt b.hi, .v (tru b.bad)]), (6, [nt 0, nt 0, nt 0, .v (tru false)]), (7, [nt 0, nt 0, nt 0, .v (tru true)]), (11, [nt (F a.v b.v 0).1, nt (loK F ps (k + 1)), nt (hiK F ps k), .v (tru false)])], [], [], [], 0, nomem⟩) ?_ ?_ ?_
      rotate_left
      · intro h
        have h' := of_decide_eq_true h
        rw [if_pos h'] at s1
        rw [s1]
        simp -implicitDefEqProofs (maxSteps := 10000000) only [rkA, rkB, stepA, valA, simprocAttr]
        exact slots_of rfl
      · intro h
        have h' := of_decide_eq_false h
        rw [if_neg h'] at s1
        rw [s1]
        simp -implicitDefEqProofs (maxSteps := 10000000) only [rkA, rkB, stepA, valA, simprocAttr]
        exact slots_of rfl
      rintro s ⟨f, rfl⟩
      simp -implicitDefEqProofs (maxSteps := 10000000) only [e0, rkA, rkB, stepA, valA, simprocAttr]
      refine cond_join (fun s => ∃ f : Nat → TV, s = ⟨[.v (num 0), jk, jk, jk, jk, jk, .ptr 6 0, .ptr 7 0, .v (.sl true (ps.map prS)), jk, .v (tru B'), .ptr 11 0, nt k, nt x, .v (tru is), nt y, .v (tru has), jk, jk, jk, jk, jk, jk, jk, jk, jk, jk, jk, jk, jk, jk, jk, jk, jk, jk, jk, jk, jk, jk, jk, jk, jk, jk, jk, jk, jk, jk, jk, jk, jk, jk, jk, jk, jk, jk, jk, jk, jk, jk, jk, jk, jk, jk, jk, jk, jk, jk, jk, jk, jk, jk, jk, jk, jk, jk, jk, jk, jk, jk, jk, jk, jk, jk, jk, jk, jk, jk, jk, jk, jk, jk, jk, jk, jk, jk, jk, jk, jk, jk, jk, jk, jk, jk, f 103, f 104, f 105, f 106, jk, jk, f 109, f 110, f 111, f 112, f 113, f 114, f 115, f 116, f 117, f 118, f 119, f 120, f 121, f 122, f 123, f 124, f 125, f 126, f 127, f 128, f 129, f 130, f 131, f 132, f 133, f 134, f 135, f 136, f 137, f 138, f 139, f 140, f 141, f 142, f 143, f 144, f 145, f 146, f 147, f 148, f 149, f 150, f 151, f 152, f 153, f 154, f 155, f 156, f 157, f 158, f 159, f 160, f 161, f 162, f 163, f 164, f 165, f 166, f 167, f 168, f 169, jk, jk, jk, jk], [(4, [nt a.v, nt a.lo, nt a.hi, .v (tru a.bad)]), (5, [nt b.v, nt b.lo, nt b.hi, .v (tru b.bad)]), (6, [nt 0, nt 0, nt 0, .v (tru false)]), (7, [nt 0, nt 0, nt 0, .v (tru true)]), (11, [nt (F a.v b.v 0).1, nt (loK F ps (k + 1)), nt (hiK F ps (k + 1)), .v (tru false)])], [], [], [], 0, nomem⟩) ?_ ?_ ?_
      rotate_left
      · intro h
        have h' := of_decide_eq_true h
        rw [if_pos h'] at s2
        rw [s2]
        simp -implicitDefEqProofs (maxSteps := 10000000) only [rkA, rkB, stepA, valA, simprocAttr]
        exact slots_of rfl
      · intro h
        have h' := of_decide_eq_false h
        rw [if_neg h'] at s2
        rw [s2]
        simp -implicitDefEqProofs (maxSteps := 10000000) only [rkA, rkB, stepA, valA, simprocAttr]
        exact slots_of rfl
      rintro s ⟨f, rfl⟩
      simp -implicitDefEqProofs (maxSteps := 10000000) only [hw, rkA, rkB, stepA, valA, simprocAttr]
      refine loopK_of (m' := j) hjm ?_
      simp -implicitDefEqProofs (maxSteps := 10000000) only [rkA, rkB, stepA, valA, simprocAttr]
      exact ⟨k + 1, hj, by rw [hB']; simp only [Int.natCast_add, Int.natCast_one]⟩
  · have hkl : ps.take k = ps := List.take_of_length_le (by omega)
    rw [hkl]
    have hl : loK F ps k = minL (ps.map fun p => (F p.1 p.2 1).1) := by unfold loK; rw [hkl]
    have hh : hiK F ps k = maxL (ps.map fun p => (F p.1 p.2 2).1) := by unfold hiK; rw [hkl]
    cases hB : ((F a.v b.v 0).2 && ps.all (okP F)) with
    | false =>
      have hm : madeE F a b ps = .wrong := by unfold madeE; rw [if_neg (by rw [hB]; rintro ⟨h, _⟩; cases h)]
      rw [hm]
      simp -implicitDefEqProofs (maxSteps := 10000000) only [rkA, rkB, stepA, valA, simprocAttr]
    | true =>
      have hm : madeE F a b ps = ⟨(F a.v b.v 0).1, loK F ps k, hiK F ps k, false⟩ := by unfold madeE; rw [if_pos ⟨hB, ha, hb⟩, hl, hh]
      rw [hm]
      simp -implicitDefEqProofs (maxSteps := 10000000) only [rkA, rkB, stepA, valA, simprocAttr]
end Go.Proofs.YtambpjbpdackfaaGreat.A.E



set_option linter.unusedVariables false
set_option linter.unusedSimpArgs false
set_option maxRecDepth 100000
namespace Go.Proofs.YtambpjbpdackfaaGreat.A.E
open Go Go.RowKit Go.Shelf

set_option maxHeartbeats 8000000 in
theorem ok79b (a b : Fr) : Ok Tryz.prog 79 [num 1, frV a, frV b] (frV (subF a b)) := by
  unfold subF
  refine ok_fn mixed Tryz.func79 (code := ?_) (h := h79) ?_ k79 ?_
  rotate_left
  · exact rfl
  unfold h79 initS
  simp -implicitDefEqProofs (maxSteps := 10000000) only [rkA, rkB, stepA, valA, simprocAttr, Tryz.ntmps79, Tryz.results79]
  refine call_fn rfl rfl rfl (ok140 a) ?_
  cases ha : a.fine with
  | false => simp -implicitDefEqProofs (maxSteps := 10000000) only [madeE, ha, rkA, rkB, stepA, valA, simprocAttr]
  | true =>
  simp -implicitDefEqProofs (maxSteps := 10000000) only [rkA, rkB, stepA, valA, simprocAttr]
  refine call_fn rfl rfl rfl (ok140 b) ?_
  cases hb : b.fine with
  | false => simp -implicitDefEqProofs (maxSteps := 10000000) only [madeE, hb, rkA, rkB, stepA, valA, simprocAttr]
  | true =>
  simp -implicitDefEqProofs (maxSteps := 10000000) only [rkA, rkB, stepA, valA, simprocAttr]
  obtain ⟨F, hFd⟩ : ∃ F : Int → Int → Int → Int × Bool, F = fun x y _ => subX x y := ⟨_, rfl⟩
  have hF : ∀ x y m, 0 ≤ m ∧ m ≤ 2 → Ok Tryz.prog 157 [num 1, num x, num y, num m] (.tup [num (F x y m).1, tru (F x y m).2]) := fun x y m hm => by rw [hFd]; exact ok157b x y m
  obtain ⟨ps, hps⟩ : ∃ ps : List (Int × Int), ps = [(a.lo, b.hi), (a.hi, b.lo)] := ⟨_, rfl⟩
  have hpl : ps.length = 2 := by rw [hps]; rfl
  rw [← hFd, ← hps]
  clear hFd
  refine call_fn rfl rfl rfl (hF a.v b.v 0 (by omega)) ?_
  simp -implicitDefEqProofs (maxSteps := 10000000) only [rkA, rkB, stepA, valA, simprocAttr]
  refine wp_loop (fun m s => ∃ (k : Nat), k + m = ps.length ∧ s = ⟨[.v (num 1), jk, jk, jk, jk, jk, .ptr 6 0, .ptr 7 0, .v (.sl true (ps.map prS)), jk, .v (tru ((F a.v b.v 0).2 && (ps.take k).all (okP F))), .ptr 11 0, nt k, jk, jk, jk, jk, jk, jk, jk, jk, jk, jk, jk, jk, jk, jk, jk, jk, jk, jk, jk, jk, jk, jk, jk, jk, jk, jk, jk, jk, jk, jk, jk, jk, jk, jk, jk, jk, jk, jk, jk, jk, jk, jk, jk, jk, jk, jk, jk, jk, jk, jk, jk, jk, jk, jk, jk, jk, jk, jk, jk, jk, jk, jk, jk, jk, jk, jk, jk, jk, jk, jk, jk, jk, jk, jk, jk, jk, jk, jk, jk, jk, jk, jk, jk, jk, jk, jk, jk, jk, jk, jk, jk, jk, jk, jk, jk, jk, jk, jk, jk, jk, jk, jk, jk, jk, jk, jk, jk, jk, jk, jk, jk, jk, jk, jk, jk, jk, jk, jk, jk, jk, jk, jk, jk, jk, jk, jk, jk, jk, jk, jk, jk, jk, jk, jk, jk, jk, jk, jk, jk, jk, jk, jk, jk, jk, jk, jk, jk, jk, jk, jk, jk, jk, jk, jk, jk, jk, jk, jk, jk, jk, jk], [(4, [nt a.v, nt a.lo, nt a.hi, .v (tru a.bad)]), (5, [nt b.v, nt b.lo, nt b.hi, .v (tru b.bad)]), (6, [nt 0, nt 0, nt 0, .v (tru false)]), (7, [nt 0, nt 0, nt 0, .v (tru true)]), (11, [nt (F a.v b.v 0).1, nt (loK F ps k), nt (hiK F ps k), .v (tru false)])], [], [], [], 0, nomem⟩) ps.length ?_ ?_
  · simp -implicitDefEqProofs (maxSteps := 10000000) only [rkA, rkB, stepA, valA, simprocAttr]
    refine ⟨0, by omega, ?_⟩
    rw [List.take_zero, List.all_nil, Bool.and_true, hps]
    rfl
  have lps : (ps.map prS).length = ps.length := by simp
  rintro m s ⟨k, hk, rfl⟩
  simp -implicitDefEqProofs (maxSteps := 10000000) only [lps, rkA, rkB, stepA, valA, simprocAttr]
  refine gB_dec ?_ ?_ <;> intro hc <;> simp -implicitDefEqProofs (maxSteps := 10000000) only [hc, rkA, rkB, stepA, valA, simprocAttr]
  · have hlt : k < ps.length := by omega
    obtain ⟨p, hp⟩ : ∃ p, ps[k]? = some p := ⟨ps[k], List.getElem?_eq_getElem hlt⟩
    have hg : (ps.map prS)[k]? = some (prS p) := by rw [List.getElem?_map, hp]; rfl
    have h0 := nat0 k
    have hw := wrapped (x := (k : Int) + 1) (by omega) (by omega)
    have s1 := loK_succ (F := F) hp
    have s2 := hiK_succ (F := F) hp
    have s3 := all_succ (F := F) hp (F a.v b.v 0).2
    simp -implicitDefEqProofs (maxSteps := 10000000) only [h0, Int.toNat_natCast, hg, rkA, rkB, stepA, valA, simprocAttr]
    refine call_fn rfl rfl rfl (hF p.1 p.2 1 (by omega)) ?_
    simp -implicitDefEqProofs (maxSteps := 10000000) only [h0, Int.toNat_natCast, hg, rkA, rkB, stepA, valA, simprocAttr]
    refine call_fn rfl rfl rfl (hF p.1 p.2 2 (by omega)) ?_
    generalize ((F a.v b.v 0).2 && (ps.take k).all (okP F)) = B at *
    generalize hB' : ((F a.v b.v 0).2 && (ps.take (k + 1)).all (okP F)) = B' at s3
    generalize F p.1 p.2 1 = X at *
    generalize F p.1 p.2 2 = Y at *
    obtain ⟨x, is⟩ := X
    obtain ⟨y, has⟩ := Y
    simp only at s1 s2 s3
    obtain ⟨j, hj, hjm⟩ : ∃ j, k + 1 + j = ps.length ∧ j < m := ⟨m - 1, by omega, by omega⟩
    simp -implicitDefEqProofs (maxSteps := 10000000) only [rkA, rkB, stepA, valA, simprocAttr]
    refine guard_join (fun s => ∃ f : Nat → TV, s = ⟨[.v (num 1), jk, jk, jk, jk, jk, .ptr 6 0, .ptr 7 0, .v (.sl true (ps.map prS)), jk, .v (tru B'), .ptr 11 0, nt k, nt x, .v (tru is), nt y, .v (tru has), jk, jk, jk, jk, jk, jk, jk, jk, jk, jk, jk, jk, jk, jk, jk, jk, jk, jk, jk, jk, jk, jk, jk, jk, jk, jk, jk, jk, jk, jk, jk, jk, jk, jk, jk, jk, jk, jk, jk, jk, jk, jk, jk, jk, jk, jk, jk, jk, jk, jk, jk, jk, jk, jk, jk, jk, jk, jk, jk, jk, jk, jk, jk, jk, jk, jk, jk, jk, jk, jk, jk, jk, jk, jk, jk, jk, jk, jk, jk, jk, jk, jk, jk, jk, jk, jk, f 103, f 104, f 105, f 106, jk, jk, f 109, f 110, f 111, f 112, f 113, f 114, f 115, f 116, f 117, f 118, f 119, f 120, f 121, f 122, f 123, f 124, f 125, f 126, f 127, f 128, f 129, f 130, f 131, f 132, f 133, f 134, f 135, f 136, f 137, f 138, f 139, f 140, f 141, f 142, f 143, f 144, f 145, f 146, f 147, f 148, f 149, jk, jk, jk, jk, jk, jk, jk, jk, jk, jk, jk, jk, jk, jk, jk, jk, jk, jk, jk, jk, jk, jk, jk, jk], [(4, [nt a.v, nt a.lo, nt a.hi, .v (tru a.bad)]), (5, [nt b.v, nt b.lo, nt b.hi, .v (tru b.bad)]), (6, [nt 0, nt 0, nt 0, .v (tru false)]), (7, [nt 0, nt 0, nt 0, .v (tru true)]), (11, [nt (F a.v b.v 0).1, nt (loK F ps k), nt (hiK F ps k), .v (tru false)])], [], [], [], 0, nomem⟩) ?_ ?_
    rotate_left
    · cases B with
      | false =>
        simp only [Bool.false_and] at s3
        subst s3
        simp -implicitDefEqProofs (maxSteps := 10000000) only [rkA, rkB, stepA, valA, simprocAttr]
        exact slots_of rfl
      | true =>
        cases is with
        | false =>
          simp only [Bool.false_and, Bool.and_false] at s3
          subst s3
          simp -implicitDefEqProofs (maxSteps := 10000000) only [rkA, rkB, stepA, valA, simprocAttr]
          exact slots_of rfl
        | true =>
          simp only [Bool.true_and] at s3
          subst s3
          simp -implicitDefEqProofs (maxSteps := 10000000) only [rkA, rkB, stepA, valA, simprocAttr]
          exact slots_of rfl
    rintro s ⟨f, rfl⟩
    clear s3
    simp -implicitDefEqProofs (maxSteps := 10000000) only [rkA, rkB, stepA, valA, simprocAttr]
    by_cases hk0 : k = 0
    · subst hk0
      rw [if_pos rfl] at s1 s2
      have hw1 : IntKind.wrap .i64 1 = 1 := rfl
      simp -implicitDefEqProofs (maxSteps := 10000000) only [hw1, Int.natCast_zero, rkA, rkB, stepA, valA, simprocAttr]
      refine loopK_of (m' := j) hjm ?_
      simp -implicitDefEqProofs (maxSteps := 10000000) only [rkA, rkB, stepA, valA, simprocAttr]
      exact ⟨0 + 1, hj, by rw [s1, s2, hB']; rfl⟩
    · rw [if_neg hk0] at s1 s2
      have e0 : ((k : Int) == 0) = false := by simp; omega
      simp -implicitDefEqProofs (maxSteps := 10000000) only [e0, rkA, rkB, stepA, valA, simprocAttr]
      refine cond_join (fun s => ∃ f : Nat → TV, s = ⟨[.v (num 1), jk, jk, jk, jk, jk, .ptr 6 0, .ptr 7 0, .v (.sl true (ps.map prS)), jk, .v (tru B'), .ptr 11 0, nt k, nt x, .v (tru is), nt y, .v (tru has), jk, jk, jk, jk, jk, jk, jk, jk, jk, jk, jk, jk, jk, jk, jk, jk, jk, jk, jk, jk, jk, jk, jk, jk, jk, jk, jk, jk, jk, jk, jk, jk, jk, jk, jk, jk, jk, jk, jk, jk, jk, jk, jk, jk, jk, jk, jk, jk, jk, jk, jk, jk, jk, jk, jk, jk, jk, jk, jk, jk, jk, jk, jk, jk, jk, jk, jk, jk, jk, jk, jk, jk, jk, jk, jk, jk, jk, jk, jk, jk, jk, jk, jk, jk, jk, jk, f 103, f 104, f 105, f 106, jk, jk, f 109, f 110, f 111, f 112, f 113, f 114, f 115, f 116, f 117, f 118, f 119, f 120, f 121, f 122, f 123, f 124, f 125, f 126, f 127, f 128, f 129, f 130, f 131, f 132, f 133, f 134, f 135, f 136, f 137, f 138, f 139, f 140, f 141, f 142, f 143, f 144, f 145, f 146, f 147, f 148, f 149, f 150, f 151, f 152, f 153, f 154, f 155, f 156, f 157, f 158, f 159, jk, jk, jk, jk, jk, jk, jk, jk, jk, jk, jk, jk, jk, jk], [(4, [nt a.v, nt a.lo, nt a.hi, .v (tru a.bad)]), (5, [nt b.v, nt b.lo, nt b.hi, .v (tru b.bad)]), (6, [nt 0, nt 0, nt 0, .v (tru false)]), (7, [nt 0, nt 0, nt 0, .v (tru true)]), (11, [nt (F a.v b.v 0).1, nt (loK F ps (k + 1)), nt (hiK F ps k), .v (tru false)])], [], [], [], 0, nomem⟩) ?_ ?_ ?_
      rotate_left
      · intro h
        have h' := of_decide_eq_true h
        rw [if_pos h'] at s1
        rw [s1]
        simp -implicitDefEqProofs (maxSteps := 10000000) only [rkA, rkB, stepA, valA, simprocAttr]
        exact slots_of rfl
      · intro h
        have h' := of_decide_eq_false h
        rw [if_neg h'] at s1
        rw [s1]
        simp -implicitDefEqProofs (maxSteps := 10000000) only [rkA, rkB, stepA, valA, simprocAttr]
        exact slots_of rfl
      rintro s ⟨f, rfl⟩
      simp -implicitDefEqProofs (maxSteps := 10000000) only [e0, rkA, rkB, stepA, valA, simprocAttr]
      refine cond_join (fun s => ∃ f : Nat → TV, s = ⟨[.v (num 1), jk, jk, jk, jk, jk, .ptr 6 0, .ptr 7 0, .v (.sl true (ps.map prS)), jk, .v (tru B'), .ptr 11 0, nt k, nt x, .v (tru is), nt y, .v (tru has), jk, jk, jk, jk, jk, jk, jk, jk, jk, jk, jk, jk, jk, jk, jk, jk, jk, jk, jk, jk, jk, jk, jk, jk, jk, jk, jk, jk, jk, jk, jk, jk, jk, jk, jk, jk, jk, jk, jk, jk, jk, jk, jk, jk, jk, jk, jk, jk, jk, jk, jk, jk, jk, jk, jk, jk, jk, jk, jk, jk, jk, jk, jk, jk, jk, jk, jk, jk, jk, jk, jk, jk, jk, jk, jk, jk, jk, jk, jk, jk, jk, jk, jk, jk, jk, jk, f 103, f 104, f 105, f 106, jk, jk, f 109, f 110, f 111, f 112, f 113, f 114, f 115, f 116, f 117, f 118, f 119, f 120, f 121, f 122, f 123, f 124, f 125, f 126, f 127, f 128, f 129, f 130, f 131, f 132, f 133, f 134, f 135, f 136, f 137, f 138, f 139, f 140, f 141, f 142, f 143, f 144, f 145, f 146, f 147, f 148, f 149, f 150, f 151, f 152, f 153, f 154, f 155, f 156, f 157, f 158, f 159, f 160, f 161, f 162, f 163, f 164, f 165, f 166, f 167, f 168, f 169, jk, jk, jk, jk], [(4, [nt a.v, nt a.lo, nt a.hi, .v (tru a.bad)]), (5, [nt b.v, nt b.lo, nt b.hi, .v (tru b.bad)]), (6, [nt 0, nt 0, nt 0, .v (tru false)]), (7, [nt 0, nt 0, nt 0, .v (tru true)]), (11, [nt (F a.v b.v 0).1, nt (loK F ps (k + 1)), nt (hiK F ps (k + 1)), .v (tru false)])], [], [], [], 0, nomem⟩) ?_ ?_ ?_
      rotate_left
      · intro h
        have h' := of_decide_eq_true h
        rw [if_pos h'] at s2
        rw [s2]
        simp -implicitDefEqProofs (maxSteps := 10000000) only [rkA, rkB, stepA, valA, simprocAttr]
        exact slots_of rfl
      · intro h
        have h' := of_decide_eq_false h
        rw [if_neg h'] at s2
        rw [s2]
        simp -implicitDefEqProofs (maxSteps := 10000000) only [rkA, rkB, stepA, valA, simprocAttr]
        exact slots_of rfl
      rintro s ⟨f, rfl⟩
      simp -implicitDefEqProofs (maxSteps := 10000000) only [hw, rkA, rkB, stepA, valA, simprocAttr]
      refine loopK_of (m' := j) hjm ?_
      simp -implicitDefEqProofs (maxSteps := 10000000) only [rkA, rkB, stepA, valA, simprocAttr]
      exact ⟨k + 1, hj, by rw [hB']; simp only [Int.natCast_add, Int.natCast_one]⟩
  · have hkl : ps.take k = ps := List.take_of_length_le (by omega)
    rw [hkl]
    have hl : loK F ps k = minL (ps.map fun p => (F p.1 p.2 1).1) := by unfold loK; rw [hkl]
    have hh : hiK F ps k = maxL (ps.map fun p => (F p.1 p.2 2).1) := by unfold hiK; rw [hkl]
    cases hB : ((F a.v b.v 0).2 && ps.all (okP F)) with
    | false =>
      have hm : madeE F a b ps = .wrong := by unfold madeE; rw [if_neg (by rw [hB]; rintro ⟨h, _⟩; cases h)]
      rw [hm]
      simp -implicitDefEqProofs (maxSteps := 10000000) only [rkA, rkB, stepA, valA, simprocAttr]
    | true =>
      have hm : madeE F a b ps = ⟨(F a.v b.v 0).1, loK F ps k, hiK F ps k, false⟩ := by unfold madeE; rw [if_pos ⟨hB, ha, hb⟩, hl, hh]
      rw [hm]
      simp -implicitDefEqProofs (maxSteps := 10000000) only [rkA, rkB, stepA, valA, simprocAttr]
end Go.Proofs.YtambpjbpdackfaaGreat.A.E



set_option linter.unusedVariables false
set_option linter.unusedSimpArgs false
set_option maxRecDepth 100000
namespace Go.Proofs.YtambpjbpdackfaaGreat.A.E
open Go Go.RowKit Go.Shelf

set_option maxHeartbeats 8000000 in
theorem ok79c (a b : Fr) : Ok Tryz.prog 79 [num 2, frV a, frV b] (frV (mulF a b)) := by
  unfold mulF allP
  refine ok_fn mixed Tryz.func79 (code := ?_) (h := h79) ?_ k79 ?_
  rotate_left
  · exact rfl
  unfold h79 initS
  simp -implicitDefEqProofs (maxSteps := 10000000) only [rkA, rkB, stepA, valA, simprocAttr, Tryz.ntmps79, Tryz.results79]
  refine call_fn rfl rfl rfl (ok140 a) ?_
  cases ha : a.fine with
  | false => simp -implicitDefEqProofs (maxSteps := 10000000) only [madeE, ha, rkA, rkB, stepA, valA, simprocAttr]
  | true =>
  simp -implicitDefEqProofs (maxSteps := 10000000) only [rkA, rkB, stepA, valA, simprocAttr]
  refine call_fn rfl rfl rfl (ok140 b) ?_
  cases hb : b.fine with
  | false => simp -implicitDefEqProofs (maxSteps := 10000000) only [madeE, hb, rkA, rkB, stepA, valA, simprocAttr]
  | true =>
  simp -implicitDefEqProofs (maxSteps := 10000000) only [rkA, rkB, stepA, valA, simprocAttr]
  obtain ⟨F, hFd⟩ : ∃ F : Int → Int → Int → Int × Bool, F = mulX := ⟨_, rfl⟩
  have hF : ∀ x y m, 0 ≤ m ∧ m ≤ 2 → Ok Tryz.prog 157 [num 2, num x, num y, num m] (.tup [num (F x y m).1, tru (F x y m).2]) := fun x y m hm => by rw [hFd]; exact ok157c x y m
  obtain ⟨ps, hps⟩ : ∃ ps : List (Int × Int), ps = [(a.lo, b.lo), (a.lo, b.hi), (a.hi, b.lo), (a.hi, b.hi)] := ⟨_, rfl⟩
  have hpl : ps.length = 4 := by rw [hps]; rfl
  rw [← hFd, ← hps]
  clear hFd
  refine call_fn rfl rfl rfl (hF a.v b.v 0 (by omega)) ?_
  simp -implicitDefEqProofs (maxSteps := 10000000) only [rkA, rkB, stepA, valA, simprocAttr]
  refine wp_loop (fun m s => ∃ (k : Nat), k + m = ps.length ∧ s = ⟨[.v (num 2), jk, jk, jk, jk, jk, .ptr 6 0, .ptr 7 0, .v (.sl true (ps.map prS)), jk, .v (tru ((F a.v b.v 0).2 && (ps.take k).all (okP F))), .ptr 11 0, nt k, jk, jk, jk, jk, jk, jk, jk, jk, jk, jk, jk, jk, jk, jk, jk, jk, jk, jk, jk, jk, jk, jk, jk, jk, jk, jk, jk, jk, jk, jk, jk, jk, jk, jk, jk, jk, jk, jk, jk, jk, jk, jk, jk, jk, jk, jk, jk, jk, jk, jk, jk, jk, jk, jk, jk, jk, jk, jk, jk, jk, jk, jk, jk, jk, jk, jk, jk, jk, jk, jk, jk, jk, jk, jk, jk, jk, jk, jk, jk, jk, jk, jk, jk, jk, jk, jk, jk, jk, jk, jk, jk, jk, jk, jk, jk, jk, jk, jk, jk, jk, jk, jk, jk, jk, jk, jk, jk, jk, jk, jk, jk, jk, jk, jk, jk, jk, jk, jk, jk, jk, jk, jk, jk, jk, jk, jk, jk, jk, jk, jk, jk, jk, jk, jk, jk, jk, jk, jk, jk, jk, jk, jk, jk, jk, jk, jk, jk, jk, jk, jk, jk, jk, jk, jk, jk, jk, jk, jk, jk, jk, jk], [(4, [nt a.v, nt a.lo, nt a.hi, .v (tru a.bad)]), (5, [nt b.v, nt b.lo, nt b.hi, .v (tru b.bad)]), (6, [nt 0, nt 0, nt 0, .v (tru false)]), (7, [nt 0, nt 0, nt 0, .v (tru true)]), (11, [nt (F a.v b.v 0).1, nt (loK F ps k), nt (hiK F ps k), .v (tru false)])], [], [], [], 0, nomem⟩) ps.length ?_ ?_
  · simp -implicitDefEqProofs (maxSteps := 10000000) only [rkA, rkB, stepA, valA, simprocAttr]
    refine ⟨0, by omega, ?_⟩
    rw [List.take_zero, List.all_nil, Bool.and_true, hps]
    rfl
  have lps : (ps.map prS).length = ps.length := by simp
  rintro m s ⟨k, hk, rfl⟩
  simp -implicitDefEqProofs (maxSteps := 10000000) only [lps, rkA, rkB, stepA, valA, simprocAttr]
  refine gB_dec ?_ ?_ <;> intro hc <;> simp -implicitDefEqProofs (maxSteps := 10000000) only [hc, rkA, rkB, stepA, valA, simprocAttr]
  · have hlt : k < ps.length := by omega
    obtain ⟨p, hp⟩ : ∃ p, ps[k]? = some p := ⟨ps[k], List.getElem?_eq_getElem hlt⟩
    have hg : (ps.map prS)[k]? = some (prS p) := by rw [List.getElem?_map, hp]; rfl
    have h0 := nat0 k
    have hw := wrapped (x := (k : Int) + 1) (by omega) (by omega)
    have s1 := loK_succ (F := F) hp
    have s2 := hiK_succ (F := F) hp
    have s3 := all_succ (F := F) hp (F a.v b.v 0).2
    simp -implicitDefEqProofs (maxSteps := 10000000) only [h0, Int.toNat_natCast, hg, rkA, rkB, stepA, valA, simprocAttr]
    refine call_fn rfl rfl rfl (hF p.1 p.2 1 (by omega)) ?_
    simp -implicitDefEqProofs (maxSteps := 10000000) only [h0, Int.toNat_natCast, hg, rkA, rkB, stepA, valA, simprocAttr]
    refine call_fn rfl rfl rfl (hF p.1 p.2 2 (by omega)) ?_
    generalize ((F a.v b.v 0).2 && (ps.take k).all (okP F)) = B at *
    generalize hB' : ((F a.v b.v 0).2 && (ps.take (k + 1)).all (okP F)) = B' at s3
    generalize F p.1 p.2 1 = X at *
    generalize F p.1 p.2 2 = Y at *
    obtain ⟨x, is⟩ := X
    obtain ⟨y, has⟩ := Y
    simp only at s1 s2 s3
    obtain ⟨j, hj, hjm⟩ : ∃ j, k + 1 + j = ps.length ∧ j < m := ⟨m - 1, by omega, by omega⟩
    simp -implicitDefEqProofs (maxSteps := 10000000) only [rkA, rkB, stepA, valA, simprocAttr]
    refine guard_join (fun s => ∃ f : Nat → TV, s = ⟨[.v (num 2), jk, jk, jk, jk, jk, .ptr 6 0, .ptr 7 0, .v (.sl true (ps.map prS)), jk, .v (tru B'), .ptr 11 0, nt k, nt x, .v (tru is), nt y, .v (tru has), jk, jk, jk, jk, jk, jk, jk, jk, jk, jk, jk, jk, jk, jk, jk, jk, jk, jk, jk, jk, jk, jk, jk, jk, jk, jk, jk, jk, jk, jk, jk, jk, jk, jk, jk, jk, jk, jk, jk, jk, jk, jk, jk, jk, jk, jk, jk, jk, jk, jk, jk, jk, jk, jk, jk, jk, jk, jk, jk, jk, jk, jk, jk, jk, jk, jk, jk, jk, jk, jk, jk, jk, jk, jk, jk, jk, jk, jk, jk, jk, jk, jk, jk, jk, jk, jk, f 103, f 104, f 105, f 106, jk, jk, f 109, f 110, f 111, f 112, f 113, f 114, f 115, f 116, f 117, f 118, f 119, f 120, f 121, f 122, f 123, f 124, f 125, f 126, f 127, f 128, f 129, f 130, f 131, f 132, f 133, f 134, f 135, f 136, f 137, f 138, f 139, f 140, f 141, f 142, f 143, f 144, f 145, f 146, f 147, f 148, f 149, jk, jk, jk, jk, jk, jk, jk, jk, jk, jk, jk, jk, jk, jk, jk, jk, jk, jk, jk, jk, jk, jk, jk, jk], [(4, [nt a.v, nt a.lo, nt a.hi, .v (tru a.bad)]), (5, [nt b.v, nt b.lo, nt b.hi, .v (tru b.bad)]), (6, [nt 0, nt 0, nt 0, .v (tru false)]), (7, [nt 0, nt 0, nt 0, .v (tru true)]), (11, [nt (F a.v b.v 0).1, nt (loK F ps k), nt (hiK F ps k), .v (tru false)])], [], [], [], 0, nomem⟩) ?_ ?_
    rotate_left
    · cases B with
      | false =>
        simp only [Bool.false_and] at s3
        subst s3
        simp -implicitDefEqProofs (maxSteps := 10000000) only [rkA, rkB, stepA, valA, simprocAttr]
        exact slots_of rfl
      | true =>
        cases is with
        | false =>
          simp only [Bool.false_and, Bool.and_false] at s3
          subst s3
          simp -implicitDefEqProofs (maxSteps := 10000000) only [rkA, rkB, stepA, valA, simprocAttr]
          exact slots_of rfl
        | true =>
          simp only [Bool.true_and] at s3
          subst s3
          simp -implicitDefEqProofs (maxSteps := 10000000) only [rkA, rkB, stepA, valA, simprocAttr]
          exact slots_of rfl
    rintro s ⟨f, rfl⟩
    clear s3
    simp -implicitDefEqProofs (maxSteps := 10000000) only [rkA, rkB, stepA, valA, simprocAttr]
    by_cases hk0 : k = 0
    · subst hk0
      rw [if_pos rfl] at s1 s2
      have hw1 : IntKind.wrap .i64 1 = 1 := rfl
      simp -implicitDefEqProofs (maxSteps := 10000000) only [hw1, Int.natCast_zero, rkA, rkB, stepA, valA, simprocAttr]
      refine loopK_of (m' := j) hjm ?_
      simp -implicitDefEqProofs (maxSteps := 10000000) only [rkA, rkB, stepA, valA, simprocAttr]
      exact ⟨0 + 1, hj, by rw [s1, s2, hB']; rfl⟩
    · rw [if_neg hk0] at s1 s2
      have e0 : ((k : Int) == 0) = false := by simp; omega
      simp -implicitDefEqProofs (maxSteps := 10000000) only [e0, rkA, rkB, stepA, valA, simprocAttr]
      refine cond_join (fun s => ∃ f : Nat → TV, s = ⟨[.v (num 2), jk, jk, jk, jk, jk, .ptr 6 0, .ptr 7 0, .v (.sl true (ps.map prS)), jk, .v (tru B'), .ptr 11 0, nt k, nt x, .v (tru is), nt y, .v (tru has), jk, jk, jk, jk, jk, jk, jk, jk, jk, jk, jk, jk, jk, jk, jk, jk, jk, jk, jk, jk, jk, jk, jk, jk, jk, jk, jk, jk, jk, jk, jk, jk, jk, jk, jk, jk, jk, jk, jk, jk, jk, jk, jk, jk, jk, jk, jk, jk, jk, jk, jk, jk, jk, jk, jk, jk, jk, jk, jk, jk, jk, jk, jk, jk, jk, jk, jk, jk, jk, jk, jk, jk, jk, jk, jk, jk, jk, jk, jk, jk, jk, jk, jk, jk, jk, jk, f 103, f 104, f 105, f 106, jk, jk, f 109, f 110, f 111, f 112, f 113, f 114, f 115, f 116, f 117, f 118, f 119, f 120, f 121, f 122, f 123, f 124, f 125, f 126, f 127, f 128, f 129, f 130, f 131, f 132, f 133, f 134, f 135, f 136, f 137, f 138, f 139, f 140, f 141, f 142, f 143, f 144, f 145, f 146, f 147, f 148, f 149, f 150, f 151, f 152, f 153, f 154, f 155, f 156, f 157, f 158, f 159, jk, jk, jk, jk, jk, jk, jk, jk, jk, jk, jk, jk, jk, jk], [(4, [nt a.v, nt a.lo, nt a.hi, .v (tru a.bad)]), (5, [nt b.v, nt b.lo, nt b.hi, .v (tru b.bad)]), (6, [nt 0, nt 0, nt 0, .v (tru false)]), (7, [nt 0, nt 0, nt 0, .v (tru true)]), (11, [nt (F a.v b.v 0).1, nt (loK F ps (k + 1)), nt (hiK F ps k), .v (tru false)])], [], [], [], 0, nomem⟩) ?_ ?_ ?_
      rotate_left
      · intro h
        have h' := of_decide_eq_true h
        rw [if_pos h'] at s1
        rw [s1]
        simp -implicitDefEqProofs (maxSteps := 10000000) only [rkA, rkB, stepA, valA, simprocAttr]
        exact slots_of rfl
      · intro h
        have h' := of_decide_eq_false h
        rw [if_neg h'] at s1
        rw [s1]
        simp -implicitDefEqProofs (maxSteps := 10000000) only [rkA, rkB, stepA, valA, simprocAttr]
        exact slots_of rfl
      rintro s ⟨f, rfl⟩
      simp -implicitDefEqProofs (maxSteps := 10000000) only [e0, rkA, rkB, stepA, valA, simprocAttr]
      refine cond_join (fun s => ∃ f : Nat → TV, s = ⟨[.v (num 2), jk, jk, jk, jk, jk, .ptr 6 0, .ptr 7 0, .v (.sl true (ps.map prS)), jk, .v (tru B'), .ptr 11 0, nt k, nt x, .v (tru is), nt y, .v (tru has), jk, jk, jk, jk, jk, jk, jk, jk, jk, jk, jk, jk, jk, jk, jk, jk, jk, jk, jk, jk, jk, jk, jk, jk, jk, jk, jk, jk, jk, jk, jk, jk, jk, jk, jk, jk, jk, jk, jk, jk, jk, jk, jk, jk, jk, jk, jk, jk, jk, jk, jk, jk, jk, jk, jk, jk, jk, jk, jk, jk, jk, jk, jk, jk, jk, jk, jk, jk, jk, jk, jk, jk, jk, jk, jk, jk, jk, jk, jk, jk, jk, jk, jk, jk, jk, jk, f 103, f 104, f 105, f 106, jk, jk, f 109, f 110, f 111, f 112, f 113, f 114, f 115, f 116, f 117, f 118, f 119, f 120, f 121, f 122, f 123, f 124, f 125, f 126, f 127, f 128, f 129, f 130, f 131, f 132, f 133, f 134, f 135, f 136, f 137, f 138, f 139, f 140, f 141, f 142, f 143, f 144, f 145, f 146, f 147, f 148, f 149, f 150, f 151, f 152, f 153, f 154, f 155, f 156, f 157, f 158, f 159, f 160, f 161, f 162, f 163, f 164, f 165, f 166, f 167, f 168, f 169, jk, jk, jk, jk], [(4, [nt a.v, nt a.lo, nt a.hi, .v (tru a.bad)]), (5, [nt b.v, nt b.lo, nt b.hi, .v (tru b.bad)]), (6, [nt 0, nt 0, nt 0, .v (tru false)]), (7, [nt 0, nt 0, nt 0, .v (tru true)]), (11, [nt (F a.v b.v 0).1, nt (loK F ps (k + 1)), nt (hiK F ps (k + 1)), .v (tru false)])], [], [], [], 0, nomem⟩) ?_ ?_ ?_
      rotate_left
      · intro h
        have h' := of_decide_eq_true h
        rw [if_pos h'] at s2
        rw [s2]
        simp -implicitDefEqProofs (maxSteps := 10000000) only [rkA, rkB, stepA, valA, simprocAttr]
        exact slots_of rfl
      · intro h
        have h' := of_decide_eq_false h
        rw [if_neg h'] at s2
        rw [s2]
        simp -implicitDefEqProofs (maxSteps := 10000000) only [rkA, rkB, stepA, valA, simprocAttr]
        exact slots_of rfl
      rintro s ⟨f, rfl⟩
      simp -implicitDefEqProofs (maxSteps := 10000000) only [hw, rkA, rkB, stepA, valA, simprocAttr]
      refine loopK_of (m' := j) hjm ?_
      simp -implicitDefEqProofs (maxSteps := 10000000) only [rkA, rkB, stepA, valA, simprocAttr]
      exact ⟨k + 1, hj, by rw [hB']; simp only [Int.natCast_add, Int.natCast_one]⟩
  · have hkl : ps.take k = ps := List.take_of_length_le (by omega)
    rw [hkl]
    have hl : loK F ps k = minL (ps.map fun p => (F p.1 p.2 1).1) := by unfold loK; rw [hkl]
    have hh : hiK F ps k = maxL (ps.map fun p => (F p.1 p.2 2).1) := by unfold hiK; rw [hkl]
    cases hB : ((F a.v b.v 0).2 && ps.all (okP F)) with
    | false =>
      have hm : madeE F a b ps = .wrong := by unfold madeE; rw [if_neg (by rw [hB]; rintro ⟨h, _⟩; cases h)]
      rw [hm]
      simp -implicitDefEqProofs (maxSteps := 10000000) only [rkA, rkB, stepA, valA, simprocAttr]
    | true =>
      have hm : madeE F a b ps = ⟨(F a.v b.v 0).1, loK F ps k, hiK F ps k, false⟩ := by unfold madeE; rw [if_pos ⟨hB, ha, hb⟩, hl, hh]
      rw [hm]
      simp -implicitDefEqProofs (maxSteps := 10000000) only [rkA, rkB, stepA, valA, simprocAttr]
end Go.Proofs.YtambpjbpdackfaaGreat.A.E


