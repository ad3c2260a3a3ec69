import Derived.Test.YtahcpmhgcppdcaaGreatU4
import Derived.Test.YtahcpmhgcppdcaaGreatU3
set_option linter.unusedVariables false
set_option linter.unusedSimpArgs false
set_option maxRecDepth 100000
namespace Go.Proofs.YtahcpmhgcppdcaaGreat.A
open Go Go.RowKit Go.Shelf

/-! ### Rows of fractions -/
abbrev frs (l : List Fr) : List PV := l.map frV

theorem fits_frs {k l : List Fr} (h : k.length + l.length ≤ 5864062014805) : fits 3 24 (frs k) (frs l) = true := by
  simp [fits, PV.cells, PV.ok, PV.cell, Value.oneCell']
  omega

theorem ok139 (ex : Bool) (l : List Fr) (h : l.length ≤ 5864062014805) : Ok Tryz.prog 139 [.sl ex (frs l)] (.sl false (frs l)) := by
  have hfit : fits 3 24 [] (frs l) = true := fits_frs (k := []) (l := l) (by simpa using h)
  refine ok_fn mixed Tryz.func139 (code := ?_) (h := h139) ?_ k139 ?_
  rotate_left
  · exact rfl
  unfold h139 initS
  simp -implicitDefEqProofs only [rkA, rkB, stepA, valA, simprocAttr, Tryz.ntmps139, Tryz.results139]
  refine nilA_sl (some 4) (.tmp 3) rfl ?_
  intro b hb
  cases b with
  | true =>
    simp -implicitDefEqProofs only [rkA, rkB, stepA, valA, simprocAttr]
    have : l = [] := by
      cases l with
      | nil => rfl
      | cons x l => simp at hb
    subst this
    simp
  | false =>
    simp -implicitDefEqProofs only [hfit, rkA, rkB, stepA, valA, simprocAttr]

def right (r c : Int) (n : Nat) : Bool := decide (1 ≤ r ∧ r ≤ 16) && (decide (1 ≤ c ∧ c ≤ 16) && ((n : Int) == r * c))
abbrev matNil : PV := .agg [num 0, num 0, .s (.slice none 0 0)]
abbrev matV (ex : Bool) (r c : Int) (l : List PV) : PV := .agg [num r, num c, .sl ex l]

theorem ok151 (ex : Bool) (r c : Int) (l : List PV) : Ok Tryz.prog 151 [matV ex r c l] (tru (right r c l.length)) := by
  refine ok_fn mixed Tryz.func151 (code := ?_) (h := h151) ?_ k151 ?_
  rotate_left
  · exact rfl
  unfold h151 initS
  simp -implicitDefEqProofs only [rkA, rkB, stepA, valA, simprocAttr, Tryz.ntmps151, Tryz.results151]
  refine call_fn rfl rfl rfl (ok194 r) ?_
  by_cases hr : 1 ≤ r ∧ r ≤ 16
  · simp -implicitDefEqProofs only [hr, rkA, rkB, stepA, valA, simprocAttr]
    refine call_fn rfl rfl rfl (ok194 c) ?_
    by_cases hc : 1 ≤ c ∧ c ≤ 16
    · have hm : 0 ≤ r * c ∧ r * c ≤ 256 := by
        have h1 : (r * c).natAbs = r.natAbs * c.natAbs := Int.natAbs_mul r c
        have h2 : r.natAbs * c.natAbs ≤ 16 * 16 := Nat.mul_le_mul (by omega) (by omega)
        have h3 : 0 ≤ r * c := Int.mul_nonneg (by omega) (by omega)
        omega
      have w := wrapped (x := r * c) (by omega) (by omega)
      simp -implicitDefEqProofs only [hc, w, rkA, rkB, stepA, valA, simprocAttr]
      simp [right, hr, hc]
    · simp -implicitDefEqProofs only [hc, rkA, rkB, stepA, valA, simprocAttr]
      simp [right, hr, hc]
  · simp -implicitDefEqProofs only [hr, rkA, rkB, stepA, valA, simprocAttr]
    simp [right, hr]

theorem ok137 (r c : Int) (ex : Bool) (l : List Fr) (h : l.length ≤ 5864062014805) :
    Ok Tryz.prog 137 [num r, num c, .sl ex (frs l)] (if right r c l.length = true then .tup [matV false r c (frs l), tru true] else .tup [matNil, tru false]) := by
  refine ok_fn mixed Tryz.func137 (code := ?_) (h := h137) ?_ k137 ?_
  rotate_left
  · exact rfl
  unfold h137 initS
  simp -implicitDefEqProofs only [rkA, rkB, stepA, valA, simprocAttr, Tryz.ntmps137, Tryz.results137]
  refine call_fn rfl rfl rfl (ok139 ex l h) ?_
  simp -implicitDefEqProofs only [rkA, rkB, stepA, valA, simprocAttr]
  refine call_fn rfl rfl rfl (ok151 false r c (frs l)) ?_
  have e : (frs l).length = l.length := by simp
  rw [e]
  cases hr : right r c l.length with
  | true => simp -implicitDefEqProofs only [rkA, rkB, stepA, valA, simprocAttr]
  | false => simp -implicitDefEqProofs only [rkA, rkB, stepA, valA, simprocAttr]

theorem methOf : Meth Tryz.prog 109 "Of" 258 := by
  intro v xs w
  rfl

theorem ok77 (ex : Bool) (xs : List Int) (h : xs.length ≤ 5864062014805) : Ok Tryz.prog 77 [.sl ex (xs.map num)] (.sl false (frs (xs.map (newF · 1)))) := by
  refine ok_fn mixed Tryz.func77 (code := ?_) (h := h77) ?_ k77 ?_
  rotate_left
  · exact rfl
  unfold h77 initS
  simp -implicitDefEqProofs only [rkA, rkB, stepA, valA, simprocAttr, Tryz.ntmps77, Tryz.results77]
  refine wp_loop (fun m s => ∃ i, i + m = xs.length ∧ s = ⟨[jk, jk, jk, .acc 3 (frs ((xs.take i).map (newF · 1))), .ptr 4 0, jk, jk, .v (.sl ex (xs.map num)), nt xs.length, nt i, jk, jk, jk, jk, jk, jk, jk, jk, jk, jk, jk, jk],
    [(4, [nt 0, nt 0, .v (tru false)])], [], [(2, 0), (3, i)], [], 0, nomem⟩) xs.length ?_ ?_
  · simp -implicitDefEqProofs only [rkA, rkB, stepA, valA, simprocAttr]
    refine ⟨0, by simp, ?_⟩
    simp
  rintro m s ⟨i, hi, rfl⟩
  simp -implicitDefEqProofs only [rkA, rkB, stepA, valA, simprocAttr]
  refine gB_dec ?_ ?_ <;> intro hc <;> simp -implicitDefEqProofs only [hc, rkA, rkB, stepA, valA, simprocAttr]
  · have hlt : i < xs.length := by omega
    have h0 : (0 : Int) ≤ (i : Int) := by omega
    have hg : (xs.map num)[i]? = some (num xs[i]) := by simp [hlt]
    simp -implicitDefEqProofs only [h0, Int.toNat_natCast, hg, rkA, rkB, stepA, valA, simprocAttr]
    refine call_meth rfl rfl methOf (ok258 ⟨0, 0, false⟩ xs[i]) ?_
    have hfit : fits 3 24 (frs ((xs.take i).map (newF · 1))) [frV (newF xs[i] 1)] = true := fits_frs (l := [newF xs[i] 1]) (by simp; omega)
    have hw := wrapped (x := (i : Int) + 1) (by omega) (by omega)
    have hl : (frs ((xs.take i).map (newF · 1))).length = i := by simp; omega
    simp -implicitDefEqProofs only [hfit, hl, hw, rkA, rkB, stepA, valA, simprocAttr]
    refine loopK_of (m' := m - 1) (by omega) ?_
    simp -implicitDefEqProofs only [rkA, rkB, stepA, valA, simprocAttr]
    refine ⟨i + 1, by omega, ?_⟩
    rw [List.take_succ_eq_append_getElem hlt]
    simp only [frs, List.map_append, List.map_cons, List.map_nil, Int.natCast_add, Int.natCast_one]
  · have : xs.length ≤ i := by omega
    rw [List.take_of_length_le this]

theorem ok75 (r c : Int) (ex : Bool) (xs : List Int) (h : xs.length ≤ 5864062014805) :
    Ok Tryz.prog 75 [num r, num c, .sl ex (xs.map num)] (if right r c xs.length = true then .tup [matV false r c (frs (xs.map (newF · 1))), tru true] else .tup [matNil, tru false]) := by
  refine ok_fn mixed Tryz.func75 (code := ?_) (h := h75) ?_ k75 ?_
  rotate_left
  · exact rfl
  unfold h75 initS
  simp -implicitDefEqProofs only [rkA, rkB, stepA, valA, simprocAttr, Tryz.ntmps75, Tryz.results75]
  refine call_fn rfl rfl rfl (ok77 ex xs h) ?_
  simp -implicitDefEqProofs only [rkA, rkB, stepA, valA, simprocAttr]
  refine call_fn rfl rfl rfl (ok137 r c false (xs.map (newF · 1)) (by simpa using h)) ?_
  simp only [List.length_map]
  cases hr : right r c xs.length with
  | true => simp -implicitDefEqProofs only [rkA, rkB, stepA, valA, simprocAttr]
  | false => simp -implicitDefEqProofs only [rkA, rkB, stepA, valA, simprocAttr]

/-- What stands in a row, or 0 fraction. -/
def atF (r c : Int) (l : List Fr) (i k : Int) : Fr := if right r c l.length = true ∧ 0 ≤ i ∧ i < r ∧ 0 ≤ k ∧ k < c then l.getD (i * c + k).toNat ⟨0, 0, false⟩ else ⟨0, 0, false⟩

theorem right_spec {r c : Int} {n : Nat} (h : right r c n = true) : 1 ≤ r ∧ r ≤ 16 ∧ 1 ≤ c ∧ c ≤ 16 ∧ (n : Int) = r * c := by
  simp only [right, Bool.and_eq_true, decide_eq_true_eq, beq_iff_eq] at h
  omega

theorem at_bound {r c i k : Int} (hr : r ≤ 16) (hc : 1 ≤ c ∧ c ≤ 16) (hi : 0 ≤ i ∧ i < r) (hk : 0 ≤ k ∧ k < c) : 0 ≤ i * c ∧ 0 ≤ i * c + k ∧ i * c + k < r * c ∧ i * c ≤ 256 ∧ r * c ≤ 256 := by
  have h1 : 0 ≤ i * c := Int.mul_nonneg hi.1 (by omega)
  have h2 : (i + 1) * c ≤ r * c := Int.mul_le_mul_of_nonneg_right (by omega) (by omega)
  have h3 : (i + 1) * c = i * c + c := by rw [Int.add_mul, Int.one_mul]
  have h4 : r * c ≤ 16 * c := Int.mul_le_mul_of_nonneg_right hr (by omega)
  omega

theorem ok80 (ex : Bool) (r c i k : Int) (l : List Fr) : Ok Tryz.prog 80 [matV ex r c (frs l), num i, num k] (frV (atF r c l i k)) := by
  refine ok_fn mixed Tryz.func80 (code := ?_) (h := h80) ?_ k80 ?_
  rotate_left
  · exact rfl
  unfold h80 initS
  simp -implicitDefEqProofs only [rkA, rkB, stepA, valA, simprocAttr, Tryz.ntmps80, Tryz.results80]
  refine call_fn rfl rfl rfl (ok151 ex r c (frs l)) ?_
  have e : (frs l).length = l.length := by simp
  rw [e]
  cases hr : right r c l.length with
  | false =>
    simp -implicitDefEqProofs only [rkA, rkB, stepA, valA, simprocAttr]
    simp [atF, hr]
  | true =>
    obtain ⟨r1, r2, c1, c2, hn⟩ := right_spec hr
    simp -implicitDefEqProofs only [rkA, rkB, stepA, valA, simprocAttr]
    repeat' (refine gB_dec ?_ ?_ <;> intro hc <;> first | (exfalso; omega) | simp -implicitDefEqProofs only [hc, rkA, rkB, stepA, valA, simprocAttr])
    · rw [show atF r c l i k = ⟨0, 0, false⟩ from if_neg (fun ⟨_, _, _, _, _⟩ => by omega)]
    · rw [show atF r c l i k = ⟨0, 0, false⟩ from if_neg (fun ⟨_, _, _, _, _⟩ => by omega)]
    · rw [show atF r c l i k = ⟨0, 0, false⟩ from if_neg (fun ⟨_, _, _, _, _⟩ => by omega)]
    · rw [show atF r c l i k = ⟨0, 0, false⟩ from if_neg (fun ⟨_, _, _, _, _⟩ => by omega)]
    · obtain ⟨b1, b2, b3, b4, b5⟩ := at_bound (i := i) (k := k) r2 ⟨c1, c2⟩ (by omega) (by omega)
      have w1 := wrapped (x := i * c) (by omega) (by omega)
      have w2 := wrapped (x := i * c + k) (by omega) (by omega)
      have hlt : (i * c + k).toNat < l.length := by omega
      have hg : (frs l)[(i * c + k).toNat]? = some (frV l[(i * c + k).toNat]) := by simp [hlt]
      have ha : atF r c l i k = l[(i * c + k).toNat] := by
        unfold atF
        rw [if_pos ⟨hr, by omega, by omega, by omega, by omega⟩, List.getD_eq_getElem?_getD, List.getElem?_eq_getElem hlt]
        rfl
      simp -implicitDefEqProofs only [w1, w2, b2, hg, ha, rkA, rkB, stepA, valA, simprocAttr]
end Go.Proofs.YtahcpmhgcppdcaaGreat.A


set_option linter.unusedVariables false
set_option linter.unusedSimpArgs false
set_option maxRecDepth 100000
namespace Go.Proofs.YtahcpmhgcppdcaaGreat.A
open Go Go.RowKit Go.Shelf

theorem methAdd : Meth Tryz.prog 109 "Add" 253 := by
  intro v xs w
  rfl
theorem methMul : Meth Tryz.prog 109 "Mul" 256 := by
  intro v xs w
  rfl

def sumF (l : List Fr) : Fr := l.foldl addF (newF 0 1)

theorem ok187 (ex : Bool) (l : List Fr) (h : l.length ≤ 5864062014805) : Ok Tryz.prog 187 [.sl ex (frs l)] (frV (sumF l)) := by
  refine ok_fn mixed Tryz.func187 (code := ?_) (h := h187) ?_ k187 ?_
  rotate_left
  · exact rfl
  unfold h187 initS
  simp -implicitDefEqProofs only [rkA, rkB, stepA, valA, simprocAttr, Tryz.ntmps187, Tryz.results187]
  refine call_meth rfl rfl methOf (ok258 ⟨0, 0, false⟩ 0) ?_
  simp -implicitDefEqProofs only [rkA, rkB, stepA, valA, simprocAttr]
  refine wp_loop (fun m s => ∃ i, i + m = l.length ∧ s = ⟨[jk, jk, .ptr 2 0, jk, .ptr 4 0, jk, jk, jk, jk, jk, .v (.sl ex (frs l)), nt l.length, nt i, jk, jk, jk, jk, jk, jk, jk, jk, jk],
    [(2, [nt 0, nt 0, .v (tru false)]), (3, [nt 0, nt 0, .v (tru false)]), (4, [nt (sumF (l.take i)).n, nt (sumF (l.take i)).d, .v (tru (sumF (l.take i)).bad)])], [], [], [], 0, nomem⟩) l.length ?_ ?_
  · simp -implicitDefEqProofs only [rkA, rkB, stepA, valA, simprocAttr]
    refine ⟨0, by simp, ?_⟩
    simp [sumF]
  rintro m s ⟨i, hi, rfl⟩
  simp -implicitDefEqProofs only [rkA, rkB, stepA, valA, simprocAttr]
  refine gB_dec ?_ ?_ <;> intro hc <;> simp -implicitDefEqProofs only [hc, rkA, rkB, stepA, valA, simprocAttr]
  · have hlt : i < l.length := by omega
    have h0 : (0 : Int) ≤ (i : Int) := by omega
    have hg : (frs l)[i]? = some (frV l[i]) := by simp [hlt]
    simp -implicitDefEqProofs only [h0, Int.toNat_natCast, hg, rkA, rkB, stepA, valA, simprocAttr]
    refine call_meth rfl rfl methAdd (ok253 (sumF (l.take i)) l[i]) ?_
    have hw := wrapped (x := (i : Int) + 1) (by omega) (by omega)
    simp -implicitDefEqProofs only [hw, rkA, rkB, stepA, valA, simprocAttr]
    refine loopK_of (m' := m - 1) (by omega) ?_
    simp -implicitDefEqProofs only [rkA, rkB, stepA, valA, simprocAttr]
    refine ⟨i + 1, by omega, ?_⟩
    have e : sumF (l.take (i + 1)) = addF (sumF (l.take i)) l[i] := by
      unfold sumF
      rw [List.take_succ_eq_append_getElem hlt, List.foldl_append]
      rfl
    rw [e]
    simp only [Int.natCast_add, Int.natCast_one]
  · have : l.length ≤ i := by omega
    rw [List.take_of_length_le this]

theorem ok189 (a b : Fr) : Ok Tryz.prog 189 [frV a, frV b] (frV (mulF a b)) := by
  refine ok_fn mixed Tryz.func189 (code := ?_) (h := h189) ?_ k189 ?_
  rotate_left
  · exact rfl
  unfold h189 initS
  simp -implicitDefEqProofs only [rkA, rkB, stepA, valA, simprocAttr, Tryz.ntmps189, Tryz.results189]
  refine call_meth rfl rfl methMul (ok256 a b) ?_
  simp -implicitDefEqProofs only [rkA, rkB, stepA, valA, simprocAttr]

theorem sl_frs {ex : Bool} {l : List Fr} {a b : Nat} (h1 : a ≤ b) (h2 : b ≤ l.length) : sliceA 3 (frs l) ex (some a) (some b) none = some (.sl (exA none ex b (frs l).length) (frs ((l.take b).drop a))) := by
  unfold sliceA
  simp only [Option.getD_some]
  rw [if_pos ⟨h1, by simpa using h2, by simp, by simp [PV.cells]⟩]
  simp

/-- A row. -/
def rowF (r c : Int) (l : List Fr) (i : Int) : List Fr := if right r c l.length = true ∧ 0 ≤ i ∧ i < r then (l.take ((i + 1) * c).toNat).drop (i * c).toNat else []

theorem ok202 (ex : Bool) (r c i : Int) (l : List Fr) : Ok Tryz.prog 202 [matV ex r c (frs l), num i] (.sl false (frs (rowF r c l i))) := by
  refine ok_fn mixed Tryz.func202 (code := ?_) (h := h202) ?_ k202 ?_
  rotate_left
  · exact rfl
  unfold h202 initS
  simp -implicitDefEqProofs only [rkA, rkB, stepA, valA, simprocAttr, Tryz.ntmps202, Tryz.results202]
  refine call_fn rfl rfl rfl (ok151 ex r c (frs l)) ?_
  have e : (frs l).length = l.length := by simp
  rw [e]
  cases hr : right r c l.length with
  | false =>
    simp -implicitDefEqProofs only [rkA, rkB, stepA, valA, simprocAttr]
    simp [rowF, hr]
  | true =>
    obtain ⟨r1, r2, c1, c2, hn⟩ := right_spec hr
    simp -implicitDefEqProofs only [rkA, rkB, stepA, valA, simprocAttr]
    repeat' (refine gB_dec ?_ ?_ <;> intro hc <;> first | (exfalso; omega) | simp -implicitDefEqProofs only [hc, rkA, rkB, stepA, valA, simprocAttr])
    · rw [show rowF r c l i = [] from if_neg (fun ⟨_, _, _⟩ => by omega)]; rfl
    · rw [show rowF r c l i = [] from if_neg (fun ⟨_, _, _⟩ => by omega)]; rfl
    · obtain ⟨b1, b2, b3, b4, b5⟩ := at_bound (i := i) (k := 0) r2 ⟨c1, c2⟩ (by omega) (by omega)
      have b6 : (i + 1) * c = i * c + c := by rw [Int.add_mul, Int.one_mul]
      have b7 : (i + 1) * c ≤ r * c := Int.mul_le_mul_of_nonneg_right (by omega) (by omega)
      have w1 := wrapped (x := i * c) (by omega) (by omega)
      have w2 := wrapped (x := i + 1) (by omega) (by omega)
      have w3 := wrapped (x := (i + 1) * c) (by omega) (by omega)
      have h3 : 0 ≤ (i + 1) * c := by omega
      have hs := sl_frs (ex := ex) (l := l) (a := (i * c).toNat) (b := ((i + 1) * c).toNat) (by omega) (by omega)
      have hrow : rowF r c l i = (l.take ((i + 1) * c).toNat).drop (i * c).toNat := if_pos ⟨hr, by omega, by omega⟩
      rw [hrow]
      simp -implicitDefEqProofs only [w1, w2, w3, b1, h3, hs, rkA, rkB, stepA, valA, simprocAttr]
      refine call_fn rfl rfl rfl (ok139 _ _ (by simp; omega)) ?_
      simp -implicitDefEqProofs only [rkA, rkB, stepA, valA, simprocAttr]
end Go.Proofs.YtahcpmhgcppdcaaGreat.A


set_option linter.unusedVariables false
set_option linter.unusedSimpArgs false
set_option maxRecDepth 100000
namespace Go.Proofs.YtahcpmhgcppdcaaGreat.A
open Go Go.RowKit Go.Shelf

def rowsF (r c : Int) (l : List Fr) : List (List PV) := if right r c l.length = true then (List.range r.toNat).map fun (i : Nat) => [num (i : Int), .sl false (frs (rowF r c l (i : Int)))] else []

theorem it201 (ex : Bool) (r c : Int) (l : List Fr) : IterOk Tryz.prog (.fn (.func 201) [.vp [num r, num c, .sl ex (frs l)]]) (rowsF r c l) := by
  refine iter_fn mixed Tryz.func201 (code := ?_) (h := h201) ?_ k201 ?_ ?_
  rotate_left
  · exact rfl
  · exact rfl
  intro yl
  unfold h201 initS
  simp -implicitDefEqProofs only [rkA, rkB, stepA, valA, simprocAttr, Tryz.ntmps201]
  refine wp_loop (fun m s => ∃ i : Nat, i + m = (rowsF r c l).length ∧ s = ⟨[.v (.fn (.yield yl) []), .v (.vp [num r, num c, .sl ex (frs l)]), jk, nt i, jk, jk, jk, jk, jk, jk, jk, jk, jk, jk, jk, jk, jk, jk, jk, jk, jk], [], [], [], [], i, nomem⟩) (rowsF r c l).length ?_ ?_
  · simp -implicitDefEqProofs only [rkA, rkB, stepA, valA, simprocAttr]
    exact ⟨0, by simp, rfl⟩
  rintro m s ⟨i, hi, rfl⟩
  simp -implicitDefEqProofs only [rkA, rkB, stepA, valA, simprocAttr]
  refine call_fn rfl rfl rfl (ok151 ex r c (frs l)) ?_
  have e : (frs l).length = l.length := by simp
  rw [e]
  cases hr : right r c l.length with
  | false =>
    simp -implicitDefEqProofs only [rkA, rkB, stepA, valA, simprocAttr]
    have hl : (rowsF r c l).length = 0 := by simp [rowsF, hr]
    omega
  | true =>
    obtain ⟨r1, r2, c1, c2, hn⟩ := right_spec hr
    have hl : (rowsF r c l).length = r.toNat := by simp [rowsF, hr]
    simp -implicitDefEqProofs only [rkA, rkB, stepA, valA, simprocAttr]
    refine gB_dec ?_ ?_ <;> intro hc <;> simp -implicitDefEqProofs only [hc, rkA, rkB, stepA, valA, simprocAttr]
    · refine call_fn rfl rfl rfl (ok202 ex r c i l) ?_
      simp -implicitDefEqProofs only [rkA, rkB, stepA, valA, simprocAttr]
      have hx : (rowsF r c l)[i]? = some [num (i : Int), .sl false (frs (rowF r c l i))] := by
        have : i < r.toNat := by omega
        simp [rowsF, hr, this]
      have hw := wrapped (x := (i : Int) + 1) (by omega) (by omega)
      refine call_yield rfl rfl rfl rfl rfl hx ?_ ?_
      · simp -implicitDefEqProofs only [hw, rkA, rkB, stepA, valA, simprocAttr]
        refine loopK_of (m' := m - 1) (by omega) ?_
        simp -implicitDefEqProofs only [rkA, rkB, stepA, valA, simprocAttr]
        exact ⟨i + 1, by omega, by simp only [Int.natCast_add, Int.natCast_one]⟩
      · simp -implicitDefEqProofs only [rkA, rkB, stepA, valA, simprocAttr]
        exact .inr trivial
    · omega

theorem ok154 (ex : Bool) (r c : Int) (l : List Fr) : Ok Tryz.prog 154 [matV ex r c (frs l)] (.fn (.func 201) [.vp [num r, num c, .sl ex (frs l)]]) := by
  refine ok_fn mixed Tryz.func154 (code := ?_) (h := h154) ?_ k154 ?_
  rotate_left
  · exact rfl
  unfold h154 initS
  simp -implicitDefEqProofs only [rkA, rkB, stepA, valA, simprocAttr, Tryz.ntmps154, Tryz.results154]

/-! ### Pairs -/
def pairsF (a b : List Fr) : List (List PV) := (List.zip a b).map fun p => [frV p.1, frV p.2]

theorem it216 (ea eb : Bool) (a b : List Fr) (ha : a.length ≤ 5864062014805) (hb : b.length ≤ 5864062014805) : IterOk Tryz.prog (.fn (.func 216) [.vp [.sl ea (frs a)], .vp [.sl eb (frs b)]]) (pairsF a b) := by
  refine iter_fn mixed Tryz.func216 (code := ?_) (h := h216) ?_ k216 ?_ ?_
  rotate_left
  · exact rfl
  · exact rfl
  intro yl
  unfold h216 initS
  simp -implicitDefEqProofs only [rkA, rkB, stepA, valA, simprocAttr, Tryz.ntmps216]
  have hl : (pairsF a b).length = min a.length b.length := by simp [pairsF]
  have hx0 : ∀ (i : Nat) (ha : i < a.length) (hb : i < b.length), (pairsF a b)[i]? = some [frV a[i], frV b[i]] := fun i h1 h2 => by
    rw [pairsF, List.getElem?_map, List.getElem?_eq_getElem (by simp; omega), Option.map_some, List.getElem_zip]
  have hmin : (if ((frs b).length : Int) < ((frs a).length : Int) then ((frs b).length : Int) else ((frs a).length : Int)) = ((min a.length b.length : Nat) : Int) := by
    simp only [List.length_map]
    split <;> omega
  simp only [hmin]
  refine wp_loop (fun m s => ∃ i : Nat, i + m = (pairsF a b).length ∧ s = ⟨[.v (.fn (.yield yl) []), .v (.vp [.sl ea (frs a)]), .v (.vp [.sl eb (frs b)]), jk, jk, jk, jk, jk, jk, nt ((min a.length b.length : Nat) : Int), nt i, jk, jk, jk, jk, jk, jk, jk, jk, jk, jk, jk, jk, jk, jk], [], [], [], [], i, nomem⟩) (pairsF a b).length ?_ ?_
  · simp -implicitDefEqProofs only [rkA, rkB, stepA, valA, simprocAttr]
    exact ⟨0, by simp, rfl⟩
  rintro m s ⟨i, hi, rfl⟩
  simp -implicitDefEqProofs only [rkA, rkB, stepA, valA, simprocAttr]
  refine gB_dec ?_ ?_ <;> intro hc <;> simp -implicitDefEqProofs only [hc, rkA, rkB, stepA, valA, simprocAttr]
  · have h1 : i < a.length := by omega
    have h2 : i < b.length := by omega
    have h0 : (0 : Int) ≤ (i : Int) := by omega
    have g1 : (frs a)[i]? = some (frV a[i]) := by simp [h1]
    have g2 : (frs b)[i]? = some (frV b[i]) := by simp [h2]
    simp -implicitDefEqProofs only [h0, Int.toNat_natCast, g1, g2, rkA, rkB, stepA, valA, simprocAttr]
    have hw := wrapped (x := (i : Int) + 1) (by omega) (by omega)
    refine call_yield rfl rfl rfl rfl rfl (hx0 i h1 h2) ?_ ?_
    · simp -implicitDefEqProofs only [hw, rkA, rkB, stepA, valA, simprocAttr]
      refine loopK_of (m' := m - 1) (by omega) ?_
      simp -implicitDefEqProofs only [rkA, rkB, stepA, valA, simprocAttr]
      exact ⟨i + 1, by omega, by simp only [Int.natCast_add, Int.natCast_one]⟩
    · simp -implicitDefEqProofs only [rkA, rkB, stepA, valA, simprocAttr]
      exact .inr trivial
  · omega

theorem ok208 (ea eb : Bool) (a b : List Fr) : Ok Tryz.prog 208 [.sl ea (frs a), .sl eb (frs b)] (.fn (.func 216) [.vp [.sl ea (frs a)], .vp [.sl eb (frs b)]]) := by
  refine ok_fn mixed Tryz.func208 (code := ?_) (h := h208) ?_ k208 ?_
  rotate_left
  · exact rfl
  unfold h208 initS
  simp -implicitDefEqProofs only [rkA, rkB, stepA, valA, simprocAttr, Tryz.ntmps208, Tryz.results208]
end Go.Proofs.YtahcpmhgcppdcaaGreat.A


set_option linter.unusedVariables false
set_option linter.unusedSimpArgs false
set_option maxRecDepth 100000
namespace Go.Proofs.YtahcpmhgcppdcaaGreat.A
open Go Go.RowKit Go.Shelf

theorem ok188 (k : Nat) (F : Fr → Fr → Fr) (hF : ∀ x y, Ok Tryz.prog k [frV x, frV y] (frV (F x y))) (ea eb : Bool) (a b : List Fr) (ha : a.length ≤ 5864062014805) (hb : b.length ≤ 5864062014805) :
    Ok Tryz.prog 188 [.sl ea (frs a), .sl eb (frs b), .fn (.func k) []] (.sl false (frs (List.zipWith F a b))) := by
  refine ok_fn mixed Tryz.func188 (code := ?_) (h := h188) ?_ k188 ?_
  rotate_left
  · exact rfl
  unfold h188 initS
  simp -implicitDefEqProofs only [rkA, rkB, stepA, valA, simprocAttr, Tryz.ntmps188, Tryz.results188]
  refine call_fn rfl rfl rfl (ok208 ea eb a b) ?_
  simp -implicitDefEqProofs only [rkA, rkB, stepA, valA, simprocAttr]
  have hlz : (List.zipWith F a b).length = min a.length b.length := by simp
  have hpl : (pairsF a b).length = min a.length b.length := by simp [pairsF]
  refine wp_rf (items := pairsF a b) rfl (it216 ea eb a b ha hb) (fun i s => i ≤ (pairsF a b).length ∧ s = ⟨[], [(5, [.v (.fn (.func k) [])]), (7, [.acc 1007 (frs ((List.zipWith F a b).take i))])], [], [(6, 0), (1007, i)],
    [[.v (.sl ea (frs a)), .v (.sl eb (frs b)), .v (.fn (.func k) []), jk, jk, .ptr 5 0, .acc 6 [], .ptr 7 0, jk, jk, .v (.sl ea (frs a)), .v (.sl eb (frs b)), .v (.fn (.func 216) [.vp [.sl ea (frs a)], .vp [.sl eb (frs b)]]), jk, jk, jk, jk, jk, jk, jk, jk, jk, jk]], 0, nomem⟩) ?_ ?_ ?_
  · simp -implicitDefEqProofs only [rkA, rkB, stepA, valA, simprocAttr]
    exact Nat.zero_le _
  · rintro i x' s' R hx ⟨hi, rfl⟩ hR
    have hlt : i < (pairsF a b).length := (List.getElem?_eq_some_iff.1 hx).1
    have h1 : i < a.length := by omega
    have h2 : i < b.length := by omega
    have hx' : x' = [frV a[i], frV b[i]] := by
      rw [pairsF, List.getElem?_map, List.getElem?_eq_getElem (by simp; omega), Option.map_some, List.getElem_zip] at hx
      exact (Option.some.inj hx).symm
    subst hx'
    refine ⟨rfl, ?_⟩
    simp -implicitDefEqProofs only [rkA, rkB, stepA, valA, simprocAttr]
    refine call_fn rfl rfl rfl (hF a[i] b[i]) ?_
    have hfit : fits 3 24 (frs ((List.zipWith F a b).take i)) [frV (F a[i] b[i])] = true := fits_frs (l := [F a[i] b[i]]) (by simp; omega)
    have hl : (frs ((List.zipWith F a b).take i)).length = i := by simp; omega
    simp -implicitDefEqProofs only [hfit, hl, rkA, rkB, stepA, valA, simprocAttr]
    refine hR _ ⟨by omega, ?_⟩
    rw [List.take_succ_eq_append_getElem (by simp; omega)]
    simp only [frs, List.map_append, List.map_cons, List.map_nil, List.getElem_zipWith]
  · rintro s' ⟨hi, rfl⟩
    simp -implicitDefEqProofs only [rkA, rkB, stepA, valA, simprocAttr]
    rw [List.take_of_length_le (by simp; omega)]

def dotF (a b : List Fr) : Fr := sumF (List.zipWith mulF a b)

theorem ok141 (ea eb : Bool) (a b : List Fr) (ha : a.length ≤ 5864062014805) (hb : b.length ≤ 5864062014805) : Ok Tryz.prog 141 [.sl ea (frs a), .sl eb (frs b)] (frV (dotF a b)) := by
  refine ok_fn mixed Tryz.func141 (code := ?_) (h := h141) ?_ k141 ?_
  rotate_left
  · exact rfl
  unfold h141 initS
  simp -implicitDefEqProofs only [rkA, rkB, stepA, valA, simprocAttr, Tryz.ntmps141, Tryz.results141]
  refine call_fn rfl rfl rfl (ok188 189 mulF ok189 ea eb a b ha hb) ?_
  simp -implicitDefEqProofs only [rkA, rkB, stepA, valA, simprocAttr]
  refine call_fn rfl rfl rfl (ok187 false (List.zipWith mulF a b) (by simp; omega)) ?_
  simp -implicitDefEqProofs only [rkA, rkB, stepA, valA, simprocAttr, dotF]

/-- A matrix, turned. -/
def turnF (r c : Int) (l : List Fr) : List Fr := if right r c l.length = true then (List.range c.toNat).flatMap fun (k : Nat) => (List.range r.toNat).map fun (i : Nat) => atF r c l i k else []

/-- Of a turned matrix, what is told so far. -/
def turnP (r c : Int) (l : List Fr) (k i : Nat) : List Fr := (List.range k).flatMap (fun (k : Nat) => (List.range r.toNat).map fun (i : Nat) => atF r c l i k) ++ (List.range i).map fun (i : Nat) => atF r c l i k
theorem turnP_succ (r c : Int) (l : List Fr) (k i : Nat) : turnP r c l k (i + 1) = turnP r c l k i ++ [atF r c l i k] := by
  simp [turnP, List.range_succ]
theorem turnP_next (r c : Int) (l : List Fr) (k : Nat) : turnP r c l k r.toNat = turnP r c l (k + 1) 0 := by
  simp [turnP, List.range_succ]
theorem turnP_length (r c : Int) (l : List Fr) (k i : Nat) : (turnP r c l k i).length = k * r.toNat + i := by
  simp [turnP, List.length_flatMap, List.map_const', List.sum_replicate_nat]

theorem ok146 (ex : Bool) (r c : Int) (l : List Fr) : Ok Tryz.prog 146 [matV ex r c (frs l)] (if right r c l.length = true then matV false c r (frs (turnF r c l)) else matNil) := by
  refine ok_fn mixed Tryz.func146 (code := ?_) (h := h146) ?_ k146 ?_
  rotate_left
  · exact rfl
  unfold h146 initS
  simp -implicitDefEqProofs only [rkA, rkB, stepA, valA, simprocAttr, Tryz.ntmps146, Tryz.results146]
  refine call_fn rfl rfl rfl (ok151 ex r c (frs l)) ?_
  have e : (frs l).length = l.length := by simp
  rw [e]
  cases hr : right r c l.length with
  | false => simp -implicitDefEqProofs only [rkA, rkB, stepA, valA, simprocAttr]
  | true =>
    obtain ⟨r1, r2, c1, c2, hn⟩ := right_spec hr
    simp -implicitDefEqProofs only [rkA, rkB, stepA, valA, simprocAttr]
    refine wp_loop (fun m s => ∃ k : Nat, k + m = c.toNat ∧ s = ⟨[jk, .ptr 1 0, .ptr 2 0, .ptr 3 0, jk, jk, jk, jk, jk, jk, jk, jk, jk, jk, jk, jk, .v (num c), nt k, jk, jk, jk, jk, jk, jk, jk, jk, jk, jk, jk, jk, jk, jk, jk, jk, jk, jk, jk], [(1, [.v (num r), .v (num c), .v (.sl ex (frs l))]), (2, [nt 0, nt 0, .acc 3002 []]), (3, [nt c, nt r, .acc 15003 (frs (turnP r c l k 0))])], [],
      [(3002, 0), (3003, 0), (15003, (turnP r c l k 0).length)], [], 0, nomem⟩) c.toNat ?_ ?_
    · simp -implicitDefEqProofs only [rkA, rkB, stepA, valA, simprocAttr]
      exact ⟨0, by simp, rfl⟩
    rintro m s ⟨k, hk, rfl⟩
    simp -implicitDefEqProofs only [rkA, rkB, stepA, valA, simprocAttr]
    refine gB_dec ?_ ?_ <;> intro hc <;> simp -implicitDefEqProofs only [hc, rkA, rkB, stepA, valA, simprocAttr]
    · refine wp_loop (fun m s => ∃ i : Nat, i + m = r.toNat ∧ s = ⟨[jk, .ptr 1 0, .ptr 2 0, .ptr 3 0, nt k, jk, jk, jk, jk, jk, jk, jk, jk, jk, jk, jk, .v (num c), nt k, jk, jk, jk, nt r, nt i, jk, jk, jk, jk, jk, jk, jk, jk, jk, jk, jk, jk, jk, jk], [(1, [.v (num r), .v (num c), .v (.sl ex (frs l))]), (2, [nt 0, nt 0, .acc 3002 []]), (3, [nt c, nt r, .acc 15003 (frs (turnP r c l k i))])], [],
        [(3002, 0), (3003, 0), (15003, (turnP r c l k i).length)], [], 0, nomem⟩) r.toNat ?_ ?_
      · simp -implicitDefEqProofs only [rkA, rkB, stepA, valA, simprocAttr]
        exact ⟨0, by simp, rfl⟩
      rintro m' s ⟨i, hi, rfl⟩
      simp -implicitDefEqProofs only [rkA, rkB, stepA, valA, simprocAttr]
      have hlen := turnP_length r c l k i
      have hb : k * r.toNat + i ≤ 256 := by
        have : (k + 1) * r.toNat ≤ 16 * 16 := Nat.mul_le_mul (by omega) (by omega)
        rw [Nat.add_mul] at this
        omega
      refine gB_dec ?_ ?_ <;> intro hc2 <;> simp -implicitDefEqProofs only [hc2, rkA, rkB, stepA, valA, simprocAttr]
      · refine call_fn rfl rfl rfl (ok80 ex r c i k l) ?_
        have hfit : fits 3 24 (frs (turnP r c l k i)) [frV (atF r c l i k)] = true := fits_frs (l := [atF r c l i k]) (by simp only [List.length_cons, List.length_nil]; omega)
        have hl : (frs (turnP r c l k i)).length = (turnP r c l k i).length := by simp
        have hw := wrapped (x := (i : Int) + 1) (by omega) (by omega)
        simp -implicitDefEqProofs only [hfit, hl, hw, rkA, rkB, stepA, valA, simprocAttr]
        refine loopK_of (m' := m' - 1) (by omega) ?_
        simp -implicitDefEqProofs only [rkA, rkB, stepA, valA, simprocAttr]
        refine ⟨i + 1, by omega, ?_⟩
        rw [turnP_succ]
        simp only [frs, List.map_append, List.map_cons, List.map_nil, List.length_append, List.length_cons, List.length_nil, Int.natCast_add, Int.natCast_one]
      · have hw := wrapped (x := (k : Int) + 1) (by omega) (by omega)
        simp -implicitDefEqProofs only [hw, rkA, rkB, stepA, valA, simprocAttr]
        refine loopK_of (m' := m - 1) (by omega) ?_
        simp -implicitDefEqProofs only [rkA, rkB, stepA, valA, simprocAttr]
        refine ⟨k + 1, by omega, ?_⟩
        have hi2 : i = r.toNat := by omega
        rw [hi2, turnP_next]
        simp only [Int.natCast_add, Int.natCast_one]
    · have hk2 : k = c.toNat := by omega
      have : turnF r c l = turnP r c l k 0 := by
        rw [hk2]
        simp [turnF, hr, turnP]
      rw [this]
end Go.Proofs.YtahcpmhgcppdcaaGreat.A


set_option linter.unusedVariables false
set_option linter.unusedSimpArgs false
set_option maxRecDepth 100000
namespace Go.Proofs.YtahcpmhgcppdcaaGreat.A
open Go Go.RowKit Go.Shelf

theorem turnF_length {r c : Int} {l : List Fr} (h : right r c l.length = true) : (turnF r c l).length = c.toNat * r.toNat := by
  have : turnF r c l = turnP r c l c.toNat 0 := by simp [turnF, h, turnP]
  rw [this, turnP_length, Nat.add_zero]

theorem right_turn {r c : Int} {l : List Fr} (h : right r c l.length = true) : right c r (turnF r c l).length = true := by
  obtain ⟨r1, r2, c1, c2, hn⟩ := right_spec h
  rw [turnF_length h]
  simp only [right, Bool.and_eq_true, decide_eq_true_eq, beq_iff_eq]
  refine ⟨by omega, by omega, ?_⟩
  rw [Int.natCast_mul, Int.toNat_of_nonneg (by omega), Int.toNat_of_nonneg (by omega)]

section
variable {α β : Type} (f : α → α → β)
/-- A product, the rows given: what stands so far. -/
def prodP (xs ys : List α) (i k : Nat) : List β := (xs.take i).flatMap (fun x => ys.map (f x)) ++ (match xs[i]? with | some x => (ys.take k).map (f x) | none => [])
theorem prodP_succ {xs ys : List α} {i k : Nat} {x y : α} (hx : xs[i]? = some x) (hy : ys[k]? = some y) : prodP f xs ys i (k + 1) = prodP f xs ys i k ++ [f x y] := by
  obtain ⟨hk, rfl⟩ := List.getElem?_eq_some_iff.1 hy
  simp only [prodP, hx, List.take_succ_eq_append_getElem hk, List.map_append, List.map_cons, List.map_nil, List.append_assoc]
theorem prodP_zero (xs ys : List α) (i : Nat) : prodP f xs ys i 0 = (xs.take i).flatMap (fun x => ys.map (f x)) := by
  unfold prodP
  cases xs[i]? <;> simp
theorem prodP_next {xs ys : List α} {i : Nat} (hi : i < xs.length) : prodP f xs ys i ys.length = prodP f xs ys (i + 1) 0 := by
  rw [prodP_zero, List.take_succ_eq_append_getElem hi, prodP, List.getElem?_eq_getElem hi]
  simp only [List.take_length, List.flatMap_append, List.flatMap_cons, List.flatMap_nil, List.append_nil]
theorem prodP_length {xs ys : List α} {i k : Nat} (hi : i < xs.length) (hk : k ≤ ys.length) : (prodP f xs ys i k).length = i * ys.length + k := by
  rw [prodP, List.getElem?_eq_getElem hi]
  simp [List.length_flatMap, List.map_const', List.sum_replicate_nat, Nat.min_eq_left (Nat.le_of_lt hi), Nat.min_eq_left hk]
end

/-- All rows. -/
def allF (r c : Int) (l : List Fr) : List (List Fr) := (List.range r.toNat).map fun (i : Nat) => rowF r c l (i : Int)
def prodF (r m c : Int) (a b : List Fr) : List Fr := (allF r m a).flatMap fun x => (allF c m (turnF m c b)).map (dotF x)

theorem allF_length (r c : Int) (l : List Fr) : (allF r c l).length = r.toNat := by simp [allF]
theorem rowsF_all {r c : Int} {l : List Fr} (h : right r c l.length = true) {i : Nat} {x : List PV} (hx : (rowsF r c l)[i]? = some x) : i < r.toNat ∧ x = [num i, .sl false (frs (rowF r c l i))] ∧ (allF r c l)[i]? = some (rowF r c l i) := by
  obtain ⟨hi, rfl⟩ := List.getElem?_eq_some_iff.1 hx
  have hi' : i < r.toNat := by simpa [rowsF, h] using hi
  refine ⟨hi', by simp [rowsF, h], by simp [allF, hi']⟩
theorem rowsF_length {r c : Int} {l : List Fr} (h : right r c l.length = true) : (rowsF r c l).length = r.toNat := by simp [rowsF, h]
theorem rowF_length {r c : Int} {l : List Fr} (i : Int) : (rowF r c l i).length ≤ l.length := by
  unfold rowF
  split <;> simp <;> omega

theorem ok143 (ea eb : Bool) (r m m2 c : Int) (a b : List Fr) : Ok Tryz.prog 143 [matV ea r m (frs a), matV eb m2 c (frs b)]
    (if right r m a.length = true ∧ right m2 c b.length = true ∧ m = m2 then .tup [matV false r c (frs (prodF r m c a b)), tru true] else .tup [matNil, tru false]) := by
  refine ok_fn mixed Tryz.func143 (code := ?_) (h := h143) ?_ k143 ?_
  rotate_left
  · exact rfl
  unfold h143 initS
  simp -implicitDefEqProofs only [rkA, rkB, stepA, valA, simprocAttr, Tryz.ntmps143, Tryz.results143]
  refine call_fn rfl rfl rfl (ok151 ea r m (frs a)) ?_
  have e : (frs a).length = a.length := by simp
  have e' : (frs b).length = b.length := by simp
  rw [e]
  cases hr : right r m a.length with
  | false =>
    simp -implicitDefEqProofs only [rkA, rkB, stepA, valA, simprocAttr]
  | true =>
    simp -implicitDefEqProofs only [rkA, rkB, stepA, valA, simprocAttr]
    refine call_fn rfl rfl rfl (ok151 eb m2 c (frs b)) ?_
    rw [e']
    cases hr2 : right m2 c b.length with
    | false => simp -implicitDefEqProofs only [rkA, rkB, stepA, valA, simprocAttr]
    | true =>
      obtain ⟨r1, r2, c1, c2, hn⟩ := right_spec hr
      obtain ⟨m1, m3, d1, d2, hn2⟩ := right_spec hr2
      simp -implicitDefEqProofs only [rkA, rkB, stepA, valA, simprocAttr]
      refine gB_bool ?_ ?_ <;> intro hb
      · have hm : m ≠ m2 := by simpa using hb
        simp -implicitDefEqProofs only [hm, rkA, rkB, stepA, valA, simprocAttr]
      · have hm : m = m2 := by simpa using hb
        clear hb
        subst hm
        simp -implicitDefEqProofs only [rkA, rkB, stepA, valA, simprocAttr]
        have h25 := ok146 eb m c b
        rw [if_pos hr2] at h25
        refine call_fn rfl rfl rfl (h25) ?_
        simp -implicitDefEqProofs only [rkA, rkB, stepA, valA, simprocAttr]
        refine call_fn rfl rfl rfl (ok154 ea r m a) ?_
        simp -implicitDefEqProofs only [rkA, rkB, stepA, valA, simprocAttr]
        have hrt := right_turn hr2
        have hpl : ∀ i k, i < r.toNat → k ≤ c.toNat → (prodP dotF (allF r m a) (allF c m (turnF m c b)) i k).length = i * c.toNat + k := fun i k hi hk => by
          rw [prodP_length dotF (by rw [allF_length]; exact hi) (by rw [allF_length]; exact hk), allF_length]
        have hbig : ∀ i k, i < r.toNat → k ≤ c.toNat → i * c.toNat + k ≤ 256 := fun i k hi hk => by
          have : (i + 1) * c.toNat ≤ 16 * 16 := Nat.mul_le_mul (by omega) (by omega)
          rw [Nat.add_mul] at this
          omega
        have hal : a.length ≤ 256 := by
          have : r * m ≤ 16 * 16 := Int.mul_le_mul r2 c2 (by omega) (by omega)
          omega
        have hbl : (turnF m c b).length ≤ 256 := by
          have h1 := turnF_length hr2
          have : c.toNat * m.toNat ≤ 16 * 16 := Nat.mul_le_mul (by omega) (by omega)
          omega
        refine wp_rf' (items := rowsF r m a) rfl (it201 ea r m a) (fun sv i s => i ≤ r.toNat ∧ s = ⟨[], [(2, [nt r, nt m, .v (.sl ea (frs a))]), (3, [nt m, nt c, .v (.sl eb (frs b))]), (4, [nt 0, nt 0, .acc 3004 []]), (6, [nt r, nt c, .acc 15006 (frs (prodP dotF (allF r m a) (allF c m (turnF m c b)) i 0))]),
          (7, [nt c, nt m, .v (.sl false (frs (turnF m c b)))])], [], [(1009, 0), (3004, 0), (3006, 0), (3007, 0), (15006, (prodP dotF (allF r m a) (allF c m (turnF m c b)) i 0).length)], sv, 0, nomem⟩) ?_ ?_ ?_
        · simp -implicitDefEqProofs only [rkA, rkB, stepA, valA, simprocAttr]
          exact ⟨Nat.zero_le _, by rw [prodP_zero]; exact rfl⟩
        · rintro i x' s' R hx ⟨hi, rfl⟩ hR
          obtain ⟨hlt, rfl, hxi⟩ := rowsF_all hr hx
          refine ⟨rfl, ?_⟩
          simp -implicitDefEqProofs only [rkA, rkB, stepA, valA, simprocAttr]
          refine call_fn rfl rfl rfl (ok154 false c m (turnF m c b)) ?_
          simp -implicitDefEqProofs only [rkA, rkB, stepA, valA, simprocAttr]
          refine wp_rf' (items := rowsF c m (turnF m c b)) rfl (it201 false c m (turnF m c b)) (fun sv k s => k ≤ c.toNat ∧ s = ⟨[], [(2, [nt r, nt m, .v (.sl ea (frs a))]), (3, [nt m, nt c, .v (.sl eb (frs b))]), (4, [nt 0, nt 0, .acc 3004 []]), (6, [nt r, nt c, .acc 15006 (frs (prodP dotF (allF r m a) (allF c m (turnF m c b)) i k))]),
            (7, [nt c, nt m, .v (.sl false (frs (turnF m c b)))]), (9, [.v (.sl false (frs (rowF r m a i)))])], [], [(1009, 0), (3004, 0), (3006, 0), (3007, 0), (15006, (prodP dotF (allF r m a) (allF c m (turnF m c b)) i k).length)], sv, 0, nomem⟩) ?_ ?_ ?_
          · simp -implicitDefEqProofs only [rkA, rkB, stepA, valA, simprocAttr]
            exact Nat.zero_le _
          · rintro k x' s' R2 hx2 ⟨hk, rfl⟩ hR2
            obtain ⟨hlt2, rfl, hyk⟩ := rowsF_all hrt hx2
            refine ⟨rfl, ?_⟩
            simp -implicitDefEqProofs only [rkA, rkB, stepA, valA, simprocAttr]
            have hra := rowF_length (r := r) (c := m) (l := a) i
            have hrb := rowF_length (r := c) (c := m) (l := turnF m c b) k
            refine call_fn rfl rfl rfl (ok141 false false (rowF r m a i) (rowF c m (turnF m c b) k) (by omega) (by omega)) ?_
            have h1 := hpl i k hlt (by omega)
            have h2 := hbig i k hlt (by omega)
            have hfit : fits 3 24 (frs (prodP dotF (allF r m a) (allF c m (turnF m c b)) i k)) [frV (dotF (rowF r m a i) (rowF c m (turnF m c b) k))] = true := fits_frs (l := [dotF (rowF r m a i) (rowF c m (turnF m c b) k)]) (by simp only [List.length_cons, List.length_nil]; omega)
            have hl : (frs (prodP dotF (allF r m a) (allF c m (turnF m c b)) i k)).length = (prodP dotF (allF r m a) (allF c m (turnF m c b)) i k).length := by simp
            simp -implicitDefEqProofs only [hfit, hl, rkA, rkB, stepA, valA, simprocAttr]
            refine hR2 _ ⟨by omega, ?_⟩
            rw [prodP_succ dotF hxi hyk]
            simp only [frs, List.map_append, List.map_cons, List.map_nil, List.length_append, List.length_cons, List.length_nil]
          · rintro s' ⟨hk, rfl⟩
            simp -implicitDefEqProofs only [rkA, rkB, stepA, valA, simprocAttr]
            refine hR _ ⟨by omega, ?_⟩
            have hnx := prodP_next dotF (xs := allF r m a) (ys := allF c m (turnF m c b)) (i := i) (by rw [allF_length]; exact hlt)
            rw [allF_length] at hnx
            rw [rowsF_length hrt, hnx]
        · rintro s' ⟨hi, rfl⟩
          simp -implicitDefEqProofs only [rkA, rkB, stepA, valA, simprocAttr]
          have : prodF r m c a b = prodP dotF (allF r m a) (allF c m (turnF m c b)) (rowsF r m a).length 0 := by
            rw [prodP_zero, rowsF_length hr, ← allF_length r m a, List.take_length]
            rfl
          rw [this]
end Go.Proofs.YtahcpmhgcppdcaaGreat.A


set_option linter.unusedVariables false
set_option linter.unusedSimpArgs false
set_option maxRecDepth 100000
namespace Go.Proofs.YtahcpmhgcppdcaaGreat.A
open Go Go.RowKit Go.Shelf

/-- A contract for what is known better. -/
theorem Ok.args {P : Program} {f : FuncId} {xs ys : List PV} {r : PV} (k : Ok P f xs r) (h : ∀ I vs, Cs I ys vs → Cs I xs vs) : Ok P f ys r :=
  ⟨k.1, fun I w vs hg hc => k.2 I w vs hg (h I vs hc)⟩
theorem Cs.nil_of {I : Imm} {xs ys : List PV} {vs : List Value} {ex : Bool} (h : Cs I (.s (.slice none 0 0) :: xs) vs) (k : ∀ us, Cs I xs us → Cs I ys us) : Cs I (.sl ex [] :: ys) vs := by
  cases h with | cons h1 h2 => cases h1; exact .cons .sl0 (k _ h2)

theorem eq_fr (x y : Fr) : cellsEq [some .i64, some .i64, none] [num x.n, num x.d, tru x.bad] [num y.n, num y.d, tru y.bad] = some (decide (x = y)) := by
  obtain ⟨n, d, b⟩ := x
  obtain ⟨n', d', b'⟩ := y
  simp only [cellsEq, Fr.mk.injEq]
  cases b <;> cases b' <;> simp <;> rfl

end Go.Proofs.YtahcpmhgcppdcaaGreat.A


set_option linter.unusedVariables false
set_option linter.unusedSimpArgs false
set_option maxRecDepth 100000
namespace Go.Proofs.YtahcpmhgcppdcaaGreat.A
open Go Go.RowKit Go.Shelf

section
variable {α : Type} (g : Nat → Nat → α) (n : Nat)
/-- A table gone through row by row: what stands so far. -/
def gridP (i k : Nat) : List α := (List.range i).flatMap (fun i => (List.range n).map (g i)) ++ (List.range k).map (g i)
theorem gridP_succ (i k : Nat) : gridP g n i (k + 1) = gridP g n i k ++ [g i k] := by simp [gridP, List.range_succ]
theorem gridP_next (i : Nat) : gridP g n i n = gridP g n (i + 1) 0 := by simp [gridP, List.range_succ]
theorem gridP_length (i k : Nat) : (gridP g n i k).length = i * n + k := by simp [gridP, List.length_flatMap, List.map_const', List.sum_replicate_nat]
theorem gridP_zero (i : Nat) : gridP g n i 0 = (List.range i).flatMap (fun i => (List.range n).map (g i)) := by simp [gridP]
end

/-- The document's sum of products. -/
def dotI (a b : List Int) (many cols i k : Nat) : Nat → Int
  | 0 => 0
  | j + 1 => dotI a b many cols i k j + a.getD (i * many + j) 0 * b.getD (j * cols + k) 0
/-- The document's product. -/
def mulI (a b : List Int) (rows many cols : Nat) : List Int := gridP (fun i k => dotI a b many cols i k many) cols rows 0

theorem fits_num {k l : List Int} (h : k.length + l.length ≤ 5864062014805) : fits 1 8 (k.map num) (l.map num) = true := by
  simp [fits, PV.cells, PV.ok, PV.cell, Value.oneCell']
  omega
theorem at_table {i j n m : Nat} (hi : i < n) (hj : j < m) : i * m + j < n * m ∧ i * m ≤ n * m := by
  have : (i + 1) * m ≤ n * m := Nat.mul_le_mul_right _ (by omega)
  rw [Nat.add_mul] at this
  omega
theorem side16 {n m : Nat} (hn : n ≤ 16) (hm : m ≤ 16) : n * m ≤ 256 := Nat.mul_le_mul hn hm

end Go.Proofs.YtahcpmhgcppdcaaGreat.A


set_option linter.unusedVariables false
set_option linter.unusedSimpArgs false
namespace Go.Proofs.YtahcpmhgcppdcaaGreat.A
open Go Go.RowKit Go.Shelf

theorem gridP_get {α : Type} (g : Nat → Nat → α) (n : Nat) : ∀ (N i j : Nat), i < N → j < n → (gridP g n N 0)[i * n + j]? = some (g i j)
  | 0, i, j, h, _ => by omega
  | N + 1, i, j, hi, hj => by
    have e : gridP g n (N + 1) 0 = gridP g n N 0 ++ (List.range n).map (g N) := by
      rw [← gridP_next]
      simp [gridP]
    have hl := gridP_length g n N 0
    rw [e]
    by_cases h : i < N
    · have : (i + 1) * n ≤ N * n := Nat.mul_le_mul_right _ h
      rw [Nat.add_mul] at this
      rw [List.getElem?_append_left (by omega)]
      exact gridP_get g n N i j h hj
    · have : i = N := by omega
      subst this
      rw [List.getElem?_append_right (by omega), hl]
      simp [hj]

theorem flatMap_same {α β : Type} {l : List α} {f g : α → List β} (h : ∀ x ∈ l, f x = g x) : l.flatMap f = l.flatMap g := by
  rw [List.flatMap_def, List.flatMap_def, List.map_congr_left h]

/-- A stretch of a row. -/
theorem stretch {α : Type} (l : List α) (d : α) (i n : Nat) (h : (i + 1) * n ≤ l.length) : (l.take ((i + 1) * n)).drop (i * n) = (List.range n).map fun j => l.getD (i * n + j) d := by
  have hm : (i + 1) * n = i * n + n := by rw [Nat.add_mul, Nat.one_mul]
  apply List.ext_getElem
  · simp; omega
  · intro j h1 h2
    simp at h2
    simp [List.getElem?_eq_getElem (show i * n + j < l.length by omega)]

theorem rowF_eq {r c : Int} {l : List Fr} (d : Fr) (h : right r c l.length = true) {i : Nat} (hi : i < r.toNat) : rowF r c l i = (List.range c.toNat).map fun j => l.getD (i * c.toNat + j) d := by
  obtain ⟨r1, r2, c1, c2, hn⟩ := right_spec h
  obtain ⟨R, rfl⟩ := Int.eq_ofNat_of_zero_le (show 0 ≤ r by omega)
  obtain ⟨K, rfl⟩ := Int.eq_ofNat_of_zero_le (show 0 ≤ c by omega)
  simp only [Int.toNat_natCast] at hi ⊢
  unfold rowF
  rw [if_pos ⟨h, by omega, by omega⟩]
  have e1 : (((i : Int) + 1) * (K : Int)).toNat = (i + 1) * K := by
    have : ((i : Int) + 1) * (K : Int) = (((i + 1) * K : Nat) : Int) := by simp
    rw [this, Int.toNat_natCast]
  have e2 : ((i : Int) * (K : Int)).toNat = i * K := by
    have : (i : Int) * (K : Int) = ((i * K : Nat) : Int) := by simp
    rw [this, Int.toNat_natCast]
  rw [e1, e2]
  refine stretch l d i K ?_
  have h1 : (i + 1) * K ≤ R * K := Nat.mul_le_mul_right _ hi
  have h2 : ((R * K : Nat) : Int) = (l.length : Int) := by rw [hn]; simp
  omega

theorem atF_eq {r c : Int} {l : List Fr} (h : right r c l.length = true) {i k : Nat} (hi : i < r.toNat) (hk : k < c.toNat) : atF r c l i k = l.getD (i * c.toNat + k) ⟨0, 0, false⟩ := by
  obtain ⟨r1, r2, c1, c2, hn⟩ := right_spec h
  unfold atF
  rw [if_pos ⟨h, by omega, by omega, by omega, by omega⟩]
  congr 1
  obtain ⟨K, rfl⟩ := Int.eq_ofNat_of_zero_le (show 0 ≤ c by omega)
  have : (i : Int) * (K : Int) + (k : Int) = ((i * K + k : Nat) : Int) := by simp
  rw [this, Int.toNat_natCast, Int.toNat_natCast]

theorem turnF_eq {r c : Int} {l : List Fr} (h : right r c l.length = true) : turnF r c l = gridP (fun k i => atF r c l (i : Int) (k : Int)) r.toNat c.toNat 0 := by
  rw [gridP_zero]
  simp [turnF, h]

end Go.Proofs.YtahcpmhgcppdcaaGreat.A


set_option linter.unusedVariables false
set_option linter.unusedSimpArgs false
set_option maxRecDepth 100000
namespace Go.Proofs.YtahcpmhgcppdcaaGreat.A
open Go Go.RowKit Go.Shelf

theorem Cs.keep {I : Imm} {x : PV} {xs ys : List PV} {vs : List Value} (h : Cs I (x :: xs) vs) (k : ∀ us, Cs I xs us → Cs I ys us) : Cs I (x :: ys) vs := by
  cases h with | cons h1 h2 => exact .cons h1 (k _ h2)
theorem Cs.mat_nil {I : Imm} {xs ys : List PV} {vs : List Value} (h : Cs I (matNil :: xs) vs) (k : ∀ us, Cs I xs us → Cs I ys us) : Cs I (matV false 0 0 (frs []) :: ys) vs := by
  have key : ∀ us, Cs I [num 0, num 0, .s (.slice none 0 0)] us → Cs I [num 0, num 0, .sl false []] us := fun us h => Cs.keep h fun us h => Cs.keep h fun us h => Cs.nil_of h fun us h => h
  cases h with | cons h1 h2 => cases h1 with | agg hl => exact .cons (.agg (key _ hl)) (k _ h2)

end Go.Proofs.YtahcpmhgcppdcaaGreat.A



set_option linter.unusedVariables false
set_option linter.unusedSimpArgs false
set_option maxRecDepth 100000
namespace Go.Proofs.YtahcpmhgcppdcaaGreat.A
open Go Go.RowKit Go.Shelf

/-! ### Numbers in units -/
def rightX (n : Int) : Bool := decide (-1125899906842624 ≤ n ∧ n ≤ 1125899906842624)
theorem ok116 (n : Int) : Ok Tryz.prog 116 [num n] (tru (rightX n)) := by
  refine ok_fn mixed Tryz.func116 (code := ?_) (h := h116) ?_ k116 ?_
  rotate_left
  · exact rfl
  unfold h116 initS
  simp -implicitDefEqProofs (maxSteps := 10000000) only [rkA, rkB, stepA, valA, simprocAttr, Tryz.ntmps116, Tryz.results116]
  by_cases h : n ≥ -1125899906842624
  · simp -implicitDefEqProofs (maxSteps := 10000000) only [h, rightX, rkA, rkB, stepA, valA, simprocAttr]
  · simp -implicitDefEqProofs (maxSteps := 10000000) only [h, rightX, rkA, rkB, stepA, valA, simprocAttr]
def toldF (n : Int) (is : Bool) (l : List Int) : Int × Bool := if is = true ∧ (l ++ [n]).all rightX = true then (n, true) else (0, false)
theorem ok171 (n : Int) (is : Bool) (l : List Int) (hl : l.length ≤ 2) : Ok Tryz.prog 171 [num n, tru is, .sl true (l.map num)] (.tup [num (toldF n is l).1, tru (toldF n is l).2]) := by
  have hfit : fits 1 8 (l.map num) [num n] = true := fits_num (l := [n]) (by simp; omega)
  refine ok_fn mixed Tryz.func171 (code := ?_) (h := h171) ?_ k171 ?_
  rotate_left
  · exact rfl
  unfold h171 initS
  simp -implicitDefEqProofs (maxSteps := 10000000) only [rkA, rkB, stepA, valA, simprocAttr, Tryz.ntmps171, Tryz.results171]
  simp -implicitDefEqProofs (maxSteps := 10000000) only [hfit, rkA, rkB, stepA, valA, simprocAttr]
  have e : l.map num ++ [num n] = (l ++ [n]).map num := by simp
  simp only [e]
  have hres : toldF n is l = if is = true ∧ (l ++ [n]).all rightX = true then (n, true) else (0, false) := rfl
  have hlen : (l ++ [n]).length ≤ 3 := by simp; omega
  have hne : 0 < (l ++ [n]).length := by simp
  generalize toldF n is l = R at *
  generalize l ++ [n] = L at *
  have hL : (L.map num).length = L.length := by simp
  refine wp_loop (fun m s => ∃ i : Nat, i + m = L.length ∧ (0 < i → is = true) ∧ (L.take i).all rightX = true ∧ s = ⟨[nt n, .v (tru is), jk, jk, jk, jk, jk, jk, jk, jk, jk, jk, jk, .v (.sl false (L.map num)), nt L.length, nt i, jk, jk, jk, jk, jk, jk, jk, jk, jk, jk, jk, jk], [], [], [], [], 0, nomem⟩) L.length ?_ ?_
  · simp -implicitDefEqProofs (maxSteps := 10000000) only [hL, rkA, rkB, stepA, valA, simprocAttr]
    exact ⟨0, by simp, by simp, by simp, rfl⟩
  rintro m s ⟨i, hi, h1, h2, rfl⟩
  simp -implicitDefEqProofs (maxSteps := 10000000) only [rkA, rkB, stepA, valA, simprocAttr]
  refine gB_dec ?_ ?_ <;> intro hc <;> simp -implicitDefEqProofs (maxSteps := 10000000) only [hc, rkA, rkB, stepA, valA, simprocAttr]
  · have hlt : i < L.length := by omega
    have h0 : (0 : Int) ≤ (i : Int) := by omega
    have hg : (L.map num)[i]? = some (num L[i]) := by simp [hlt]
    have hno : rightX L[i] = false → L.all rightX = false := fun h => by
      rw [List.all_eq_false]
      exact ⟨L[i], List.getElem_mem hlt, by simp [h]⟩
    simp -implicitDefEqProofs (maxSteps := 10000000) only [h0, Int.toNat_natCast, hg, rkA, rkB, stepA, valA, simprocAttr]
    cases is with
    | false =>
      rw [hres, if_neg (by simp)]
      simp -implicitDefEqProofs (maxSteps := 10000000) only [rkA, rkB, stepA, valA, simprocAttr]
    | true =>
      simp -implicitDefEqProofs (maxSteps := 10000000) only [rkA, rkB, stepA, valA, simprocAttr]
      refine call_fn rfl rfl rfl (ok116 L[i]) ?_
      cases hr : rightX L[i] with
      | false =>
        rw [hres, if_neg (by rw [hno hr]; simp)]
        simp -implicitDefEqProofs (maxSteps := 10000000) only [rkA, rkB, stepA, valA, simprocAttr]
      | true =>
        have hw := wrapped (x := (i : Int) + 1) (by omega) (by omega)
        simp -implicitDefEqProofs (maxSteps := 10000000) only [rkA, rkB, stepA, valA, simprocAttr]
        simp -implicitDefEqProofs (maxSteps := 10000000) only [hw, rkA, rkB, stepA, valA, simprocAttr]
        refine loopK_of (m' := m - 1) (by omega) ?_
        simp -implicitDefEqProofs (maxSteps := 10000000) only [rkA, rkB, stepA, valA, simprocAttr]
        refine ⟨i + 1, by omega, by simp, ?_, by simp only [Int.natCast_add, Int.natCast_one]⟩
        rw [List.take_succ_eq_append_getElem hlt, List.all_append, h2]
        simp [hr]
  · have hin : i = L.length := by omega
    subst hin
    rw [List.take_length] at h2
    rw [hres, if_pos ⟨h1 hne, h2⟩]
theorem ok171_nil (n : Int) (is : Bool) : Ok Tryz.prog 171 [num n, tru is, .s (.slice none 0 0)] (.tup [num (toldF n is []).1, tru (toldF n is []).2]) :=
  (ok171 n is [] (by simp)).args fun I vs h => Cs.keep h fun us h => Cs.keep h fun us h => Cs.nil_of h fun us h => h

def ofX (n : Int) : Int × Bool := toldF (mdF n 16777216 1 0).1 (mdF n 16777216 1 0).2 []
theorem ok246 (n : Int) : Ok Tryz.prog 246 [num n] (.tup [num (ofX n).1, tru (ofX n).2]) := by
  refine ok_fn mixed Tryz.func246 (code := ?_) (h := h246) ?_ k246 ?_
  rotate_left
  · exact rfl
  unfold h246 initS
  simp -implicitDefEqProofs (maxSteps := 10000000) only [rkA, rkB, stepA, valA, simprocAttr, Tryz.ntmps246, Tryz.results246]
  refine call_fn rfl rfl rfl (ok122 n 16777216 1 0) ?_
  simp -implicitDefEqProofs (maxSteps := 10000000) only [rkA, rkB, stepA, valA, simprocAttr]
  refine call_fn rfl rfl rfl (ok171_nil _ _) ?_
  simp -implicitDefEqProofs (maxSteps := 10000000) only [rkA, rkB, stepA, valA, simprocAttr, ofX]
def addX (a b : Int) : Int × Bool := if rightX a = true ∧ rightX b = true then toldF (a + b) true [] else (0, false)
def subX (a b : Int) : Int × Bool := if rightX a = true ∧ rightX b = true then toldF (a - b) true [] else (0, false)
theorem ok114 (a b : Int) : Ok Tryz.prog 114 [num a, num b] (.tup [num (addX a b).1, tru (addX a b).2]) := by
  refine ok_fn mixed Tryz.func114 (code := ?_) (h := h114) ?_ k114 ?_
  rotate_left
  · exact rfl
  unfold h114 initS
  simp -implicitDefEqProofs (maxSteps := 10000000) only [rkA, rkB, stepA, valA, simprocAttr, Tryz.ntmps114, Tryz.results114]
  refine call_fn rfl rfl rfl (ok116 a) ?_
  cases ha : rightX a with
  | false =>
    rw [show addX a b = (0, false) from if_neg (by simp [ha])]
    simp -implicitDefEqProofs (maxSteps := 10000000) only [rkA, rkB, stepA, valA, simprocAttr]
  | true =>
    simp -implicitDefEqProofs (maxSteps := 10000000) only [rkA, rkB, stepA, valA, simprocAttr]
    refine call_fn rfl rfl rfl (ok116 b) ?_
    cases hb : rightX b with
    | false =>
      rw [show addX a b = (0, false) from if_neg (by simp [hb])]
      simp -implicitDefEqProofs (maxSteps := 10000000) only [rkA, rkB, stepA, valA, simprocAttr]
    | true =>
      rw [show addX a b = toldF (a + b) true [] from if_pos ⟨ha, hb⟩]
      simp only [rightX, decide_eq_true_eq] at ha hb
      have hw := wrapped (x := a + b) (by omega) (by omega)
      simp -implicitDefEqProofs (maxSteps := 10000000) only [rkA, rkB, stepA, valA, simprocAttr]
      simp -implicitDefEqProofs (maxSteps := 10000000) only [hw, rkA, rkB, stepA, valA, simprocAttr]
      refine call_fn rfl rfl rfl (ok171_nil (a + b) true) ?_
      simp -implicitDefEqProofs (maxSteps := 10000000) only [rkA, rkB, stepA, valA, simprocAttr]
theorem ok250 (a b : Int) : Ok Tryz.prog 250 [num a, num b] (.tup [num (subX a b).1, tru (subX a b).2]) := by
  refine ok_fn mixed Tryz.func250 (code := ?_) (h := h250) ?_ k250 ?_
  rotate_left
  · exact rfl
  unfold h250 initS
  simp -implicitDefEqProofs (maxSteps := 10000000) only [rkA, rkB, stepA, valA, simprocAttr, Tryz.ntmps250, Tryz.results250]
  refine call_fn rfl rfl rfl (ok116 a) ?_
  cases ha : rightX a with
  | false =>
    rw [show subX a b = (0, false) from if_neg (by simp [ha])]
    simp -implicitDefEqProofs (maxSteps := 10000000) only [rkA, rkB, stepA, valA, simprocAttr]
  | true =>
    simp -implicitDefEqProofs (maxSteps := 10000000) only [rkA, rkB, stepA, valA, simprocAttr]
    refine call_fn rfl rfl rfl (ok116 b) ?_
    cases hb : rightX b with
    | false =>
      rw [show subX a b = (0, false) from if_neg (by simp [hb])]
      simp -implicitDefEqProofs (maxSteps := 10000000) only [rkA, rkB, stepA, valA, simprocAttr]
    | true =>
      rw [show subX a b = toldF (a - b) true [] from if_pos ⟨ha, hb⟩]
      simp only [rightX, decide_eq_true_eq] at ha hb
      have hw := wrapped (x := a - b) (by omega) (by omega)
      simp -implicitDefEqProofs (maxSteps := 10000000) only [rkA, rkB, stepA, valA, simprocAttr]
      simp -implicitDefEqProofs (maxSteps := 10000000) only [hw, rkA, rkB, stepA, valA, simprocAttr]
      refine call_fn rfl rfl rfl (ok171_nil (a - b) true) ?_
      simp -implicitDefEqProofs (maxSteps := 10000000) only [rkA, rkB, stepA, valA, simprocAttr]
def mulX (a b mode : Int) : Int × Bool := toldF (mdF a b 16777216 mode).1 (mdF a b 16777216 mode).2 [a, b]
def divX (a b mode : Int) : Int × Bool := toldF (mdF a 16777216 b mode).1 (mdF a 16777216 b mode).2 [a, b]
theorem ok245 (a b mode : Int) : Ok Tryz.prog 245 [num a, num b, num mode] (.tup [num (mulX a b mode).1, tru (mulX a b mode).2]) := by
  refine ok_fn mixed Tryz.func245 (code := ?_) (h := h245) ?_ k245 ?_
  rotate_left
  · exact rfl
  unfold h245 initS
  simp -implicitDefEqProofs (maxSteps := 10000000) only [rkA, rkB, stepA, valA, simprocAttr, Tryz.ntmps245, Tryz.results245]
  refine call_fn rfl rfl rfl (ok122 a b 16777216 mode) ?_
  simp -implicitDefEqProofs (maxSteps := 10000000) only [rkA, rkB, stepA, valA, simprocAttr]
  refine call_fn rfl rfl rfl (ok171 _ _ [a, b] (by simp)) ?_
  simp -implicitDefEqProofs (maxSteps := 10000000) only [rkA, rkB, stepA, valA, simprocAttr, mulX]
theorem ok243 (a b mode : Int) : Ok Tryz.prog 243 [num a, num b, num mode] (.tup [num (divX a b mode).1, tru (divX a b mode).2]) := by
  refine ok_fn mixed Tryz.func243 (code := ?_) (h := h243) ?_ k243 ?_
  rotate_left
  · exact rfl
  unfold h243 initS
  simp -implicitDefEqProofs (maxSteps := 10000000) only [rkA, rkB, stepA, valA, simprocAttr, Tryz.ntmps243, Tryz.results243]
  refine call_fn rfl rfl rfl (ok122 a 16777216 b mode) ?_
  simp -implicitDefEqProofs (maxSteps := 10000000) only [rkA, rkB, stepA, valA, simprocAttr]
  refine call_fn rfl rfl rfl (ok171 _ _ [a, b] (by simp)) ?_
  simp -implicitDefEqProofs (maxSteps := 10000000) only [rkA, rkB, stepA, valA, simprocAttr, divX]
end Go.Proofs.YtahcpmhgcppdcaaGreat.A



set_option linter.unusedVariables false
set_option linter.unusedSimpArgs false
set_option maxRecDepth 100000
namespace Go.Proofs.YtahcpmhgcppdcaaGreat.A.E
open Go Go.RowKit Go.Shelf

/-! ### Enclosed numbers -/
structure Fr where
  v : Int
  lo : Int
  hi : Int
  bad : Bool
  deriving DecidableEq
abbrev frV (x : Fr) : PV := .agg [num x.v, num x.lo, num x.hi, tru x.bad]
abbrev Fr.wrong : Fr := ⟨0, 0, 0, true⟩
def Fr.fine (x : Fr) : Bool := !x.bad && (rightX x.lo && (rightX x.hi && (decide (x.lo ≤ x.v) && decide (x.v ≤ x.hi))))
theorem ok120 (x : Fr) : Ok Tryz.prog 120 [frV x] (tru x.fine) := by
  refine ok_fn mixed Tryz.func120 (code := ?_) (h := h120) ?_ k120 ?_
  rotate_left
  · exact rfl
  unfold h120 initS
  simp -implicitDefEqProofs (maxSteps := 10000000) only [rkA, rkB, stepA, valA, simprocAttr, Tryz.ntmps120, Tryz.results120]
  cases hb : x.bad with
  | true => simp -implicitDefEqProofs (maxSteps := 10000000) only [Fr.fine, hb, rkA, rkB, stepA, valA, simprocAttr]
  | false =>
    simp -implicitDefEqProofs (maxSteps := 10000000) only [rkA, rkB, stepA, valA, simprocAttr]
    refine call_fn rfl rfl rfl (ok116 x.lo) ?_
    cases h1 : rightX x.lo with
    | false => simp -implicitDefEqProofs (maxSteps := 10000000) only [Fr.fine, hb, h1, rkA, rkB, stepA, valA, simprocAttr]
    | true =>
      simp -implicitDefEqProofs (maxSteps := 10000000) only [rkA, rkB, stepA, valA, simprocAttr]
      refine call_fn rfl rfl rfl (ok116 x.hi) ?_
      cases h2 : rightX x.hi with
      | false => simp -implicitDefEqProofs (maxSteps := 10000000) only [Fr.fine, hb, h1, h2, rkA, rkB, stepA, valA, simprocAttr]
      | true =>
        simp -implicitDefEqProofs (maxSteps := 10000000) only [rkA, rkB, stepA, valA, simprocAttr]
        by_cases h3 : x.lo ≤ x.v
        · simp -implicitDefEqProofs (maxSteps := 10000000) only [Fr.fine, hb, h1, h2, h3, rkA, rkB, stepA, valA, simprocAttr]
        · simp -implicitDefEqProofs (maxSteps := 10000000) only [Fr.fine, hb, h1, h2, h3, rkA, rkB, stepA, valA, simprocAttr]
theorem ok49 : Ok Tryz.prog 49 [] (frV .wrong) := by
  refine ok_fn mixed Tryz.func49 (code := ?_) (h := h49) ?_ k49 ?_
  rotate_left
  · exact rfl
  unfold h49 initS
  simp -implicitDefEqProofs (maxSteps := 10000000) only [rkA, rkB, stepA, valA, simprocAttr, Tryz.ntmps49, Tryz.results49]
def point (n : Int) : Fr := if rightX n = true then ⟨n, n, n, false⟩ else .wrong
theorem ok54 (n : Int) : Ok Tryz.prog 54 [num n] (frV (point n)) := by
  refine ok_fn mixed Tryz.func54 (code := ?_) (h := h54) ?_ k54 ?_
  rotate_left
  · exact rfl
  unfold h54 initS
  simp -implicitDefEqProofs (maxSteps := 10000000) only [rkA, rkB, stepA, valA, simprocAttr, Tryz.ntmps54, Tryz.results54]
  refine call_fn rfl rfl rfl (ok116 n) ?_
  cases h : rightX n with
  | false =>
    simp -implicitDefEqProofs (maxSteps := 10000000) only [rkA, rkB, stepA, valA, simprocAttr]
    refine call_fn rfl rfl rfl (ok49) ?_
    simp -implicitDefEqProofs (maxSteps := 10000000) only [point, h, rkA, rkB, stepA, valA, simprocAttr]
  | true => simp -implicitDefEqProofs (maxSteps := 10000000) only [point, h, rkA, rkB, stepA, valA, simprocAttr]
/-- A whole number. -/
def newF (n _d : Int) : Fr := if (ofX n).2 = true then point (ofX n).1 else .wrong
theorem ok239 (a : Fr) (n : Int) : Ok Tryz.prog 239 [frV a, num n] (frV (newF n 1)) := by
  refine ok_fn mixed Tryz.func239 (code := ?_) (h := h239) ?_ k239 ?_
  rotate_left
  · exact rfl
  unfold h239 initS
  simp -implicitDefEqProofs (maxSteps := 10000000) only [rkA, rkB, stepA, valA, simprocAttr, Tryz.ntmps239, Tryz.results239]
  refine call_fn rfl rfl rfl (ok246 n) ?_
  simp -implicitDefEqProofs (maxSteps := 10000000) only [rkA, rkB, stepA, valA, simprocAttr]
  cases h : (ofX n).2 with
  | false =>
    simp -implicitDefEqProofs (maxSteps := 10000000) only [rkA, rkB, stepA, valA, simprocAttr]
    refine call_fn rfl rfl rfl (ok49) ?_
    simp -implicitDefEqProofs (maxSteps := 10000000) only [newF, h, rkA, rkB, stepA, valA, simprocAttr]
  | true =>
    simp -implicitDefEqProofs (maxSteps := 10000000) only [rkA, rkB, stepA, valA, simprocAttr]
    refine call_fn rfl rfl rfl (ok54 (ofX n).1) ?_
    simp -implicitDefEqProofs (maxSteps := 10000000) only [newF, h, rkA, rkB, stepA, valA, simprocAttr]

def minL : List Int → Int
  | [] => 0
  | x :: l => l.foldl (fun m y => if y < m then y else m) x
def maxL : List Int → Int
  | [] => 0
  | x :: l => l.foldl (fun m y => if m < y then y else m) x
theorem ok172 (ex : Bool) (l : List Int) (h : l ≠ []) (hl : l.length ≤ 1000) : Ok Tryz.prog 172 [.sl ex (l.map num)] (num (minL l)) := by
  obtain ⟨x, l, rfl⟩ : ∃ x t, l = x :: t := by cases l with | nil => exact absurd rfl h | cons x t => exact ⟨x, t, rfl⟩
  simp only [List.length_cons] at hl
  have c : ¬ (((l.length + 1 : Nat) : Int) < 1) := by omega
  have hlen : ((x :: l).map num).length = l.length + 1 := by simp
  have g0 : ((x :: l).map num)[0]? = some (num x) := rfl
  have hres : minL (x :: l) = l.foldl (fun m y => if y < m then y else m) x := rfl
  generalize hL : (x :: l).map num = L at *
  refine ok_fn mixed Tryz.func172 (code := ?_) (h := h172) ?_ k172 ?_
  rotate_left
  · exact rfl
  unfold h172 initS
  simp -implicitDefEqProofs (maxSteps := 10000000) only [rkA, rkB, stepA, valA, simprocAttr, Tryz.ntmps172, Tryz.results172]
  simp -implicitDefEqProofs (maxSteps := 10000000) only [hlen, c, g0, rkA, rkB, stepA, valA, simprocAttr]
  refine wp_loop (fun m s => ∃ i : Nat, i + m = l.length ∧ s = ⟨[.v (.sl ex L), jk, jk, nt ((l.take i).foldl (fun m y => if y < m then y else m) x), nt ((i + 1 : Nat) : Int), jk, jk, jk, jk, jk, jk, jk, jk, jk, jk, jk, jk, jk, jk, jk, jk, jk, jk, jk, jk], [], [], [], [], 0, nomem⟩) l.length ?_ ?_
  · simp -implicitDefEqProofs (maxSteps := 10000000) only [rkA, rkB, stepA, valA, simprocAttr]
    exact ⟨0, by simp, rfl⟩
  rintro m s ⟨i, hi, rfl⟩
  simp -implicitDefEqProofs (maxSteps := 10000000) only [hlen, rkA, rkB, stepA, valA, simprocAttr]
  refine gB_dec ?_ ?_ <;> intro hc <;> simp -implicitDefEqProofs (maxSteps := 10000000) only [hc, rkA, rkB, stepA, valA, simprocAttr]
  · have hlt : i < l.length := by omega
    have h0 : (0 : Int) ≤ ((i + 1 : Nat) : Int) := by omega
    have hg : L[i + 1]? = some (num l[i]) := by rw [← hL]; simp [hlt]
    have hw := wrapped (x := ((i + 1 : Nat) : Int) + 1) (by omega) (by omega)
    simp -implicitDefEqProofs (maxSteps := 10000000) only [h0, Int.toNat_natCast, hg, rkA, rkB, stepA, valA, simprocAttr]
    simp -implicitDefEqProofs (maxSteps := 10000000) only [hw, rkA, rkB, stepA, valA, simprocAttr]
    refine loopK_of (m' := m - 1) (by omega) ?_
    simp -implicitDefEqProofs (maxSteps := 10000000) only [rkA, rkB, stepA, valA, simprocAttr]
    refine ⟨i + 1, by omega, ?_⟩
    rw [List.take_succ_eq_append_getElem hlt, List.foldl_append]
    simp only [List.foldl_cons, List.foldl_nil, Int.natCast_add, Int.natCast_one]
  · have hin : l.length ≤ i := by omega
    rw [List.take_of_length_le hin, hres]
theorem ok173 (ex : Bool) (l : List Int) (h : l ≠ []) (hl : l.length ≤ 1000) : Ok Tryz.prog 173 [.sl ex (l.map num)] (num (maxL l)) := by
  obtain ⟨x, l, rfl⟩ : ∃ x t, l = x :: t := by cases l with | nil => exact absurd rfl h | cons x t => exact ⟨x, t, rfl⟩
  simp only [List.length_cons] at hl
  have c : ¬ (((l.length + 1 : Nat) : Int) < 1) := by omega
  have hlen : ((x :: l).map num).length = l.length + 1 := by simp
  have g0 : ((x :: l).map num)[0]? = some (num x) := rfl
  have hres : maxL (x :: l) = l.foldl (fun m y => if m < y then y else m) x := rfl
  generalize hL : (x :: l).map num = L at *
  refine ok_fn mixed Tryz.func173 (code := ?_) (h := h173) ?_ k173 ?_
  rotate_left
  · exact rfl
  unfold h173 initS
  simp -implicitDefEqProofs (maxSteps := 10000000) only [rkA, rkB, stepA, valA, simprocAttr, Tryz.ntmps173, Tryz.results173]
  simp -implicitDefEqProofs (maxSteps := 10000000) only [hlen, c, g0, rkA, rkB, stepA, valA, simprocAttr]
  refine wp_loop (fun m s => ∃ i : Nat, i + m = l.length ∧ s = ⟨[.v (.sl ex L), jk, jk, nt ((l.take i).foldl (fun m y => if m < y then y else m) x), nt ((i + 1 : Nat) : Int), jk, jk, jk, jk, jk, jk, jk, jk, jk, jk, jk, jk, jk, jk, jk, jk, jk, jk, jk, jk], [], [], [], [], 0, nomem⟩) l.length ?_ ?_
  · simp -implicitDefEqProofs (maxSteps := 10000000) only [rkA, rkB, stepA, valA, simprocAttr]
    exact ⟨0, by simp, rfl⟩
  rintro m s ⟨i, hi, rfl⟩
  simp -implicitDefEqProofs (maxSteps := 10000000) only [hlen, rkA, rkB, stepA, valA, simprocAttr]
  refine gB_dec ?_ ?_ <;> intro hc <;> simp -implicitDefEqProofs (maxSteps := 10000000) only [hc, rkA, rkB, stepA, valA, simprocAttr]
  · have hlt : i < l.length := by omega
    have h0 : (0 : Int) ≤ ((i + 1 : Nat) : Int) := by omega
    have hg : L[i + 1]? = some (num l[i]) := by rw [← hL]; simp [hlt]
    have hw := wrapped (x := ((i + 1 : Nat) : Int) + 1) (by omega) (by omega)
    simp -implicitDefEqProofs (maxSteps := 10000000) only [h0, Int.toNat_natCast, hg, rkA, rkB, stepA, valA, simprocAttr]
    simp -implicitDefEqProofs (maxSteps := 10000000) only [hw, rkA, rkB, stepA, valA, simprocAttr]
    refine loopK_of (m' := m - 1) (by omega) ?_
    simp -implicitDefEqProofs (maxSteps := 10000000) only [rkA, rkB, stepA, valA, simprocAttr]
    refine ⟨i + 1, by omega, ?_⟩
    rw [List.take_succ_eq_append_getElem hlt, List.foldl_append]
    simp only [List.foldl_cons, List.foldl_nil, Int.natCast_add, Int.natCast_one]
  · have hin : l.length ≤ i := by omega
    rw [List.take_of_length_le hin, hres]

/-! ### What is told of values, and of pairs of bounds -/
abbrev prV (p : Int × Int) : PV := .agg [num p.1, num p.2]
def okP (F : Int → Int → Int → Int × Bool) (p : Int × Int) : Bool := (F p.1 p.2 1).2 && (F p.1 p.2 2).2
def madeE (F : Int → Int → Int → Int × Bool) (a b : Fr) (ps : List (Int × Int)) : Fr :=
  if ((F a.v b.v 0).2 && ps.all (okP F)) = true ∧ a.fine = true ∧ b.fine = true then ⟨(F a.v b.v 0).1, minL (ps.map fun p => (F p.1 p.2 1).1), maxL (ps.map fun p => (F p.1 p.2 2).1), false⟩ else .wrong
theorem ok115 (k : Nat) (F : Int → Int → Int → Int × Bool) (hF : ∀ x y m, Ok Tryz.prog k [num x, num y, num m] (.tup [num (F x y m).1, tru (F x y m).2])) (a b : Fr) (ex : Bool) (ps : List (Int × Int)) (h1 : ps ≠ []) (h2 : ps.length ≤ 4) :
    Ok Tryz.prog 115 [frV a, frV b, .fn (.func k) [], .sl ex (ps.map prV)] (frV (madeE F a b ps)) := by
  have hl : (ps.map prV).length = ps.length := by simp
  refine ok_fn mixed Tryz.func115 (code := ?_) (h := h115) ?_ k115 ?_
  rotate_left
  · exact rfl
  unfold h115 initS
  simp -implicitDefEqProofs (maxSteps := 10000000) only [rkA, rkB, stepA, valA, simprocAttr, Tryz.ntmps115, Tryz.results115]
  refine call_fn rfl rfl rfl (hF a.v b.v 0) ?_
  simp -implicitDefEqProofs (maxSteps := 10000000) only [rkA, rkB, stepA, valA, simprocAttr]
  refine wp_loop (fun m s => ∃ i : Nat, i + m = ps.length ∧ s = ⟨[jk, jk, .v (.fn (.func k) []), jk, .ptr 4 0, .ptr 5 0, jk, jk, .ptr 8 0, nt (F a.v b.v 0).1, .v (tru ((F a.v b.v 0).2 && (ps.take i).all (okP F))), .acc 11 ((ps.take i).map fun p => num (F p.1 p.2 1).1), .acc 12 ((ps.take i).map fun p => num (F p.1 p.2 2).1), jk, jk, jk, jk, jk, jk, jk, jk, jk, jk, jk, jk, jk, jk, jk, .v (.sl ex (ps.map prV)), nt ps.length, nt i, jk, jk, jk, jk, jk, jk, jk, jk, jk, jk, jk, jk, jk, jk, jk, jk, jk, jk, jk, jk, jk, jk, jk, jk, jk, jk, jk, jk, jk, jk, jk, jk, jk, jk, jk, jk, jk, jk, jk, jk, jk, jk, jk, jk, jk, jk, jk, jk, jk, jk, jk, jk, jk, jk, jk, jk],
    [(4, [nt a.v, nt a.lo, nt a.hi, .v (tru a.bad)]), (5, [nt b.v, nt b.lo, nt b.hi, .v (tru b.bad)]), (8, [nt 0, nt 0, nt 0, .v (tru false)])], [], [(11, i), (12, i)], [], 0, nomem⟩) ps.length ?_ ?_
  · simp -implicitDefEqProofs (maxSteps := 10000000) only [hl, rkA, rkB, stepA, valA, simprocAttr]
    refine ⟨0, by simp, ?_⟩
    simp
  rintro m s ⟨i, hi, rfl⟩
  simp -implicitDefEqProofs (maxSteps := 10000000) only [rkA, rkB, stepA, valA, simprocAttr]
  refine gB_dec ?_ ?_ <;> intro hc <;> simp -implicitDefEqProofs (maxSteps := 10000000) only [hc, rkA, rkB, stepA, valA, simprocAttr]
  · have hlt : i < ps.length := by omega
    have h0 : (0 : Int) ≤ (i : Int) := by omega
    have hg : (ps.map prV)[i]? = some (prV ps[i]) := by simp [hlt]
    simp -implicitDefEqProofs (maxSteps := 10000000) only [h0, Int.toNat_natCast, hg, rkA, rkB, stepA, valA, simprocAttr]
    refine call_fn rfl rfl rfl (hF ps[i].1 ps[i].2 1) ?_
    simp -implicitDefEqProofs (maxSteps := 10000000) only [rkA, rkB, stepA, valA, simprocAttr]
    refine call_fn rfl rfl rfl (hF ps[i].1 ps[i].2 2) ?_
    simp -implicitDefEqProofs (maxSteps := 10000000) only [rkA, rkB, stepA, valA, simprocAttr]
    have f1 : fits 1 8 ((ps.take i).map fun p => num (F p.1 p.2 1).1) [num (F ps[i].1 ps[i].2 1).1] = true := by
      have := fits_num (k := (ps.take i).map fun p => (F p.1 p.2 1).1) (l := [(F ps[i].1 ps[i].2 1).1]) (by simp; omega)
      simpa [Function.comp_def] using this
    have f2 : fits 1 8 ((ps.take i).map fun p => num (F p.1 p.2 2).1) [num (F ps[i].1 ps[i].2 2).1] = true := by
      have := fits_num (k := (ps.take i).map fun p => (F p.1 p.2 2).1) (l := [(F ps[i].1 ps[i].2 2).1]) (by simp; omega)
      simpa [Function.comp_def] using this
    have l1 : ((ps.take i).map fun p => num (F p.1 p.2 1).1).length = i := by simp; omega
    have l2 : ((ps.take i).map fun p => num (F p.1 p.2 2).1).length = i := by simp; omega
    have hw := wrapped (x := (i : Int) + 1) (by omega) (by omega)
    have hall : (ps.take (i + 1)).all (okP F) = ((ps.take i).all (okP F) && ((F ps[i].1 ps[i].2 1).2 && (F ps[i].1 ps[i].2 2).2)) := by
      rw [List.take_succ_eq_append_getElem hlt, List.all_append]
      simp [okP]
    have hnew : ((F a.v b.v 0).2 && (ps.take (i + 1)).all (okP F)) = (((F a.v b.v 0).2 && (ps.take i).all (okP F)) && ((F ps[i].1 ps[i].2 1).2 && (F ps[i].1 ps[i].2 2).2)) := by rw [hall, Bool.and_assoc]
    clear hall
    generalize ((F a.v b.v 0).2 && (ps.take i).all (okP F)) = b0 at *
    have htk := List.take_succ_eq_append_getElem hlt
    generalize (F ps[i].1 ps[i].2 1).2 = b1 at *
    generalize (F ps[i].1 ps[i].2 2).2 = b2 at *
    cases b0 with
    | false =>
      simp -implicitDefEqProofs (maxSteps := 10000000) only [f1, f2, l1, l2, rkA, rkB, stepA, valA, simprocAttr]
      simp -implicitDefEqProofs (maxSteps := 10000000) only [hw, rkA, rkB, stepA, valA, simprocAttr]
      refine loopK_of (m' := m - 1) (by omega) ?_
      simp -implicitDefEqProofs (maxSteps := 10000000) only [rkA, rkB, stepA, valA, simprocAttr]
      refine ⟨i + 1, by omega, ?_⟩
      rw [hnew, htk]
      simp only [Bool.false_and, Bool.true_and, List.map_append, List.map_cons, List.map_nil, Int.natCast_add, Int.natCast_one]
    | true =>
      cases b1 with
      | false =>
        simp -implicitDefEqProofs (maxSteps := 10000000) only [f1, f2, l1, l2, rkA, rkB, stepA, valA, simprocAttr]
        simp -implicitDefEqProofs (maxSteps := 10000000) only [hw, rkA, rkB, stepA, valA, simprocAttr]
        refine loopK_of (m' := m - 1) (by omega) ?_
        simp -implicitDefEqProofs (maxSteps := 10000000) only [rkA, rkB, stepA, valA, simprocAttr]
        refine ⟨i + 1, by omega, ?_⟩
        rw [hnew, htk]
        simp only [Bool.false_and, Bool.true_and, List.map_append, List.map_cons, List.map_nil, Int.natCast_add, Int.natCast_one]
      | true =>
        simp -implicitDefEqProofs (maxSteps := 10000000) only [f1, f2, l1, l2, rkA, rkB, stepA, valA, simprocAttr]
        simp -implicitDefEqProofs (maxSteps := 10000000) only [hw, rkA, rkB, stepA, valA, simprocAttr]
        refine loopK_of (m' := m - 1) (by omega) ?_
        simp -implicitDefEqProofs (maxSteps := 10000000) only [rkA, rkB, stepA, valA, simprocAttr]
        refine ⟨i + 1, by omega, ?_⟩
        rw [hnew, htk]
        simp only [Bool.false_and, Bool.true_and, List.map_append, List.map_cons, List.map_nil, Int.natCast_add, Int.natCast_one]
  · have hin : i = ps.length := by omega
    subst hin
    simp only [List.take_length]
    have m1 : (ps.map fun p => num (F p.1 p.2 1).1) = (ps.map fun p => (F p.1 p.2 1).1).map num := by simp
    have m2 : (ps.map fun p => num (F p.1 p.2 2).1) = (ps.map fun p => (F p.1 p.2 2).1).map num := by simp
    have n1 : (ps.map fun p => (F p.1 p.2 1).1) ≠ [] := by simpa using h1
    have n2 : (ps.map fun p => (F p.1 p.2 2).1) ≠ [] := by simpa using h1
    have k1 : (ps.map fun p => (F p.1 p.2 1).1).length ≤ 1000 := by simp; omega
    have k2 : (ps.map fun p => (F p.1 p.2 2).1).length ≤ 1000 := by simp; omega
    rw [m1, m2]
    have hres : madeE F a b ps = if ((F a.v b.v 0).2 && ps.all (okP F)) = true ∧ a.fine = true ∧ b.fine = true then ⟨(F a.v b.v 0).1, minL (ps.map fun p => (F p.1 p.2 1).1), maxL (ps.map fun p => (F p.1 p.2 2).1), false⟩ else .wrong := rfl
    generalize ((F a.v b.v 0).2 && ps.all (okP F)) = b0 at *
    cases b0 with
    | false =>
      rw [hres, if_neg (by simp)]
      simp -implicitDefEqProofs (maxSteps := 10000000) only [rkA, rkB, stepA, valA, simprocAttr]
      refine call_fn rfl rfl rfl (ok49) ?_
      simp -implicitDefEqProofs (maxSteps := 10000000) only [rkA, rkB, stepA, valA, simprocAttr]
    | true =>
      simp -implicitDefEqProofs (maxSteps := 10000000) only [rkA, rkB, stepA, valA, simprocAttr]
      refine call_fn rfl rfl rfl (ok120 a) ?_
      cases ha : a.fine with
      | false =>
        rw [hres, if_neg (by simp [ha])]
        simp -implicitDefEqProofs (maxSteps := 10000000) only [rkA, rkB, stepA, valA, simprocAttr]
        refine call_fn rfl rfl rfl (ok49) ?_
        simp -implicitDefEqProofs (maxSteps := 10000000) only [rkA, rkB, stepA, valA, simprocAttr]
      | true =>
        simp -implicitDefEqProofs (maxSteps := 10000000) only [rkA, rkB, stepA, valA, simprocAttr]
        refine call_fn rfl rfl rfl (ok120 b) ?_
        cases hb : b.fine with
        | false =>
          rw [hres, if_neg (by simp [hb])]
          simp -implicitDefEqProofs (maxSteps := 10000000) only [rkA, rkB, stepA, valA, simprocAttr]
          refine call_fn rfl rfl rfl (ok49) ?_
          simp -implicitDefEqProofs (maxSteps := 10000000) only [rkA, rkB, stepA, valA, simprocAttr]
        | true =>
          rw [hres, if_pos ⟨rfl, ha, hb⟩]
          simp -implicitDefEqProofs (maxSteps := 10000000) only [rkA, rkB, stepA, valA, simprocAttr]
          refine call_fn rfl rfl rfl (ok172 _ _ n1 k1) ?_
          simp -implicitDefEqProofs (maxSteps := 10000000) only [rkA, rkB, stepA, valA, simprocAttr]
          refine call_fn rfl rfl rfl (ok173 _ _ n2 k2) ?_
          simp -implicitDefEqProofs (maxSteps := 10000000) only [rkA, rkB, stepA, valA, simprocAttr]

/-! ### Sums, products .. -/
def allP (a b : Fr) : List (Int × Int) := [(a.lo, b.lo), (a.lo, b.hi), (a.hi, b.lo), (a.hi, b.hi)]
def addF (a b : Fr) : Fr := madeE (fun x y _ => addX x y) a b [(a.lo, b.lo), (a.hi, b.hi)]
def subF (a b : Fr) : Fr := madeE (fun x y _ => subX x y) a b [(a.lo, b.hi), (a.hi, b.lo)]
def mulF (a b : Fr) : Fr := madeE mulX a b (allP a b)
def divF (a b : Fr) : Fr := if b.lo ≤ 0 ∧ b.hi ≥ 0 then .wrong else madeE divX a b (allP a b)
theorem ok244 (a b : Fr) : Ok Tryz.prog 244 [frV a, frV b] (.sl true ((allP a b).map prV)) := by
  refine ok_fn mixed Tryz.func244 (code := ?_) (h := h244) ?_ k244 ?_
  rotate_left
  · exact rfl
  unfold h244 initS
  simp -implicitDefEqProofs (maxSteps := 10000000) only [rkA, rkB, stepA, valA, simprocAttr, Tryz.ntmps244, Tryz.results244]
  rfl
theorem ok113 (x y m : Int) : Ok Tryz.prog 113 [num x, num y, num m] (.tup [num (addX x y).1, tru (addX x y).2]) := by
  refine ok_fn mixed Tryz.func113 (code := ?_) (h := h113) ?_ k113 ?_
  rotate_left
  · exact rfl
  unfold h113 initS
  simp -implicitDefEqProofs (maxSteps := 10000000) only [rkA, rkB, stepA, valA, simprocAttr, Tryz.ntmps113, Tryz.results113]
  refine call_fn rfl rfl rfl (ok114 x y) ?_
  simp -implicitDefEqProofs (maxSteps := 10000000) only [rkA, rkB, stepA, valA, simprocAttr]
theorem ok249 (x y m : Int) : Ok Tryz.prog 249 [num x, num y, num m] (.tup [num (subX x y).1, tru (subX x y).2]) := by
  refine ok_fn mixed Tryz.func249 (code := ?_) (h := h249) ?_ k249 ?_
  rotate_left
  · exact rfl
  unfold h249 initS
  simp -implicitDefEqProofs (maxSteps := 10000000) only [rkA, rkB, stepA, valA, simprocAttr, Tryz.ntmps249, Tryz.results249]
  refine call_fn rfl rfl rfl (ok250 x y) ?_
  simp -implicitDefEqProofs (maxSteps := 10000000) only [rkA, rkB, stepA, valA, simprocAttr]
theorem ok53 (a b : Fr) : Ok Tryz.prog 53 [frV a, frV b] (frV (addF a b)) := by
  have h := ok115 _ _ (fun x y m => ok113 x y m) a b true [(a.lo, b.lo), (a.hi, b.hi)] (by simp) (by simp)
  refine ok_fn mixed Tryz.func53 (code := ?_) (h := h53) ?_ k53 ?_
  rotate_left
  · exact rfl
  unfold h53 initS
  simp -implicitDefEqProofs (maxSteps := 10000000) only [rkA, rkB, stepA, valA, simprocAttr, Tryz.ntmps53, Tryz.results53]
  refine call_fn rfl rfl rfl (h) ?_
  simp -implicitDefEqProofs (maxSteps := 10000000) only [rkA, rkB, stepA, valA, simprocAttr, addF]
theorem ok242 (a b : Fr) : Ok Tryz.prog 242 [frV a, frV b] (frV (subF a b)) := by
  have h := ok115 _ _ (fun x y m => ok249 x y m) a b true [(a.lo, b.hi), (a.hi, b.lo)] (by simp) (by simp)
  refine ok_fn mixed Tryz.func242 (code := ?_) (h := h242) ?_ k242 ?_
  rotate_left
  · exact rfl
  unfold h242 initS
  simp -implicitDefEqProofs (maxSteps := 10000000) only [rkA, rkB, stepA, valA, simprocAttr, Tryz.ntmps242, Tryz.results242]
  refine call_fn rfl rfl rfl (h) ?_
  simp -implicitDefEqProofs (maxSteps := 10000000) only [rkA, rkB, stepA, valA, simprocAttr, subF]
theorem ok237 (a b : Fr) : Ok Tryz.prog 237 [frV a, frV b] (frV (mulF a b)) := by
  have h := ok115 _ _ ok245 a b true (allP a b) (by simp [allP]) (by simp [allP])
  refine ok_fn mixed Tryz.func237 (code := ?_) (h := h237) ?_ k237 ?_
  rotate_left
  · exact rfl
  unfold h237 initS
  simp -implicitDefEqProofs (maxSteps := 10000000) only [rkA, rkB, stepA, valA, simprocAttr, Tryz.ntmps237, Tryz.results237]
  refine call_fn rfl rfl rfl (ok244 a b) ?_
  simp -implicitDefEqProofs (maxSteps := 10000000) only [rkA, rkB, stepA, valA, simprocAttr]
  refine call_fn rfl rfl rfl (h) ?_
  simp -implicitDefEqProofs (maxSteps := 10000000) only [rkA, rkB, stepA, valA, simprocAttr, mulF]
theorem ok236 (a b : Fr) : Ok Tryz.prog 236 [frV a, frV b] (frV (divF a b)) := by
  have h := ok115 _ _ ok243 a b true (allP a b) (by simp [allP]) (by simp [allP])
  refine ok_fn mixed Tryz.func236 (code := ?_) (h := h236) ?_ k236 ?_
  rotate_left
  · exact rfl
  unfold h236 initS
  simp -implicitDefEqProofs (maxSteps := 10000000) only [rkA, rkB, stepA, valA, simprocAttr, Tryz.ntmps236, Tryz.results236]
  by_cases h1 : b.lo ≤ 0
  · by_cases h2 : b.hi ≥ 0
    · simp -implicitDefEqProofs (maxSteps := 10000000) only [h1, h2, rkA, rkB, stepA, valA, simprocAttr]
      refine call_fn rfl rfl rfl (ok49) ?_
      simp -implicitDefEqProofs (maxSteps := 10000000) only [divF, h1, h2, rkA, rkB, stepA, valA, simprocAttr]
    · simp -implicitDefEqProofs (maxSteps := 10000000) only [h1, h2, rkA, rkB, stepA, valA, simprocAttr]
      refine call_fn rfl rfl rfl (ok244 a b) ?_
      simp -implicitDefEqProofs (maxSteps := 10000000) only [rkA, rkB, stepA, valA, simprocAttr]
      refine call_fn rfl rfl rfl (h) ?_
      simp -implicitDefEqProofs (maxSteps := 10000000) only [divF, h2, rkA, rkB, stepA, valA, simprocAttr]
  · simp -implicitDefEqProofs (maxSteps := 10000000) only [h1, rkA, rkB, stepA, valA, simprocAttr]
    refine call_fn rfl rfl rfl (ok244 a b) ?_
    simp -implicitDefEqProofs (maxSteps := 10000000) only [rkA, rkB, stepA, valA, simprocAttr]
    refine call_fn rfl rfl rfl (h) ?_
    simp -implicitDefEqProofs (maxSteps := 10000000) only [divF, h1, rkA, rkB, stepA, valA, simprocAttr]
end Go.Proofs.YtahcpmhgcppdcaaGreat.A.E



set_option linter.unusedVariables false
set_option linter.unusedSimpArgs false
set_option maxRecDepth 100000
namespace Go.Proofs.YtahcpmhgcppdcaaGreat.A
open Go Go.RowKit Go.Shelf

abbrev nb (x : Nat) : List PV := (rowB x).map num
abbrev nbt (x n : Nat) : List PV := (bitsTo x n).map num
theorem nb_get {x k : Nat} (h : k < 130) : (nb x)[k]? = some (num (bitN x k)) := by
  rw [nb, List.getElem?_map, rowB_get h]
  rfl
theorem nb_len (x : Nat) : (nb x).length = 130 := by rw [nb, List.length_map, rowB_length]
theorem nbt_len (x n : Nat) : (nbt x n).length = n := by rw [nbt, List.length_map, bitsTo_length]
theorem nbt_succ (x n : Nat) : nbt x n ++ [num (bitN x n)] = nbt x (n + 1) := by rw [nbt, nbt, bitsTo_succ, List.map_append]; rfl
theorem nbt_fit {x n : Nat} (h : n ≤ 130) (y : Int) : fits 1 8 (nbt x n) [num y] = true := fits_num (l := [y]) (by rw [bitsTo_length]; simp; omega)

theorem two0 : ((2 : Int) = 0) = False := by simp
theorem nat0 (n : Nat) : (0 : Int) ≤ (n : Int) := Int.natCast_nonneg n
theorem wrapN64 {n : Nat} (h : n < 9223372036854775808) : IntKind.wrap .i64 (n : Int) = (n : Int) := wrapped (by omega) (by omega)
theorem wrapB (x k : Nat) : IntKind.wrap .i64 (bitN x k : Int) = (bitN x k : Int) := wrapN64 (by have := bitN_lt x k; omega)

theorem ok212 (x : Nat) (hx : x < 9223372036854775808) : Ok Tryz.prog 212 [num x] (.sl false (nb x)) := by
  refine ok_fn mixed Tryz.func212 (code := ?_) (h := h212) ?_ k212 ?_
  rotate_left
  · exact rfl
  unfold h212 initS
  simp -implicitDefEqProofs (maxSteps := 10000000) only [rkA, rkB, stepA, valA, simprocAttr, Tryz.ntmps212, Tryz.results212]
  refine wp_loop (fun m s => ∃ i : Nat, i + m = 130 ∧ s = ⟨[nt ((x / 2 ^ i : Nat) : Int), jk, jk, .acc 3 (nbt x i), nt i, jk, jk, jk, jk, jk, jk, jk, jk, jk, jk, jk, jk], [], [], [(2, 0), (3, i)], [], 0, nomem⟩) 130 ?_ ?_
  · simp -implicitDefEqProofs (maxSteps := 10000000) only [rkA, rkB, stepA, valA, simprocAttr]
    exact ⟨0, by simp, by simp [nt, bitsTo]⟩
  rintro m s ⟨i, hi, rfl⟩
  simp -implicitDefEqProofs (maxSteps := 10000000) only [rkA, rkB, stepA, valA, simprocAttr]
  refine gB_dec ?_ ?_ <;> intro hc <;> simp -implicitDefEqProofs (maxSteps := 10000000) only [hc, rkA, rkB, stepA, valA, simprocAttr]
  · have e1 : ((x / 2 ^ i : Nat) : Int).tmod 2 = bitN x i := by rw [Int.tmod_eq_emod_of_nonneg (nat0 _)]; rfl
    have e2 : ((x / 2 ^ i : Nat) : Int).tdiv 2 = ((x / 2 ^ (i + 1) : Nat) : Int) := by
      rw [Int.tdiv_eq_ediv_of_nonneg (nat0 _), Nat.pow_succ, ← Nat.div_div_eq_div_mul]; rfl
    have hle : x / 2 ^ (i + 1) ≤ x := Nat.div_le_self _ _
    have w2 := wrapN64 (n := x / 2 ^ (i + 1)) (by omega)
    have hw := wrapped (x := (i : Int) + 1) (by omega) (by omega)
    simp -implicitDefEqProofs (maxSteps := 10000000) only [e1, two0, wrapB, nbt_fit (x := x) (n := i) (by omega), nbt_len, e2, w2, hw, rkA, rkB, stepA, valA, simprocAttr]
    refine loopK_of (m' := m - 1) (by omega) ?_
    simp -implicitDefEqProofs (maxSteps := 10000000) only [rkA, rkB, stepA, valA, simprocAttr]
    exact ⟨i + 1, by omega, by rw [nbt_succ]; simp only [Int.natCast_add, Int.natCast_one]⟩
  · have : i = 130 := by omega
    subst this
    rfl
theorem ok213 (ea eb : Bool) (a b : Nat) : Ok Tryz.prog 213 [.sl ea (nb a), .sl eb (nb b)] (.sl false (nb (a + b))) := by
  refine ok_fn mixed Tryz.func213 (code := ?_) (h := h213) ?_ k213 ?_
  rotate_left
  · exact rfl
  unfold h213 initS
  simp -implicitDefEqProofs (maxSteps := 10000000) only [rkA, rkB, stepA, valA, simprocAttr, Tryz.ntmps213, Tryz.results213]
  refine wp_loop (fun m s => ∃ i : Nat, i + m = 130 ∧ s = ⟨[.v (.sl ea (nb a)), .v (.sl eb (nb b)), jk, jk, jk, .acc 5 (nbt (a + b) i), nt ((carry a b i : Nat) : Int), nt i, jk, jk, jk, jk, jk, jk, jk, jk, jk, jk, jk, jk, jk, jk, jk, jk, jk, jk, jk, jk, jk, jk, jk, jk], [], [], [(4, 0), (5, i)], [], 0, nomem⟩) 130 ?_ ?_
  · simp -implicitDefEqProofs (maxSteps := 10000000) only [rkA, rkB, stepA, valA, simprocAttr]
    exact ⟨0, by simp, by simp [nt, bitsTo, carry_zero]⟩
  rintro m s ⟨i, hi, rfl⟩
  simp -implicitDefEqProofs (maxSteps := 10000000) only [rkA, rkB, stepA, valA, simprocAttr]
  refine gB_dec ?_ ?_ <;> intro hc <;> simp -implicitDefEqProofs (maxSteps := 10000000) only [hc, rkA, rkB, stepA, valA, simprocAttr]
  · have ga := nb_get (x := a) (k := i) (by omega)
    have gb := nb_get (x := b) (k := i) (by omega)
    have l1 := bitN_lt a i
    have l2 := bitN_lt b i
    have l3 := carry_lt a b i
    have l4 := carry_lt a b (i + 1)
    have w1 := wrapped (x := (bitN a i : Int) + bitN b i) (by omega) (by omega)
    have w2 := wrapped (x := (bitN a i : Int) + bitN b i + carry a b i) (by omega) (by omega)
    have e1 : ((bitN a i : Int) + bitN b i + carry a b i).tmod 2 = bitN (a + b) i := by
      rw [Int.tmod_eq_emod_of_nonneg (by omega), sum_bit]; rfl
    have e2 : ((bitN a i : Int) + bitN b i + carry a b i).tdiv 2 = carry a b (i + 1) := by
      rw [Int.tdiv_eq_ediv_of_nonneg (by omega), carry_succ]; rfl
    have w3 := wrapN64 (n := carry a b (i + 1)) (by omega)
    have hw := wrapped (x := (i : Int) + 1) (by omega) (by omega)
    have h0 := nat0 i
    simp -implicitDefEqProofs (maxSteps := 10000000) only [h0, Int.toNat_natCast, ga, gb, rkA, rkB, stepA, valA, simprocAttr]
    simp -implicitDefEqProofs (maxSteps := 10000000) only [w1, w2, e1, two0, wrapB, nbt_fit (x := a + b) (n := i) (by omega), nbt_len, e2, w3, hw, rkA, rkB, stepA, valA, simprocAttr]
    refine loopK_of (m' := m - 1) (by omega) ?_
    simp -implicitDefEqProofs (maxSteps := 10000000) only [rkA, rkB, stepA, valA, simprocAttr]
    exact ⟨i + 1, by omega, by rw [nbt_succ]; simp only [Int.natCast_add, Int.natCast_one]⟩
  · have : i = 130 := by omega
    subst this
    rfl
theorem ok219 (ea eb : Bool) (a b : Nat) (h : b ≤ a) : Ok Tryz.prog 219 [.sl ea (nb a), .sl eb (nb b)] (.sl false (nb (a - b))) := by
  refine ok_fn mixed Tryz.func219 (code := ?_) (h := h219) ?_ k219 ?_
  rotate_left
  · exact rfl
  unfold h219 initS
  simp -implicitDefEqProofs (maxSteps := 10000000) only [rkA, rkB, stepA, valA, simprocAttr, Tryz.ntmps219, Tryz.results219]
  refine wp_loop (fun m s => ∃ i : Nat, i + m = 130 ∧ s = ⟨[.v (.sl ea (nb a)), .v (.sl eb (nb b)), jk, jk, jk, .acc 5 (nbt (a - b) i), nt ((borrow a b i : Nat) : Int), nt i, jk, jk, jk, jk, jk, jk, jk, jk, jk, jk, jk, jk, jk, jk, jk, jk, jk, jk, jk, jk, jk, jk, jk, jk, jk, jk], [], [], [(4, 0), (5, i)], [], 0, nomem⟩) 130 ?_ ?_
  · simp -implicitDefEqProofs (maxSteps := 10000000) only [rkA, rkB, stepA, valA, simprocAttr]
    exact ⟨0, by simp, by simp [nt, bitsTo, borrow_zero]⟩
  rintro m s ⟨i, hi, rfl⟩
  simp -implicitDefEqProofs (maxSteps := 10000000) only [rkA, rkB, stepA, valA, simprocAttr]
  refine gB_dec ?_ ?_ <;> intro hc <;> simp -implicitDefEqProofs (maxSteps := 10000000) only [hc, rkA, rkB, stepA, valA, simprocAttr]
  · have ga := nb_get (x := a) (k := i) (by omega)
    have gb := nb_get (x := b) (k := i) (by omega)
    have l1 := bitN_lt a i
    have l2 := bitN_lt b i
    have l3 : borrow a b i < 2 := by unfold borrow; split <;> omega
    have l4 : borrow a b (i + 1) < 2 := by unfold borrow; split <;> omega
    have w1 := wrapped (x := (bitN a i : Int) - bitN b i) (by omega) (by omega)
    have w2 := wrapped (x := (bitN a i : Int) - bitN b i - borrow a b i) (by omega) (by omega)
    have w4 := wrapped (x := (bitN a i : Int) - bitN b i - borrow a b i + 2) (by omega) (by omega)
    obtain ⟨e1, e2⟩ := sub_bit h i
    have l5 : ((bitN a i : Int) - bitN b i - borrow a b i + 2).tdiv 2 = 1 - (borrow a b (i + 1) : Int) := by omega
    have w5 := wrapped (x := 1 - (borrow a b (i + 1) : Int)) (by omega) (by omega)
    have w3 : IntKind.wrap .i64 (1 - (1 - (borrow a b (i + 1) : Int))) = (borrow a b (i + 1) : Int) := by rw [wrapped (by omega) (by omega)]; omega
    have hw := wrapped (x := (i : Int) + 1) (by omega) (by omega)
    have h0 := nat0 i
    simp -implicitDefEqProofs (maxSteps := 10000000) only [h0, Int.toNat_natCast, ga, gb, rkA, rkB, stepA, valA, simprocAttr]
    simp -implicitDefEqProofs (maxSteps := 10000000) only [w1, w2, w4, e1, two0, wrapB, nbt_fit (x := a - b) (n := i) (by omega), nbt_len, l5, w5, w3, hw, rkA, rkB, stepA, valA, simprocAttr]
    refine loopK_of (m' := m - 1) (by omega) ?_
    simp -implicitDefEqProofs (maxSteps := 10000000) only [rkA, rkB, stepA, valA, simprocAttr]
    exact ⟨i + 1, by omega, by rw [nbt_succ]; simp only [Int.natCast_add, Int.natCast_one]⟩
  · have : i = 130 := by omega
    subst this
    rfl
theorem ok199 (ea eb : Bool) (a b : Nat) (ha : a < 2 ^ 130) (hb : b < 2 ^ 130) : Ok Tryz.prog 199 [.sl ea (nb a), .sl eb (nb b)] (tru (decide (a < b))) := by
  refine ok_fn mixed Tryz.func199 (code := ?_) (h := h199) ?_ k199 ?_
  rotate_left
  · exact rfl
  unfold h199 initS
  simp -implicitDefEqProofs (maxSteps := 10000000) only [rkA, rkB, stepA, valA, simprocAttr, Tryz.ntmps199, Tryz.results199]
  refine wp_loop (fun m s => ∃ i : Nat, i + m = 130 ∧ a / 2 ^ m = b / 2 ^ m ∧ s = ⟨[.v (.sl ea (nb a)), .v (.sl eb (nb b)), jk, jk, jk, nt ((m : Int) - 1), jk, jk, jk, jk, jk, jk, jk, jk, jk, jk, jk, jk, jk, jk, jk, jk, jk, jk, jk, jk, jk, jk], [], [], [], [], 0, nomem⟩) 130 ?_ ?_
  · simp -implicitDefEqProofs (maxSteps := 10000000) only [rkA, rkB, stepA, valA, simprocAttr]
    exact ⟨0, by simp, by rw [Nat.div_eq_of_lt ha, Nat.div_eq_of_lt hb]⟩
  rintro m s ⟨i, hm, he, rfl⟩
  simp -implicitDefEqProofs (maxSteps := 10000000) only [rkA, rkB, stepA, valA, simprocAttr]
  refine gB_dec ?_ ?_ <;> intro hc <;> simp -implicitDefEqProofs (maxSteps := 10000000) only [hc, rkA, rkB, stepA, valA, simprocAttr]
  · obtain ⟨k, rfl⟩ : ∃ k, m = k + 1 := ⟨m - 1, by omega⟩
    have ek : ((k + 1 : Nat) : Int) - 1 = (k : Int) := by omega
    have ga := nb_get (x := a) (k := k) (by omega)
    have gb := nb_get (x := b) (k := k) (by omega)
    have h0 := nat0 k
    have hw := wrapped (x := (k : Int) - 1) (by omega) (by omega)
    simp -implicitDefEqProofs (maxSteps := 10000000) only [ek, h0, Int.toNat_natCast, ga, gb, rkA, rkB, stepA, valA, simprocAttr]
    by_cases hne : bitN a k = bitN b k
    · have hne' : ((bitN a k : Int) != (bitN b k : Int)) = false := by simp [hne]
      simp -implicitDefEqProofs (maxSteps := 10000000) only [hne', hw, rkA, rkB, stepA, valA, simprocAttr]
      refine loopK_of (m' := k) (by omega) ?_
      simp -implicitDefEqProofs (maxSteps := 10000000) only [rkA, rkB, stepA, valA, simprocAttr]
      exact ⟨i + 1, by omega, less_next he hne⟩
    · have hne' : ((bitN a k : Int) != (bitN b k : Int)) = true := by simp; omega
      have hl := less_here he hne
      have e : decide ((bitN a k : Int) < (bitN b k : Int)) = decide (a < b) := by
        rw [decide_eq_decide, ← hl]; omega
      simp -implicitDefEqProofs (maxSteps := 10000000) only [hne', e, h0, Int.toNat_natCast, ga, gb, rkA, rkB, stepA, valA, simprocAttr]
  · have : m = 0 := by omega
    subst this
    simp only [Nat.pow_zero, Nat.div_one] at he
    have : decide (a < b) = false := by simp; omega
    rw [this]
theorem ok214 (ea : Bool) (a b : Nat) (hb : b < 2) : Ok Tryz.prog 214 [.sl ea (nb a), num b] (.sl false (nb (2 * a + b))) := by
  have t : (nb a).take 129 = nbt a 129 := by
    rw [nb, nbt, ← List.map_take, rowB, bitsTo, bitsTo, ← List.map_take, List.take_range]; rfl
  have hs : sliceA 1 (nb a) ea none (some 129) none = some (.sl (exA none ea 129 130) (nbt a 129)) := by
    unfold sliceA
    have hc : ((nb a).all fun e => e.cells.length == 1) = true := by simp [nb, PV.cells]
    have hl := nb_len a
    simp only [Option.getD_some, Option.getD_none]
    rw [if_pos ⟨by omega, by rw [hl]; omega, by simp, hc⟩, hl, t]
    rfl
  have hf : fits 1 8 [num b] (nbt a 129) = true := fits_num (k := [(b : Int)]) (l := bitsTo a 129) (by simp [bitsTo_length])
  have e : num (b : Int) :: nbt a 129 = nb (2 * a + b) := by
    rw [nb, nbt, rowB, ← up_bits a b 129 hb]; rfl
  refine ok_fn mixed Tryz.func214 (code := ?_) (h := h214) ?_ k214 ?_
  rotate_left
  · exact rfl
  unfold h214 initS
  simp -implicitDefEqProofs (maxSteps := 10000000) only [rkA, rkB, stepA, valA, simprocAttr, Tryz.ntmps214, Tryz.results214]
  simp -implicitDefEqProofs (maxSteps := 10000000) only [hs, hf, e, rkA, rkB, stepA, valA, simprocAttr]
end Go.Proofs.YtahcpmhgcppdcaaGreat.A



set_option linter.unusedVariables false
set_option linter.unusedSimpArgs false
set_option maxRecDepth 100000
namespace Go.Proofs.YtahcpmhgcppdcaaGreat.A
open Go Go.RowKit Go.Shelf

/-! ### Products of two words, compared -/
end Go.Proofs.YtahcpmhgcppdcaaGreat.A


set_option linter.unusedVariables false
set_option linter.unusedSimpArgs false
set_option maxRecDepth 100000
namespace Go.Proofs.YtahcpmhgcppdcaaGreat.A
open Go Go.RowKit Go.Shelf

/-! ### Roots of whole numbers, bit by bit -/
end Go.Proofs.YtahcpmhgcppdcaaGreat.A



set_option linter.unusedVariables false
set_option linter.unusedSimpArgs false
set_option maxRecDepth 100000
namespace Go.Proofs.YtahcpmhgcppdcaaGreat.A
open Go Go.RowKit Go.Shelf

/-! ### Roots of products, bit by bit -/
end Go.Proofs.YtahcpmhgcppdcaaGreat.A



set_option linter.unusedVariables false
set_option linter.unusedSimpArgs false
set_option maxRecDepth 100000
namespace Go.Proofs.YtahcpmhgcppdcaaGreat.A
open Go Go.RowKit Go.Shelf

/-! ### The reference's numbers of two words: products, sizes -/
theorem ok200 (a b : Nat) (ha : a < 9223372036854775808) (hb : b < 9223372036854775808) : Ok Tryz.prog 200 [num a, num b] (.sl false (nb (a * b))) := by
  refine ok_fn mixed Tryz.func200 (code := ?_) (h := h200) ?_ k200 ?_
  rotate_left
  · exact rfl
  unfold h200 initS
  simp -implicitDefEqProofs (maxSteps := 10000000) only [rkA, rkB, stepA, valA, simprocAttr, Tryz.ntmps200, Tryz.results200]
  have h0 := ok212 0 (by omega)
  refine call_fn rfl rfl rfl (h0) ?_
  simp -implicitDefEqProofs (maxSteps := 10000000) only [rkA, rkB, stepA, valA, simprocAttr]
  refine call_fn rfl rfl rfl (ok212 a ha) ?_
  simp -implicitDefEqProofs (maxSteps := 10000000) only [rkA, rkB, stepA, valA, simprocAttr]
  refine call_fn rfl rfl rfl (ok212 b hb) ?_
  simp -implicitDefEqProofs (maxSteps := 10000000) only [rkA, rkB, stepA, valA, simprocAttr]
  refine wp_loop (fun m s => ∃ i : Nat, i + m = 63 ∧ s = ⟨[jk, jk, jk, jk, jk, .v (.sl false (nb (a * (b % 2 ^ i)))), .v (.sl false (nb (a * 2 ^ i))), .v (.sl false (nb b)), nt i, jk, jk, jk, jk, jk, jk, jk, jk, jk, jk, jk, jk, jk, jk, jk, jk, jk, jk, jk, jk], [], [], [(4, 0)], [], 0, nomem⟩) 63 ?_ ?_
  · simp -implicitDefEqProofs (maxSteps := 10000000) only [rkA, rkB, stepA, valA, simprocAttr]
    exact ⟨0, by omega, by simp [Nat.mod_one]⟩
  rintro m s ⟨i, hi, rfl⟩
  simp -implicitDefEqProofs (maxSteps := 10000000) only [rkA, rkB, stepA, valA, simprocAttr]
  refine gB_dec ?_ ?_ <;> intro hc <;> simp -implicitDefEqProofs (maxSteps := 10000000) only [hc, rkA, rkB, stepA, valA, simprocAttr]
  · have h0i := nat0 i
    have gb := nb_get (x := b) (k := i) (by omega)
    have hw := wrapped (x := (i : Int) + 1) (by omega) (by omega)
    have hmod := mod_bit b i
    have hup : 2 * (a * 2 ^ i) + 0 = a * 2 ^ (i + 1) := by rw [Nat.pow_succ, Nat.add_zero, Nat.mul_comm, Nat.mul_assoc]
    have h62 := ok214 false (a * 2 ^ i) 0 (by omega)
    rw [hup] at h62
    simp -implicitDefEqProofs (maxSteps := 10000000) only [h0i, Int.toNat_natCast, gb, rkA, rkB, stepA, valA, simprocAttr]
    rcases bitN_cases b i with e | e
    · have hne : ((bitN b i : Int) == 1) = false := by rw [e]; rfl
      rw [e, Nat.mul_zero, Nat.add_zero (b % 2 ^ i)] at hmod
      simp -implicitDefEqProofs (maxSteps := 10000000) only [hne, rkA, rkB, stepA, valA, simprocAttr]
      refine call_fn rfl rfl rfl (h62) ?_
      simp -implicitDefEqProofs (maxSteps := 10000000) only [hw, rkA, rkB, stepA, valA, simprocAttr]
      refine loopK_of (m' := m - 1) (by omega) ?_
      simp -implicitDefEqProofs (maxSteps := 10000000) only [rkA, rkB, stepA, valA, simprocAttr]
      exact ⟨i + 1, by omega, by rw [hmod]; simp only [Int.natCast_add, Int.natCast_one]⟩
    · have hne : ((bitN b i : Int) == 1) = true := by rw [e]; rfl
      rw [e, Nat.mul_one] at hmod
      have hs : a * (b % 2 ^ i) + a * 2 ^ i = a * (b % 2 ^ (i + 1)) := by rw [hmod, Nat.mul_add]
      have h61 := ok213 false false (a * (b % 2 ^ i)) (a * 2 ^ i)
      rw [hs] at h61
      simp -implicitDefEqProofs (maxSteps := 10000000) only [hne, rkA, rkB, stepA, valA, simprocAttr]
      refine call_fn rfl rfl rfl (h61) ?_
      simp -implicitDefEqProofs (maxSteps := 10000000) only [rkA, rkB, stepA, valA, simprocAttr]
      refine call_fn rfl rfl rfl (h62) ?_
      simp -implicitDefEqProofs (maxSteps := 10000000) only [hw, rkA, rkB, stepA, valA, simprocAttr]
      refine loopK_of (m' := m - 1) (by omega) ?_
      simp -implicitDefEqProofs (maxSteps := 10000000) only [rkA, rkB, stepA, valA, simprocAttr]
      exact ⟨i + 1, by omega, by simp only [Int.natCast_add, Int.natCast_one]⟩
  · have : i = 63 := by omega
    subst this
    rw [Nat.mod_eq_of_lt (by omega)]
theorem ok217 (n : Int) : Ok Tryz.prog 217 [num n] (tru (rightW n)) := by
  refine ok_fn mixed Tryz.func217 (code := ?_) (h := h217) ?_ k217 ?_
  rotate_left
  · exact rfl
  unfold h217 initS
  simp -implicitDefEqProofs (maxSteps := 10000000) only [rkA, rkB, stepA, valA, simprocAttr, Tryz.ntmps217, Tryz.results217]
  unfold rightW
  by_cases h1 : n ≥ -4611686018427387903
  · simp -implicitDefEqProofs (maxSteps := 10000000) only [h1, rkA, rkB, stepA, valA, simprocAttr]
  · simp -implicitDefEqProofs (maxSteps := 10000000) only [h1, rkA, rkB, stepA, valA, simprocAttr]
theorem ok218 (n : Int) (h : -9223372036854775807 ≤ n) (h' : n ≤ 9223372036854775807) : Ok Tryz.prog 218 [num n] (num n.natAbs) := by
  refine ok_fn mixed Tryz.func218 (code := ?_) (h := h218) ?_ k218 ?_
  rotate_left
  · exact rfl
  unfold h218 initS
  simp -implicitDefEqProofs (maxSteps := 10000000) only [rkA, rkB, stepA, valA, simprocAttr, Tryz.ntmps218, Tryz.results218]
  have hw := wrapped (x := 0 - n) (by omega) (by omega)
  refine gB_dec ?_ ?_ <;> intro hc <;> simp -implicitDefEqProofs (maxSteps := 10000000) only [hc, hw, rkA, rkB, stepA, valA, simprocAttr]
  · have : (0 : Int) - n = (n.natAbs : Int) := by omega
    rw [this]
  · have : n = (n.natAbs : Int) := by omega
    rw [← this]
/-- A row as a number. -/
theorem ok220 (e : Bool) (x : Nat) (hx : x < 2 ^ 62) : Ok Tryz.prog 220 [.sl e (nb x)] (.tup [num x, tru true]) := by
  refine ok_fn mixed Tryz.func220 (code := ?_) (h := h220) ?_ k220 ?_
  rotate_left
  · exact rfl
  unfold h220 initS
  simp -implicitDefEqProofs (maxSteps := 10000000) only [rkA, rkB, stepA, valA, simprocAttr, Tryz.ntmps220, Tryz.results220]
  refine wp_loop (fun m s => ∃ i : Nat, i + m = 130 ∧ s = ⟨[.v (.sl e (nb x)), jk, jk, jk, nt (x / 2 ^ m : Nat), nt ((m : Int) - 1), jk, jk, jk, jk, jk, jk, jk, jk, jk, jk, jk, jk, jk, jk, jk, jk, jk, jk, jk, jk, jk, jk, jk], [], [], [], [], 0, nomem⟩) 130 ?_ ?_
  · simp -implicitDefEqProofs (maxSteps := 10000000) only [rkA, rkB, stepA, valA, simprocAttr]
    exact ⟨0, by omega, by rw [Nat.div_eq_of_lt (Nat.lt_trans hx (by decide))]; rfl⟩
  rintro m s ⟨i, hm, rfl⟩
  simp -implicitDefEqProofs (maxSteps := 10000000) only [rkA, rkB, stepA, valA, simprocAttr]
  refine gB_dec ?_ ?_ <;> intro hc <;> simp -implicitDefEqProofs (maxSteps := 10000000) only [hc, rkA, rkB, stepA, valA, simprocAttr]
  · obtain ⟨k, rfl⟩ : ∃ k, m = k + 1 := ⟨m - 1, by omega⟩
    have ek : ((k + 1 : Nat) : Int) - 1 = (k : Int) := by omega
    have g := nb_get (x := x) (k := k) (by omega)
    have h0 := nat0 k
    have hw := wrapped (x := (k : Int) - 1) (by omega) (by omega)
    have hb := half_bit x k
    simp -implicitDefEqProofs (maxSteps := 10000000) only [ek, h0, Int.toNat_natCast, g, rkA, rkB, stepA, valA, simprocAttr]
    by_cases h62 : 62 ≤ k
    · have g62 : (k : Int) ≥ 62 := by omega
      have g62' : ¬ (k : Int) < 62 := by omega
      have e1 := bits_big hx (k := k) h62
      have z1 : x / 2 ^ k = 0 := Nat.div_eq_of_lt (Nat.lt_of_lt_of_le hx (Nat.pow_le_pow_right (by omega) h62))
      have z2 : x / 2 ^ (k + 1) = 0 := Nat.div_eq_of_lt (Nat.lt_of_lt_of_le hx (Nat.pow_le_pow_right (by omega) (by omega)))
      have hne : ((bitN x k : Int) == 1) = false := by rw [e1]; rfl
      simp -implicitDefEqProofs (maxSteps := 10000000) only [hne, g62', hw, rkA, rkB, stepA, valA, simprocAttr]
      refine loopK_of (m' := k) (by omega) ?_
      simp -implicitDefEqProofs (maxSteps := 10000000) only [rkA, rkB, stepA, valA, simprocAttr]
      exact ⟨i + 1, by omega, by rw [z1, z2]⟩
    · have g62 : ¬ (k : Int) ≥ 62 := by omega
      have g62' : (k : Int) < 62 := by omega
      have hle : x / 2 ^ k ≤ x := Nat.div_le_self _ _
      have w1 : IntKind.wrap .i64 (((x / 2 ^ (k + 1) : Nat) : Int) * 2) = ((2 * (x / 2 ^ (k + 1)) : Nat) : Int) := by rw [wrapped (by omega) (by omega)]; omega
      have w2 : IntKind.wrap .i64 (((2 * (x / 2 ^ (k + 1)) : Nat) : Int) + (bitN x k : Int)) = ((x / 2 ^ k : Nat) : Int) := by rw [wrapped (by omega) (by omega)]; omega
      rcases bitN_cases x k with e1 | e1
      · have hne : ((bitN x k : Int) == 1) = false := by rw [e1]; rfl
        simp -implicitDefEqProofs (maxSteps := 10000000) only [hne, g62, g62', w1, h0, Int.toNat_natCast, g, w2, hw, rkA, rkB, stepA, valA, simprocAttr]
        refine loopK_of (m' := k) (by omega) ?_
        simp -implicitDefEqProofs (maxSteps := 10000000) only [rkA, rkB, stepA, valA, simprocAttr]
        exact ⟨i + 1, by omega⟩
      · have hne : ((bitN x k : Int) == 1) = true := by rw [e1]; rfl
        simp -implicitDefEqProofs (maxSteps := 10000000) only [hne, g62, g62', w1, h0, Int.toNat_natCast, g, w2, hw, rkA, rkB, stepA, valA, simprocAttr]
        refine loopK_of (m' := k) (by omega) ?_
        simp -implicitDefEqProofs (maxSteps := 10000000) only [rkA, rkB, stepA, valA, simprocAttr]
        exact ⟨i + 1, by omega⟩
  · have : m = 0 := by omega
    subst this
    simp only [Nat.pow_zero, Nat.div_one]
theorem ok220n (e : Bool) (x : Nat) (hx : x < 2 ^ 130) (hbig : 2 ^ 62 ≤ x) : Ok Tryz.prog 220 [.sl e (nb x)] (.tup [num 0, tru false]) := by
  refine ok_fn mixed Tryz.func220 (code := ?_) (h := h220) ?_ k220 ?_
  rotate_left
  · exact rfl
  unfold h220 initS
  simp -implicitDefEqProofs (maxSteps := 10000000) only [rkA, rkB, stepA, valA, simprocAttr, Tryz.ntmps220, Tryz.results220]
  refine wp_loop (fun m s => ∃ i : Nat, i + m = 130 ∧ 62 < m ∧ x / 2 ^ m = 0 ∧ s = ⟨[.v (.sl e (nb x)), jk, jk, jk, nt 0, nt ((m : Int) - 1), jk, jk, jk, jk, jk, jk, jk, jk, jk, jk, jk, jk, jk, jk, jk, jk, jk, jk, jk, jk, jk, jk, jk], [], [], [], [], 0, nomem⟩) 130 ?_ ?_
  · simp -implicitDefEqProofs (maxSteps := 10000000) only [rkA, rkB, stepA, valA, simprocAttr]
    exact ⟨0, by omega, Nat.div_eq_of_lt hx⟩
  rintro m s ⟨i, hm, h62, hz, rfl⟩
  obtain ⟨k, rfl⟩ : ∃ k, m = k + 1 := ⟨m - 1, by omega⟩
  have ek : ((k + 1 : Nat) : Int) - 1 = (k : Int) := by omega
  have g := nb_get (x := x) (k := k) (by omega)
  have h0 := nat0 k
  have h0' : (k : Int) ≥ 0 := h0
  have hw := wrapped (x := (k : Int) - 1) (by omega) (by omega)
  have hb := half_bit x k
  have g62 : (k : Int) ≥ 62 := by omega
  have g62' : ¬ (k : Int) < 62 := by omega
  simp -implicitDefEqProofs (maxSteps := 10000000) only [ek, h0, h0', Int.toNat_natCast, g, rkA, rkB, stepA, valA, simprocAttr]
  rcases bitN_cases x k with e1 | e1
  · have hne : ((bitN x k : Int) == 1) = false := by rw [e1]; rfl
    rw [hz, e1] at hb
    have hk : k ≠ 62 := by
      intro h
      subst h
      have : 2 ^ 62 / 2 ^ 62 ≤ x / 2 ^ 62 := Nat.div_le_div_right hbig
      rw [Nat.div_self (by decide)] at this
      omega
    simp -implicitDefEqProofs (maxSteps := 10000000) only [hne, g62', hw, rkA, rkB, stepA, valA, simprocAttr]
    refine loopK_of (m' := k) (by omega) ?_
    simp -implicitDefEqProofs (maxSteps := 10000000) only [rkA, rkB, stepA, valA, simprocAttr]
    exact ⟨i + 1, by omega, by omega, by omega⟩
  · have hne : ((bitN x k : Int) == 1) = true := by rw [e1]; rfl
    simp -implicitDefEqProofs (maxSteps := 10000000) only [hne, g62, rkA, rkB, stepA, valA, simprocAttr]
end Go.Proofs.YtahcpmhgcppdcaaGreat.A


/- What holds behind code holds with less said, too ('wpA_mono'); two branches that are gone on with as one ('cond_join'). -/
set_option linter.unusedVariables false
set_option linter.unusedSimpArgs false
namespace Go.Proofs.YtahcpmhgcppdcaaGreat.A
open Go Go.RowKit

section
variable {P : Program} {its : Option (Nat × List Item)}
theorem jcallA_mono {s : St} {d : Option Nat} {c : Call} {K K' : St → Prop} (h : ∀ s, K s → K' s) (hc : callA P its s d c K) : callA P its s d c K' := by
  unfold callA at hc ⊢
  split at hc
  · exact hc
  · split at hc
    · obtain ⟨r, h1, h2⟩ := hc
      exact ⟨r, h1, h _ h2⟩
    · split at hc
      · obtain ⟨h1, h2, h3, h4, h5, h6⟩ := hc
        exact ⟨h1, h2, h3, h4, h _ h5, h _ h6⟩
      · exact hc
    · exact hc
  · split at hc
    · obtain ⟨f, r, h1, h2, h3⟩ := hc
      exact ⟨f, r, h1, h2, h _ h3⟩
    · exact hc
theorem jexecM_mono {s : St} {o : AO} {K K' : St → Prop} (h : ∀ s, K s → K' s) (hc : execM P s o K) : execM P s o K' := by
  unfold execM at hc ⊢
  split at hc
  · unfold lendA at hc ⊢
    split at hc
    · split at hc
      · obtain ⟨l, r, h1, h2, h3, h4⟩ := hc
        exact ⟨l, r, h1, h2, h3, h _ h4⟩
      · exact hc
    · exact hc
  · unfold memA at hc ⊢
    split at hc
    · split at hc
      · obtain ⟨R, h1, h2⟩ := hc
        exact ⟨R, h1, fun r m' hr => h _ (h2 r m' hr)⟩
      · exact hc
    · exact hc
  · unfold newA at hc ⊢
    split at hc
    · exact fun c hn => h _ (hc c hn)
    · split at hc
      · exact ⟨hc.1, fun c hn => h _ (hc.2 c hn)⟩
      · exact hc
    · split at hc
      · obtain ⟨h1, h2, h3, h4, h5⟩ := hc
        exact ⟨h1, h2, h3, h4, fun c hn => h _ (h5 c hn)⟩
      · exact hc
    · exact hc
  · unfold appMA at hc ⊢
    split at hc
    · split at hc
      · obtain ⟨ys, s', h1, h2, h3, h4⟩ := hc
        exact ⟨ys, s', h1, h2, h3, h _ h4⟩
      · exact hc
    · exact hc
  · unfold copyA at hc ⊢
    split at hc
    · split at hc
      · obtain ⟨ys, cells, h1, h2, h3, h4, h5, h6, h7⟩ := hc
        exact ⟨ys, cells, h1, h2, h3, h4, h5, h6, h _ h7⟩
      · exact hc
    · exact hc
  · unfold lendNewA at hc ⊢
    split at hc
    · split at hc
      · obtain ⟨l, R, h1, h2, h3, h4⟩ := hc
        exact ⟨l, R, h1, h2, h3, fun r m' hr hf => h _ (h4 r m' hr hf)⟩
      · exact hc
    · exact hc
  · unfold appInA at hc ⊢
    split at hc
    · split at hc
      · obtain ⟨ys, cells, h1, h2, h3, h4, h5, h6, h7⟩ := hc
        exact ⟨ys, cells, h1, h2, h3, h4, h5, h6, h _ h7⟩
      · exact hc
    · exact hc
  · unfold growA at hc ⊢
    split at hc
    · split at hc
      · obtain ⟨els, ys, h1, h2, h3, h4, h5, h6, h7⟩ := hc
        exact ⟨els, ys, h1, h2, h3, h4, h5, fun e => h _ (h6 e), fun e c cap k hn h8 h9 => h _ (h7 e c cap k hn h8 h9)⟩
      · exact hc
    · exact hc
  · exact hc
theorem jexecB_mono {s : St} {o : AO} {K K' : St → Prop} (h : ∀ s, K s → K' s) (hc : execB P its s o K) : execB P its s o K' := by
  unfold execB at hc ⊢
  split at hc
  · split at hc
    · obtain ⟨s', h1, h2⟩ := hc
      exact ⟨s', h1, h _ h2⟩
    · exact jcallA_mono h hc
  · obtain ⟨s', h1, h2⟩ := hc
    exact ⟨s', h1, h _ h2⟩
theorem jexecA_mono {s : St} {o : AO} {K K' : St → Prop} (h : ∀ s, K s → K' s) (hc : execA P its s o K) : execA P its s o K' := by
  unfold execA at hc ⊢
  split at hc
  · split at hc
    · unfold nilA at hc ⊢
      split at hc
      · exact fun b hb => h _ (hc b hb)
      · exact h _ hc
      · exact hc
    · exact jexecB_mono h hc
  · exact jexecM_mono h hc
theorem wpOp_mono {s : St} {all : List AO} {o : AO} {K K' : St → Prop} (h : ∀ s, K s → K' s) (hc : wpOp P its all o s K) : wpOp P its all o s K' := by
  unfold wpOp at hc ⊢
  split at hc
  · exact jexecA_mono h hc
  · split at hc
    · split at hc
      · rename_i e
        rw [if_pos e]
        exact jexecA_mono h hc
      · rename_i e
        rw [if_neg e]
        exact h _ hc
    · exact h _ hc
    · exact hc
theorem wpOpsA_mono {all : List AO} {K K' : St → Prop} (h : ∀ s, K s → K' s) : ∀ (l : List AO) {s : St}, wpOpsA P its all l s K → wpOpsA P its all l s K'
  | [], _, hc => h _ hc
  | _ :: os, _, hc => wpOp_mono (fun _ h1 => wpOpsA_mono h os h1) hc
theorem wpOpsC_mono {pa : List (Nat × Nat)} {all : List AO} {K K' : St → Prop} (h : ∀ s, K s → K' s) : ∀ (l : List AO) {s : St}, wpOpsC P pa all l s K → wpOpsC P pa all l s K'
  | [], _, hc => h _ hc
  | _ :: os, _, hc => wpOp_mono (fun _ h1 => ⟨h1.1, wpOpsC_mono h os h1.2⟩) hc
theorem Rounds_mono {g : List Gh} {ps : List Nat} {run run' : (XA → St → Prop) → St → Prop} {Q Q' : XA → St → Prop} (hr : ∀ {R R' : XA → St → Prop}, (∀ e s, R e s → R' e s) → ∀ {s}, run R s → run' R' s) (h : ∀ e s, Q e s → Q' e s) :
    ∀ (l : List Item) {s : St}, Rounds g ps run Q l s → Rounds g ps run' Q' l s
  | [], _, hc => h _ _ hc
  | x :: xs, _, hc => fun p m hx hm => ⟨(hc p m hx hm).1, hr (fun e s' h1 => by
      cases e with
      | normal => obtain ⟨s1, h2, h3⟩ := h1; exact ⟨s1, h2, Rounds_mono hr h xs h3⟩
      | ret => exact h _ _ h1
      | exit id => exact h _ _ h1) (hc p m hx hm).2⟩
theorem wpA_mono : ∀ {its : Option (Nat × List Item)} (x : AC) {Q Q' : XA → St → Prop} (h : ∀ e s, Q e s → Q' e s) {s : St}, wpA P its x Q s → wpA P its x Q' s
  | _, .skip, _, _, h, _, hc => h _ _ hc
  | _, .reg d y ops, _, _, h, _, hc => wpOpsA_mono (fun s hs => h _ s hs) ops hc
  | _, .seq x y, _, _, h, _, hc => wpA_mono x (fun e s' h1 => by
      cases e with
      | normal => exact wpA_mono y h h1
      | ret => exact h _ _ h1
      | exit id => exact h _ _ h1) hc
  | _, .cond c x y, _, _, h, s, hc => by
      unfold wpA at hc ⊢
      split at hc
      · split at hc
        · rename_i e; rw [if_pos e]; exact wpA_mono x h hc
        · rename_i e; rw [if_neg e]; exact wpA_mono y h hc
      · exact hc
  | _, .block id x, _, _, h, _, hc => wpA_mono x (fun e s' h1 => by
      cases e with
      | normal => exact h _ _ h1
      | ret => exact h _ _ h1
      | exit j =>
        show if j = id then _ else _
        have h1 : if j = id then _ else _ := h1
        split at h1
        · rename_i e; rw [if_pos e]; exact h _ _ h1
        · rename_i e; rw [if_neg e]; exact h _ _ h1) hc
  | _, .loop g x, _, _, h, _, hc => by
      obtain ⟨Inv, m, s0, h1, h2, h3⟩ := hc
      refine ⟨Inv, m, s0, h1, h2, fun m s hi => wpA_mono x (fun e s' h4 => ?_) (h3 m s hi)⟩
      cases e with
      | normal => exact h4
      | ret => exact h _ _ h4
      | exit id => exact h _ _ h4
  | _, .rf f ps g a b, _, _, h, _, hc => by
      obtain ⟨items, p, s1, h1, h2, h3, h4, h5⟩ := hc
      refine ⟨items, p, s1, h1, h2, h3, h4, Rounds_mono (run := fun Q' s' => wpA P none a (fun e s2 => match e with | .normal => wpA P none b Q' s2 | _ => False) s') (fun {R R'} hR {s} h6 => wpA_mono a (fun e s' h7 => ?_) h6) h items h5⟩
      cases e with
      | normal => exact wpA_mono b hR h7
      | ret => exact h7
      | exit id => exact h7
  | _, .exit id, _, _, h, _, hc => h _ _ hc
  | _, .ret, _, _, h, _, hc => h _ _ hc
  | _, .dead, _, _, _, _, hc => hc
  | _, .regd pa ops, _, _, h, _, hc => ⟨hc.1, wpOpsC_mono (fun s hs => h _ s hs) ops hc.2⟩
  | _, .regn ord ops, _, _, h, _, hc => wpOpsA_mono (fun s hs => h _ s hs) _ hc
  | _, .gh g x, _, _, h, _, hc => by
      obtain ⟨s1, h1, h2⟩ := hc
      exact ⟨s1, h1, wpA_mono x h h2⟩
/-- A state that is so but for some slots, which are what they are. -/
theorem slots_of {s : St} {G : (Nat → TV) → St} (h : s = G (fun k => (s.tm[k]?).getD (.v .junk))) : ∃ f, s = G f := ⟨_, h⟩
/-- Both branches come out normally, as J says; what is behind goes on from J. -/
theorem cond_join {b : Bool} {s : St} {h1 h2 : Hint} {c1 c2 : Code} {K : XA → St → Prop} (J : St → Prop) (hj : ∀ s', J s' → K .normal s')
    (t1 : b = true → wpA P its (acOf h1 c1) (fun e s' => e = .normal ∧ J s') s) (t2 : b = false → wpA P its (acOf h2 c2) (fun e s' => e = .normal ∧ J s') s) :
    gB (some (.v (.s (.bool b)))) s (wpK P its h1 c1 K) (wpK P its h2 c2 K) :=
  gB_bool (fun e => wpA_mono _ (fun e' s' h => by rw [h.1]; exact hj s' h.2) (t1 e)) (fun e => wpA_mono _ (fun e' s' h => by rw [h.1]; exact hj s' h.2) (t2 e))
/-- An operation under a guard: what is behind the region goes on from J. -/
theorem guard_join {b : Bool} {s : St} {d : Option Nat} {op : Op} {i : Inf} {all l : List AO} {K : St → Prop} (J : St → Prop) (hj : ∀ s', J s' → K s')
    (h : gB (some (.v (.s (.bool b)))) s (execK P its d op i (opsK P its all l J)) (junkK d (opsK P its all l J))) :
    gB (some (.v (.s (.bool b)))) s (execK P its d op i (opsK P its all l K)) (junkK d (opsK P its all l K)) := by
  cases b with
  | true => exact jexecA_mono (fun _ h1 => wpOpsA_mono hj l h1) h
  | false => exact wpOpsA_mono hj l h
end
end Go.Proofs.YtahcpmhgcppdcaaGreat.A



set_option linter.unusedVariables false
set_option linter.unusedSimpArgs false
set_option maxRecDepth 100000
namespace Go.Proofs.YtahcpmhgcppdcaaGreat.A
open Go Go.RowKit Go.Shelf

/-! ### The reference's product, divided -/
theorem md_no {a b c mode : Int} (h : mdOk a b c mode = false) : mdF a b c mode = (0, false) := by unfold mdF; rw [h]; rfl
theorem div_step {P d b : Nat} (hd : 0 < d) (hb : b < 2) : (2 * P + b) / d = 2 * (P / d) + (if 2 * (P % d) + b < d then 0 else 1) ∧ (2 * P + b) % d = if 2 * (P % d) + b < d then 2 * (P % d) + b else 2 * (P % d) + b - d := by
  have h1 := Nat.div_add_mod P d
  have h2 := Nat.mod_lt P hd
  generalize P / d = q at *
  generalize P % d = r at *
  by_cases h : 2 * r + b < d
  · rw [if_pos h, if_pos h]
    have e : 2 * P + b = (2 * r + b) + d * (2 * q) := by rw [← h1, Nat.mul_left_comm]; omega
    rw [e, Nat.add_mul_div_left _ _ hd, Nat.add_mul_mod_self_left, Nat.div_eq_of_lt h, Nat.mod_eq_of_lt h]
    omega
  · rw [if_neg h, if_neg h]
    have e : 2 * P + b = (2 * r + b - d) + d * (2 * q + 1) := by rw [← h1, Nat.mul_add d, Nat.mul_left_comm d, Nat.mul_one]; omega
    have h3 : 2 * r + b - d < d := by omega
    rw [e, Nat.add_mul_div_left _ _ hd, Nat.add_mul_mod_self_left, Nat.div_eq_of_lt h3, Nat.mod_eq_of_lt h3]
    omega
theorem neg_small {Q : Nat} (h : Q < 2 ^ 62) : IntKind.wrap .i64 (-(Q : Int)) = -(Q : Int) := wrapped (by omega) (by omega)
theorem md_fin {a b c mode : Int} {Q : Nat} (e : Bool) (hQ : Q < 2 ^ 130) (hN : mdN a b c mode = Q) (hok : mdOk a b c mode = decide (mdN a b c mode ≤ 4611686018427387903)) {G : Prop}
    (h1 : Q < 2 ^ 62 → mdF a b c mode = (if minus3 a b c = true then -(Q : Int) else (Q : Int), true) → G) (h2 : 2 ^ 62 ≤ Q → mdF a b c mode = (0, false) → G) : G := by
  rw [hN] at hok
  by_cases hq : Q < 2 ^ 62
  · refine h1 hq ?_
    unfold mdF
    rw [if_pos (by rw [hok]; exact decide_eq_true (by omega)), hN]
  · exact h2 (by omega) (md_no (by rw [hok]; exact decide_eq_false (by omega)))
set_option maxHeartbeats 8000000 in
theorem ok210 (a b c mode : Int) : Ok Tryz.prog 210 [num a, num b, num c, num mode] (.tup [num (mdF a b c mode).1, tru (mdF a b c mode).2]) := by
  refine ok_fn mixed Tryz.func210 (code := ?_) (h := h210) ?_ k210 ?_
  rotate_left
  · exact rfl
  unfold h210 initS
  simp -implicitDefEqProofs (maxSteps := 10000000) only [rkA, rkB, stepA, valA, simprocAttr, Tryz.ntmps210, Tryz.results210]
  refine call_fn rfl rfl rfl (ok217 a) ?_
  cases ha : rightW a with
  | false =>
    rw [md_no (by simp [mdOk, ha])]
    simp -implicitDefEqProofs (maxSteps := 10000000) only [rkA, rkB, stepA, valA, simprocAttr]
  | true =>
  simp -implicitDefEqProofs (maxSteps := 10000000) only [rkA, rkB, stepA, valA, simprocAttr]
  refine call_fn rfl rfl rfl (ok217 b) ?_
  cases hb : rightW b with
  | false =>
    rw [md_no (by simp [mdOk, hb])]
    simp -implicitDefEqProofs (maxSteps := 10000000) only [rkA, rkB, stepA, valA, simprocAttr]
  | true =>
  simp -implicitDefEqProofs (maxSteps := 10000000) only [rkA, rkB, stepA, valA, simprocAttr]
  refine call_fn rfl rfl rfl (ok217 c) ?_
  cases hc : rightW c with
  | false =>
    rw [md_no (by simp [mdOk, hc])]
    simp -implicitDefEqProofs (maxSteps := 10000000) only [rkA, rkB, stepA, valA, simprocAttr]
  | true =>
  by_cases c0 : c = 0
  · rw [md_no (by simp [mdOk, c0])]
    simp -implicitDefEqProofs (maxSteps := 10000000) only [c0, beq_self_eq_true, rkA, rkB, stepA, valA, simprocAttr]
  have c0' : (c == 0) = false := by simp [c0]
  by_cases hm : mode < 0
  · rw [md_no (by simp [mdOk]; omega)]
    simp -implicitDefEqProofs (maxSteps := 10000000) only [c0', hm, rkA, rkB, stepA, valA, simprocAttr]
  by_cases hm2 : mode > 2
  · rw [md_no (by simp [mdOk]; omega)]
    simp -implicitDefEqProofs (maxSteps := 10000000) only [c0', hm, hm2, rkA, rkB, stepA, valA, simprocAttr]
  have hok : mdOk a b c mode = decide (mdN a b c mode ≤ 4611686018427387903) := by
    have : decide (0 ≤ mode ∧ mode ≤ 2) = true := by simp; omega
    simp [mdOk, ha, hb, hc, c0, this]
  simp only [rightW, decide_eq_true_eq] at ha hb hc
  simp -implicitDefEqProofs (maxSteps := 10000000) only [c0', hm, hm2, rkA, rkB, stepA, valA, simprocAttr]
  refine call_fn rfl rfl rfl (ok218 a (by omega) (by omega)) ?_
  simp -implicitDefEqProofs (maxSteps := 10000000) only [rkA, rkB, stepA, valA, simprocAttr]
  refine call_fn rfl rfl rfl (ok218 b (by omega) (by omega)) ?_
  simp -implicitDefEqProofs (maxSteps := 10000000) only [rkA, rkB, stepA, valA, simprocAttr]
  refine call_fn rfl rfl rfl (ok200 a.natAbs b.natAbs (by omega) (by omega)) ?_
  simp -implicitDefEqProofs (maxSteps := 10000000) only [rkA, rkB, stepA, valA, simprocAttr]
  refine call_fn rfl rfl rfl (ok218 c (by omega) (by omega)) ?_
  simp -implicitDefEqProofs (maxSteps := 10000000) only [rkA, rkB, stepA, valA, simprocAttr]
  refine call_fn rfl rfl rfl (ok212 c.natAbs (by omega)) ?_
  simp -implicitDefEqProofs (maxSteps := 10000000) only [rkA, rkB, stepA, valA, simprocAttr]
  have z0 := ok212 0 (by omega)
  refine call_fn rfl rfl rfl (z0) ?_
  simp -implicitDefEqProofs (maxSteps := 10000000) only [rkA, rkB, stepA, valA, simprocAttr]
  refine call_fn rfl rfl rfl (z0) ?_
  simp -implicitDefEqProofs (maxSteps := 10000000) only [rkA, rkB, stepA, valA, simprocAttr]
  have hp : a.natAbs * b.natAbs ≤ 4611686018427387903 * 4611686018427387903 := Nat.mul_le_mul (by omega) (by omega)
  have hd : 0 < c.natAbs := by omega
  generalize hP : a.natAbs * b.natAbs = p at *
  generalize hD : c.natAbs = d at *
  have hp2 : p < 2 ^ 130 := by omega
  refine wp_loop (fun m s => ∃ i : Nat, i + m = 130 ∧ s = ⟨[.v (num a), .v (num b), .v (num c), .v (num mode), jk, jk, jk, jk, jk, jk, .v (.sl false (nb p)), .v (.sl false (nb d)), .v (.sl false (nb (p / 2 ^ m / d))), .v (.sl false (nb (p / 2 ^ m % d))), nt ((m : Int) - 1), jk, jk, jk, jk, jk, jk, jk, jk, jk, jk, jk, jk, jk, jk, jk, jk, jk, jk, jk, jk, jk, jk, jk, jk, jk, jk, jk, jk, jk, jk, jk, jk, jk, jk, jk, jk, jk, jk, jk, jk, jk, jk, jk, jk, jk, jk, jk, jk, jk, jk, jk, jk, jk, jk, jk, jk, jk, jk, jk, jk, jk, jk, jk, jk, jk, jk, jk, jk, jk, jk, jk, jk, jk, jk, jk, jk, jk, jk, jk, jk, jk, jk, jk, jk, jk, jk, jk, jk, jk, jk, jk, jk, jk, jk, jk, jk, jk, jk, jk, jk, jk, jk, jk, jk, jk, jk, jk, jk, jk, jk, jk, jk, jk, jk, jk, jk, jk, jk, jk, jk, jk, jk, jk, jk, jk, jk, jk, jk, jk, jk, jk, jk], [], [], [], [], 0, nomem⟩) 130 ?_ ?_
  · simp -implicitDefEqProofs (maxSteps := 10000000) only [rkA, rkB, stepA, valA, simprocAttr]
    have z : p / 2 ^ 130 = 0 := Nat.div_eq_of_lt hp2
    exact ⟨0, by omega, by rw [z, Nat.zero_div, Nat.zero_mod]⟩
  rintro m s ⟨i, him, rfl⟩
  simp -implicitDefEqProofs (maxSteps := 10000000) only [rkA, rkB, stepA, valA, simprocAttr]
  refine gB_dec ?_ ?_ <;> intro hc' <;> simp -implicitDefEqProofs (maxSteps := 10000000) only [hc', rkA, rkB, stepA, valA, simprocAttr]
  · obtain ⟨k, rfl⟩ : ∃ k, m = k + 1 := ⟨m - 1, by omega⟩
    have ek : ((k + 1 : Nat) : Int) - 1 = (k : Int) := by omega
    have g := nb_get (x := p) (k := k) (by omega)
    have h0 := nat0 k
    have hw := wrapped (x := (k : Int) - 1) (by omega) (by omega)
    have hb := half_bit p k
    have hlt := bitN_lt p k
    obtain ⟨s1, s2⟩ := div_step (P := p / 2 ^ (k + 1)) hd hlt
    rw [← hb] at s1 s2
    have hr := Nat.mod_lt (p / 2 ^ (k + 1)) hd
    simp -implicitDefEqProofs (maxSteps := 10000000) only [ek, h0, Int.toNat_natCast, g, rkA, rkB, stepA, valA, simprocAttr]
    refine call_fn rfl rfl rfl (ok214 false (p / 2 ^ (k + 1) % d) (bitN p k) hlt) ?_
    simp -implicitDefEqProofs (maxSteps := 10000000) only [rkA, rkB, stepA, valA, simprocAttr]
    refine call_fn rfl rfl rfl (ok199 false false (2 * (p / 2 ^ (k + 1) % d) + bitN p k) d (by omega) (by omega)) ?_
    by_cases hl : 2 * (p / 2 ^ (k + 1) % d) + bitN p k < d
    · have hl' : decide (2 * (p / 2 ^ (k + 1) % d) + bitN p k < d) = true := decide_eq_true hl
      rw [if_pos hl] at s1 s2
      simp -implicitDefEqProofs (maxSteps := 10000000) only [hl', rkA, rkB, stepA, valA, simprocAttr]
      have h62 := ok214 false (p / 2 ^ (k + 1) / d) 0 (by omega)
      rw [← s1] at h62
      refine call_fn rfl rfl rfl (h62) ?_
      simp -implicitDefEqProofs (maxSteps := 10000000) only [hw, rkA, rkB, stepA, valA, simprocAttr]
      refine loopK_of (m' := k) (by omega) ?_
      simp -implicitDefEqProofs (maxSteps := 10000000) only [rkA, rkB, stepA, valA, simprocAttr]
      exact ⟨i + 1, by omega, by rw [s2]⟩
    · have hl' : decide (2 * (p / 2 ^ (k + 1) % d) + bitN p k < d) = false := decide_eq_false hl
      rw [if_neg hl] at s1 s2
      simp -implicitDefEqProofs (maxSteps := 10000000) only [hl', rkA, rkB, stepA, valA, simprocAttr]
      have h63 := ok219 false false (2 * (p / 2 ^ (k + 1) % d) + bitN p k) d (by omega)
      rw [← s2] at h63
      refine call_fn rfl rfl rfl (h63) ?_
      simp -implicitDefEqProofs (maxSteps := 10000000) only [rkA, rkB, stepA, valA, simprocAttr]
      have h62 := ok214 false (p / 2 ^ (k + 1) / d) 1 (by omega)
      rw [← s1] at h62
      refine call_fn rfl rfl rfl (h62) ?_
      simp -implicitDefEqProofs (maxSteps := 10000000) only [hw, rkA, rkB, stepA, valA, simprocAttr]
      refine loopK_of (m' := k) (by omega) ?_
      simp -implicitDefEqProofs (maxSteps := 10000000) only [rkA, rkB, stepA, valA, simprocAttr]
      exact ⟨i + 1, by omega⟩
  · have hm0 : m = 0 := by omega
    subst hm0
    simp only [Nat.pow_zero, Nat.div_one]
    have bit1 : ∀ x : Int, 0 ≤ (if x < 0 then (1 : Int) else 0) ∧ (if x < 0 then (1 : Int) else 0) ≤ 1 := fun x => by split <;> omega
    have b1 := bit1 a
    have b2 := bit1 b
    have b3 := bit1 c
    obtain ⟨y57, hy57⟩ : ∃ y : TV, y = nt (-1) := ⟨_, rfl⟩
    obtain ⟨y58, hy58⟩ : ∃ y : TV, y = .v (tru false) := ⟨_, rfl⟩
    refine cond_join (fun s => ∃ x77 x78 x79 x80 : TV, s = ⟨[.v (num a), .v (num b), .v (num c), .v (num mode), jk, jk, jk, jk, jk, jk, .v (.sl false (nb p)), .v (.sl false (nb d)), .v (.sl false (nb (p / d))), .v (.sl false (nb (p % d))), nt (-1), jk, nt (if a < 0 then (1 : Int) else 0), jk, jk, jk, jk, jk, jk, jk, jk, jk, jk, jk, jk, jk, jk, jk, jk, jk, jk, jk, jk, jk, jk, jk, jk, jk, jk, jk, jk, jk, jk, jk, jk, jk, jk, jk, jk, jk, jk, jk, jk, y57, y58, jk, jk, jk, jk, jk, jk, jk, jk, jk, jk, jk, jk, jk, jk, jk, jk, jk, jk, x77, x78, x79, x80, jk, jk, jk, jk, jk, jk, jk, jk, jk, jk, jk, jk, jk, jk, jk, jk, jk, jk, jk, jk, jk, jk, jk, jk, jk, jk, jk, jk, jk, jk, jk, jk, jk, jk, jk, jk, jk, jk, jk, jk, jk, jk, jk, jk, jk, jk, jk, jk, jk, jk, jk, jk, jk, jk, jk, jk, jk, jk, jk, jk, jk, jk, jk, jk, jk, jk], [], [], [], [], 0, nomem⟩) ?_ ?_ ?_
    rotate_left
    · intro h
      have h' := of_decide_eq_true h
      have hw : IntKind.wrap .i64 1 = 1 := rfl
      simp -implicitDefEqProofs (maxSteps := 10000000) only [hw, rkA, rkB, stepA, valA, simprocAttr]
      rw [if_pos h']
      rw [hy57, hy58]
      exact ⟨_, _, _, _, rfl⟩
    · intro h
      have h' := of_decide_eq_false h
      simp -implicitDefEqProofs (maxSteps := 10000000) only [rkA, rkB, stepA, valA, simprocAttr]
      rw [if_neg h']
      rw [hy57, hy58]
      exact ⟨_, _, _, _, rfl⟩
    rintro s ⟨x77, x78, x79, x80, rfl⟩
    simp -implicitDefEqProofs (maxSteps := 10000000) only [rkA, rkB, stepA, valA, simprocAttr]
    refine cond_join (fun s => ∃ x81 x82 x83 x84 : TV, s = ⟨[.v (num a), .v (num b), .v (num c), .v (num mode), jk, jk, jk, jk, jk, jk, .v (.sl false (nb p)), .v (.sl false (nb d)), .v (.sl false (nb (p / d))), .v (.sl false (nb (p % d))), nt (-1), jk, nt ((if a < 0 then (1 : Int) else 0) + (if b < 0 then (1 : Int) else 0)), jk, jk, jk, jk, jk, jk, jk, jk, jk, jk, jk, jk, jk, jk, jk, jk, jk, jk, jk, jk, jk, jk, jk, jk, jk, jk, jk, jk, jk, jk, jk, jk, jk, jk, jk, jk, jk, jk, jk, jk, y57, y58, jk, jk, jk, jk, jk, jk, jk, jk, jk, jk, jk, jk, jk, jk, jk, jk, jk, jk, x77, x78, x79, x80, x81, x82, x83, x84, jk, jk, jk, jk, jk, jk, jk, jk, jk, jk, jk, jk, jk, jk, jk, jk, jk, jk, jk, jk, jk, jk, jk, jk, jk, jk, jk, jk, jk, jk, jk, jk, jk, jk, jk, jk, jk, jk, jk, jk, jk, jk, jk, jk, jk, jk, jk, jk, jk, jk, jk, jk, jk, jk, jk, jk, jk, jk, jk, jk, jk, jk], [], [], [], [], 0, nomem⟩) ?_ ?_ ?_
    rotate_left
    · intro h
      have h' := of_decide_eq_true h
      have hw : IntKind.wrap .i64 ((if a < 0 then (1 : Int) else 0) + 1) = (if a < 0 then (1 : Int) else 0) + 1 := wrapped (by omega) (by omega)
      simp -implicitDefEqProofs (maxSteps := 10000000) only [hw, rkA, rkB, stepA, valA, simprocAttr]
      rw [if_pos h']
      exact ⟨_, _, _, _, rfl⟩
    · intro h
      have h' := of_decide_eq_false h
      simp -implicitDefEqProofs (maxSteps := 10000000) only [rkA, rkB, stepA, valA, simprocAttr]
      rw [if_neg h', Int.add_zero]
      exact ⟨_, _, _, _, rfl⟩
    rintro s ⟨x81, x82, x83, x84, rfl⟩
    simp -implicitDefEqProofs (maxSteps := 10000000) only [rkA, rkB, stepA, valA, simprocAttr]
    refine cond_join (fun s => ∃ x85 x86 x87 x88 : TV, s = ⟨[.v (num a), .v (num b), .v (num c), .v (num mode), jk, jk, jk, jk, jk, jk, .v (.sl false (nb p)), .v (.sl false (nb d)), .v (.sl false (nb (p / d))), .v (.sl false (nb (p % d))), nt (-1), jk, nt ((if a < 0 then (1 : Int) else 0) + (if b < 0 then (1 : Int) else 0) + (if c < 0 then (1 : Int) else 0)), jk, jk, jk, jk, jk, jk, jk, jk, jk, jk, jk, jk, jk, jk, jk, jk, jk, jk, jk, jk, jk, jk, jk, jk, jk, jk, jk, jk, jk, jk, jk, jk, jk, jk, jk, jk, jk, jk, jk, jk, y57, y58, jk, jk, jk, jk, jk, jk, jk, jk, jk, jk, jk, jk, jk, jk, jk, jk, jk, jk, x77, x78, x79, x80, x81, x82, x83, x84, x85, x86, x87, x88, jk, jk, jk, jk, jk, jk, jk, jk, jk, jk, jk, jk, jk, jk, jk, jk, jk, jk, jk, jk, jk, jk, jk, jk, jk, jk, jk, jk, jk, jk, jk, jk, jk, jk, jk, jk, jk, jk, jk, jk, jk, jk, jk, jk, jk, jk, jk, jk, jk, jk, jk, jk, jk, jk, jk, jk, jk, jk], [], [], [], [], 0, nomem⟩) ?_ ?_ ?_
    rotate_left
    · intro h
      have h' := of_decide_eq_true h
      have hw : IntKind.wrap .i64 (((if a < 0 then (1 : Int) else 0) + (if b < 0 then (1 : Int) else 0)) + 1) = ((if a < 0 then (1 : Int) else 0) + (if b < 0 then (1 : Int) else 0)) + 1 := wrapped (by omega) (by omega)
      simp -implicitDefEqProofs (maxSteps := 10000000) only [hw, rkA, rkB, stepA, valA, simprocAttr]
      rw [if_pos h']
      exact ⟨_, _, _, _, rfl⟩
    · intro h
      have h' := of_decide_eq_false h
      simp -implicitDefEqProofs (maxSteps := 10000000) only [rkA, rkB, stepA, valA, simprocAttr]
      rw [if_neg h', Int.add_zero]
      exact ⟨_, _, _, _, rfl⟩
    rintro s ⟨x85, x86, x87, x88, rfl⟩
    simp -implicitDefEqProofs (maxSteps := 10000000) only [rkA, rkB, stepA, valA, simprocAttr]
    have hK : ((((if a < 0 then (1 : Int) else 0) + (if b < 0 then (1 : Int) else 0) + (if c < 0 then (1 : Int) else 0)).tmod 2) == 1) = minus3 a b c := by
      unfold minus3
      by_cases h1 : a < 0 <;> by_cases h2 : b < 0 <;> by_cases h3 : c < 0 <;> simp [h1, h2, h3]
    have hK0 : ((((if a < 0 then (1 : Int) else 0) + (if b < 0 then (1 : Int) else 0) + (if c < 0 then (1 : Int) else 0)).tmod 2) == 0) = !(minus3 a b c) := by
      unfold minus3
      by_cases h1 : a < 0 <;> by_cases h2 : b < 0 <;> by_cases h3 : c < 0 <;> simp [h1, h2, h3]
    have wK : IntKind.wrap .i64 (((if a < 0 then (1 : Int) else 0) + (if b < 0 then (1 : Int) else 0) + (if c < 0 then (1 : Int) else 0)).tmod 2) = ((if a < 0 then (1 : Int) else 0) + (if b < 0 then (1 : Int) else 0) + (if c < 0 then (1 : Int) else 0)).tmod 2 := by
      rw [Int.tmod_eq_emod_of_nonneg (by omega)]
      exact wrapped (by omega) (by omega)
    generalize (if a < 0 then (1 : Int) else 0) + (if b < 0 then (1 : Int) else 0) + (if c < 0 then (1 : Int) else 0) = K at hK hK0 wK ⊢
    have hr := Nat.mod_lt p hd
    have hqle : p / d ≤ p := Nat.div_le_self _ _
    refine call_fn rfl rfl rfl (z0) ?_
    simp -implicitDefEqProofs (maxSteps := 10000000) only [rkA, rkB, stepA, valA, simprocAttr]
    refine call_fn rfl rfl rfl (ok199 false false 0 (p % d) (by omega) (by omega)) ?_
    simp -implicitDefEqProofs (maxSteps := 10000000) only [rkA, rkB, stepA, valA, simprocAttr]
    refine call_fn rfl rfl rfl (ok214 false (p % d) 0 (by omega)) ?_
    have hmode : mode = 0 ∨ mode = 1 ∨ mode = 2 := by omega
    rw [Nat.add_zero]
    have b0 := nb_get (x := p / d) (k := 0) (by omega)
    have hbit0 : bitN (p / d) 0 = p / d % 2 := by unfold bitN; rw [Nat.pow_zero, Nat.div_one]
    have add1 := ok213 false false (p / d) 1
    have z1 := ok212 1 (by omega)
    rcases hmode with rfl | rfl | rfl
    · simp -implicitDefEqProofs (maxSteps := 10000000) only [rkA, rkB, stepA, valA, simprocAttr]
      refine call_fn rfl rfl rfl (ok199 false false d (2 * (p % d)) (by omega) (by omega)) ?_
      by_cases h1 : d < 2 * (p % d)
      · have hmore : moreF 0 (p / d) (p % d) d (minus3 a b c) = true := by
          unfold moreF
          rw [if_neg (by omega), if_pos rfl]
          simp
          omega
        simp -implicitDefEqProofs (maxSteps := 10000000) only [decide_eq_true h1, rkA, rkB, stepA, valA, simprocAttr]
        refine call_fn rfl rfl rfl (z1) ?_
        simp -implicitDefEqProofs (maxSteps := 10000000) only [rkA, rkB, stepA, valA, simprocAttr]
        refine call_fn rfl rfl rfl (add1) ?_
        simp -implicitDefEqProofs (maxSteps := 10000000) only [rkA, rkB, stepA, valA, simprocAttr]
        refine md_fin (Q := p / d + 1) false (by omega) (by unfold mdN; rw [hP, hD, hmore]; rfl) hok ?_ ?_
        · intro hq hF
          refine call_fn rfl rfl rfl (ok220 false (p / d + 1) hq) ?_
          rw [hF]
          have w1 := neg_small hq
          cases hM : minus3 a b c with
          | true =>
            rw [hM] at hK
            simp -implicitDefEqProofs (maxSteps := 10000000) only [two0, wK, hK, Int.zero_sub, w1, rkA, rkB, stepA, valA, simprocAttr]
          | false =>
            rw [hM] at hK
            simp -implicitDefEqProofs (maxSteps := 10000000) only [two0, wK, hK, rkA, rkB, stepA, valA, simprocAttr]
        · intro hq hF
          refine call_fn rfl rfl rfl (ok220n false (p / d + 1) (by omega) hq) ?_
          rw [hF]
          simp -implicitDefEqProofs (maxSteps := 10000000) only [rkA, rkB, stepA, valA, simprocAttr]
      · by_cases h2 : 0 < p % d
        · simp -implicitDefEqProofs (maxSteps := 10000000) only [decide_eq_false h1, decide_eq_true h2, rkA, rkB, stepA, valA, simprocAttr]
          refine call_fn rfl rfl rfl (ok199 false false (2 * (p % d)) d (by omega) (by omega)) ?_
          by_cases h3 : 2 * (p % d) < d
          · have hmore : moreF 0 (p / d) (p % d) d (minus3 a b c) = false := by
              unfold moreF
              rw [if_neg (by omega), if_pos rfl]
              simp
              omega
            simp -implicitDefEqProofs (maxSteps := 10000000) only [decide_eq_true h3, rkA, rkB, stepA, valA, simprocAttr]
            refine md_fin (Q := p / d) false (by omega) (by unfold mdN; rw [hP, hD, hmore]; rfl) hok ?_ ?_
            · intro hq hF
              refine call_fn rfl rfl rfl (ok220 false (p / d) hq) ?_
              rw [hF]
              have w1 := neg_small hq
              cases hM : minus3 a b c with
              | true =>
                rw [hM] at hK
                simp -implicitDefEqProofs (maxSteps := 10000000) only [two0, wK, hK, Int.zero_sub, w1, rkA, rkB, stepA, valA, simprocAttr]
              | false =>
                rw [hM] at hK
                simp -implicitDefEqProofs (maxSteps := 10000000) only [two0, wK, hK, rkA, rkB, stepA, valA, simprocAttr]
            · intro hq hF
              refine call_fn rfl rfl rfl (ok220n false (p / d) (by omega) hq) ?_
              rw [hF]
              simp -implicitDefEqProofs (maxSteps := 10000000) only [rkA, rkB, stepA, valA, simprocAttr]
          · rcases bitN_cases (p / d) 0 with e0 | e0
            · have hmore : moreF 0 (p / d) (p % d) d (minus3 a b c) = false := by
                unfold moreF
                rw [if_neg (by omega), if_pos rfl]
                simp
                omega
              have e0' : ((bitN (p / d) 0 : Int) == 1) = false := by rw [e0]; rfl
              simp -implicitDefEqProofs (maxSteps := 10000000) only [decide_eq_false h3, b0, e0', rkA, rkB, stepA, valA, simprocAttr]
              refine md_fin (Q := p / d) false (by omega) (by unfold mdN; rw [hP, hD, hmore]; rfl) hok ?_ ?_
              · intro hq hF
                refine call_fn rfl rfl rfl (ok220 false (p / d) hq) ?_
                rw [hF]
                have w1 := neg_small hq
                cases hM : minus3 a b c with
                | true =>
                  rw [hM] at hK
                  simp -implicitDefEqProofs (maxSteps := 10000000) only [two0, wK, hK, Int.zero_sub, w1, rkA, rkB, stepA, valA, simprocAttr]
                | false =>
                  rw [hM] at hK
                  simp -implicitDefEqProofs (maxSteps := 10000000) only [two0, wK, hK, rkA, rkB, stepA, valA, simprocAttr]
              · intro hq hF
                refine call_fn rfl rfl rfl (ok220n false (p / d) (by omega) hq) ?_
                rw [hF]
                simp -implicitDefEqProofs (maxSteps := 10000000) only [rkA, rkB, stepA, valA, simprocAttr]
            · have hmore : moreF 0 (p / d) (p % d) d (minus3 a b c) = true := by
                unfold moreF
                rw [if_neg (by omega), if_pos rfl]
                simp
                omega
              have e0' : ((bitN (p / d) 0 : Int) == 1) = true := by rw [e0]; rfl
              simp -implicitDefEqProofs (maxSteps := 10000000) only [decide_eq_false h3, b0, e0', rkA, rkB, stepA, valA, simprocAttr]
              refine call_fn rfl rfl rfl (z1) ?_
              simp -implicitDefEqProofs (maxSteps := 10000000) only [rkA, rkB, stepA, valA, simprocAttr]
              refine call_fn rfl rfl rfl (add1) ?_
              simp -implicitDefEqProofs (maxSteps := 10000000) only [rkA, rkB, stepA, valA, simprocAttr]
              refine md_fin (Q := p / d + 1) false (by omega) (by unfold mdN; rw [hP, hD, hmore]; rfl) hok ?_ ?_
              · intro hq hF
                refine call_fn rfl rfl rfl (ok220 false (p / d + 1) hq) ?_
                rw [hF]
                have w1 := neg_small hq
                cases hM : minus3 a b c with
                | true =>
                  rw [hM] at hK
                  simp -implicitDefEqProofs (maxSteps := 10000000) only [two0, wK, hK, Int.zero_sub, w1, rkA, rkB, stepA, valA, simprocAttr]
                | false =>
                  rw [hM] at hK
                  simp -implicitDefEqProofs (maxSteps := 10000000) only [two0, wK, hK, rkA, rkB, stepA, valA, simprocAttr]
              · intro hq hF
                refine call_fn rfl rfl rfl (ok220n false (p / d + 1) (by omega) hq) ?_
                rw [hF]
                simp -implicitDefEqProofs (maxSteps := 10000000) only [rkA, rkB, stepA, valA, simprocAttr]
        · have hmore : moreF 0 (p / d) (p % d) d (minus3 a b c) = false := by
            unfold moreF
            rw [if_pos (by omega)]
          simp -implicitDefEqProofs (maxSteps := 10000000) only [decide_eq_false h1, decide_eq_false h2, rkA, rkB, stepA, valA, simprocAttr]
          refine md_fin (Q := p / d) false (by omega) (by unfold mdN; rw [hP, hD, hmore]; rfl) hok ?_ ?_
          · intro hq hF
            refine call_fn rfl rfl rfl (ok220 false (p / d) hq) ?_
            rw [hF]
            have w1 := neg_small hq
            cases hM : minus3 a b c with
            | true =>
              rw [hM] at hK
              simp -implicitDefEqProofs (maxSteps := 10000000) only [two0, wK, hK, Int.zero_sub, w1, rkA, rkB, stepA, valA, simprocAttr]
            | false =>
              rw [hM] at hK
              simp -implicitDefEqProofs (maxSteps := 10000000) only [two0, wK, hK, rkA, rkB, stepA, valA, simprocAttr]
          · intro hq hF
            refine call_fn rfl rfl rfl (ok220n false (p / d) (by omega) hq) ?_
            rw [hF]
            simp -implicitDefEqProofs (maxSteps := 10000000) only [rkA, rkB, stepA, valA, simprocAttr]
    · by_cases h2 : 0 < p % d
      · cases hM : minus3 a b c with
        | true =>
          have hmore : moreF 1 (p / d) (p % d) d (minus3 a b c) = true := by
            unfold moreF
            rw [if_neg (by omega), hM]
            rfl
          have hK1 := hK
          rw [hM] at hK1
          simp -implicitDefEqProofs (maxSteps := 10000000) only [decide_eq_true h2, two0, wK, hK1, rkA, rkB, stepA, valA, simprocAttr]
          refine call_fn rfl rfl rfl (z1) ?_
          simp -implicitDefEqProofs (maxSteps := 10000000) only [rkA, rkB, stepA, valA, simprocAttr]
          refine call_fn rfl rfl rfl (add1) ?_
          simp -implicitDefEqProofs (maxSteps := 10000000) only [rkA, rkB, stepA, valA, simprocAttr]
          refine md_fin (Q := p / d + 1) false (by omega) (by unfold mdN; rw [hP, hD, hmore]; rfl) hok ?_ ?_
          · intro hq hF
            refine call_fn rfl rfl rfl (ok220 false (p / d + 1) hq) ?_
            rw [hF]
            have w1 := neg_small hq
            cases hM : minus3 a b c with
            | true =>
              rw [hM] at hK
              simp -implicitDefEqProofs (maxSteps := 10000000) only [two0, wK, hK, Int.zero_sub, w1, rkA, rkB, stepA, valA, simprocAttr]
            | false =>
              rw [hM] at hK
              simp -implicitDefEqProofs (maxSteps := 10000000) only [two0, wK, hK, rkA, rkB, stepA, valA, simprocAttr]
          · intro hq hF
            refine call_fn rfl rfl rfl (ok220n false (p / d + 1) (by omega) hq) ?_
            rw [hF]
            simp -implicitDefEqProofs (maxSteps := 10000000) only [rkA, rkB, stepA, valA, simprocAttr]
        | false =>
          have hmore : moreF 1 (p / d) (p % d) d (minus3 a b c) = false := by
            unfold moreF
            rw [if_neg (by omega), hM]
            rfl
          have hK1 := hK
          rw [hM] at hK1
          simp -implicitDefEqProofs (maxSteps := 10000000) only [decide_eq_true h2, two0, wK, hK1, rkA, rkB, stepA, valA, simprocAttr]
          refine md_fin (Q := p / d) false (by omega) (by unfold mdN; rw [hP, hD, hmore]; rfl) hok ?_ ?_
          · intro hq hF
            refine call_fn rfl rfl rfl (ok220 false (p / d) hq) ?_
            rw [hF]
            have w1 := neg_small hq
            cases hM : minus3 a b c with
            | true =>
              rw [hM] at hK
              simp -implicitDefEqProofs (maxSteps := 10000000) only [two0, wK, hK, Int.zero_sub, w1, rkA, rkB, stepA, valA, simprocAttr]
            | false =>
              rw [hM] at hK
              simp -implicitDefEqProofs (maxSteps := 10000000) only [two0, wK, hK, rkA, rkB, stepA, valA, simprocAttr]
          · intro hq hF
            refine call_fn rfl rfl rfl (ok220n false (p / d) (by omega) hq) ?_
            rw [hF]
            simp -implicitDefEqProofs (maxSteps := 10000000) only [rkA, rkB, stepA, valA, simprocAttr]
      · have hmore : moreF 1 (p / d) (p % d) d (minus3 a b c) = false := by
          unfold moreF
          rw [if_pos (by omega)]
        simp -implicitDefEqProofs (maxSteps := 10000000) only [decide_eq_false h2, rkA, rkB, stepA, valA, simprocAttr]
        refine md_fin (Q := p / d) false (by omega) (by unfold mdN; rw [hP, hD, hmore]; rfl) hok ?_ ?_
        · intro hq hF
          refine call_fn rfl rfl rfl (ok220 false (p / d) hq) ?_
          rw [hF]
          have w1 := neg_small hq
          cases hM : minus3 a b c with
          | true =>
            rw [hM] at hK
            simp -implicitDefEqProofs (maxSteps := 10000000) only [two0, wK, hK, Int.zero_sub, w1, rkA, rkB, stepA, valA, simprocAttr]
          | false =>
            rw [hM] at hK
            simp -implicitDefEqProofs (maxSteps := 10000000) only [two0, wK, hK, rkA, rkB, stepA, valA, simprocAttr]
        · intro hq hF
          refine call_fn rfl rfl rfl (ok220n false (p / d) (by omega) hq) ?_
          rw [hF]
          simp -implicitDefEqProofs (maxSteps := 10000000) only [rkA, rkB, stepA, valA, simprocAttr]
    · by_cases h2 : 0 < p % d
      · cases hM : minus3 a b c with
        | true =>
          have hmore : moreF 2 (p / d) (p % d) d (minus3 a b c) = false := by
            unfold moreF
            rw [if_neg (by omega), hM]
            rfl
          have hK1 := hK0
          rw [hM] at hK1
          simp -implicitDefEqProofs (maxSteps := 10000000) only [decide_eq_true h2, two0, wK, hK1, rkA, rkB, stepA, valA, simprocAttr]
          refine md_fin (Q := p / d) false (by omega) (by unfold mdN; rw [hP, hD, hmore]; rfl) hok ?_ ?_
          · intro hq hF
            refine call_fn rfl rfl rfl (ok220 false (p / d) hq) ?_
            rw [hF]
            have w1 := neg_small hq
            cases hM : minus3 a b c with
            | true =>
              rw [hM] at hK
              simp -implicitDefEqProofs (maxSteps := 10000000) only [two0, wK, hK, Int.zero_sub, w1, rkA, rkB, stepA, valA, simprocAttr]
            | false =>
              rw [hM] at hK
              simp -implicitDefEqProofs (maxSteps := 10000000) only [two0, wK, hK, rkA, rkB, stepA, valA, simprocAttr]
          · intro hq hF
            refine call_fn rfl rfl rfl (ok220n false (p / d) (by omega) hq) ?_
            rw [hF]
            simp -implicitDefEqProofs (maxSteps := 10000000) only [rkA, rkB, stepA, valA, simprocAttr]
        | false =>
          have hmore : moreF 2 (p / d) (p % d) d (minus3 a b c) = true := by
            unfold moreF
            rw [if_neg (by omega), hM]
            rfl
          have hK1 := hK0
          rw [hM] at hK1
          simp -implicitDefEqProofs (maxSteps := 10000000) only [decide_eq_true h2, two0, wK, hK1, rkA, rkB, stepA, valA, simprocAttr]
          refine call_fn rfl rfl rfl (z1) ?_
          simp -implicitDefEqProofs (maxSteps := 10000000) only [rkA, rkB, stepA, valA, simprocAttr]
          refine call_fn rfl rfl rfl (add1) ?_
          simp -implicitDefEqProofs (maxSteps := 10000000) only [rkA, rkB, stepA, valA, simprocAttr]
          refine md_fin (Q := p / d + 1) false (by omega) (by unfold mdN; rw [hP, hD, hmore]; rfl) hok ?_ ?_
          · intro hq hF
            refine call_fn rfl rfl rfl (ok220 false (p / d + 1) hq) ?_
            rw [hF]
            have w1 := neg_small hq
            cases hM : minus3 a b c with
            | true =>
              rw [hM] at hK
              simp -implicitDefEqProofs (maxSteps := 10000000) only [two0, wK, hK, Int.zero_sub, w1, rkA, rkB, stepA, valA, simprocAttr]
            | false =>
              rw [hM] at hK
              simp -implicitDefEqProofs (maxSteps := 10000000) only [two0, wK, hK, rkA, rkB, stepA, valA, simprocAttr]
          · intro hq hF
            refine call_fn rfl rfl rfl (ok220n false (p / d + 1) (by omega) hq) ?_
            rw [hF]
            simp -implicitDefEqProofs (maxSteps := 10000000) only [rkA, rkB, stepA, valA, simprocAttr]
      · have hmore : moreF 2 (p / d) (p % d) d (minus3 a b c) = false := by
          unfold moreF
          rw [if_pos (by omega)]
        simp -implicitDefEqProofs (maxSteps := 10000000) only [decide_eq_false h2, rkA, rkB, stepA, valA, simprocAttr]
        refine md_fin (Q := p / d) false (by omega) (by unfold mdN; rw [hP, hD, hmore]; rfl) hok ?_ ?_
        · intro hq hF
          refine call_fn rfl rfl rfl (ok220 false (p / d) hq) ?_
          rw [hF]
          have w1 := neg_small hq
          cases hM : minus3 a b c with
          | true =>
            rw [hM] at hK
            simp -implicitDefEqProofs (maxSteps := 10000000) only [two0, wK, hK, Int.zero_sub, w1, rkA, rkB, stepA, valA, simprocAttr]
          | false =>
            rw [hM] at hK
            simp -implicitDefEqProofs (maxSteps := 10000000) only [two0, wK, hK, rkA, rkB, stepA, valA, simprocAttr]
        · intro hq hF
          refine call_fn rfl rfl rfl (ok220n false (p / d) (by omega) hq) ?_
          rw [hF]
          simp -implicitDefEqProofs (maxSteps := 10000000) only [rkA, rkB, stepA, valA, simprocAttr]
end Go.Proofs.YtahcpmhgcppdcaaGreat.A



set_option linter.unusedVariables false
set_option linter.unusedSimpArgs false
set_option maxRecDepth 100000
namespace Go.Proofs.YtahcpmhgcppdcaaGreat.A
open Go Go.RowKit Go.Shelf

/-! ### The reference's root -/
end Go.Proofs.YtahcpmhgcppdcaaGreat.A



set_option linter.unusedVariables false
set_option linter.unusedSimpArgs false
set_option maxRecDepth 100000
namespace Go.Proofs.YtahcpmhgcppdcaaGreat.A
open Go Go.RowKit Go.Shelf

/-! ### Roots of rounded numbers -/
end Go.Proofs.YtahcpmhgcppdcaaGreat.A
namespace Go.Proofs.YtahcpmhgcppdcaaGreat.A.E
open Go Go.RowKit Go.Shelf

/-! ### Roots, signs of enclosed numbers -/
def negF (a : Fr) : Fr := subF (point 0) a
end Go.Proofs.YtahcpmhgcppdcaaGreat.A.E



set_option linter.unusedVariables false
set_option linter.unusedSimpArgs false
set_option maxRecDepth 100000
namespace Go.Proofs.YtahcpmhgcppdcaaGreat.A.E
open Go Go.RowKit Go.Shelf

/-! ### The reference's numbers in units -/
theorem ok182 (n : Int) : Ok Tryz.prog 182 [num n] (tru (rightX n)) := by
  refine ok_fn mixed Tryz.func182 (code := ?_) (h := h182) ?_ k182 ?_
  rotate_left
  · exact rfl
  unfold h182 initS
  simp -implicitDefEqProofs (maxSteps := 10000000) only [rkA, rkB, stepA, valA, simprocAttr, Tryz.ntmps182, Tryz.results182]
  unfold rightX
  by_cases h1 : n ≥ -1125899906842624
  · simp -implicitDefEqProofs (maxSteps := 10000000) only [h1, rkA, rkB, stepA, valA, simprocAttr]
  · simp -implicitDefEqProofs (maxSteps := 10000000) only [h1, rkA, rkB, stepA, valA, simprocAttr]
theorem told_nil (n : Int) (is : Bool) : toldF n is [] = if is = true ∧ rightX n = true then (n, true) else (0, false) := by
  unfold toldF
  simp
theorem ok195 (n : Int) (is : Bool) : Ok Tryz.prog 195 [num n, tru is] (.tup [num (toldF n is []).1, tru (toldF n is []).2]) := by
  refine ok_fn mixed Tryz.func195 (code := ?_) (h := h195) ?_ k195 ?_
  rotate_left
  · exact rfl
  unfold h195 initS
  simp -implicitDefEqProofs (maxSteps := 10000000) only [rkA, rkB, stepA, valA, simprocAttr, Tryz.ntmps195, Tryz.results195]
  rw [told_nil]
  cases is with
  | false => simp -implicitDefEqProofs (maxSteps := 10000000) only [rkA, rkB, stepA, valA, simprocAttr]
  | true =>
    simp -implicitDefEqProofs (maxSteps := 10000000) only [rkA, rkB, stepA, valA, simprocAttr]
    refine call_fn rfl rfl rfl (ok182 n) ?_
    cases h : rightX n with
    | false => simp -implicitDefEqProofs (maxSteps := 10000000) only [rkA, rkB, stepA, valA, simprocAttr]
    | true => simp -implicitDefEqProofs (maxSteps := 10000000) only [rkA, rkB, stepA, valA, simprocAttr]
theorem told_two (n a b : Int) (is : Bool) (ha : rightX a = true) (hb : rightX b = true) : toldF n is [a, b] = toldF n is [] := by
  unfold toldF
  simp [ha, hb]
theorem told_bad (n a b : Int) (is : Bool) (h : rightX a = false ∨ rightX b = false) : toldF n is [a, b] = (0, false) := by
  unfold toldF
  rw [if_neg]
  rintro ⟨_, h2⟩
  simp at h2
  rcases h with h | h
  · rw [h2.1] at h; cases h
  · rw [h2.2.1] at h; cases h
theorem ok196 (a b mode : Int) : Ok Tryz.prog 196 [num a, num b, num mode] (.tup [num (mulX a b mode).1, tru (mulX a b mode).2]) := by
  refine ok_fn mixed Tryz.func196 (code := ?_) (h := h196) ?_ k196 ?_
  rotate_left
  · exact rfl
  unfold h196 initS
  simp -implicitDefEqProofs (maxSteps := 10000000) only [rkA, rkB, stepA, valA, simprocAttr, Tryz.ntmps196, Tryz.results196]
  refine call_fn rfl rfl rfl (ok182 a) ?_
  unfold mulX
  cases ha : rightX a with
  | false =>
    rw [told_bad _ _ _ _ (.inl ha)]
    simp -implicitDefEqProofs (maxSteps := 10000000) only [rkA, rkB, stepA, valA, simprocAttr]
  | true =>
    simp -implicitDefEqProofs (maxSteps := 10000000) only [rkA, rkB, stepA, valA, simprocAttr]
    refine call_fn rfl rfl rfl (ok182 b) ?_
    cases hb : rightX b with
    | false =>
      rw [told_bad _ _ _ _ (.inr hb)]
      simp -implicitDefEqProofs (maxSteps := 10000000) only [rkA, rkB, stepA, valA, simprocAttr]
    | true =>
      rw [told_two _ _ _ _ ha hb]
      simp -implicitDefEqProofs (maxSteps := 10000000) only [rkA, rkB, stepA, valA, simprocAttr]
      refine call_fn rfl rfl rfl (ok210 a b 16777216 mode) ?_
      simp -implicitDefEqProofs (maxSteps := 10000000) only [rkA, rkB, stepA, valA, simprocAttr]
      refine call_fn rfl rfl rfl (ok195 (mdF a b 16777216 mode).1 (mdF a b 16777216 mode).2) ?_
      simp -implicitDefEqProofs (maxSteps := 10000000) only [rkA, rkB, stepA, valA, simprocAttr]
theorem ok197 (a b mode : Int) : Ok Tryz.prog 197 [num a, num b, num mode] (.tup [num (divX a b mode).1, tru (divX a b mode).2]) := by
  refine ok_fn mixed Tryz.func197 (code := ?_) (h := h197) ?_ k197 ?_
  rotate_left
  · exact rfl
  unfold h197 initS
  simp -implicitDefEqProofs (maxSteps := 10000000) only [rkA, rkB, stepA, valA, simprocAttr, Tryz.ntmps197, Tryz.results197]
  refine call_fn rfl rfl rfl (ok182 a) ?_
  unfold divX
  cases ha : rightX a with
  | false =>
    rw [told_bad _ _ _ _ (.inl ha)]
    simp -implicitDefEqProofs (maxSteps := 10000000) only [rkA, rkB, stepA, valA, simprocAttr]
  | true =>
    simp -implicitDefEqProofs (maxSteps := 10000000) only [rkA, rkB, stepA, valA, simprocAttr]
    refine call_fn rfl rfl rfl (ok182 b) ?_
    cases hb : rightX b with
    | false =>
      rw [told_bad _ _ _ _ (.inr hb)]
      simp -implicitDefEqProofs (maxSteps := 10000000) only [rkA, rkB, stepA, valA, simprocAttr]
    | true =>
      rw [told_two _ _ _ _ ha hb]
      simp -implicitDefEqProofs (maxSteps := 10000000) only [rkA, rkB, stepA, valA, simprocAttr]
      refine call_fn rfl rfl rfl (ok210 a 16777216 b mode) ?_
      simp -implicitDefEqProofs (maxSteps := 10000000) only [rkA, rkB, stepA, valA, simprocAttr]
      refine call_fn rfl rfl rfl (ok195 (mdF a 16777216 b mode).1 (mdF a 16777216 b mode).2) ?_
      simp -implicitDefEqProofs (maxSteps := 10000000) only [rkA, rkB, stepA, valA, simprocAttr]
theorem right_of {a : Int} (h : rightX a = true) : -1125899906842624 ≤ a ∧ a ≤ 1125899906842624 := by
  unfold rightX at h
  exact of_decide_eq_true h
/-! ### One of the document's operations -/
theorem ok152a (a b mode : Int) : Ok Tryz.prog 152 [num 0, num a, num b, num mode] (.tup [num (addX a b).1, tru (addX a b).2]) := by
  refine ok_fn mixed Tryz.func152 (code := ?_) (h := h152) ?_ k152 ?_
  rotate_left
  · exact rfl
  unfold h152 initS
  simp -implicitDefEqProofs (maxSteps := 10000000) only [rkA, rkB, stepA, valA, simprocAttr, Tryz.ntmps152, Tryz.results152]
  unfold addX
  refine call_fn rfl rfl rfl (ok182 a) ?_
  cases ha : rightX a with
  | false => simp -implicitDefEqProofs (maxSteps := 10000000) only [rkA, rkB, stepA, valA, simprocAttr]
  | true =>
    simp -implicitDefEqProofs (maxSteps := 10000000) only [rkA, rkB, stepA, valA, simprocAttr]
    refine call_fn rfl rfl rfl (ok182 b) ?_
    cases hb : rightX b with
    | false => simp -implicitDefEqProofs (maxSteps := 10000000) only [rkA, rkB, stepA, valA, simprocAttr]
    | true =>
      have h1 := right_of ha
      have h2 := right_of hb
      have hw := wrapped (x := a + b) (by omega) (by omega)
      simp -implicitDefEqProofs (maxSteps := 10000000) only [hw, rkA, rkB, stepA, valA, simprocAttr]
      refine call_fn rfl rfl rfl (ok195 (a + b) true) ?_
      simp -implicitDefEqProofs (maxSteps := 10000000) only [rkA, rkB, stepA, valA, simprocAttr]
theorem ok152b (a b mode : Int) : Ok Tryz.prog 152 [num 1, num a, num b, num mode] (.tup [num (subX a b).1, tru (subX a b).2]) := by
  refine ok_fn mixed Tryz.func152 (code := ?_) (h := h152) ?_ k152 ?_
  rotate_left
  · exact rfl
  unfold h152 initS
  simp -implicitDefEqProofs (maxSteps := 10000000) only [rkA, rkB, stepA, valA, simprocAttr, Tryz.ntmps152, Tryz.results152]
  unfold subX
  refine call_fn rfl rfl rfl (ok182 a) ?_
  cases ha : rightX a with
  | false => simp -implicitDefEqProofs (maxSteps := 10000000) only [rkA, rkB, stepA, valA, simprocAttr]
  | true =>
    simp -implicitDefEqProofs (maxSteps := 10000000) only [rkA, rkB, stepA, valA, simprocAttr]
    refine call_fn rfl rfl rfl (ok182 b) ?_
    cases hb : rightX b with
    | false => simp -implicitDefEqProofs (maxSteps := 10000000) only [rkA, rkB, stepA, valA, simprocAttr]
    | true =>
      have h1 := right_of ha
      have h2 := right_of hb
      have hw := wrapped (x := a - b) (by omega) (by omega)
      simp -implicitDefEqProofs (maxSteps := 10000000) only [hw, rkA, rkB, stepA, valA, simprocAttr]
      refine call_fn rfl rfl rfl (ok195 (a - b) true) ?_
      simp -implicitDefEqProofs (maxSteps := 10000000) only [rkA, rkB, stepA, valA, simprocAttr]
theorem ok152c (a b mode : Int) : Ok Tryz.prog 152 [num 2, num a, num b, num mode] (.tup [num (mulX a b mode).1, tru (mulX a b mode).2]) := by
  refine ok_fn mixed Tryz.func152 (code := ?_) (h := h152) ?_ k152 ?_
  rotate_left
  · exact rfl
  unfold h152 initS
  simp -implicitDefEqProofs (maxSteps := 10000000) only [rkA, rkB, stepA, valA, simprocAttr, Tryz.ntmps152, Tryz.results152]
  refine call_fn rfl rfl rfl (ok196 a b mode) ?_
  simp -implicitDefEqProofs (maxSteps := 10000000) only [rkA, rkB, stepA, valA, simprocAttr]
theorem ok152d (a b mode : Int) : Ok Tryz.prog 152 [num 3, num a, num b, num mode] (.tup [num (divX a b mode).1, tru (divX a b mode).2]) := by
  refine ok_fn mixed Tryz.func152 (code := ?_) (h := h152) ?_ k152 ?_
  rotate_left
  · exact rfl
  unfold h152 initS
  simp -implicitDefEqProofs (maxSteps := 10000000) only [rkA, rkB, stepA, valA, simprocAttr, Tryz.ntmps152, Tryz.results152]
  refine call_fn rfl rfl rfl (ok197 a b mode) ?_
  simp -implicitDefEqProofs (maxSteps := 10000000) only [rkA, rkB, stepA, valA, simprocAttr]
end Go.Proofs.YtahcpmhgcppdcaaGreat.A.E



set_option linter.unusedVariables false
set_option linter.unusedSimpArgs false
set_option maxRecDepth 100000
namespace Go.Proofs.YtahcpmhgcppdcaaGreat.A.E
open Go Go.RowKit Go.Shelf

/-! ### The document's operations of enclosed numbers -/
theorem ok126 (x : Fr) : Ok Tryz.prog 126 [frV x] (tru x.fine) := by
  refine ok_fn mixed Tryz.func126 (code := ?_) (h := h126) ?_ k126 ?_
  rotate_left
  · exact rfl
  unfold h126 initS
  simp -implicitDefEqProofs (maxSteps := 10000000) only [rkA, rkB, stepA, valA, simprocAttr, Tryz.ntmps126, Tryz.results126]
  cases hb : x.bad with
  | true => simp -implicitDefEqProofs (maxSteps := 10000000) only [Fr.fine, hb, rkA, rkB, stepA, valA, simprocAttr]
  | false =>
    simp -implicitDefEqProofs (maxSteps := 10000000) only [rkA, rkB, stepA, valA, simprocAttr]
    refine call_fn rfl rfl rfl (ok182 x.lo) ?_
    cases h1 : rightX x.lo with
    | false => simp -implicitDefEqProofs (maxSteps := 10000000) only [Fr.fine, hb, h1, rkA, rkB, stepA, valA, simprocAttr]
    | true =>
      simp -implicitDefEqProofs (maxSteps := 10000000) only [rkA, rkB, stepA, valA, simprocAttr]
      refine call_fn rfl rfl rfl (ok182 x.hi) ?_
      cases h2 : rightX x.hi with
      | false => simp -implicitDefEqProofs (maxSteps := 10000000) only [Fr.fine, hb, h1, h2, rkA, rkB, stepA, valA, simprocAttr]
      | true =>
        by_cases h3 : x.lo ≤ x.v
        · simp -implicitDefEqProofs (maxSteps := 10000000) only [Fr.fine, hb, h1, h2, h3, rkA, rkB, stepA, valA, simprocAttr]
        · simp -implicitDefEqProofs (maxSteps := 10000000) only [Fr.fine, hb, h1, h2, h3, rkA, rkB, stepA, valA, simprocAttr]
theorem minL_snoc {l : List Int} (h : l ≠ []) (x : Int) : minL (l ++ [x]) = if x < minL l then x else minL l := by
  cases l with
  | nil => exact absurd rfl h
  | cons a l =>
    simp only [minL, List.cons_append, List.foldl_append, List.foldl_cons, List.foldl_nil]
    rfl
theorem maxL_snoc {l : List Int} (h : l ≠ []) (x : Int) : maxL (l ++ [x]) = if maxL l < x then x else maxL l := by
  cases l with
  | nil => exact absurd rfl h
  | cons a l =>
    simp only [maxL, List.cons_append, List.foldl_append, List.foldl_cons, List.foldl_nil]
    rfl
abbrev prS (p : Int × Int) : PV := .sl true [num p.1, num p.2]
section
variable (F : Int → Int → Int → Int × Bool) (ps : List (Int × Int))
def loK (k : Nat) : Int := minL ((ps.take k).map fun p => (F p.1 p.2 1).1)
def hiK (k : Nat) : Int := maxL ((ps.take k).map fun p => (F p.1 p.2 2).1)
variable {F ps}
theorem loK_succ {k : Nat} {p : Int × Int} (h : ps[k]? = some p) : loK F ps (k + 1) = if k = 0 then (F p.1 p.2 1).1 else if (F p.1 p.2 1).1 < loK F ps k then (F p.1 p.2 1).1 else loK F ps k := by
  obtain ⟨hk, rfl⟩ := List.getElem?_eq_some_iff.1 h
  unfold loK
  rw [List.take_succ_eq_append_getElem hk, List.map_append, List.map_singleton]
  by_cases h0 : k = 0
  · subst h0
    rw [if_pos rfl]
    rfl
  · rw [if_neg h0, minL_snoc]
    intro e
    have := congrArg List.length e
    rw [List.length_map, List.length_take, List.length_nil] at this
    omega
theorem hiK_succ {k : Nat} {p : Int × Int} (h : ps[k]? = some p) : hiK F ps (k + 1) = if k = 0 then (F p.1 p.2 2).1 else if (F p.1 p.2 2).1 > hiK F ps k then (F p.1 p.2 2).1 else hiK F ps k := by
  obtain ⟨hk, rfl⟩ := List.getElem?_eq_some_iff.1 h
  unfold hiK
  rw [List.take_succ_eq_append_getElem hk, List.map_append, List.map_singleton]
  by_cases h0 : k = 0
  · subst h0
    rw [if_pos rfl]
    rfl
  · rw [if_neg h0, maxL_snoc]
    intro e
    have := congrArg List.length e
    rw [List.length_map, List.length_take, List.length_nil] at this
    omega
theorem all_succ {k : Nat} {p : Int × Int} (h : ps[k]? = some p) (b : Bool) : (b && (ps.take (k + 1)).all (okP F)) = ((b && (ps.take k).all (okP F)) && ((F p.1 p.2 1).2 && (F p.1 p.2 2).2)) := by
  obtain ⟨hk, rfl⟩ := List.getElem?_eq_some_iff.1 h
  rw [List.take_succ_eq_append_getElem hk, List.all_append, List.all_cons, List.all_nil, Bool.and_true, Bool.and_assoc]
  rfl
end
set_option maxHeartbeats 8000000 in
theorem ok83a (a b : Fr) : Ok Tryz.prog 83 [num 0, frV a, frV b] (frV (addF a b)) := by
  unfold addF
  refine ok_fn mixed Tryz.func83 (code := ?_) (h := h83) ?_ k83 ?_
  rotate_left
  · exact rfl
  unfold h83 initS
  simp -implicitDefEqProofs (maxSteps := 10000000) only [rkA, rkB, stepA, valA, simprocAttr, Tryz.ntmps83, Tryz.results83]
  refine call_fn rfl rfl rfl (ok126 a) ?_
  cases ha : a.fine with
  | false => simp -implicitDefEqProofs (maxSteps := 10000000) only [madeE, ha, rkA, rkB, stepA, valA, simprocAttr]
  | true =>
  simp -implicitDefEqProofs (maxSteps := 10000000) only [rkA, rkB, stepA, valA, simprocAttr]
  refine call_fn rfl rfl rfl (ok126 b) ?_
  cases hb : b.fine with
  | false => simp -implicitDefEqProofs (maxSteps := 10000000) only [madeE, hb, rkA, rkB, stepA, valA, simprocAttr]
  | true =>
  simp -implicitDefEqProofs (maxSteps := 10000000) only [rkA, rkB, stepA, valA, simprocAttr]
  obtain ⟨F, hFd⟩ : ∃ F : Int → Int → Int → Int × Bool, F = fun x y _ => addX x y := ⟨_, rfl⟩
  have hF : ∀ x y m, 0 ≤ m ∧ m ≤ 2 → Ok Tryz.prog 152 [num 0, num x, num y, num m] (.tup [num (F x y m).1, tru (F x y m).2]) := fun x y m hm => by rw [hFd]; exact ok152a x y m
  obtain ⟨ps, hps⟩ : ∃ ps : List (Int × Int), ps = [(a.lo, b.lo), (a.hi, b.hi)] := ⟨_, rfl⟩
  have hpl : ps.length = 2 := by rw [hps]; rfl
  rw [← hFd, ← hps]
  clear hFd
  refine call_fn rfl rfl rfl (hF a.v b.v 0 (by omega)) ?_
  simp -implicitDefEqProofs (maxSteps := 10000000) only [rkA, rkB, stepA, valA, simprocAttr]
  refine wp_loop (fun m s => ∃ (k : Nat), k + m = ps.length ∧ s = ⟨[.v (num 0), jk, jk, jk, jk, jk, .ptr 6 0, .ptr 7 0, .v (.sl true (ps.map prS)), jk, .v (tru ((F a.v b.v 0).2 && (ps.take k).all (okP F))), .ptr 11 0, nt k, jk, jk, jk, jk, jk, jk, jk, jk, jk, jk, jk, jk, jk, jk, jk, jk, jk, jk, jk, jk, jk, jk, jk, jk, jk, jk, jk, jk, jk, jk, jk, jk, jk, jk, jk, jk, jk, jk, jk, jk, jk, jk, jk, jk, jk, jk, jk, jk, jk, jk, jk, jk, jk, jk, jk, jk, jk, jk, jk, jk, jk, jk, jk, jk, jk, jk, jk, jk, jk, jk, jk, jk, jk, jk, jk, jk, jk, jk, jk, jk, jk, jk, jk, jk, jk, jk, jk, jk, jk, jk, jk, jk, jk, jk, jk, jk, jk, jk, jk, jk, jk, jk, jk, jk, jk, jk, jk, jk, jk, jk, jk, jk, jk, jk, jk, jk, jk, jk, jk, jk, jk, jk, jk, jk, jk, jk, jk, jk, jk, jk, jk, jk, jk, jk, jk, jk, jk, jk, jk, jk, jk, jk, jk, jk, jk, jk, jk, jk, jk, jk, jk, jk, jk, jk, jk, jk, jk, jk, jk, jk, jk], [(4, [nt a.v, nt a.lo, nt a.hi, .v (tru a.bad)]), (5, [nt b.v, nt b.lo, nt b.hi, .v (tru b.bad)]), (6, [nt 0, nt 0, nt 0, .v (tru false)]), (7, [nt 0, nt 0, nt 0, .v (tru true)]), (11, [nt (F a.v b.v 0).1, nt (loK F ps k), nt (hiK F ps k), .v (tru false)])], [], [], [], 0, nomem⟩) ps.length ?_ ?_
  · simp -implicitDefEqProofs (maxSteps := 10000000) only [rkA, rkB, stepA, valA, simprocAttr]
    refine ⟨0, by omega, ?_⟩
    rw [List.take_zero, List.all_nil, Bool.and_true, hps]
    rfl
  have lps : (ps.map prS).length = ps.length := by simp
  rintro m s ⟨k, hk, rfl⟩
  simp -implicitDefEqProofs (maxSteps := 10000000) only [lps, rkA, rkB, stepA, valA, simprocAttr]
  refine gB_dec ?_ ?_ <;> intro hc <;> simp -implicitDefEqProofs (maxSteps := 10000000) only [hc, rkA, rkB, stepA, valA, simprocAttr]
  · have hlt : k < ps.length := by omega
    obtain ⟨p, hp⟩ : ∃ p, ps[k]? = some p := ⟨ps[k], List.getElem?_eq_getElem hlt⟩
    have hg : (ps.map prS)[k]? = some (prS p) := by rw [List.getElem?_map, hp]; rfl
    have h0 := nat0 k
    have hw := wrapped (x := (k : Int) + 1) (by omega) (by omega)
    have s1 := loK_succ (F := F) hp
    have s2 := hiK_succ (F := F) hp
    have s3 := all_succ (F := F) hp (F a.v b.v 0).2
    simp -implicitDefEqProofs (maxSteps := 10000000) only [h0, Int.toNat_natCast, hg, rkA, rkB, stepA, valA, simprocAttr]
    refine call_fn rfl rfl rfl (hF p.1 p.2 1 (by omega)) ?_
    simp -implicitDefEqProofs (maxSteps := 10000000) only [h0, Int.toNat_natCast, hg, rkA, rkB, stepA, valA, simprocAttr]
    refine call_fn rfl rfl rfl (hF p.1 p.2 2 (by omega)) ?_
    generalize ((F a.v b.v 0).2 && (ps.take k).all (okP F)) = B at *
    generalize hB' : ((F a.v b.v 0).2 && (ps.take (k + 1)).all (okP F)) = B' at s3
    generalize F p.1 p.2 1 = X at *
    generalize F p.1 p.2 2 = Y at *
    obtain ⟨x, is⟩ := X
    obtain ⟨y, has⟩ := Y
    simp only at s1 s2 s3
    obtain ⟨j, hj, hjm⟩ : ∃ j, k + 1 + j = ps.length ∧ j < m := ⟨m - 1, by omega, by omega⟩
    simp -implicitDefEqProofs (maxSteps := 10000000) only [rkA, rkB, stepA, valA, simprocAttr]
    refine guard_join (fun s => ∃ f : Nat → TV, s = ⟨[.v (num 0), jk, jk, jk, jk, jk, .ptr 6 0, .ptr 7 0, .v (.sl true (ps.map prS)), jk, .v (tru B'), .ptr 11 0, nt k, nt x, .v (tru is), nt y, .v (tru has), jk, jk, jk, jk, jk, jk, jk, jk, jk, jk, jk, jk, jk, jk, jk, jk, jk, jk, jk, jk, jk, jk, jk, jk, jk, jk, jk, jk, jk, jk, jk, jk, jk, jk, jk, jk, jk, jk, jk, jk, jk, jk, jk, jk, jk, jk, jk, jk, jk, jk, jk, jk, jk, jk, jk, jk, jk, jk, jk, jk, jk, jk, jk, jk, jk, jk, jk, jk, jk, jk, jk, jk, jk, jk, jk, jk, jk, jk, jk, jk, jk, jk, jk, jk, jk, jk, f 103, f 104, f 105, f 106, jk, jk, f 109, f 110, f 111, f 112, f 113, f 114, f 115, f 116, f 117, f 118, f 119, f 120, f 121, f 122, f 123, f 124, f 125, f 126, f 127, f 128, f 129, f 130, f 131, f 132, f 133, f 134, f 135, f 136, f 137, f 138, f 139, f 140, f 141, f 142, f 143, f 144, f 145, f 146, f 147, f 148, f 149, jk, jk, jk, jk, jk, jk, jk, jk, jk, jk, jk, jk, jk, jk, jk, jk, jk, jk, jk, jk, jk, jk, jk, jk], [(4, [nt a.v, nt a.lo, nt a.hi, .v (tru a.bad)]), (5, [nt b.v, nt b.lo, nt b.hi, .v (tru b.bad)]), (6, [nt 0, nt 0, nt 0, .v (tru false)]), (7, [nt 0, nt 0, nt 0, .v (tru true)]), (11, [nt (F a.v b.v 0).1, nt (loK F ps k), nt (hiK F ps k), .v (tru false)])], [], [], [], 0, nomem⟩) ?_ ?_
    rotate_left
    · cases B with
      | false =>
        simp only [Bool.false_and] at s3
        subst s3
        simp -implicitDefEqProofs (maxSteps := 10000000) only [rkA, rkB, stepA, valA, simprocAttr]
        exact slots_of rfl
      | true =>
        cases is with
        | false =>
          simp only [Bool.false_and, Bool.and_false] at s3
          subst s3
          simp -implicitDefEqProofs (maxSteps := 10000000) only [rkA, rkB, stepA, valA, simprocAttr]
          exact slots_of rfl
        | true =>
          simp only [Bool.true_and] at s3
          subst s3
          simp -implicitDefEqProofs (maxSteps := 10000000) only [rkA, rkB, stepA, valA, simprocAttr]
          exact slots_of rfl
    rintro s ⟨f, rfl⟩
    clear s3
    simp -implicitDefEqProofs (maxSteps := 10000000) only [rkA, rkB, stepA, valA, simprocAttr]
    by_cases hk0 : k = 0
    · subst hk0
      rw [if_pos rfl] at s1 s2
      have hw1 : IntKind.wrap .i64 1 = 1 := rfl
      simp -implicitDefEqProofs (maxSteps := 10000000) only [hw1, Int.natCast_zero, rkA, rkB, stepA, valA, simprocAttr]
      refine loopK_of (m' := j) hjm ?_
      simp -implicitDefEqProofs (maxSteps := 10000000) only [rkA, rkB, stepA, valA, simprocAttr]
      exact ⟨0 + 1, hj, by rw [s1, s2, hB']; rfl⟩
    · rw [if_neg hk0] at s1 s2
      have e0 : ((k : Int) == 0) = false := by simp; omega
      simp -implicitDefEqProofs (maxSteps := 10000000) only [e0, rkA, rkB, stepA, valA, simprocAttr]
      refine cond_join (fun s => ∃ f : Nat → TV, s = ⟨[.v (num 0), jk, jk, jk, jk, jk, .ptr 6 0, .ptr 7 0, .v (.sl true (ps.map prS)), jk, .v (tru B'), .ptr 11 0, nt k, nt x, .v (tru is), nt y, .v (tru has), jk, jk, jk, jk, jk, jk, jk, jk, jk, jk, jk, jk, jk, jk, jk, jk, jk, jk, jk, jk, jk, jk, jk, jk, jk, jk, jk, jk, jk, jk, jk, jk, jk, jk, jk, jk, jk, jk, jk, jk, jk, jk, jk, jk, jk, jk, jk, jk, jk, jk, jk, jk, jk, jk, jk, jk, jk, jk, jk, jk, jk, jk, jk, jk, jk, jk, jk, jk, jk, jk, jk, jk, jk, jk, jk, jk, jk, jk, jk, jk, jk, jk, jk, jk, jk, jk, f 103, f 104, f 105, f 106, jk, jk, f 109, f 110, f 111, f 112, f 113, f 114, f 115, f 116, f 117, f 118, f 119, f 120, f 121, f 122, f 123, f 124, f 125, f 126, f 127, f 128, f 129, f 130, f 131, f 132, f 133, f 134, f 135, f 136, f 137, f 138, f 139, f 140, f 141, f 142, f 143, f 144, f 145, f 146, f 147, f 148, f 149, f 150, f 151, f 152, f 153, f 154, f 155, f 156, f 157, f 158, f 159, jk, jk, jk, jk, jk, jk, jk, jk, jk, jk, jk, jk, jk, jk], [(4, [nt a.v, nt a.lo, nt a.hi, .v (tru a.bad)]), (5, [nt b.v, nt b.lo, nt b.hi, .v (tru b.bad)]), (6, [nt 0, nt 0, nt 0, .v (tru false)]), (7, [nt 0, nt 0, nt 0, .v (tru true)]), (11, [nt (F a.v b.v 0).1, nt (loK F ps (k + 1)), nt (hiK F ps k), .v (tru false)])], [], [], [], 0, nomem⟩) ?_ ?_ ?_
      rotate_left
      · intro h
        have h' := of_decide_eq_true h
        rw [if_pos h'] at s1
        rw [s1]
        simp -implicitDefEqProofs (maxSteps := 10000000) only [rkA, rkB, stepA, valA, simprocAttr]
        exact slots_of rfl
      · intro h
        have h' := of_decide_eq_false h
        rw [if_neg h'] at s1
        rw [s1]
        simp -implicitDefEqProofs (maxSteps := 10000000) only [rkA, rkB, stepA, valA, simprocAttr]
        exact slots_of rfl
      rintro s ⟨f, rfl⟩
      simp -implicitDefEqProofs (maxSteps := 10000000) only [e0, rkA, rkB, stepA, valA, simprocAttr]
      refine cond_join (fun s => ∃ f : Nat → TV, s = ⟨[.v (num 0), jk, jk, jk, jk, jk, .ptr 6 0, .ptr 7 0, .v (.sl true (ps.map prS)), jk, .v (tru B'), .ptr 11 0, nt k, nt x, .v (tru is), nt y, .v (tru has), jk, jk, jk, jk, jk, jk, jk, jk, jk, jk, jk, jk, jk, jk, jk, jk, jk, jk, jk, jk, jk, jk, jk, jk, jk, jk, jk, jk, jk, jk, jk, jk, jk, jk, jk, jk, jk, jk, jk, jk, jk, jk, jk, jk, jk, jk, jk, jk, jk, jk, jk, jk, jk, jk, jk, jk, jk, jk, jk, jk, jk, jk, jk, jk, jk, jk, jk, jk, jk, jk, jk, jk, jk, jk, jk, jk, jk, jk, jk, jk, jk, jk, jk, jk, jk, jk, f 103, f 104, f 105, f 106, jk, jk, f 109, f 110, f 111, f 112, f 113, f 114, f 115, f 116, f 117, f 118, f 119, f 120, f 121, f 122, f 123, f 124, f 125, f 126, f 127, f 128, f 129, f 130, f 131, f 132, f 133, f 134, f 135, f 136, f 137, f 138, f 139, f 140, f 141, f 142, f 143, f 144, f 145, f 146, f 147, f 148, f 149, f 150, f 151, f 152, f 153, f 154, f 155, f 156, f 157, f 158, f 159, f 160, f 161, f 162, f 163, f 164, f 165, f 166, f 167, f 168, f 169, jk, jk, jk, jk], [(4, [nt a.v, nt a.lo, nt a.hi, .v (tru a.bad)]), (5, [nt b.v, nt b.lo, nt b.hi, .v (tru b.bad)]), (6, [nt 0, nt 0, nt 0, .v (tru false)]), (7, [nt 0, nt 0, nt 0, .v (tru true)]), (11, [nt (F a.v b.v 0).1, nt (loK F ps (k + 1)), nt (hiK F ps (k + 1)), .v (tru false)])], [], [], [], 0, nomem⟩) ?_ ?_ ?_
      rotate_left
      · intro h
        have h' := of_decide_eq_true h
        rw [if_pos h'] at s2
        rw [s2]
        simp -implicitDefEqProofs (maxSteps := 10000000) only [rkA, rkB, stepA, valA, simprocAttr]
        exact slots_of rfl
      · intro h
        have h' := of_decide_eq_false h
        rw [if_neg h'] at s2
        rw [s2]
        simp -implicitDefEqProofs (maxSteps := 10000000) only [rkA, rkB, stepA, valA, simprocAttr]
        exact slots_of rfl
      rintro s ⟨f, rfl⟩
      simp -implicitDefEqProofs (maxSteps := 10000000) only [hw, rkA, rkB, stepA, valA, simprocAttr]
      refine loopK_of (m' := j) hjm ?_
      simp -implicitDefEqProofs (maxSteps := 10000000) only [rkA, rkB, stepA, valA, simprocAttr]
      exact ⟨k + 1, hj, by rw [hB']; simp only [Int.natCast_add, Int.natCast_one]⟩
  · have hkl : ps.take k = ps := List.take_of_length_le (by omega)
    rw [hkl]
    have hl : loK F ps k = minL (ps.map fun p => (F p.1 p.2 1).1) := by unfold loK; rw [hkl]
    have hh : hiK F ps k = maxL (ps.map fun p => (F p.1 p.2 2).1) := by unfold hiK; rw [hkl]
    cases hB : ((F a.v b.v 0).2 && ps.all (okP F)) with
    | false =>
      have hm : madeE F a b ps = .wrong := by unfold madeE; rw [if_neg (by rw [hB]; rintro ⟨h, _⟩; cases h)]
      rw [hm]
      simp -implicitDefEqProofs (maxSteps := 10000000) only [rkA, rkB, stepA, valA, simprocAttr]
    | true =>
      have hm : madeE F a b ps = ⟨(F a.v b.v 0).1, loK F ps k, hiK F ps k, false⟩ := by unfold madeE; rw [if_pos ⟨hB, ha, hb⟩, hl, hh]
      rw [hm]
      simp -implicitDefEqProofs (maxSteps := 10000000) only [rkA, rkB, stepA, valA, simprocAttr]
end Go.Proofs.YtahcpmhgcppdcaaGreat.A.E



set_option linter.unusedVariables false
set_option linter.unusedSimpArgs false
set_option maxRecDepth 100000
namespace Go.Proofs.YtahcpmhgcppdcaaGreat.A.E
open Go Go.RowKit Go.Shelf

set_option maxHeartbeats 8000000 in
theorem ok83b (a b : Fr) : Ok Tryz.prog 83 [num 1, frV a, frV b] (frV (subF a b)) := by
  unfold subF
  refine ok_fn mixed Tryz.func83 (code := ?_) (h := h83) ?_ k83 ?_
  rotate_left
  · exact rfl
  unfold h83 initS
  simp -implicitDefEqProofs (maxSteps := 10000000) only [rkA, rkB, stepA, valA, simprocAttr, Tryz.ntmps83, Tryz.results83]
  refine call_fn rfl rfl rfl (ok126 a) ?_
  cases ha : a.fine with
  | false => simp -implicitDefEqProofs (maxSteps := 10000000) only [madeE, ha, rkA, rkB, stepA, valA, simprocAttr]
  | true =>
  simp -implicitDefEqProofs (maxSteps := 10000000) only [rkA, rkB, stepA, valA, simprocAttr]
  refine call_fn rfl rfl rfl (ok126 b) ?_
  cases hb : b.fine with
  | false => simp -implicitDefEqProofs (maxSteps := 10000000) only [madeE, hb, rkA, rkB, stepA, valA, simprocAttr]
  | true =>
  simp -implicitDefEqProofs (maxSteps := 10000000) only [rkA, rkB, stepA, valA, simprocAttr]
  obtain ⟨F, hFd⟩ : ∃ F : Int → Int → Int → Int × Bool, F = fun x y _ => subX x y := ⟨_, rfl⟩
  have hF : ∀ x y m, 0 ≤ m ∧ m ≤ 2 → Ok Tryz.prog 152 [num 1, num x, num y, num m] (.tup [num (F x y m).1, tru (F x y m).2]) := fun x y m hm => by rw [hFd]; exact ok152b x y m
  obtain ⟨ps, hps⟩ : ∃ ps : List (Int × Int), ps = [(a.lo, b.hi), (a.hi, b.lo)] := ⟨_, rfl⟩
  have hpl : ps.length = 2 := by rw [hps]; rfl
  rw [← hFd, ← hps]
  clear hFd
  refine call_fn rfl rfl rfl (hF a.v b.v 0 (by omega)) ?_
  simp -implicitDefEqProofs (maxSteps := 10000000) only [rkA, rkB, stepA, valA, simprocAttr]
  refine wp_loop (fun m s => ∃ (k : Nat), k + m = ps.length ∧ s = ⟨[.v (num 1), jk, jk, jk, jk, jk, .ptr 6 0, .ptr 7 0, .v (.sl true (ps.map prS)), jk, .v (tru ((F a.v b.v 0).2 && (ps.take k).all (okP F))), .ptr 11 0, nt k, jk, jk, jk, jk, jk, jk, jk, jk, jk, jk, jk, jk, jk, jk, jk, jk, jk, jk, jk, jk, jk, jk, jk, jk, jk, jk, jk, jk, jk, jk, jk, jk, jk, jk, jk, jk, jk, jk, jk, jk, jk, jk, jk, jk, jk, jk, jk, jk, jk, jk, jk, jk, jk, jk, jk, jk, jk, jk, jk, jk, jk, jk, jk, jk, jk, jk, jk, jk, jk, jk, jk, jk, jk, jk, jk, jk, jk, jk, jk, jk, jk, jk, jk, jk, jk, jk, jk, jk, jk, jk, jk, jk, jk, jk, jk, jk, jk, jk, jk, jk, jk, jk, jk, jk, jk, jk, jk, jk, jk, jk, jk, jk, jk, jk, jk, jk, jk, jk, jk, jk, jk, jk, jk, jk, jk, jk, jk, jk, jk, jk, jk, jk, jk, jk, jk, jk, jk, jk, jk, jk, jk, jk, jk, jk, jk, jk, jk, jk, jk, jk, jk, jk, jk, jk, jk, jk, jk, jk, jk, jk, jk], [(4, [nt a.v, nt a.lo, nt a.hi, .v (tru a.bad)]), (5, [nt b.v, nt b.lo, nt b.hi, .v (tru b.bad)]), (6, [nt 0, nt 0, nt 0, .v (tru false)]), (7, [nt 0, nt 0, nt 0, .v (tru true)]), (11, [nt (F a.v b.v 0).1, nt (loK F ps k), nt (hiK F ps k), .v (tru false)])], [], [], [], 0, nomem⟩) ps.length ?_ ?_
  · simp -implicitDefEqProofs (maxSteps := 10000000) only [rkA, rkB, stepA, valA, simprocAttr]
    refine ⟨0, by omega, ?_⟩
    rw [List.take_zero, List.all_nil, Bool.and_true, hps]
    rfl
  have lps : (ps.map prS).length = ps.length := by simp
  rintro m s ⟨k, hk, rfl⟩
  simp -implicitDefEqProofs (maxSteps := 10000000) only [lps, rkA, rkB, stepA, valA, simprocAttr]
  refine gB_dec ?_ ?_ <;> intro hc <;> simp -implicitDefEqProofs (maxSteps := 10000000) only [hc, rkA, rkB, stepA, valA, simprocAttr]
  · have hlt : k < ps.length := by omega
    obtain ⟨p, hp⟩ : ∃ p, ps[k]? = some p := ⟨ps[k], List.getElem?_eq_getElem hlt⟩
    have hg : (ps.map prS)[k]? = some (prS p) := by rw [List.getElem?_map, hp]; rfl
    have h0 := nat0 k
    have hw := wrapped (x := (k : Int) + 1) (by omega) (by omega)
    have s1 := loK_succ (F := F) hp
    have s2 := hiK_succ (F := F) hp
    have s3 := all_succ (F := F) hp (F a.v b.v 0).2
    simp -implicitDefEqProofs (maxSteps := 10000000) only [h0, Int.toNat_natCast, hg, rkA, rkB, stepA, valA, simprocAttr]
    refine call_fn rfl rfl rfl (hF p.1 p.2 1 (by omega)) ?_
    simp -implicitDefEqProofs (maxSteps := 10000000) only [h0, Int.toNat_natCast, hg, rkA, rkB, stepA, valA, simprocAttr]
    refine call_fn rfl rfl rfl (hF p.1 p.2 2 (by omega)) ?_
    generalize ((F a.v b.v 0).2 && (ps.take k).all (okP F)) = B at *
    generalize hB' : ((F a.v b.v 0).2 && (ps.take (k + 1)).all (okP F)) = B' at s3
    generalize F p.1 p.2 1 = X at *
    generalize F p.1 p.2 2 = Y at *
    obtain ⟨x, is⟩ := X
    obtain ⟨y, has⟩ := Y
    simp only at s1 s2 s3
    obtain ⟨j, hj, hjm⟩ : ∃ j, k + 1 + j = ps.length ∧ j < m := ⟨m - 1, by omega, by omega⟩
    simp -implicitDefEqProofs (maxSteps := 10000000) only [rkA, rkB, stepA, valA, simprocAttr]
    refine guard_join (fun s => ∃ f : Nat → TV, s = ⟨[.v (num 1), jk, jk, jk, jk, jk, .ptr 6 0, .ptr 7 0, .v (.sl true (ps.map prS)), jk, .v (tru B'), .ptr 11 0, nt k, nt x, .v (tru is), nt y, .v (tru has), jk, jk, jk, jk, jk, jk, jk, jk, jk, jk, jk, jk, jk, jk, jk, jk, jk, jk, jk, jk, jk, jk, jk, jk, jk, jk, jk, jk, jk, jk, jk, jk, jk, jk, jk, jk, jk, jk, jk, jk, jk, jk, jk, jk, jk, jk, jk, jk, jk, jk, jk, jk, jk, jk, jk, jk, jk, jk, jk, jk, jk, jk, jk, jk, jk, jk, jk, jk, jk, jk, jk, jk, jk, jk, jk, jk, jk, jk, jk, jk, jk, jk, jk, jk, jk, jk, f 103, f 104, f 105, f 106, jk, jk, f 109, f 110, f 111, f 112, f 113, f 114, f 115, f 116, f 117, f 118, f 119, f 120, f 121, f 122, f 123, f 124, f 125, f 126, f 127, f 128, f 129, f 130, f 131, f 132, f 133, f 134, f 135, f 136, f 137, f 138, f 139, f 140, f 141, f 142, f 143, f 144, f 145, f 146, f 147, f 148, f 149, jk, jk, jk, jk, jk, jk, jk, jk, jk, jk, jk, jk, jk, jk, jk, jk, jk, jk, jk, jk, jk, jk, jk, jk], [(4, [nt a.v, nt a.lo, nt a.hi, .v (tru a.bad)]), (5, [nt b.v, nt b.lo, nt b.hi, .v (tru b.bad)]), (6, [nt 0, nt 0, nt 0, .v (tru false)]), (7, [nt 0, nt 0, nt 0, .v (tru true)]), (11, [nt (F a.v b.v 0).1, nt (loK F ps k), nt (hiK F ps k), .v (tru false)])], [], [], [], 0, nomem⟩) ?_ ?_
    rotate_left
    · cases B with
      | false =>
        simp only [Bool.false_and] at s3
        subst s3
        simp -implicitDefEqProofs (maxSteps := 10000000) only [rkA, rkB, stepA, valA, simprocAttr]
        exact slots_of rfl
      | true =>
        cases is with
        | false =>
          simp only [Bool.false_and, Bool.and_false] at s3
          subst s3
          simp -implicitDefEqProofs (maxSteps := 10000000) only [rkA, rkB, stepA, valA, simprocAttr]
          exact slots_of rfl
        | true =>
          simp only [Bool.true_and] at s3
          subst s3
          simp -implicitDefEqProofs (maxSteps := 10000000) only [rkA, rkB, stepA, valA, simprocAttr]
          exact slots_of rfl
    rintro s ⟨f, rfl⟩
    clear s3
    simp -implicitDefEqProofs (maxSteps := 10000000) only [rkA, rkB, stepA, valA, simprocAttr]
    by_cases hk0 : k = 0
    · subst hk0
      rw [if_pos rfl] at s1 s2
      have hw1 : IntKind.wrap .i64 1 = 1 := rfl
      simp -implicitDefEqProofs (maxSteps := 10000000) only [hw1, Int.natCast_zero, rkA, rkB, stepA, valA, simprocAttr]
      refine loopK_of (m' := j) hjm ?_
      simp -implicitDefEqProofs (maxSteps := 10000000) only [rkA, rkB, stepA, valA, simprocAttr]
      exact ⟨0 + 1, hj, by rw [s1, s2, hB']; rfl⟩
    · rw [if_neg hk0] at s1 s2
      have e0 : ((k : Int) == 0) = false := by simp; omega
      simp -implicitDefEqProofs (maxSteps := 10000000) only [e0, rkA, rkB, stepA, valA, simprocAttr]
      refine cond_join (fun s => ∃ f : Nat → TV, s = ⟨[.v (num 1), jk, jk, jk, jk, jk, .ptr 6 0, .ptr 7 0, .v (.sl true (ps.map prS)), jk, .v (tru B'), .ptr 11 0, nt k, nt x, .v (tru is), nt y, .v (tru has), jk, jk, jk, jk, jk, jk, jk, jk, jk, jk, jk, jk, jk, jk, jk, jk, jk, jk, jk, jk, jk, jk, jk, jk, jk, jk, jk, jk, jk, jk, jk, jk, jk, jk, jk, jk, jk, jk, jk, jk, jk, jk, jk, jk, jk, jk, jk, jk, jk, jk, jk, jk, jk, jk, jk, jk, jk, jk, jk, jk, jk, jk, jk, jk, jk, jk, jk, jk, jk, jk, jk, jk, jk, jk, jk, jk, jk, jk, jk, jk, jk, jk, jk, jk, jk, jk, f 103, f 104, f 105, f 106, jk, jk, f 109, f 110, f 111, f 112, f 113, f 114, f 115, f 116, f 117, f 118, f 119, f 120, f 121, f 122, f 123, f 124, f 125, f 126, f 127, f 128, f 129, f 130, f 131, f 132, f 133, f 134, f 135, f 136, f 137, f 138, f 139, f 140, f 141, f 142, f 143, f 144, f 145, f 146, f 147, f 148, f 149, f 150, f 151, f 152, f 153, f 154, f 155, f 156, f 157, f 158, f 159, jk, jk, jk, jk, jk, jk, jk, jk, jk, jk, jk, jk, jk, jk], [(4, [nt a.v, nt a.lo, nt a.hi, .v (tru a.bad)]), (5, [nt b.v, nt b.lo, nt b.hi, .v (tru b.bad)]), (6, [nt 0, nt 0, nt 0, .v (tru false)]), (7, [nt 0, nt 0, nt 0, .v (tru true)]), (11, [nt (F a.v b.v 0).1, nt (loK F ps (k + 1)), nt (hiK F ps k), .v (tru false)])], [], [], [], 0, nomem⟩) ?_ ?_ ?_
      rotate_left
      · intro h
        have h' := of_decide_eq_true h
        rw [if_pos h'] at s1
        rw [s1]
        simp -implicitDefEqProofs (maxSteps := 10000000) only [rkA, rkB, stepA, valA, simprocAttr]
        exact slots_of rfl
      · intro h
        have h' := of_decide_eq_false h
        rw [if_neg h'] at s1
        rw [s1]
        simp -implicitDefEqProofs (maxSteps := 10000000) only [rkA, rkB, stepA, valA, simprocAttr]
        exact slots_of rfl
      rintro s ⟨f, rfl⟩
      simp -implicitDefEqProofs (maxSteps := 10000000) only [e0, rkA, rkB, stepA, valA, simprocAttr]
      refine cond_join (fun s => ∃ f : Nat → TV, s = ⟨[.v (num 1), jk, jk, jk, jk, jk, .ptr 6 0, .ptr 7 0, .v (.sl true (ps.map prS)), jk, .v (tru B'), .ptr 11 0, nt k, nt x, .v (tru is), nt y, .v (tru has), jk, jk, jk, jk, jk, jk, jk, jk, jk, jk, jk, jk, jk, jk, jk, jk, jk, jk, jk, jk, jk, jk, jk, jk, jk, jk, jk, jk, jk, jk, jk, jk, jk, jk, jk, jk, jk, jk, jk, jk, jk, jk, jk, jk, jk, jk, jk, jk, jk, jk, jk, jk, jk, jk, jk, jk, jk, jk, jk, jk, jk, jk, jk, jk, jk, jk, jk, jk, jk, jk, jk, jk, jk, jk, jk, jk, jk, jk, jk, jk, jk, jk, jk, jk, jk, jk, f 103, f 104, f 105, f 106, jk, jk, f 109, f 110, f 111, f 112, f 113, f 114, f 115, f 116, f 117, f 118, f 119, f 120, f 121, f 122, f 123, f 124, f 125, f 126, f 127, f 128, f 129, f 130, f 131, f 132, f 133, f 134, f 135, f 136, f 137, f 138, f 139, f 140, f 141, f 142, f 143, f 144, f 145, f 146, f 147, f 148, f 149, f 150, f 151, f 152, f 153, f 154, f 155, f 156, f 157, f 158, f 159, f 160, f 161, f 162, f 163, f 164, f 165, f 166, f 167, f 168, f 169, jk, jk, jk, jk], [(4, [nt a.v, nt a.lo, nt a.hi, .v (tru a.bad)]), (5, [nt b.v, nt b.lo, nt b.hi, .v (tru b.bad)]), (6, [nt 0, nt 0, nt 0, .v (tru false)]), (7, [nt 0, nt 0, nt 0, .v (tru true)]), (11, [nt (F a.v b.v 0).1, nt (loK F ps (k + 1)), nt (hiK F ps (k + 1)), .v (tru false)])], [], [], [], 0, nomem⟩) ?_ ?_ ?_
      rotate_left
      · intro h
        have h' := of_decide_eq_true h
        rw [if_pos h'] at s2
        rw [s2]
        simp -implicitDefEqProofs (maxSteps := 10000000) only [rkA, rkB, stepA, valA, simprocAttr]
        exact slots_of rfl
      · intro h
        have h' := of_decide_eq_false h
        rw [if_neg h'] at s2
        rw [s2]
        simp -implicitDefEqProofs (maxSteps := 10000000) only [rkA, rkB, stepA, valA, simprocAttr]
        exact slots_of rfl
      rintro s ⟨f, rfl⟩
      simp -implicitDefEqProofs (maxSteps := 10000000) only [hw, rkA, rkB, stepA, valA, simprocAttr]
      refine loopK_of (m' := j) hjm ?_
      simp -implicitDefEqProofs (maxSteps := 10000000) only [rkA, rkB, stepA, valA, simprocAttr]
      exact ⟨k + 1, hj, by rw [hB']; simp only [Int.natCast_add, Int.natCast_one]⟩
  · have hkl : ps.take k = ps := List.take_of_length_le (by omega)
    rw [hkl]
    have hl : loK F ps k = minL (ps.map fun p => (F p.1 p.2 1).1) := by unfold loK; rw [hkl]
    have hh : hiK F ps k = maxL (ps.map fun p => (F p.1 p.2 2).1) := by unfold hiK; rw [hkl]
    cases hB : ((F a.v b.v 0).2 && ps.all (okP F)) with
    | false =>
      have hm : madeE F a b ps = .wrong := by unfold madeE; rw [if_neg (by rw [hB]; rintro ⟨h, _⟩; cases h)]
      rw [hm]
      simp -implicitDefEqProofs (maxSteps := 10000000) only [rkA, rkB, stepA, valA, simprocAttr]
    | true =>
      have hm : madeE F a b ps = ⟨(F a.v b.v 0).1, loK F ps k, hiK F ps k, false⟩ := by unfold madeE; rw [if_pos ⟨hB, ha, hb⟩, hl, hh]
      rw [hm]
      simp -implicitDefEqProofs (maxSteps := 10000000) only [rkA, rkB, stepA, valA, simprocAttr]
end Go.Proofs.YtahcpmhgcppdcaaGreat.A.E



set_option linter.unusedVariables false
set_option linter.unusedSimpArgs false
set_option maxRecDepth 100000
namespace Go.Proofs.YtahcpmhgcppdcaaGreat.A.E
open Go Go.RowKit Go.Shelf

set_option maxHeartbeats 8000000 in
theorem ok83c (a b : Fr) : Ok Tryz.prog 83 [num 2, frV a, frV b] (frV (mulF a b)) := by
  unfold mulF allP
  refine ok_fn mixed Tryz.func83 (code := ?_) (h := h83) ?_ k83 ?_
  rotate_left
  · exact rfl
  unfold h83 initS
  simp -implicitDefEqProofs (maxSteps := 10000000) only [rkA, rkB, stepA, valA, simprocAttr, Tryz.ntmps83, Tryz.results83]
  refine call_fn rfl rfl rfl (ok126 a) ?_
  cases ha : a.fine with
  | false => simp -implicitDefEqProofs (maxSteps := 10000000) only [madeE, ha, rkA, rkB, stepA, valA, simprocAttr]
  | true =>
  simp -implicitDefEqProofs (maxSteps := 10000000) only [rkA, rkB, stepA, valA, simprocAttr]
  refine call_fn rfl rfl rfl (ok126 b) ?_
  cases hb : b.fine with
  | false => simp -implicitDefEqProofs (maxSteps := 10000000) only [madeE, hb, rkA, rkB, stepA, valA, simprocAttr]
  | true =>
  simp -implicitDefEqProofs (maxSteps := 10000000) only [rkA, rkB, stepA, valA, simprocAttr]
  obtain ⟨F, hFd⟩ : ∃ F : Int → Int → Int → Int × Bool, F = mulX := ⟨_, rfl⟩
  have hF : ∀ x y m, 0 ≤ m ∧ m ≤ 2 → Ok Tryz.prog 152 [num 2, num x, num y, num m] (.tup [num (F x y m).1, tru (F x y m).2]) := fun x y m hm => by rw [hFd]; exact ok152c x y m
  obtain ⟨ps, hps⟩ : ∃ ps : List (Int × Int), ps = [(a.lo, b.lo), (a.lo, b.hi), (a.hi, b.lo), (a.hi, b.hi)] := ⟨_, rfl⟩
  have hpl : ps.length = 4 := by rw [hps]; rfl
  rw [← hFd, ← hps]
  clear hFd
  refine call_fn rfl rfl rfl (hF a.v b.v 0 (by omega)) ?_
  simp -implicitDefEqProofs (maxSteps := 10000000) only [rkA, rkB, stepA, valA, simprocAttr]
  refine wp_loop (fun m s => ∃ (k : Nat), k + m = ps.length ∧ s = ⟨[.v (num 2), jk, jk, jk, jk, jk, .ptr 6 0, .ptr 7 0, .v (.sl true (ps.map prS)), jk, .v (tru ((F a.v b.v 0).2 && (ps.take k).all (okP F))), .ptr 11 0, nt k, jk, jk, jk, jk, jk, jk, jk, jk, jk, jk, jk, jk, jk, jk, jk, jk, jk, jk, jk, jk, jk, jk, jk, jk, jk, jk, jk, jk, jk, jk, jk, jk, jk, jk, jk, jk, jk, jk, jk, jk, jk, jk, jk, jk, jk, jk, jk, jk, jk, jk, jk, jk, jk, jk, jk, jk, jk, jk, jk, jk, jk, jk, jk, jk, jk, jk, jk, jk, jk, jk, jk, jk, jk, jk, jk, jk, jk, jk, jk, jk, jk, jk, jk, jk, jk, jk, jk, jk, jk, jk, jk, jk, jk, jk, jk, jk, jk, jk, jk, jk, jk, jk, jk, jk, jk, jk, jk, jk, jk, jk, jk, jk, jk, jk, jk, jk, jk, jk, jk, jk, jk, jk, jk, jk, jk, jk, jk, jk, jk, jk, jk, jk, jk, jk, jk, jk, jk, jk, jk, jk, jk, jk, jk, jk, jk, jk, jk, jk, jk, jk, jk, jk, jk, jk, jk, jk, jk, jk, jk, jk, jk], [(4, [nt a.v, nt a.lo, nt a.hi, .v (tru a.bad)]), (5, [nt b.v, nt b.lo, nt b.hi, .v (tru b.bad)]), (6, [nt 0, nt 0, nt 0, .v (tru false)]), (7, [nt 0, nt 0, nt 0, .v (tru true)]), (11, [nt (F a.v b.v 0).1, nt (loK F ps k), nt (hiK F ps k), .v (tru false)])], [], [], [], 0, nomem⟩) ps.length ?_ ?_
  · simp -implicitDefEqProofs (maxSteps := 10000000) only [rkA, rkB, stepA, valA, simprocAttr]
    refine ⟨0, by omega, ?_⟩
    rw [List.take_zero, List.all_nil, Bool.and_true, hps]
    rfl
  have lps : (ps.map prS).length = ps.length := by simp
  rintro m s ⟨k, hk, rfl⟩
  simp -implicitDefEqProofs (maxSteps := 10000000) only [lps, rkA, rkB, stepA, valA, simprocAttr]
  refine gB_dec ?_ ?_ <;> intro hc <;> simp -implicitDefEqProofs (maxSteps := 10000000) only [hc, rkA, rkB, stepA, valA, simprocAttr]
  · have hlt : k < ps.length := by omega
    obtain ⟨p, hp⟩ : ∃ p, ps[k]? = some p := ⟨ps[k], List.getElem?_eq_getElem hlt⟩
    have hg : (ps.map prS)[k]? = some (prS p) := by rw [List.getElem?_map, hp]; rfl
    have h0 := nat0 k
    have hw := wrapped (x := (k : Int) + 1) (by omega) (by omega)
    have s1 := loK_succ (F := F) hp
    have s2 := hiK_succ (F := F) hp
    have s3 := all_succ (F := F) hp (F a.v b.v 0).2
    simp -implicitDefEqProofs (maxSteps := 10000000) only [h0, Int.toNat_natCast, hg, rkA, rkB, stepA, valA, simprocAttr]
    refine call_fn rfl rfl rfl (hF p.1 p.2 1 (by omega)) ?_
    simp -implicitDefEqProofs (maxSteps := 10000000) only [h0, Int.toNat_natCast, hg, rkA, rkB, stepA, valA, simprocAttr]
    refine call_fn rfl rfl rfl (hF p.1 p.2 2 (by omega)) ?_
    generalize ((F a.v b.v 0).2 && (ps.take k).all (okP F)) = B at *
    generalize hB' : ((F a.v b.v 0).2 && (ps.take (k + 1)).all (okP F)) = B' at s3
    generalize F p.1 p.2 1 = X at *
    generalize F p.1 p.2 2 = Y at *
    obtain ⟨x, is⟩ := X
    obtain ⟨y, has⟩ := Y
    simp only at s1 s2 s3
    obtain ⟨j, hj, hjm⟩ : ∃ j, k + 1 + j = ps.length ∧ j < m := ⟨m - 1, by omega, by omega⟩
    simp -implicitDefEqProofs (maxSteps := 10000000) only [rkA, rkB, stepA, valA, simprocAttr]
    refine guard_join (fun s => ∃ f : Nat → TV, s = ⟨[.v (num 2), jk, jk, jk, jk, jk, .ptr 6 0, .ptr 7 0, .v (.sl true (ps.map prS)), jk, .v (tru B'), .ptr 11 0, nt k, nt x, .v (tru is), nt y, .v (tru has), jk, jk, jk, jk, jk, jk, jk, jk, jk, jk, jk, jk, jk, jk, jk, jk, jk, jk, jk, jk, jk, jk, jk, jk, jk, jk, jk, jk, jk, jk, jk, jk, jk, jk, jk, jk, jk, jk, jk, jk, jk, jk, jk, jk, jk, jk, jk, jk, jk, jk, jk, jk, jk, jk, jk, jk, jk, jk, jk, jk, jk, jk, jk, jk, jk, jk, jk, jk, jk, jk, jk, jk, jk, jk, jk, jk, jk, jk, jk, jk, jk, jk, jk, jk, jk, jk, f 103, f 104, f 105, f 106, jk, jk, f 109, f 110, f 111, f 112, f 113, f 114, f 115, f 116, f 117, f 118, f 119, f 120, f 121, f 122, f 123, f 124, f 125, f 126, f 127, f 128, f 129, f 130, f 131, f 132, f 133, f 134, f 135, f 136, f 137, f 138, f 139, f 140, f 141, f 142, f 143, f 144, f 145, f 146, f 147, f 148, f 149, jk, jk, jk, jk, jk, jk, jk, jk, jk, jk, jk, jk, jk, jk, jk, jk, jk, jk, jk, jk, jk, jk, jk, jk], [(4, [nt a.v, nt a.lo, nt a.hi, .v (tru a.bad)]), (5, [nt b.v, nt b.lo, nt b.hi, .v (tru b.bad)]), (6, [nt 0, nt 0, nt 0, .v (tru false)]), (7, [nt 0, nt 0, nt 0, .v (tru true)]), (11, [nt (F a.v b.v 0).1, nt (loK F ps k), nt (hiK F ps k), .v (tru false)])], [], [], [], 0, nomem⟩) ?_ ?_
    rotate_left
    · cases B with
      | false =>
        simp only [Bool.false_and] at s3
        subst s3
        simp -implicitDefEqProofs (maxSteps := 10000000) only [rkA, rkB, stepA, valA, simprocAttr]
        exact slots_of rfl
      | true =>
        cases is with
        | false =>
          simp only [Bool.false_and, Bool.and_false] at s3
          subst s3
          simp -implicitDefEqProofs (maxSteps := 10000000) only [rkA, rkB, stepA, valA, simprocAttr]
          exact slots_of rfl
        | true =>
          simp only [Bool.true_and] at s3
          subst s3
          simp -implicitDefEqProofs (maxSteps := 10000000) only [rkA, rkB, stepA, valA, simprocAttr]
          exact slots_of rfl
    rintro s ⟨f, rfl⟩
    clear s3
    simp -implicitDefEqProofs (maxSteps := 10000000) only [rkA, rkB, stepA, valA, simprocAttr]
    by_cases hk0 : k = 0
    · subst hk0
      rw [if_pos rfl] at s1 s2
      have hw1 : IntKind.wrap .i64 1 = 1 := rfl
      simp -implicitDefEqProofs (maxSteps := 10000000) only [hw1, Int.natCast_zero, rkA, rkB, stepA, valA, simprocAttr]
      refine loopK_of (m' := j) hjm ?_
      simp -implicitDefEqProofs (maxSteps := 10000000) only [rkA, rkB, stepA, valA, simprocAttr]
      exact ⟨0 + 1, hj, by rw [s1, s2, hB']; rfl⟩
    · rw [if_neg hk0] at s1 s2
      have e0 : ((k : Int) == 0) = false := by simp; omega
      simp -implicitDefEqProofs (maxSteps := 10000000) only [e0, rkA, rkB, stepA, valA, simprocAttr]
      refine cond_join (fun s => ∃ f : Nat → TV, s = ⟨[.v (num 2), jk, jk, jk, jk, jk, .ptr 6 0, .ptr 7 0, .v (.sl true (ps.map prS)), jk, .v (tru B'), .ptr 11 0, nt k, nt x, .v (tru is), nt y, .v (tru has), jk, jk, jk, jk, jk, jk, jk, jk, jk, jk, jk, jk, jk, jk, jk, jk, jk, jk, jk, jk, jk, jk, jk, jk, jk, jk, jk, jk, jk, jk, jk, jk, jk, jk, jk, jk, jk, jk, jk, jk, jk, jk, jk, jk, jk, jk, jk, jk, jk, jk, jk, jk, jk, jk, jk, jk, jk, jk, jk, jk, jk, jk, jk, jk, jk, jk, jk, jk, jk, jk, jk, jk, jk, jk, jk, jk, jk, jk, jk, jk, jk, jk, jk, jk, jk, jk, f 103, f 104, f 105, f 106, jk, jk, f 109, f 110, f 111, f 112, f 113, f 114, f 115, f 116, f 117, f 118, f 119, f 120, f 121, f 122, f 123, f 124, f 125, f 126, f 127, f 128, f 129, f 130, f 131, f 132, f 133, f 134, f 135, f 136, f 137, f 138, f 139, f 140, f 141, f 142, f 143, f 144, f 145, f 146, f 147, f 148, f 149, f 150, f 151, f 152, f 153, f 154, f 155, f 156, f 157, f 158, f 159, jk, jk, jk, jk, jk, jk, jk, jk, jk, jk, jk, jk, jk, jk], [(4, [nt a.v, nt a.lo, nt a.hi, .v (tru a.bad)]), (5, [nt b.v, nt b.lo, nt b.hi, .v (tru b.bad)]), (6, [nt 0, nt 0, nt 0, .v (tru false)]), (7, [nt 0, nt 0, nt 0, .v (tru true)]), (11, [nt (F a.v b.v 0).1, nt (loK F ps (k + 1)), nt (hiK F ps k), .v (tru false)])], [], [], [], 0, nomem⟩) ?_ ?_ ?_
      rotate_left
      · intro h
        have h' := of_decide_eq_true h
        rw [if_pos h'] at s1
        rw [s1]
        simp -implicitDefEqProofs (maxSteps := 10000000) only [rkA, rkB, stepA, valA, simprocAttr]
        exact slots_of rfl
      · intro h
        have h' := of_decide_eq_false h
        rw [if_neg h'] at s1
        rw [s1]
        simp -implicitDefEqProofs (maxSteps := 10000000) only [rkA, rkB, stepA, valA, simprocAttr]
        exact slots_of rfl
      rintro s ⟨f, rfl⟩
      simp -implicitDefEqProofs (maxSteps := 10000000) only [e0, rkA, rkB, stepA, valA, simprocAttr]
      refine cond_join (fun s => ∃ f : Nat → TV, s = ⟨[.v (num 2), jk, jk, jk, jk, jk, .ptr 6 0, .ptr 7 0, .v (.sl true (ps.map prS)), jk, .v (tru B'), .ptr 11 0, nt k, nt x, .v (tru is), nt y, .v (tru has), jk, jk, jk, jk, jk, jk, jk, jk, jk, jk, jk, jk, jk, jk, jk, jk, jk, jk, jk, jk, jk, jk, jk, jk, jk, jk, jk, jk, jk, jk, jk, jk, jk, jk, jk, jk, jk, jk, jk, jk, jk, jk, jk, jk, jk, jk, jk, jk, jk, jk, jk, jk, jk, jk, jk, jk, jk, jk, jk, jk, jk, jk, jk, jk, jk, jk, jk, jk, jk, jk, jk, jk, jk, jk, jk, jk, jk, jk, jk, jk, jk, jk, jk, jk, jk, jk, f 103, f 104, f 105, f 106, jk, jk, f 109, f 110, f 111, f 112, f 113, f 114, f 115, f 116, f 117, f 118, f 119, f 120, f 121, f 122, f 123, f 124, f 125, f 126, f 127, f 128, f 129, f 130, f 131, f 132, f 133, f 134, f 135, f 136, f 137, f 138, f 139, f 140, f 141, f 142, f 143, f 144, f 145, f 146, f 147, f 148, f 149, f 150, f 151, f 152, f 153, f 154, f 155, f 156, f 157, f 158, f 159, f 160, f 161, f 162, f 163, f 164, f 165, f 166, f 167, f 168, f 169, jk, jk, jk, jk], [(4, [nt a.v, nt a.lo, nt a.hi, .v (tru a.bad)]), (5, [nt b.v, nt b.lo, nt b.hi, .v (tru b.bad)]), (6, [nt 0, nt 0, nt 0, .v (tru false)]), (7, [nt 0, nt 0, nt 0, .v (tru true)]), (11, [nt (F a.v b.v 0).1, nt (loK F ps (k + 1)), nt (hiK F ps (k + 1)), .v (tru false)])], [], [], [], 0, nomem⟩) ?_ ?_ ?_
      rotate_left
      · intro h
        have h' := of_decide_eq_true h
        rw [if_pos h'] at s2
        rw [s2]
        simp -implicitDefEqProofs (maxSteps := 10000000) only [rkA, rkB, stepA, valA, simprocAttr]
        exact slots_of rfl
      · intro h
        have h' := of_decide_eq_false h
        rw [if_neg h'] at s2
        rw [s2]
        simp -implicitDefEqProofs (maxSteps := 10000000) only [rkA, rkB, stepA, valA, simprocAttr]
        exact slots_of rfl
      rintro s ⟨f, rfl⟩
      simp -implicitDefEqProofs (maxSteps := 10000000) only [hw, rkA, rkB, stepA, valA, simprocAttr]
      refine loopK_of (m' := j) hjm ?_
      simp -implicitDefEqProofs (maxSteps := 10000000) only [rkA, rkB, stepA, valA, simprocAttr]
      exact ⟨k + 1, hj, by rw [hB']; simp only [Int.natCast_add, Int.natCast_one]⟩
  · have hkl : ps.take k = ps := List.take_of_length_le (by omega)
    rw [hkl]
    have hl : loK F ps k = minL (ps.map fun p => (F p.1 p.2 1).1) := by unfold loK; rw [hkl]
    have hh : hiK F ps k = maxL (ps.map fun p => (F p.1 p.2 2).1) := by unfold hiK; rw [hkl]
    cases hB : ((F a.v b.v 0).2 && ps.all (okP F)) with
    | false =>
      have hm : madeE F a b ps = .wrong := by unfold madeE; rw [if_neg (by rw [hB]; rintro ⟨h, _⟩; cases h)]
      rw [hm]
      simp -implicitDefEqProofs (maxSteps := 10000000) only [rkA, rkB, stepA, valA, simprocAttr]
    | true =>
      have hm : madeE F a b ps = ⟨(F a.v b.v 0).1, loK F ps k, hiK F ps k, false⟩ := by unfold madeE; rw [if_pos ⟨hB, ha, hb⟩, hl, hh]
      rw [hm]
      simp -implicitDefEqProofs (maxSteps := 10000000) only [rkA, rkB, stepA, valA, simprocAttr]
end Go.Proofs.YtahcpmhgcppdcaaGreat.A.E



set_option linter.unusedVariables false
set_option linter.unusedSimpArgs false
set_option maxRecDepth 100000
namespace Go.Proofs.YtahcpmhgcppdcaaGreat.A.E
open Go Go.RowKit Go.Shelf

theorem divF_bad {a b : Fr} (h : a.fine = false ∨ b.fine = false) : divF a b = .wrong := by
  unfold divF
  split
  · rfl
  · unfold madeE
    rw [if_neg]
    rintro ⟨_, h1, h2⟩
    rcases h with h | h
    · rw [h] at h1; cases h1
    · rw [h] at h2; cases h2
set_option maxHeartbeats 8000000 in
theorem ok83d (a b : Fr) : Ok Tryz.prog 83 [num 3, frV a, frV b] (frV (divF a b)) := by
  refine ok_fn mixed Tryz.func83 (code := ?_) (h := h83) ?_ k83 ?_
  rotate_left
  · exact rfl
  unfold h83 initS
  simp -implicitDefEqProofs (maxSteps := 10000000) only [rkA, rkB, stepA, valA, simprocAttr, Tryz.ntmps83, Tryz.results83]
  refine call_fn rfl rfl rfl (ok126 a) ?_
  cases ha : a.fine with
  | false =>
    rw [divF_bad (.inl ha)]
    simp -implicitDefEqProofs (maxSteps := 10000000) only [rkA, rkB, stepA, valA, simprocAttr]
  | true =>
  simp -implicitDefEqProofs (maxSteps := 10000000) only [rkA, rkB, stepA, valA, simprocAttr]
  refine call_fn rfl rfl rfl (ok126 b) ?_
  cases hb : b.fine with
  | false =>
    rw [divF_bad (.inr hb)]
    simp -implicitDefEqProofs (maxSteps := 10000000) only [rkA, rkB, stepA, valA, simprocAttr]
  | true =>
  by_cases h1 : b.lo ≤ 0
  · by_cases h2 : b.hi ≥ 0
    · have : divF a b = .wrong := if_pos ⟨h1, h2⟩
      rw [this]
      simp -implicitDefEqProofs (maxSteps := 10000000) only [h1, h2, rkA, rkB, stepA, valA, simprocAttr]
    · have hd : divF a b = madeE divX a b [(a.lo, b.lo), (a.lo, b.hi), (a.hi, b.lo), (a.hi, b.hi)] := if_neg (fun h => h2 h.2)
      rw [hd]
      simp -implicitDefEqProofs (maxSteps := 10000000) only [h1, h2, rkA, rkB, stepA, valA, simprocAttr]
      obtain ⟨F, hFd⟩ : ∃ F : Int → Int → Int → Int × Bool, F = divX := ⟨_, rfl⟩
      have hF : ∀ x y m, 0 ≤ m ∧ m ≤ 2 → Ok Tryz.prog 152 [num 3, num x, num y, num m] (.tup [num (F x y m).1, tru (F x y m).2]) := fun x y m hm => by rw [hFd]; exact ok152d x y m
      obtain ⟨ps, hps⟩ : ∃ ps : List (Int × Int), ps = [(a.lo, b.lo), (a.lo, b.hi), (a.hi, b.lo), (a.hi, b.hi)] := ⟨_, rfl⟩
      have hpl : ps.length = 4 := by rw [hps]; rfl
      rw [← hFd, ← hps]
      clear hFd
      refine call_fn rfl rfl rfl (hF a.v b.v 0 (by omega)) ?_
      simp -implicitDefEqProofs (maxSteps := 10000000) only [rkA, rkB, stepA, valA, simprocAttr]
      refine wp_loop (fun m s => ∃ (k : Nat), k + m = ps.length ∧ s = ⟨[.v (num 3), jk, jk, jk, jk, jk, .ptr 6 0, .ptr 7 0, .v (.sl true (ps.map prS)), jk, .v (tru ((F a.v b.v 0).2 && (ps.take k).all (okP F))), .ptr 11 0, nt k, jk, jk, jk, jk, jk, jk, jk, jk, jk, jk, jk, jk, jk, jk, jk, jk, jk, jk, jk, jk, jk, jk, jk, jk, jk, jk, jk, jk, jk, jk, jk, jk, jk, jk, jk, jk, jk, jk, jk, jk, jk, jk, jk, jk, jk, jk, jk, jk, jk, jk, jk, jk, jk, jk, jk, jk, jk, jk, jk, jk, jk, jk, jk, jk, jk, jk, jk, jk, jk, jk, jk, jk, jk, jk, jk, jk, jk, jk, jk, jk, jk, jk, jk, jk, jk, jk, jk, jk, jk, jk, jk, jk, jk, jk, jk, jk, jk, jk, jk, jk, jk, jk, jk, jk, jk, jk, jk, jk, jk, jk, jk, jk, jk, jk, jk, jk, jk, jk, jk, jk, jk, jk, jk, jk, jk, jk, jk, jk, jk, jk, jk, jk, jk, jk, jk, jk, jk, jk, jk, jk, jk, jk, jk, jk, jk, jk, jk, jk, jk, jk, jk, jk, jk, jk, jk, jk, jk, jk, jk, jk, jk], [(4, [nt a.v, nt a.lo, nt a.hi, .v (tru a.bad)]), (5, [nt b.v, nt b.lo, nt b.hi, .v (tru b.bad)]), (6, [nt 0, nt 0, nt 0, .v (tru false)]), (7, [nt 0, nt 0, nt 0, .v (tru true)]), (11, [nt (F a.v b.v 0).1, nt (loK F ps k), nt (hiK F ps k), .v (tru false)])], [], [], [], 0, nomem⟩) ps.length ?_ ?_
      · simp -implicitDefEqProofs (maxSteps := 10000000) only [rkA, rkB, stepA, valA, simprocAttr]
        refine ⟨0, by omega, ?_⟩
        rw [List.take_zero, List.all_nil, Bool.and_true, hps]
        rfl
      have lps : (ps.map prS).length = ps.length := by simp
      rintro m s ⟨k, hk, rfl⟩
      simp -implicitDefEqProofs (maxSteps := 10000000) only [lps, rkA, rkB, stepA, valA, simprocAttr]
      refine gB_dec ?_ ?_ <;> intro hc <;> simp -implicitDefEqProofs (maxSteps := 10000000) only [hc, rkA, rkB, stepA, valA, simprocAttr]
      · have hlt : k < ps.length := by omega
        obtain ⟨p, hp⟩ : ∃ p, ps[k]? = some p := ⟨ps[k], List.getElem?_eq_getElem hlt⟩
        have hg : (ps.map prS)[k]? = some (prS p) := by rw [List.getElem?_map, hp]; rfl
        have h0 := nat0 k
        have hw := wrapped (x := (k : Int) + 1) (by omega) (by omega)
        have s1 := loK_succ (F := F) hp
        have s2 := hiK_succ (F := F) hp
        have s3 := all_succ (F := F) hp (F a.v b.v 0).2
        simp -implicitDefEqProofs (maxSteps := 10000000) only [h0, Int.toNat_natCast, hg, rkA, rkB, stepA, valA, simprocAttr]
        refine call_fn rfl rfl rfl (hF p.1 p.2 1 (by omega)) ?_
        simp -implicitDefEqProofs (maxSteps := 10000000) only [h0, Int.toNat_natCast, hg, rkA, rkB, stepA, valA, simprocAttr]
        refine call_fn rfl rfl rfl (hF p.1 p.2 2 (by omega)) ?_
        generalize ((F a.v b.v 0).2 && (ps.take k).all (okP F)) = B at *
        generalize hB' : ((F a.v b.v 0).2 && (ps.take (k + 1)).all (okP F)) = B' at s3
        generalize F p.1 p.2 1 = X at *
        generalize F p.1 p.2 2 = Y at *
        obtain ⟨x, is⟩ := X
        obtain ⟨y, has⟩ := Y
        simp only at s1 s2 s3
        obtain ⟨j, hj, hjm⟩ : ∃ j, k + 1 + j = ps.length ∧ j < m := ⟨m - 1, by omega, by omega⟩
        simp -implicitDefEqProofs (maxSteps := 10000000) only [rkA, rkB, stepA, valA, simprocAttr]
        refine guard_join (fun s => ∃ f : Nat → TV, s = ⟨[.v (num 3), jk, jk, jk, jk, jk, .ptr 6 0, .ptr 7 0, .v (.sl true (ps.map prS)), jk, .v (tru B'), .ptr 11 0, nt k, nt x, .v (tru is), nt y, .v (tru has), jk, jk, jk, jk, jk, jk, jk, jk, jk, jk, jk, jk, jk, jk, jk, jk, jk, jk, jk, jk, jk, jk, jk, jk, jk, jk, jk, jk, jk, jk, jk, jk, jk, jk, jk, jk, jk, jk, jk, jk, jk, jk, jk, jk, jk, jk, jk, jk, jk, jk, jk, jk, jk, jk, jk, jk, jk, jk, jk, jk, jk, jk, jk, jk, jk, jk, jk, jk, jk, jk, jk, jk, jk, jk, jk, jk, jk, jk, jk, jk, jk, jk, jk, jk, jk, jk, f 103, f 104, f 105, f 106, jk, jk, f 109, f 110, f 111, f 112, f 113, f 114, f 115, f 116, f 117, f 118, f 119, f 120, f 121, f 122, f 123, f 124, f 125, f 126, f 127, f 128, f 129, f 130, f 131, f 132, f 133, f 134, f 135, f 136, f 137, f 138, f 139, f 140, f 141, f 142, f 143, f 144, f 145, f 146, f 147, f 148, f 149, jk, jk, jk, jk, jk, jk, jk, jk, jk, jk, jk, jk, jk, jk, jk, jk, jk, jk, jk, jk, jk, jk, jk, jk], [(4, [nt a.v, nt a.lo, nt a.hi, .v (tru a.bad)]), (5, [nt b.v, nt b.lo, nt b.hi, .v (tru b.bad)]), (6, [nt 0, nt 0, nt 0, .v (tru false)]), (7, [nt 0, nt 0, nt 0, .v (tru true)]), (11, [nt (F a.v b.v 0).1, nt (loK F ps k), nt (hiK F ps k), .v (tru false)])], [], [], [], 0, nomem⟩) ?_ ?_
        rotate_left
        · cases B with
          | false =>
            simp only [Bool.false_and] at s3
            subst s3
            simp -implicitDefEqProofs (maxSteps := 10000000) only [rkA, rkB, stepA, valA, simprocAttr]
            exact slots_of rfl
          | true =>
            cases is with
            | false =>
              simp only [Bool.false_and, Bool.and_false] at s3
              subst s3
              simp -implicitDefEqProofs (maxSteps := 10000000) only [rkA, rkB, stepA, valA, simprocAttr]
              exact slots_of rfl
            | true =>
              simp only [Bool.true_and] at s3
              subst s3
              simp -implicitDefEqProofs (maxSteps := 10000000) only [rkA, rkB, stepA, valA, simprocAttr]
              exact slots_of rfl
        rintro s ⟨f, rfl⟩
        clear s3
        simp -implicitDefEqProofs (maxSteps := 10000000) only [rkA, rkB, stepA, valA, simprocAttr]
        by_cases hk0 : k = 0
        · subst hk0
          rw [if_pos rfl] at s1 s2
          have hw1 : IntKind.wrap .i64 1 = 1 := rfl
          simp -implicitDefEqProofs (maxSteps := 10000000) only [hw1, Int.natCast_zero, rkA, rkB, stepA, valA, simprocAttr]
          refine loopK_of (m' := j) hjm ?_
          simp -implicitDefEqProofs (maxSteps := 10000000) only [rkA, rkB, stepA, valA, simprocAttr]
          exact ⟨0 + 1, hj, by rw [s1, s2, hB']; rfl⟩
        · rw [if_neg hk0] at s1 s2
          have e0 : ((k : Int) == 0) = false := by simp; omega
          simp -implicitDefEqProofs (maxSteps := 10000000) only [e0, rkA, rkB, stepA, valA, simprocAttr]
          refine cond_join (fun s => ∃ f : Nat → TV, s = ⟨[.v (num 3), jk, jk, jk, jk, jk, .ptr 6 0, .ptr 7 0, .v (.sl true (ps.map prS)), jk, .v (tru B'), .ptr 11 0, nt k, nt x, .v (tru is), nt y, .v (tru has), jk, jk, jk, jk, jk, jk, jk, jk, jk, jk, jk, jk, jk, jk, jk, jk, jk, jk, jk, jk, jk, jk, jk, jk, jk, jk, jk, jk, jk, jk, jk, jk, jk, jk, jk, jk, jk, jk, jk, jk, jk, jk, jk, jk, jk, jk, jk, jk, jk, jk, jk, jk, jk, jk, jk, jk, jk, jk, jk, jk, jk, jk, jk, jk, jk, jk, jk, jk, jk, jk, jk, jk, jk, jk, jk, jk, jk, jk, jk, jk, jk, jk, jk, jk, jk, jk, f 103, f 104, f 105, f 106, jk, jk, f 109, f 110, f 111, f 112, f 113, f 114, f 115, f 116, f 117, f 118, f 119, f 120, f 121, f 122, f 123, f 124, f 125, f 126, f 127, f 128, f 129, f 130, f 131, f 132, f 133, f 134, f 135, f 136, f 137, f 138, f 139, f 140, f 141, f 142, f 143, f 144, f 145, f 146, f 147, f 148, f 149, f 150, f 151, f 152, f 153, f 154, f 155, f 156, f 157, f 158, f 159, jk, jk, jk, jk, jk, jk, jk, jk, jk, jk, jk, jk, jk, jk], [(4, [nt a.v, nt a.lo, nt a.hi, .v (tru a.bad)]), (5, [nt b.v, nt b.lo, nt b.hi, .v (tru b.bad)]), (6, [nt 0, nt 0, nt 0, .v (tru false)]), (7, [nt 0, nt 0, nt 0, .v (tru true)]), (11, [nt (F a.v b.v 0).1, nt (loK F ps (k + 1)), nt (hiK F ps k), .v (tru false)])], [], [], [], 0, nomem⟩) ?_ ?_ ?_
          rotate_left
          · intro h
            have h' := of_decide_eq_true h
            rw [if_pos h'] at s1
            rw [s1]
            simp -implicitDefEqProofs (maxSteps := 10000000) only [rkA, rkB, stepA, valA, simprocAttr]
            exact slots_of rfl
          · intro h
            have h' := of_decide_eq_false h
            rw [if_neg h'] at s1
            rw [s1]
            simp -implicitDefEqProofs (maxSteps := 10000000) only [rkA, rkB, stepA, valA, simprocAttr]
            exact slots_of rfl
          rintro s ⟨f, rfl⟩
          simp -implicitDefEqProofs (maxSteps := 10000000) only [e0, rkA, rkB, stepA, valA, simprocAttr]
          refine cond_join (fun s => ∃ f : Nat → TV, s = ⟨[.v (num 3), jk, jk, jk, jk, jk, .ptr 6 0, .ptr 7 0, .v (.sl true (ps.map prS)), jk, .v (tru B'), .ptr 11 0, nt k, nt x, .v (tru is), nt y, .v (tru has), jk, jk, jk, jk, jk, jk, jk, jk, jk, jk, jk, jk, jk, jk, jk, jk, jk, jk, jk, jk, jk, jk, jk, jk, jk, jk, jk, jk, jk, jk, jk, jk, jk, jk, jk, jk, jk, jk, jk, jk, jk, jk, jk, jk, jk, jk, jk, jk, jk, jk, jk, jk, jk, jk, jk, jk, jk, jk, jk, jk, jk, jk, jk, jk, jk, jk, jk, jk, jk, jk, jk, jk, jk, jk, jk, jk, jk, jk, jk, jk, jk, jk, jk, jk, jk, jk, f 103, f 104, f 105, f 106, jk, jk, f 109, f 110, f 111, f 112, f 113, f 114, f 115, f 116, f 117, f 118, f 119, f 120, f 121, f 122, f 123, f 124, f 125, f 126, f 127, f 128, f 129, f 130, f 131, f 132, f 133, f 134, f 135, f 136, f 137, f 138, f 139, f 140, f 141, f 142, f 143, f 144, f 145, f 146, f 147, f 148, f 149, f 150, f 151, f 152, f 153, f 154, f 155, f 156, f 157, f 158, f 159, f 160, f 161, f 162, f 163, f 164, f 165, f 166, f 167, f 168, f 169, jk, jk, jk, jk], [(4, [nt a.v, nt a.lo, nt a.hi, .v (tru a.bad)]), (5, [nt b.v, nt b.lo, nt b.hi, .v (tru b.bad)]), (6, [nt 0, nt 0, nt 0, .v (tru false)]), (7, [nt 0, nt 0, nt 0, .v (tru true)]), (11, [nt (F a.v b.v 0).1, nt (loK F ps (k + 1)), nt (hiK F ps (k + 1)), .v (tru false)])], [], [], [], 0, nomem⟩) ?_ ?_ ?_
          rotate_left
          · intro h
            have h' := of_decide_eq_true h
            rw [if_pos h'] at s2
            rw [s2]
            simp -implicitDefEqProofs (maxSteps := 10000000) only [rkA, rkB, stepA, valA, simprocAttr]
            exact slots_of rfl
          · intro h
            have h' := of_decide_eq_false h
            rw [if_neg h'] at s2
            rw [s2]
            simp -implicitDefEqProofs (maxSteps := 10000000) only [rkA, rkB, stepA, valA, simprocAttr]
            exact slots_of rfl
          rintro s ⟨f, rfl⟩
          simp -implicitDefEqProofs (maxSteps := 10000000) only [hw, rkA, rkB, stepA, valA, simprocAttr]
          refine loopK_of (m' := j) hjm ?_
          simp -implicitDefEqProofs (maxSteps := 10000000) only [rkA, rkB, stepA, valA, simprocAttr]
          exact ⟨k + 1, hj, by rw [hB']; simp only [Int.natCast_add, Int.natCast_one]⟩
      · have hkl : ps.take k = ps := List.take_of_length_le (by omega)
        rw [hkl]
        have hl : loK F ps k = minL (ps.map fun p => (F p.1 p.2 1).1) := by unfold loK; rw [hkl]
        have hh : hiK F ps k = maxL (ps.map fun p => (F p.1 p.2 2).1) := by unfold hiK; rw [hkl]
        cases hB : ((F a.v b.v 0).2 && ps.all (okP F)) with
        | false =>
          have hm : madeE F a b ps = .wrong := by unfold madeE; rw [if_neg (by rw [hB]; rintro ⟨h, _⟩; cases h)]
          rw [hm]
          simp -implicitDefEqProofs (maxSteps := 10000000) only [rkA, rkB, stepA, valA, simprocAttr]
        | true =>
          have hm : madeE F a b ps = ⟨(F a.v b.v 0).1, loK F ps k, hiK F ps k, false⟩ := by unfold madeE; rw [if_pos ⟨hB, ha, hb⟩, hl, hh]
          rw [hm]
          simp -implicitDefEqProofs (maxSteps := 10000000) only [rkA, rkB, stepA, valA, simprocAttr]
  · have hd : divF a b = madeE divX a b [(a.lo, b.lo), (a.lo, b.hi), (a.hi, b.lo), (a.hi, b.hi)] := if_neg (fun h => h1 h.1)
    rw [hd]
    simp -implicitDefEqProofs (maxSteps := 10000000) only [h1, rkA, rkB, stepA, valA, simprocAttr]
    obtain ⟨F, hFd⟩ : ∃ F : Int → Int → Int → Int × Bool, F = divX := ⟨_, rfl⟩
    have hF : ∀ x y m, 0 ≤ m ∧ m ≤ 2 → Ok Tryz.prog 152 [num 3, num x, num y, num m] (.tup [num (F x y m).1, tru (F x y m).2]) := fun x y m hm => by rw [hFd]; exact ok152d x y m
    obtain ⟨ps, hps⟩ : ∃ ps : List (Int × Int), ps = [(a.lo, b.lo), (a.lo, b.hi), (a.hi, b.lo), (a.hi, b.hi)] := ⟨_, rfl⟩
    have hpl : ps.length = 4 := by rw [hps]; rfl
    rw [← hFd, ← hps]
    clear hFd
    refine call_fn rfl rfl rfl (hF a.v b.v 0 (by omega)) ?_
    simp -implicitDefEqProofs (maxSteps := 10000000) only [rkA, rkB, stepA, valA, simprocAttr]
    refine wp_loop (fun m s => ∃ (k : Nat), k + m = ps.length ∧ s = ⟨[.v (num 3), jk, jk, jk, jk, jk, .ptr 6 0, .ptr 7 0, .v (.sl true (ps.map prS)), jk, .v (tru ((F a.v b.v 0).2 && (ps.take k).all (okP F))), .ptr 11 0, nt k, jk, jk, jk, jk, jk, jk, jk, jk, jk, jk, jk, jk, jk, jk, jk, jk, jk, jk, jk, jk, jk, jk, jk, jk, jk, jk, jk, jk, jk, jk, jk, jk, jk, jk, jk, jk, jk, jk, jk, jk, jk, jk, jk, jk, jk, jk, jk, jk, jk, jk, jk, jk, jk, jk, jk, jk, jk, jk, jk, jk, jk, jk, jk, jk, jk, jk, jk, jk, jk, jk, jk, jk, jk, jk, jk, jk, jk, jk, jk, jk, jk, jk, jk, jk, jk, jk, jk, jk, jk, jk, jk, jk, jk, jk, jk, jk, jk, jk, jk, jk, jk, jk, jk, jk, jk, jk, jk, jk, jk, jk, jk, jk, jk, jk, jk, jk, jk, jk, jk, jk, jk, jk, jk, jk, jk, jk, jk, jk, jk, jk, jk, jk, jk, jk, jk, jk, jk, jk, jk, jk, jk, jk, jk, jk, jk, jk, jk, jk, jk, jk, jk, jk, jk, jk, jk, jk, jk, jk, jk, jk, jk], [(4, [nt a.v, nt a.lo, nt a.hi, .v (tru a.bad)]), (5, [nt b.v, nt b.lo, nt b.hi, .v (tru b.bad)]), (6, [nt 0, nt 0, nt 0, .v (tru false)]), (7, [nt 0, nt 0, nt 0, .v (tru true)]), (11, [nt (F a.v b.v 0).1, nt (loK F ps k), nt (hiK F ps k), .v (tru false)])], [], [], [], 0, nomem⟩) ps.length ?_ ?_
    · simp -implicitDefEqProofs (maxSteps := 10000000) only [rkA, rkB, stepA, valA, simprocAttr]
      refine ⟨0, by omega, ?_⟩
      rw [List.take_zero, List.all_nil, Bool.and_true, hps]
      rfl
    have lps : (ps.map prS).length = ps.length := by simp
    rintro m s ⟨k, hk, rfl⟩
    simp -implicitDefEqProofs (maxSteps := 10000000) only [lps, rkA, rkB, stepA, valA, simprocAttr]
    refine gB_dec ?_ ?_ <;> intro hc <;> simp -implicitDefEqProofs (maxSteps := 10000000) only [hc, rkA, rkB, stepA, valA, simprocAttr]
    · have hlt : k < ps.length := by omega
      obtain ⟨p, hp⟩ : ∃ p, ps[k]? = some p := ⟨ps[k], List.getElem?_eq_getElem hlt⟩
      have hg : (ps.map prS)[k]? = some (prS p) := by rw [List.getElem?_map, hp]; rfl
      have h0 := nat0 k
      have hw := wrapped (x := (k : Int) + 1) (by omega) (by omega)
      have s1 := loK_succ (F := F) hp
      have s2 := hiK_succ (F := F) hp
      have s3 := all_succ (F := F) hp (F a.v b.v 0).2
      simp -implicitDefEqProofs (maxSteps := 10000000) only [h0, Int.toNat_natCast, hg, rkA, rkB, stepA, valA, simprocAttr]
      refine call_fn rfl rfl rfl (hF p.1 p.2 1 (by omega)) ?_
      simp -implicitDefEqProofs (maxSteps := 10000000) only [h0, Int.toNat_natCast, hg, rkA, rkB, stepA, valA, simprocAttr]
      refine call_fn rfl rfl rfl (hF p.1 p.2 2 (by omega)) ?_
      generalize ((F a.v b.v 0).2 && (ps.take k).all (okP F)) = B at *
      generalize hB' : ((F a.v b.v 0).2 && (ps.take (k + 1)).all (okP F)) = B' at s3
      generalize F p.1 p.2 1 = X at *
      generalize F p.1 p.2 2 = Y at *
      obtain ⟨x, is⟩ := X
      obtain ⟨y, has⟩ := Y
      simp only at s1 s2 s3
      obtain ⟨j, hj, hjm⟩ : ∃ j, k + 1 + j = ps.length ∧ j < m := ⟨m - 1, by omega, by omega⟩
      simp -implicitDefEqProofs (maxSteps := 10000000) only [rkA, rkB, stepA, valA, simprocAttr]
      refine guard_join (fun s => ∃ f : Nat → TV, s = ⟨[.v (num 3), jk, jk, jk, jk, jk, .ptr 6 0, .ptr 7 0, .v (.sl true (ps.map prS)), jk, .v (tru B'), .ptr 11 0, nt k, nt x, .v (tru is), nt y, .v (tru has), jk, jk, jk, jk, jk, jk, jk, jk, jk, jk, jk, jk, jk, jk, jk, jk, jk, jk, jk, jk, jk, jk, jk, jk, jk, jk, jk, jk, jk, jk, jk, jk, jk, jk, jk, jk, jk, jk, jk, jk, jk, jk, jk, jk, jk, jk, jk, jk, jk, jk, jk, jk, jk, jk, jk, jk, jk, jk, jk, jk, jk, jk, jk, jk, jk, jk, jk, jk, jk, jk, jk, jk, jk, jk, jk, jk, jk, jk, jk, jk, jk, jk, jk, jk, jk, jk, f 103, f 104, f 105, f 106, jk, jk, f 109, f 110, f 111, f 112, f 113, f 114, f 115, f 116, f 117, f 118, f 119, f 120, f 121, f 122, f 123, f 124, f 125, f 126, f 127, f 128, f 129, f 130, f 131, f 132, f 133, f 134, f 135, f 136, f 137, f 138, f 139, f 140, f 141, f 142, f 143, f 144, f 145, f 146, f 147, f 148, f 149, jk, jk, jk, jk, jk, jk, jk, jk, jk, jk, jk, jk, jk, jk, jk, jk, jk, jk, jk, jk, jk, jk, jk, jk], [(4, [nt a.v, nt a.lo, nt a.hi, .v (tru a.bad)]), (5, [nt b.v, nt b.lo, nt b.hi, .v (tru b.bad)]), (6, [nt 0, nt 0, nt 0, .v (tru false)]), (7, [nt 0, nt 0, nt 0, .v (tru true)]), (11, [nt (F a.v b.v 0).1, nt (loK F ps k), nt (hiK F ps k), .v (tru false)])], [], [], [], 0, nomem⟩) ?_ ?_
      rotate_left
      · cases B with
        | false =>
          simp only [Bool.false_and] at s3
          subst s3
          simp -implicitDefEqProofs (maxSteps := 10000000) only [rkA, rkB, stepA, valA, simprocAttr]
          exact slots_of rfl
        | true =>
          cases is with
          | false =>
            simp only [Bool.false_and, Bool.and_false] at s3
            subst s3
            simp -implicitDefEqProofs (maxSteps := 10000000) only [rkA, rkB, stepA, valA, simprocAttr]
            exact slots_of rfl
          | true =>
            simp only [Bool.true_and] at s3
            subst s3
            simp -implicitDefEqProofs (maxSteps := 10000000) only [rkA, rkB, stepA, valA, simprocAttr]
            exact slots_of rfl
      rintro s ⟨f, rfl⟩
      clear s3
      simp -implicitDefEqProofs (maxSteps := 10000000) only [rkA, rkB, stepA, valA, simprocAttr]
      by_cases hk0 : k = 0
      · subst hk0
        rw [if_pos rfl] at s1 s2
        have hw1 : IntKind.wrap .i64 1 = 1 := rfl
        simp -implicitDefEqProofs (maxSteps := 10000000) only [hw1, Int.natCast_zero, rkA, rkB, stepA, valA, simprocAttr]
        refine loopK_of (m' := j) hjm ?_
        simp -implicitDefEqProofs (maxSteps := 10000000) only [rkA, rkB, stepA, valA, simprocAttr]
        exact ⟨0 + 1, hj, by rw [s1, s2, hB']; rfl⟩
      · rw [if_neg hk0] at s1 s2
        have e0 : ((k : Int) == 0) = false := by simp; omega
        simp -implicitDefEqProofs (maxSteps := 10000000) only [e0, rkA, rkB, stepA, valA, simprocAttr]
        refine cond_join (fun s => ∃ f : Nat → TV, s = ⟨[.v (num 3), jk, jk, jk, jk, jk, .ptr 6 0, .ptr 7 0, .v (.sl true (ps.map prS)), jk, .v (tru B'), .ptr 11 0, nt k, nt x, .v (tru is), nt y, .v (tru has), jk, jk, jk, jk, jk, jk, jk, jk, jk, jk, jk, jk, jk, jk, jk, jk, jk, jk, jk, jk, jk, jk, jk, jk, jk, jk, jk, jk, jk, jk, jk, jk, jk, jk, jk, jk, jk, jk, jk, jk, jk, jk, jk, jk, jk, jk, jk, jk, jk, jk, jk, jk, jk, jk, jk, jk, jk, jk, jk, jk, jk, jk, jk, jk, jk, jk, jk, jk, jk, jk, jk, jk, jk, jk, jk, jk, jk, jk, jk, jk, jk, jk, jk, jk, jk, jk, f 103, f 104, f 105, f 106, jk, jk, f 109, f 110, f 111, f 112, f 113, f 114, f 115, f 116, f 117, f 118, f 119, f 120, f 121, f 122, f 123, f 124, f 125, f 126, f 127, f 128, f 129, f 130, f 131, f 132, f 133, f 134, f 135, f 136, f 137, f 138, f 139, f 140, f 141, f 142, f 143, f 144, f 145, f 146, f 147, f 148, f 149, f 150, f 151, f 152, f 153, f 154, f 155, f 156, f 157, f 158, f 159, jk, jk, jk, jk, jk, jk, jk, jk, jk, jk, jk, jk, jk, jk], [(4, [nt a.v, nt a.lo, nt a.hi, .v (tru a.bad)]), (5, [nt b.v, nt b.lo, nt b.hi, .v (tru b.bad)]), (6, [nt 0, nt 0, nt 0, .v (tru false)]), (7, [nt 0, nt 0, nt 0, .v (tru true)]), (11, [nt (F a.v b.v 0).1, nt (loK F ps (k + 1)), nt (hiK F ps k), .v (tru false)])], [], [], [], 0, nomem⟩) ?_ ?_ ?_
        rotate_left
        · intro h
          have h' := of_decide_eq_true h
          rw [if_pos h'] at s1
          rw [s1]
          simp -implicitDefEqProofs (maxSteps := 10000000) only [rkA, rkB, stepA, valA, simprocAttr]
          exact slots_of rfl
        · intro h
          have h' := of_decide_eq_false h
          rw [if_neg h'] at s1
          rw [s1]
          simp -implicitDefEqProofs (maxSteps := 10000000) only [rkA, rkB, stepA, valA, simprocAttr]
          exact slots_of rfl
        rintro s ⟨f, rfl⟩
        simp -implicitDefEqProofs (maxSteps := 10000000) only [e0, rkA, rkB, stepA, valA, simprocAttr]
        refine cond_join (fun s => ∃ f : Nat → TV, s = ⟨[.v (num 3), jk, jk, jk, jk, jk, .ptr 6 0, .ptr 7 0, .v (.sl true (ps.map prS)), jk, .v (tru B'), .ptr 11 0, nt k, nt x, .v (tru is), nt y, .v (tru has), jk, jk, jk, jk, jk, jk, jk, jk, jk, jk, jk, jk, jk, jk, jk, jk, jk, jk, jk, jk, jk, jk, jk, jk, jk, jk, jk, jk, jk, jk, jk, jk, jk, jk, jk, jk, jk, jk, jk, jk, jk, jk, jk, jk, jk, jk, jk, jk, jk, jk, jk, jk, jk, jk, jk, jk, jk, jk, jk, jk, jk, jk, jk, jk, jk, jk, jk, jk, jk, jk, jk, jk, jk, jk, jk, jk, jk, jk, jk, jk, jk, jk, jk, jk, jk, jk, f 103, f 104, f 105, f 106, jk, jk, f 109, f 110, f 111, f 112, f 113, f 114, f 115, f 116, f 117, f 118, f 119, f 120, f 121, f 122, f 123, f 124, f 125, f 126, f 127, f 128, f 129, f 130, f 131, f 132, f 133, f 134, f 135, f 136, f 137, f 138, f 139, f 140, f 141, f 142, f 143, f 144, f 145, f 146, f 147, f 148, f 149, f 150, f 151, f 152, f 153, f 154, f 155, f 156, f 157, f 158, f 159, f 160, f 161, f 162, f 163, f 164, f 165, f 166, f 167, f 168, f 169, jk, jk, jk, jk], [(4, [nt a.v, nt a.lo, nt a.hi, .v (tru a.bad)]), (5, [nt b.v, nt b.lo, nt b.hi, .v (tru b.bad)]), (6, [nt 0, nt 0, nt 0, .v (tru false)]), (7, [nt 0, nt 0, nt 0, .v (tru true)]), (11, [nt (F a.v b.v 0).1, nt (loK F ps (k + 1)), nt (hiK F ps (k + 1)), .v (tru false)])], [], [], [], 0, nomem⟩) ?_ ?_ ?_
        rotate_left
        · intro h
          have h' := of_decide_eq_true h
          rw [if_pos h'] at s2
          rw [s2]
          simp -implicitDefEqProofs (maxSteps := 10000000) only [rkA, rkB, stepA, valA, simprocAttr]
          exact slots_of rfl
        · intro h
          have h' := of_decide_eq_false h
          rw [if_neg h'] at s2
          rw [s2]
          simp -implicitDefEqProofs (maxSteps := 10000000) only [rkA, rkB, stepA, valA, simprocAttr]
          exact slots_of rfl
        rintro s ⟨f, rfl⟩
        simp -implicitDefEqProofs (maxSteps := 10000000) only [hw, rkA, rkB, stepA, valA, simprocAttr]
        refine loopK_of (m' := j) hjm ?_
        simp -implicitDefEqProofs (maxSteps := 10000000) only [rkA, rkB, stepA, valA, simprocAttr]
        exact ⟨k + 1, hj, by rw [hB']; simp only [Int.natCast_add, Int.natCast_one]⟩
    · have hkl : ps.take k = ps := List.take_of_length_le (by omega)
      rw [hkl]
      have hl : loK F ps k = minL (ps.map fun p => (F p.1 p.2 1).1) := by unfold loK; rw [hkl]
      have hh : hiK F ps k = maxL (ps.map fun p => (F p.1 p.2 2).1) := by unfold hiK; rw [hkl]
      cases hB : ((F a.v b.v 0).2 && ps.all (okP F)) with
      | false =>
        have hm : madeE F a b ps = .wrong := by unfold madeE; rw [if_neg (by rw [hB]; rintro ⟨h, _⟩; cases h)]
        rw [hm]
        simp -implicitDefEqProofs (maxSteps := 10000000) only [rkA, rkB, stepA, valA, simprocAttr]
      | true =>
        have hm : madeE F a b ps = ⟨(F a.v b.v 0).1, loK F ps k, hiK F ps k, false⟩ := by unfold madeE; rw [if_pos ⟨hB, ha, hb⟩, hl, hh]
        rw [hm]
        simp -implicitDefEqProofs (maxSteps := 10000000) only [rkA, rkB, stepA, valA, simprocAttr]
end Go.Proofs.YtahcpmhgcppdcaaGreat.A.E



set_option linter.unusedVariables false
set_option linter.unusedSimpArgs false
set_option maxRecDepth 100000
namespace Go.Proofs.YtahcpmhgcppdcaaGreat.A.E
open Go Go.RowKit Go.Shelf

end Go.Proofs.YtahcpmhgcppdcaaGreat.A.E


set_option linter.unusedVariables false
set_option linter.unusedSimpArgs false
set_option maxRecDepth 100000
namespace Go.Proofs.YtahcpmhgcppdcaaGreat.A.E
open Go Go.RowKit Go.Shelf

theorem ok128 (n : Int) : Ok Tryz.prog 128 [num n] (tru (decide (1 ≤ n ∧ n ≤ 16))) := by
  refine ok_fn mixed Tryz.func128 (code := ?_) (h := h128) ?_ k128 ?_
  rotate_left
  · exact rfl
  unfold h128 initS
  simp -implicitDefEqProofs only [rkA, rkB, stepA, valA, simprocAttr, Tryz.ntmps128, Tryz.results128]
  repeat' (refine gB_dec ?_ ?_ <;> intro hc <;> first | (exfalso; omega) | simp -implicitDefEqProofs only [hc, rkA, rkB, stepA, valA, simprocAttr])

end Go.Proofs.YtahcpmhgcppdcaaGreat.A.E


