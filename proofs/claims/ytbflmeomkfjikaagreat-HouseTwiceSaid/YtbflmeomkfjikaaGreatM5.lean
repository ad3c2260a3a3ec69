import Derived.Test.YtbflmeomkfjikaaGreatM4
set_option linter.unusedVariables false
set_option linter.unusedSimpArgs false
set_option maxRecDepth 100000
namespace Go.Proofs.YtbflmeomkfjikaaGreat.A.E
open Go Go.RowKit Go.Shelf

/-! ### Enclosed numbers -/
structure Fr where
  v : Int
  lo : Int
  hi : Int
  bad : Bool
  deriving DecidableEq
abbrev frV (x : Fr) : PV := .agg [num x.v, num x.lo, num x.hi, tru x.bad]
abbrev Fr.wrong : Fr := ⟨0, 0, 0, true⟩
def Fr.fine (x : Fr) : Bool := !x.bad && (rightX x.lo && (rightX x.hi && (decide (x.lo ≤ x.v) && decide (x.v ≤ x.hi))))
theorem ok84 (x : Fr) : Ok Tryz.prog 84 [frV x] (tru x.fine) := by
  refine ok_fn mixed Tryz.func84 (code := ?_) (h := h84) ?_ k84 ?_
  rotate_left
  · exact rfl
  unfold h84 initS
  simp -implicitDefEqProofs (maxSteps := 10000000) only [rkA, rkB, stepA, valA, simprocAttr, Tryz.ntmps84, Tryz.results84]
  cases hb : x.bad with
  | true => simp -implicitDefEqProofs (maxSteps := 10000000) only [Fr.fine, hb, rkA, rkB, stepA, valA, simprocAttr]
  | false =>
    simp -implicitDefEqProofs (maxSteps := 10000000) only [rkA, rkB, stepA, valA, simprocAttr]
    refine call_fn rfl rfl rfl (ok111 x.lo) ?_
    cases h1 : rightX x.lo with
    | false => simp -implicitDefEqProofs (maxSteps := 10000000) only [Fr.fine, hb, h1, rkA, rkB, stepA, valA, simprocAttr]
    | true =>
      simp -implicitDefEqProofs (maxSteps := 10000000) only [rkA, rkB, stepA, valA, simprocAttr]
      refine call_fn rfl rfl rfl (ok111 x.hi) ?_
      cases h2 : rightX x.hi with
      | false => simp -implicitDefEqProofs (maxSteps := 10000000) only [Fr.fine, hb, h1, h2, rkA, rkB, stepA, valA, simprocAttr]
      | true =>
        simp -implicitDefEqProofs (maxSteps := 10000000) only [rkA, rkB, stepA, valA, simprocAttr]
        by_cases h3 : x.lo ≤ x.v
        · simp -implicitDefEqProofs (maxSteps := 10000000) only [Fr.fine, hb, h1, h2, h3, rkA, rkB, stepA, valA, simprocAttr]
        · simp -implicitDefEqProofs (maxSteps := 10000000) only [Fr.fine, hb, h1, h2, h3, rkA, rkB, stepA, valA, simprocAttr]
theorem ok112 : Ok Tryz.prog 112 [] (frV .wrong) := by
  refine ok_fn mixed Tryz.func112 (code := ?_) (h := h112) ?_ k112 ?_
  rotate_left
  · exact rfl
  unfold h112 initS
  simp -implicitDefEqProofs (maxSteps := 10000000) only [rkA, rkB, stepA, valA, simprocAttr, Tryz.ntmps112, Tryz.results112]
def point (n : Int) : Fr := if rightX n = true then ⟨n, n, n, false⟩ else .wrong
theorem ok53 (n : Int) : Ok Tryz.prog 53 [num n] (frV (point n)) := by
  refine ok_fn mixed Tryz.func53 (code := ?_) (h := h53) ?_ k53 ?_
  rotate_left
  · exact rfl
  unfold h53 initS
  simp -implicitDefEqProofs (maxSteps := 10000000) only [rkA, rkB, stepA, valA, simprocAttr, Tryz.ntmps53, Tryz.results53]
  refine call_fn rfl rfl rfl (ok111 n) ?_
  cases h : rightX n with
  | false =>
    simp -implicitDefEqProofs (maxSteps := 10000000) only [rkA, rkB, stepA, valA, simprocAttr]
    refine call_fn rfl rfl rfl (ok112) ?_
    simp -implicitDefEqProofs (maxSteps := 10000000) only [point, h, rkA, rkB, stepA, valA, simprocAttr]
  | true => simp -implicitDefEqProofs (maxSteps := 10000000) only [point, h, rkA, rkB, stepA, valA, simprocAttr]
/-- A whole number. -/
def newF (n _d : Int) : Fr := if (ofX n).2 = true then point (ofX n).1 else .wrong
theorem ok56 (a : Fr) (n : Int) : Ok Tryz.prog 56 [frV a, num n] (frV (newF n 1)) := by
  refine ok_fn mixed Tryz.func56 (code := ?_) (h := h56) ?_ k56 ?_
  rotate_left
  · exact rfl
  unfold h56 initS
  simp -implicitDefEqProofs (maxSteps := 10000000) only [rkA, rkB, stepA, valA, simprocAttr, Tryz.ntmps56, Tryz.results56]
  refine call_fn rfl rfl rfl (ok117 n) ?_
  simp -implicitDefEqProofs (maxSteps := 10000000) only [rkA, rkB, stepA, valA, simprocAttr]
  cases h : (ofX n).2 with
  | false =>
    simp -implicitDefEqProofs (maxSteps := 10000000) only [rkA, rkB, stepA, valA, simprocAttr]
    refine call_fn rfl rfl rfl (ok112) ?_
    simp -implicitDefEqProofs (maxSteps := 10000000) only [newF, h, rkA, rkB, stepA, valA, simprocAttr]
  | true =>
    simp -implicitDefEqProofs (maxSteps := 10000000) only [rkA, rkB, stepA, valA, simprocAttr]
    refine call_fn rfl rfl rfl (ok53 (ofX n).1) ?_
    simp -implicitDefEqProofs (maxSteps := 10000000) only [newF, h, rkA, rkB, stepA, valA, simprocAttr]

def minL : List Int → Int
  | [] => 0
  | x :: l => l.foldl (fun m y => if y < m then y else m) x
def maxL : List Int → Int
  | [] => 0
  | x :: l => l.foldl (fun m y => if m < y then y else m) x
theorem ok153 (ex : Bool) (l : List Int) (h : l ≠ []) (hl : l.length ≤ 1000) : Ok Tryz.prog 153 [.sl ex (l.map num)] (num (minL l)) := by
  obtain ⟨x, l, rfl⟩ : ∃ x t, l = x :: t := by cases l with | nil => exact absurd rfl h | cons x t => exact ⟨x, t, rfl⟩
  simp only [List.length_cons] at hl
  have c : ¬ (((l.length + 1 : Nat) : Int) < 1) := by omega
  have hlen : ((x :: l).map num).length = l.length + 1 := by simp
  have g0 : ((x :: l).map num)[0]? = some (num x) := rfl
  have hres : minL (x :: l) = l.foldl (fun m y => if y < m then y else m) x := rfl
  generalize hL : (x :: l).map num = L at *
  refine ok_fn mixed Tryz.func153 (code := ?_) (h := h153) ?_ k153 ?_
  rotate_left
  · exact rfl
  unfold h153 initS
  simp -implicitDefEqProofs (maxSteps := 10000000) only [rkA, rkB, stepA, valA, simprocAttr, Tryz.ntmps153, Tryz.results153]
  simp -implicitDefEqProofs (maxSteps := 10000000) only [hlen, c, g0, rkA, rkB, stepA, valA, simprocAttr]
  refine wp_loop (fun m s => ∃ i : Nat, i + m = l.length ∧ s = ⟨[.v (.sl ex L), jk, jk, nt ((l.take i).foldl (fun m y => if y < m then y else m) x), nt ((i + 1 : Nat) : Int), jk, jk, jk, jk, jk, jk, jk, jk, jk, jk, jk, jk, jk, jk, jk, jk, jk, jk, jk, jk], [], [], [], [], 0, nomem⟩) l.length ?_ ?_
  · simp -implicitDefEqProofs (maxSteps := 10000000) only [rkA, rkB, stepA, valA, simprocAttr]
    exact ⟨0, by simp, rfl⟩
  rintro m s ⟨i, hi, rfl⟩
  simp -implicitDefEqProofs (maxSteps := 10000000) only [hlen, rkA, rkB, stepA, valA, simprocAttr]
  refine gB_dec ?_ ?_ <;> intro hc <;> simp -implicitDefEqProofs (maxSteps := 10000000) only [hc, rkA, rkB, stepA, valA, simprocAttr]
  · have hlt : i < l.length := by omega
    have h0 : (0 : Int) ≤ ((i + 1 : Nat) : Int) := by omega
    have hg : L[i + 1]? = some (num l[i]) := by rw [← hL]; simp [hlt]
    have hw := wrapped (x := ((i + 1 : Nat) : Int) + 1) (by omega) (by omega)
    simp -implicitDefEqProofs (maxSteps := 10000000) only [h0, Int.toNat_natCast, hg, rkA, rkB, stepA, valA, simprocAttr]
    simp -implicitDefEqProofs (maxSteps := 10000000) only [hw, rkA, rkB, stepA, valA, simprocAttr]
    refine loopK_of (m' := m - 1) (by omega) ?_
    simp -implicitDefEqProofs (maxSteps := 10000000) only [rkA, rkB, stepA, valA, simprocAttr]
    refine ⟨i + 1, by omega, ?_⟩
    rw [List.take_succ_eq_append_getElem hlt, List.foldl_append]
    simp only [List.foldl_cons, List.foldl_nil, Int.natCast_add, Int.natCast_one]
  · have hin : l.length ≤ i := by omega
    rw [List.take_of_length_le hin, hres]
theorem ok154 (ex : Bool) (l : List Int) (h : l ≠ []) (hl : l.length ≤ 1000) : Ok Tryz.prog 154 [.sl ex (l.map num)] (num (maxL l)) := by
  obtain ⟨x, l, rfl⟩ : ∃ x t, l = x :: t := by cases l with | nil => exact absurd rfl h | cons x t => exact ⟨x, t, rfl⟩
  simp only [List.length_cons] at hl
  have c : ¬ (((l.length + 1 : Nat) : Int) < 1) := by omega
  have hlen : ((x :: l).map num).length = l.length + 1 := by simp
  have g0 : ((x :: l).map num)[0]? = some (num x) := rfl
  have hres : maxL (x :: l) = l.foldl (fun m y => if m < y then y else m) x := rfl
  generalize hL : (x :: l).map num = L at *
  refine ok_fn mixed Tryz.func154 (code := ?_) (h := h154) ?_ k154 ?_
  rotate_left
  · exact rfl
  unfold h154 initS
  simp -implicitDefEqProofs (maxSteps := 10000000) only [rkA, rkB, stepA, valA, simprocAttr, Tryz.ntmps154, Tryz.results154]
  simp -implicitDefEqProofs (maxSteps := 10000000) only [hlen, c, g0, rkA, rkB, stepA, valA, simprocAttr]
  refine wp_loop (fun m s => ∃ i : Nat, i + m = l.length ∧ s = ⟨[.v (.sl ex L), jk, jk, nt ((l.take i).foldl (fun m y => if m < y then y else m) x), nt ((i + 1 : Nat) : Int), jk, jk, jk, jk, jk, jk, jk, jk, jk, jk, jk, jk, jk, jk, jk, jk, jk, jk, jk, jk], [], [], [], [], 0, nomem⟩) l.length ?_ ?_
  · simp -implicitDefEqProofs (maxSteps := 10000000) only [rkA, rkB, stepA, valA, simprocAttr]
    exact ⟨0, by simp, rfl⟩
  rintro m s ⟨i, hi, rfl⟩
  simp -implicitDefEqProofs (maxSteps := 10000000) only [hlen, rkA, rkB, stepA, valA, simprocAttr]
  refine gB_dec ?_ ?_ <;> intro hc <;> simp -implicitDefEqProofs (maxSteps := 10000000) only [hc, rkA, rkB, stepA, valA, simprocAttr]
  · have hlt : i < l.length := by omega
    have h0 : (0 : Int) ≤ ((i + 1 : Nat) : Int) := by omega
    have hg : L[i + 1]? = some (num l[i]) := by rw [← hL]; simp [hlt]
    have hw := wrapped (x := ((i + 1 : Nat) : Int) + 1) (by omega) (by omega)
    simp -implicitDefEqProofs (maxSteps := 10000000) only [h0, Int.toNat_natCast, hg, rkA, rkB, stepA, valA, simprocAttr]
    simp -implicitDefEqProofs (maxSteps := 10000000) only [hw, rkA, rkB, stepA, valA, simprocAttr]
    refine loopK_of (m' := m - 1) (by omega) ?_
    simp -implicitDefEqProofs (maxSteps := 10000000) only [rkA, rkB, stepA, valA, simprocAttr]
    refine ⟨i + 1, by omega, ?_⟩
    rw [List.take_succ_eq_append_getElem hlt, List.foldl_append]
    simp only [List.foldl_cons, List.foldl_nil, Int.natCast_add, Int.natCast_one]
  · have hin : l.length ≤ i := by omega
    rw [List.take_of_length_le hin, hres]

/-! ### What is told of values, and of pairs of bounds -/
abbrev prV (p : Int × Int) : PV := .agg [num p.1, num p.2]
def okP (F : Int → Int → Int → Int × Bool) (p : Int × Int) : Bool := (F p.1 p.2 1).2 && (F p.1 p.2 2).2
def madeE (F : Int → Int → Int → Int × Bool) (a b : Fr) (ps : List (Int × Int)) : Fr :=
  if ((F a.v b.v 0).2 && ps.all (okP F)) = true ∧ a.fine = true ∧ b.fine = true then ⟨(F a.v b.v 0).1, minL (ps.map fun p => (F p.1 p.2 1).1), maxL (ps.map fun p => (F p.1 p.2 2).1), false⟩ else .wrong
theorem ok103 (k : Nat) (F : Int → Int → Int → Int × Bool) (hF : ∀ x y m, Ok Tryz.prog k [num x, num y, num m] (.tup [num (F x y m).1, tru (F x y m).2])) (a b : Fr) (ex : Bool) (ps : List (Int × Int)) (h1 : ps ≠ []) (h2 : ps.length ≤ 4) :
    Ok Tryz.prog 103 [frV a, frV b, .fn (.func k) [], .sl ex (ps.map prV)] (frV (madeE F a b ps)) := by
  have hl : (ps.map prV).length = ps.length := by simp
  refine ok_fn mixed Tryz.func103 (code := ?_) (h := h103) ?_ k103 ?_
  rotate_left
  · exact rfl
  unfold h103 initS
  simp -implicitDefEqProofs (maxSteps := 10000000) only [rkA, rkB, stepA, valA, simprocAttr, Tryz.ntmps103, Tryz.results103]
  refine call_fn rfl rfl rfl (hF a.v b.v 0) ?_
  simp -implicitDefEqProofs (maxSteps := 10000000) only [rkA, rkB, stepA, valA, simprocAttr]
  refine wp_loop (fun m s => ∃ i : Nat, i + m = ps.length ∧ s = ⟨[jk, jk, .v (.fn (.func k) []), jk, .ptr 4 0, .ptr 5 0, jk, jk, .ptr 8 0, nt (F a.v b.v 0).1, .v (tru ((F a.v b.v 0).2 && (ps.take i).all (okP F))), .acc 11 ((ps.take i).map fun p => num (F p.1 p.2 1).1), .acc 12 ((ps.take i).map fun p => num (F p.1 p.2 2).1), jk, jk, jk, jk, jk, jk, jk, jk, jk, jk, jk, jk, jk, jk, jk, .v (.sl ex (ps.map prV)), nt ps.length, nt i, jk, jk, jk, jk, jk, jk, jk, jk, jk, jk, jk, jk, jk, jk, jk, jk, jk, jk, jk, jk, jk, jk, jk, jk, jk, jk, jk, jk, jk, jk, jk, jk, jk, jk, jk, jk, jk, jk, jk, jk, jk, jk, jk, jk, jk, jk, jk, jk, jk, jk, jk, jk, jk, jk, jk, jk],
    [(4, [nt a.v, nt a.lo, nt a.hi, .v (tru a.bad)]), (5, [nt b.v, nt b.lo, nt b.hi, .v (tru b.bad)]), (8, [nt 0, nt 0, nt 0, .v (tru false)])], [], [(11, i), (12, i)], [], 0, nomem⟩) ps.length ?_ ?_
  · simp -implicitDefEqProofs (maxSteps := 10000000) only [hl, rkA, rkB, stepA, valA, simprocAttr]
    refine ⟨0, by simp, ?_⟩
    simp
  rintro m s ⟨i, hi, rfl⟩
  simp -implicitDefEqProofs (maxSteps := 10000000) only [rkA, rkB, stepA, valA, simprocAttr]
  refine gB_dec ?_ ?_ <;> intro hc <;> simp -implicitDefEqProofs (maxSteps := 10000000) only [hc, rkA, rkB, stepA, valA, simprocAttr]
  · have hlt : i < ps.length := by omega
    have h0 : (0 : Int) ≤ (i : Int) := by omega
    have hg : (ps.map prV)[i]? = some (prV ps[i]) := by simp [hlt]
    simp -implicitDefEqProofs (maxSteps := 10000000) only [h0, Int.toNat_natCast, hg, rkA, rkB, stepA, valA, simprocAttr]
    refine call_fn rfl rfl rfl (hF ps[i].1 ps[i].2 1) ?_
    simp -implicitDefEqProofs (maxSteps := 10000000) only [rkA, rkB, stepA, valA, simprocAttr]
    refine call_fn rfl rfl rfl (hF ps[i].1 ps[i].2 2) ?_
    simp -implicitDefEqProofs (maxSteps := 10000000) only [rkA, rkB, stepA, valA, simprocAttr]
    have f1 : fits 1 8 ((ps.take i).map fun p => num (F p.1 p.2 1).1) [num (F ps[i].1 ps[i].2 1).1] = true := by
      have := fits_num (k := (ps.take i).map fun p => (F p.1 p.2 1).1) (l := [(F ps[i].1 ps[i].2 1).1]) (by simp; omega)
      simpa [Function.comp_def] using this
    have f2 : fits 1 8 ((ps.take i).map fun p => num (F p.1 p.2 2).1) [num (F ps[i].1 ps[i].2 2).1] = true := by
      have := fits_num (k := (ps.take i).map fun p => (F p.1 p.2 2).1) (l := [(F ps[i].1 ps[i].2 2).1]) (by simp; omega)
      simpa [Function.comp_def] using this
    have l1 : ((ps.take i).map fun p => num (F p.1 p.2 1).1).length = i := by simp; omega
    have l2 : ((ps.take i).map fun p => num (F p.1 p.2 2).1).length = i := by simp; omega
    have hw := wrapped (x := (i : Int) + 1) (by omega) (by omega)
    have hall : (ps.take (i + 1)).all (okP F) = ((ps.take i).all (okP F) && ((F ps[i].1 ps[i].2 1).2 && (F ps[i].1 ps[i].2 2).2)) := by
      rw [List.take_succ_eq_append_getElem hlt, List.all_append]
      simp [okP]
    have hnew : ((F a.v b.v 0).2 && (ps.take (i + 1)).all (okP F)) = (((F a.v b.v 0).2 && (ps.take i).all (okP F)) && ((F ps[i].1 ps[i].2 1).2 && (F ps[i].1 ps[i].2 2).2)) := by rw [hall, Bool.and_assoc]
    clear hall
    generalize ((F a.v b.v 0).2 && (ps.take i).all (okP F)) = b0 at *
    have htk := List.take_succ_eq_append_getElem hlt
    generalize (F ps[i].1 ps[i].2 1).2 = b1 at *
    generalize (F ps[i].1 ps[i].2 2).2 = b2 at *
    cases b0 with
    | false =>
      simp -implicitDefEqProofs (maxSteps := 10000000) only [f1, f2, l1, l2, rkA, rkB, stepA, valA, simprocAttr]
      simp -implicitDefEqProofs (maxSteps := 10000000) only [hw, rkA, rkB, stepA, valA, simprocAttr]
      refine loopK_of (m' := m - 1) (by omega) ?_
      simp -implicitDefEqProofs (maxSteps := 10000000) only [rkA, rkB, stepA, valA, simprocAttr]
      refine ⟨i + 1, by omega, ?_⟩
      rw [hnew, htk]
      simp only [Bool.false_and, Bool.true_and, List.map_append, List.map_cons, List.map_nil, Int.natCast_add, Int.natCast_one]
    | true =>
      cases b1 with
      | false =>
        simp -implicitDefEqProofs (maxSteps := 10000000) only [f1, f2, l1, l2, rkA, rkB, stepA, valA, simprocAttr]
        simp -implicitDefEqProofs (maxSteps := 10000000) only [hw, rkA, rkB, stepA, valA, simprocAttr]
        refine loopK_of (m' := m - 1) (by omega) ?_
        simp -implicitDefEqProofs (maxSteps := 10000000) only [rkA, rkB, stepA, valA, simprocAttr]
        refine ⟨i + 1, by omega, ?_⟩
        rw [hnew, htk]
        simp only [Bool.false_and, Bool.true_and, List.map_append, List.map_cons, List.map_nil, Int.natCast_add, Int.natCast_one]
      | true =>
        simp -implicitDefEqProofs (maxSteps := 10000000) only [f1, f2, l1, l2, rkA, rkB, stepA, valA, simprocAttr]
        simp -implicitDefEqProofs (maxSteps := 10000000) only [hw, rkA, rkB, stepA, valA, simprocAttr]
        refine loopK_of (m' := m - 1) (by omega) ?_
        simp -implicitDefEqProofs (maxSteps := 10000000) only [rkA, rkB, stepA, valA, simprocAttr]
        refine ⟨i + 1, by omega, ?_⟩
        rw [hnew, htk]
        simp only [Bool.false_and, Bool.true_and, List.map_append, List.map_cons, List.map_nil, Int.natCast_add, Int.natCast_one]
  · have hin : i = ps.length := by omega
    subst hin
    simp only [List.take_length]
    have m1 : (ps.map fun p => num (F p.1 p.2 1).1) = (ps.map fun p => (F p.1 p.2 1).1).map num := by simp
    have m2 : (ps.map fun p => num (F p.1 p.2 2).1) = (ps.map fun p => (F p.1 p.2 2).1).map num := by simp
    have n1 : (ps.map fun p => (F p.1 p.2 1).1) ≠ [] := by simpa using h1
    have n2 : (ps.map fun p => (F p.1 p.2 2).1) ≠ [] := by simpa using h1
    have k1 : (ps.map fun p => (F p.1 p.2 1).1).length ≤ 1000 := by simp; omega
    have k2 : (ps.map fun p => (F p.1 p.2 2).1).length ≤ 1000 := by simp; omega
    rw [m1, m2]
    have hres : madeE F a b ps = if ((F a.v b.v 0).2 && ps.all (okP F)) = true ∧ a.fine = true ∧ b.fine = true then ⟨(F a.v b.v 0).1, minL (ps.map fun p => (F p.1 p.2 1).1), maxL (ps.map fun p => (F p.1 p.2 2).1), false⟩ else .wrong := rfl
    generalize ((F a.v b.v 0).2 && ps.all (okP F)) = b0 at *
    cases b0 with
    | false =>
      rw [hres, if_neg (by simp)]
      simp -implicitDefEqProofs (maxSteps := 10000000) only [rkA, rkB, stepA, valA, simprocAttr]
      refine call_fn rfl rfl rfl (ok112) ?_
      simp -implicitDefEqProofs (maxSteps := 10000000) only [rkA, rkB, stepA, valA, simprocAttr]
    | true =>
      simp -implicitDefEqProofs (maxSteps := 10000000) only [rkA, rkB, stepA, valA, simprocAttr]
      refine call_fn rfl rfl rfl (ok84 a) ?_
      cases ha : a.fine with
      | false =>
        rw [hres, if_neg (by simp [ha])]
        simp -implicitDefEqProofs (maxSteps := 10000000) only [rkA, rkB, stepA, valA, simprocAttr]
        refine call_fn rfl rfl rfl (ok112) ?_
        simp -implicitDefEqProofs (maxSteps := 10000000) only [rkA, rkB, stepA, valA, simprocAttr]
      | true =>
        simp -implicitDefEqProofs (maxSteps := 10000000) only [rkA, rkB, stepA, valA, simprocAttr]
        refine call_fn rfl rfl rfl (ok84 b) ?_
        cases hb : b.fine with
        | false =>
          rw [hres, if_neg (by simp [hb])]
          simp -implicitDefEqProofs (maxSteps := 10000000) only [rkA, rkB, stepA, valA, simprocAttr]
          refine call_fn rfl rfl rfl (ok112) ?_
          simp -implicitDefEqProofs (maxSteps := 10000000) only [rkA, rkB, stepA, valA, simprocAttr]
        | true =>
          rw [hres, if_pos ⟨rfl, ha, hb⟩]
          simp -implicitDefEqProofs (maxSteps := 10000000) only [rkA, rkB, stepA, valA, simprocAttr]
          refine call_fn rfl rfl rfl (ok153 _ _ n1 k1) ?_
          simp -implicitDefEqProofs (maxSteps := 10000000) only [rkA, rkB, stepA, valA, simprocAttr]
          refine call_fn rfl rfl rfl (ok154 _ _ n2 k2) ?_
          simp -implicitDefEqProofs (maxSteps := 10000000) only [rkA, rkB, stepA, valA, simprocAttr]

/-! ### Sums, products .. -/
def allP (a b : Fr) : List (Int × Int) := [(a.lo, b.lo), (a.lo, b.hi), (a.hi, b.lo), (a.hi, b.hi)]
def addF (a b : Fr) : Fr := madeE (fun x y _ => addX x y) a b [(a.lo, b.lo), (a.hi, b.hi)]
def subF (a b : Fr) : Fr := madeE (fun x y _ => subX x y) a b [(a.lo, b.hi), (a.hi, b.lo)]
def mulF (a b : Fr) : Fr := madeE mulX a b (allP a b)
def divF (a b : Fr) : Fr := if b.lo ≤ 0 ∧ b.hi ≥ 0 then .wrong else madeE divX a b (allP a b)
theorem ok105 (a b : Fr) : Ok Tryz.prog 105 [frV a, frV b] (.sl true ((allP a b).map prV)) := by
  refine ok_fn mixed Tryz.func105 (code := ?_) (h := h105) ?_ k105 ?_
  rotate_left
  · exact rfl
  unfold h105 initS
  simp -implicitDefEqProofs (maxSteps := 10000000) only [rkA, rkB, stepA, valA, simprocAttr, Tryz.ntmps105, Tryz.results105]
  rfl
theorem ok230 (x y m : Int) : Ok Tryz.prog 230 [num x, num y, num m] (.tup [num (addX x y).1, tru (addX x y).2]) := by
  refine ok_fn mixed Tryz.func230 (code := ?_) (h := h230) ?_ k230 ?_
  rotate_left
  · exact rfl
  unfold h230 initS
  simp -implicitDefEqProofs (maxSteps := 10000000) only [rkA, rkB, stepA, valA, simprocAttr, Tryz.ntmps230, Tryz.results230]
  refine call_fn rfl rfl rfl (ok231 x y) ?_
  simp -implicitDefEqProofs (maxSteps := 10000000) only [rkA, rkB, stepA, valA, simprocAttr]
theorem ok148 (x y m : Int) : Ok Tryz.prog 148 [num x, num y, num m] (.tup [num (subX x y).1, tru (subX x y).2]) := by
  refine ok_fn mixed Tryz.func148 (code := ?_) (h := h148) ?_ k148 ?_
  rotate_left
  · exact rfl
  unfold h148 initS
  simp -implicitDefEqProofs (maxSteps := 10000000) only [rkA, rkB, stepA, valA, simprocAttr, Tryz.ntmps148, Tryz.results148]
  refine call_fn rfl rfl rfl (ok149 x y) ?_
  simp -implicitDefEqProofs (maxSteps := 10000000) only [rkA, rkB, stepA, valA, simprocAttr]
theorem ok227 (a b : Fr) : Ok Tryz.prog 227 [frV a, frV b] (frV (addF a b)) := by
  have h := ok103 _ _ (fun x y m => ok230 x y m) a b true [(a.lo, b.lo), (a.hi, b.hi)] (by simp) (by simp)
  refine ok_fn mixed Tryz.func227 (code := ?_) (h := h227) ?_ k227 ?_
  rotate_left
  · exact rfl
  unfold h227 initS
  simp -implicitDefEqProofs (maxSteps := 10000000) only [rkA, rkB, stepA, valA, simprocAttr, Tryz.ntmps227, Tryz.results227]
  refine call_fn rfl rfl rfl (h) ?_
  simp -implicitDefEqProofs (maxSteps := 10000000) only [rkA, rkB, stepA, valA, simprocAttr, addF]
theorem ok97 (a b : Fr) : Ok Tryz.prog 97 [frV a, frV b] (frV (subF a b)) := by
  have h := ok103 _ _ (fun x y m => ok148 x y m) a b true [(a.lo, b.hi), (a.hi, b.lo)] (by simp) (by simp)
  refine ok_fn mixed Tryz.func97 (code := ?_) (h := h97) ?_ k97 ?_
  rotate_left
  · exact rfl
  unfold h97 initS
  simp -implicitDefEqProofs (maxSteps := 10000000) only [rkA, rkB, stepA, valA, simprocAttr, Tryz.ntmps97, Tryz.results97]
  refine call_fn rfl rfl rfl (h) ?_
  simp -implicitDefEqProofs (maxSteps := 10000000) only [rkA, rkB, stepA, valA, simprocAttr, subF]
theorem ok45 (a b : Fr) : Ok Tryz.prog 45 [frV a, frV b] (frV (mulF a b)) := by
  have h := ok103 _ _ ok104 a b true (allP a b) (by simp [allP]) (by simp [allP])
  refine ok_fn mixed Tryz.func45 (code := ?_) (h := h45) ?_ k45 ?_
  rotate_left
  · exact rfl
  unfold h45 initS
  simp -implicitDefEqProofs (maxSteps := 10000000) only [rkA, rkB, stepA, valA, simprocAttr, Tryz.ntmps45, Tryz.results45]
  refine call_fn rfl rfl rfl (ok105 a b) ?_
  simp -implicitDefEqProofs (maxSteps := 10000000) only [rkA, rkB, stepA, valA, simprocAttr]
  refine call_fn rfl rfl rfl (h) ?_
  simp -implicitDefEqProofs (maxSteps := 10000000) only [rkA, rkB, stepA, valA, simprocAttr, mulF]
theorem ok228 (a b : Fr) : Ok Tryz.prog 228 [frV a, frV b] (frV (divF a b)) := by
  have h := ok103 _ _ ok232 a b true (allP a b) (by simp [allP]) (by simp [allP])
  refine ok_fn mixed Tryz.func228 (code := ?_) (h := h228) ?_ k228 ?_
  rotate_left
  · exact rfl
  unfold h228 initS
  simp -implicitDefEqProofs (maxSteps := 10000000) only [rkA, rkB, stepA, valA, simprocAttr, Tryz.ntmps228, Tryz.results228]
  by_cases h1 : b.lo ≤ 0
  · by_cases h2 : b.hi ≥ 0
    · simp -implicitDefEqProofs (maxSteps := 10000000) only [h1, h2, rkA, rkB, stepA, valA, simprocAttr]
      refine call_fn rfl rfl rfl (ok112) ?_
      simp -implicitDefEqProofs (maxSteps := 10000000) only [divF, h1, h2, rkA, rkB, stepA, valA, simprocAttr]
    · simp -implicitDefEqProofs (maxSteps := 10000000) only [h1, h2, rkA, rkB, stepA, valA, simprocAttr]
      refine call_fn rfl rfl rfl (ok105 a b) ?_
      simp -implicitDefEqProofs (maxSteps := 10000000) only [rkA, rkB, stepA, valA, simprocAttr]
      refine call_fn rfl rfl rfl (h) ?_
      simp -implicitDefEqProofs (maxSteps := 10000000) only [divF, h2, rkA, rkB, stepA, valA, simprocAttr]
  · simp -implicitDefEqProofs (maxSteps := 10000000) only [h1, rkA, rkB, stepA, valA, simprocAttr]
    refine call_fn rfl rfl rfl (ok105 a b) ?_
    simp -implicitDefEqProofs (maxSteps := 10000000) only [rkA, rkB, stepA, valA, simprocAttr]
    refine call_fn rfl rfl rfl (h) ?_
    simp -implicitDefEqProofs (maxSteps := 10000000) only [divF, h1, rkA, rkB, stepA, valA, simprocAttr]
end Go.Proofs.YtbflmeomkfjikaaGreat.A.E


set_option linter.unusedVariables false
set_option linter.unusedSimpArgs false
set_option maxRecDepth 100000
namespace Go.Proofs.YtbflmeomkfjikaaGreat.A.E
open Go Go.RowKit Go.Shelf

theorem ok139 (n : Int) : Ok Tryz.prog 139 [num n] (tru (decide (1 ≤ n ∧ n ≤ 16))) := by
  refine ok_fn mixed Tryz.func139 (code := ?_) (h := h139) ?_ k139 ?_
  rotate_left
  · exact rfl
  unfold h139 initS
  simp -implicitDefEqProofs only [rkA, rkB, stepA, valA, simprocAttr, Tryz.ntmps139, Tryz.results139]
  repeat' (refine gB_dec ?_ ?_ <;> intro hc <;> first | (exfalso; omega) | simp -implicitDefEqProofs only [hc, rkA, rkB, stepA, valA, simprocAttr])

end Go.Proofs.YtbflmeomkfjikaaGreat.A.E


set_option linter.unusedVariables false
set_option linter.unusedSimpArgs false
set_option maxRecDepth 100000
namespace Go.Proofs.YtbflmeomkfjikaaGreat.A.E
open Go Go.RowKit Go.Shelf

abbrev frs (l : List Fr) : List PV := l.map frV

theorem fits_frs {k l : List Fr} (h : k.length + l.length ≤ 4398046511104) : fits 4 32 (frs k) (frs l) = true := by
  simp [fits, PV.cells, PV.ok, PV.cell, Value.oneCell']
  omega

theorem ok87 (ex : Bool) (l : List Fr) (h : l.length ≤ 4398046511104) : Ok Tryz.prog 87 [.sl ex (frs l)] (.sl false (frs l)) := by
  have hfit : fits 4 32 [] (frs l) = true := fits_frs (k := []) (l := l) (by simpa using h)
  refine ok_fn mixed Tryz.func87 (code := ?_) (h := h87) ?_ k87 ?_
  rotate_left
  · exact rfl
  unfold h87 initS
  simp -implicitDefEqProofs only [rkA, rkB, stepA, valA, simprocAttr, Tryz.ntmps87, Tryz.results87]
  refine nilA_sl (some 4) (.tmp 3) rfl ?_
  intro b hb
  cases b with
  | true =>
    simp -implicitDefEqProofs only [rkA, rkB, stepA, valA, simprocAttr]
    have : l = [] := by
      cases l with
      | nil => rfl
      | cons x l => simp at hb
    subst this
    simp
  | false =>
    simp -implicitDefEqProofs only [hfit, rkA, rkB, stepA, valA, simprocAttr]

theorem ok88 (ex : Bool) (r c : Int) (l : List PV) : Ok Tryz.prog 88 [matV ex r c l] (tru (right r c l.length)) := by
  refine ok_fn mixed Tryz.func88 (code := ?_) (h := h88) ?_ k88 ?_
  rotate_left
  · exact rfl
  unfold h88 initS
  simp -implicitDefEqProofs only [rkA, rkB, stepA, valA, simprocAttr, Tryz.ntmps88, Tryz.results88]
  refine call_fn rfl rfl rfl (ok139 r) ?_
  by_cases hr : 1 ≤ r ∧ r ≤ 16
  · simp -implicitDefEqProofs only [hr, rkA, rkB, stepA, valA, simprocAttr]
    refine call_fn rfl rfl rfl (ok139 c) ?_
    by_cases hc : 1 ≤ c ∧ c ≤ 16
    · have hm : 0 ≤ r * c ∧ r * c ≤ 256 := by
        have h1 : (r * c).natAbs = r.natAbs * c.natAbs := Int.natAbs_mul r c
        have h2 : r.natAbs * c.natAbs ≤ 16 * 16 := Nat.mul_le_mul (by omega) (by omega)
        have h3 : 0 ≤ r * c := Int.mul_nonneg (by omega) (by omega)
        omega
      have w := wrapped (x := r * c) (by omega) (by omega)
      simp -implicitDefEqProofs only [hc, w, rkA, rkB, stepA, valA, simprocAttr]
      simp [right, hr, hc]
    · simp -implicitDefEqProofs only [hc, rkA, rkB, stepA, valA, simprocAttr]
      simp [right, hr, hc]
  · simp -implicitDefEqProofs only [hr, rkA, rkB, stepA, valA, simprocAttr]
    simp [right, hr]

theorem ok26 (r c : Int) (ex : Bool) (l : List Fr) (h : l.length ≤ 4398046511104) :
    Ok Tryz.prog 26 [num r, num c, .sl ex (frs l)] (if right r c l.length = true then .tup [matV false r c (frs l), tru true] else .tup [matNil, tru false]) := by
  refine ok_fn mixed Tryz.func26 (code := ?_) (h := h26) ?_ k26 ?_
  rotate_left
  · exact rfl
  unfold h26 initS
  simp -implicitDefEqProofs only [rkA, rkB, stepA, valA, simprocAttr, Tryz.ntmps26, Tryz.results26]
  refine call_fn rfl rfl rfl (ok87 ex l h) ?_
  simp -implicitDefEqProofs only [rkA, rkB, stepA, valA, simprocAttr]
  refine call_fn rfl rfl rfl (ok88 false r c (frs l)) ?_
  have e : (frs l).length = l.length := by simp
  rw [e]
  cases hr : right r c l.length with
  | true => simp -implicitDefEqProofs only [rkA, rkB, stepA, valA, simprocAttr]
  | false => simp -implicitDefEqProofs only [rkA, rkB, stepA, valA, simprocAttr]

theorem methOf : Meth Tryz.prog 40 "Of" 56 := by
  intro v xs w
  rfl

/-- What stands in a row, or 0 fraction. -/
def atF (r c : Int) (l : List Fr) (i k : Int) : Fr := if right r c l.length = true ∧ 0 ≤ i ∧ i < r ∧ 0 ≤ k ∧ k < c then l.getD (i * c + k).toNat ⟨0, 0, 0, false⟩ else ⟨0, 0, 0, false⟩

theorem ok35 (ex : Bool) (r c i k : Int) (l : List Fr) : Ok Tryz.prog 35 [matV ex r c (frs l), num i, num k] (frV (atF r c l i k)) := by
  refine ok_fn mixed Tryz.func35 (code := ?_) (h := h35) ?_ k35 ?_
  rotate_left
  · exact rfl
  unfold h35 initS
  simp -implicitDefEqProofs only [rkA, rkB, stepA, valA, simprocAttr, Tryz.ntmps35, Tryz.results35]
  refine call_fn rfl rfl rfl (ok88 ex r c (frs l)) ?_
  have e : (frs l).length = l.length := by simp
  rw [e]
  cases hr : right r c l.length with
  | false =>
    simp -implicitDefEqProofs only [rkA, rkB, stepA, valA, simprocAttr]
    simp [atF, hr]
  | true =>
    obtain ⟨r1, r2, c1, c2, hn⟩ := right_spec hr
    simp -implicitDefEqProofs only [rkA, rkB, stepA, valA, simprocAttr]
    repeat' (refine gB_dec ?_ ?_ <;> intro hc <;> first | (exfalso; omega) | simp -implicitDefEqProofs only [hc, rkA, rkB, stepA, valA, simprocAttr])
    · rw [show atF r c l i k = ⟨0, 0, 0, false⟩ from if_neg (fun ⟨_, _, _, _, _⟩ => by omega)]
    · rw [show atF r c l i k = ⟨0, 0, 0, false⟩ from if_neg (fun ⟨_, _, _, _, _⟩ => by omega)]
    · rw [show atF r c l i k = ⟨0, 0, 0, false⟩ from if_neg (fun ⟨_, _, _, _, _⟩ => by omega)]
    · rw [show atF r c l i k = ⟨0, 0, 0, false⟩ from if_neg (fun ⟨_, _, _, _, _⟩ => by omega)]
    · obtain ⟨b1, b2, b3, b4, b5⟩ := at_bound (i := i) (k := k) r2 ⟨c1, c2⟩ (by omega) (by omega)
      have w1 := wrapped (x := i * c) (by omega) (by omega)
      have w2 := wrapped (x := i * c + k) (by omega) (by omega)
      have hlt : (i * c + k).toNat < l.length := by omega
      have hg : (frs l)[(i * c + k).toNat]? = some (frV l[(i * c + k).toNat]) := by simp [hlt]
      have ha : atF r c l i k = l[(i * c + k).toNat] := by
        unfold atF
        rw [if_pos ⟨hr, by omega, by omega, by omega, by omega⟩, List.getD_eq_getElem?_getD, List.getElem?_eq_getElem hlt]
        rfl
      simp -implicitDefEqProofs only [w1, w2, b2, hg, ha, rkA, rkB, stepA, valA, simprocAttr]
end Go.Proofs.YtbflmeomkfjikaaGreat.A.E


set_option linter.unusedVariables false
set_option linter.unusedSimpArgs false
set_option maxRecDepth 100000
namespace Go.Proofs.YtbflmeomkfjikaaGreat.A.E
open Go Go.RowKit Go.Shelf

theorem methAdd : Meth Tryz.prog 40 "Add" 227 := by
  intro v xs w
  rfl
theorem methMul : Meth Tryz.prog 40 "Mul" 45 := by
  intro v xs w
  rfl

def sumF (l : List Fr) : Fr := l.foldl addF (newF 0 1)

theorem ok132 (ex : Bool) (l : List Fr) (h : l.length ≤ 4398046511104) : Ok Tryz.prog 132 [.sl ex (frs l)] (frV (sumF l)) := by
  refine ok_fn mixed Tryz.func132 (code := ?_) (h := h132) ?_ k132 ?_
  rotate_left
  · exact rfl
  unfold h132 initS
  simp -implicitDefEqProofs only [rkA, rkB, stepA, valA, simprocAttr, Tryz.ntmps132, Tryz.results132]
  refine call_meth rfl rfl methOf (ok56 ⟨0, 0, 0, false⟩ 0) ?_
  simp -implicitDefEqProofs only [rkA, rkB, stepA, valA, simprocAttr]
  refine wp_loop (fun m s => ∃ i, i + m = l.length ∧ s = ⟨[jk, jk, .ptr 2 0, jk, .ptr 4 0, jk, jk, jk, jk, jk, .v (.sl ex (frs l)), nt l.length, nt i, jk, jk, jk, jk, jk, jk, jk, jk, jk],
    [(2, [nt 0, nt 0, nt 0, .v (tru false)]), (3, [nt 0, nt 0, nt 0, .v (tru false)]), (4, [nt (sumF (l.take i)).v, nt (sumF (l.take i)).lo, nt (sumF (l.take i)).hi, .v (tru (sumF (l.take i)).bad)])], [], [], [], 0, nomem⟩) l.length ?_ ?_
  · simp -implicitDefEqProofs only [rkA, rkB, stepA, valA, simprocAttr]
    refine ⟨0, by simp, ?_⟩
    simp [sumF]
  rintro m s ⟨i, hi, rfl⟩
  simp -implicitDefEqProofs only [rkA, rkB, stepA, valA, simprocAttr]
  refine gB_dec ?_ ?_ <;> intro hc <;> simp -implicitDefEqProofs only [hc, rkA, rkB, stepA, valA, simprocAttr]
  · have hlt : i < l.length := by omega
    have h0 : (0 : Int) ≤ (i : Int) := by omega
    have hg : (frs l)[i]? = some (frV l[i]) := by simp [hlt]
    simp -implicitDefEqProofs only [h0, Int.toNat_natCast, hg, rkA, rkB, stepA, valA, simprocAttr]
    refine call_meth rfl rfl methAdd (ok227 (sumF (l.take i)) l[i]) ?_
    have hw := wrapped (x := (i : Int) + 1) (by omega) (by omega)
    simp -implicitDefEqProofs only [hw, rkA, rkB, stepA, valA, simprocAttr]
    refine loopK_of (m' := m - 1) (by omega) ?_
    simp -implicitDefEqProofs only [rkA, rkB, stepA, valA, simprocAttr]
    refine ⟨i + 1, by omega, ?_⟩
    have e : sumF (l.take (i + 1)) = addF (sumF (l.take i)) l[i] := by
      unfold sumF
      rw [List.take_succ_eq_append_getElem hlt, List.foldl_append]
      rfl
    rw [e]
    simp only [Int.natCast_add, Int.natCast_one]
  · have : l.length ≤ i := by omega
    rw [List.take_of_length_le this]

theorem ok134 (a b : Fr) : Ok Tryz.prog 134 [frV a, frV b] (frV (mulF a b)) := by
  refine ok_fn mixed Tryz.func134 (code := ?_) (h := h134) ?_ k134 ?_
  rotate_left
  · exact rfl
  unfold h134 initS
  simp -implicitDefEqProofs only [rkA, rkB, stepA, valA, simprocAttr, Tryz.ntmps134, Tryz.results134]
  refine call_meth rfl rfl methMul (ok45 a b) ?_
  simp -implicitDefEqProofs only [rkA, rkB, stepA, valA, simprocAttr]

theorem sl_frs {ex : Bool} {l : List Fr} {a b : Nat} (h1 : a ≤ b) (h2 : b ≤ l.length) : sliceA 4 (frs l) ex (some a) (some b) none = some (.sl (exA none ex b (frs l).length) (frs ((l.take b).drop a))) := by
  unfold sliceA
  simp only [Option.getD_some]
  rw [if_pos ⟨h1, by simpa using h2, by simp, by simp [PV.cells]⟩]
  simp

/-- A row. -/
def rowF (r c : Int) (l : List Fr) (i : Int) : List Fr := if right r c l.length = true ∧ 0 ≤ i ∧ i < r then (l.take ((i + 1) * c).toNat).drop (i * c).toNat else []

theorem ok143 (ex : Bool) (r c i : Int) (l : List Fr) : Ok Tryz.prog 143 [matV ex r c (frs l), num i] (.sl false (frs (rowF r c l i))) := by
  refine ok_fn mixed Tryz.func143 (code := ?_) (h := h143) ?_ k143 ?_
  rotate_left
  · exact rfl
  unfold h143 initS
  simp -implicitDefEqProofs only [rkA, rkB, stepA, valA, simprocAttr, Tryz.ntmps143, Tryz.results143]
  refine call_fn rfl rfl rfl (ok88 ex r c (frs l)) ?_
  have e : (frs l).length = l.length := by simp
  rw [e]
  cases hr : right r c l.length with
  | false =>
    simp -implicitDefEqProofs only [rkA, rkB, stepA, valA, simprocAttr]
    simp [rowF, hr]
  | true =>
    obtain ⟨r1, r2, c1, c2, hn⟩ := right_spec hr
    simp -implicitDefEqProofs only [rkA, rkB, stepA, valA, simprocAttr]
    repeat' (refine gB_dec ?_ ?_ <;> intro hc <;> first | (exfalso; omega) | simp -implicitDefEqProofs only [hc, rkA, rkB, stepA, valA, simprocAttr])
    · rw [show rowF r c l i = [] from if_neg (fun ⟨_, _, _⟩ => by omega)]; rfl
    · rw [show rowF r c l i = [] from if_neg (fun ⟨_, _, _⟩ => by omega)]; rfl
    · obtain ⟨b1, b2, b3, b4, b5⟩ := at_bound (i := i) (k := 0) r2 ⟨c1, c2⟩ (by omega) (by omega)
      have b6 : (i + 1) * c = i * c + c := by rw [Int.add_mul, Int.one_mul]
      have b7 : (i + 1) * c ≤ r * c := Int.mul_le_mul_of_nonneg_right (by omega) (by omega)
      have w1 := wrapped (x := i * c) (by omega) (by omega)
      have w2 := wrapped (x := i + 1) (by omega) (by omega)
      have w3 := wrapped (x := (i + 1) * c) (by omega) (by omega)
      have h3 : 0 ≤ (i + 1) * c := by omega
      have hs := sl_frs (ex := ex) (l := l) (a := (i * c).toNat) (b := ((i + 1) * c).toNat) (by omega) (by omega)
      have hrow : rowF r c l i = (l.take ((i + 1) * c).toNat).drop (i * c).toNat := if_pos ⟨hr, by omega, by omega⟩
      rw [hrow]
      simp -implicitDefEqProofs only [w1, w2, w3, b1, h3, hs, rkA, rkB, stepA, valA, simprocAttr]
      refine call_fn rfl rfl rfl (ok87 _ _ (by simp; omega)) ?_
      simp -implicitDefEqProofs only [rkA, rkB, stepA, valA, simprocAttr]
end Go.Proofs.YtbflmeomkfjikaaGreat.A.E


set_option linter.unusedVariables false
set_option linter.unusedSimpArgs false
set_option maxRecDepth 100000
namespace Go.Proofs.YtbflmeomkfjikaaGreat.A.E
open Go Go.RowKit Go.Shelf

def rowsF (r c : Int) (l : List Fr) : List (List PV) := if right r c l.length = true then (List.range r.toNat).map fun (i : Nat) => [num (i : Int), .sl false (frs (rowF r c l (i : Int)))] else []

theorem it142 (ex : Bool) (r c : Int) (l : List Fr) : IterOk Tryz.prog (.fn (.func 142) [.vp [num r, num c, .sl ex (frs l)]]) (rowsF r c l) := by
  refine iter_fn mixed Tryz.func142 (code := ?_) (h := h142) ?_ k142 ?_ ?_
  rotate_left
  · exact rfl
  · exact rfl
  intro yl
  unfold h142 initS
  simp -implicitDefEqProofs only [rkA, rkB, stepA, valA, simprocAttr, Tryz.ntmps142]
  refine wp_loop (fun m s => ∃ i : Nat, i + m = (rowsF r c l).length ∧ s = ⟨[.v (.fn (.yield yl) []), .v (.vp [num r, num c, .sl ex (frs l)]), jk, nt i, jk, jk, jk, jk, jk, jk, jk, jk, jk, jk, jk, jk, jk, jk, jk, jk, jk], [], [], [], [], i, nomem⟩) (rowsF r c l).length ?_ ?_
  · simp -implicitDefEqProofs only [rkA, rkB, stepA, valA, simprocAttr]
    exact ⟨0, by simp, rfl⟩
  rintro m s ⟨i, hi, rfl⟩
  simp -implicitDefEqProofs only [rkA, rkB, stepA, valA, simprocAttr]
  refine call_fn rfl rfl rfl (ok88 ex r c (frs l)) ?_
  have e : (frs l).length = l.length := by simp
  rw [e]
  cases hr : right r c l.length with
  | false =>
    simp -implicitDefEqProofs only [rkA, rkB, stepA, valA, simprocAttr]
    have hl : (rowsF r c l).length = 0 := by simp [rowsF, hr]
    omega
  | true =>
    obtain ⟨r1, r2, c1, c2, hn⟩ := right_spec hr
    have hl : (rowsF r c l).length = r.toNat := by simp [rowsF, hr]
    simp -implicitDefEqProofs only [rkA, rkB, stepA, valA, simprocAttr]
    refine gB_dec ?_ ?_ <;> intro hc <;> simp -implicitDefEqProofs only [hc, rkA, rkB, stepA, valA, simprocAttr]
    · refine call_fn rfl rfl rfl (ok143 ex r c i l) ?_
      simp -implicitDefEqProofs only [rkA, rkB, stepA, valA, simprocAttr]
      have hx : (rowsF r c l)[i]? = some [num (i : Int), .sl false (frs (rowF r c l i))] := by
        have : i < r.toNat := by omega
        simp [rowsF, hr, this]
      have hw := wrapped (x := (i : Int) + 1) (by omega) (by omega)
      refine call_yield rfl rfl rfl rfl rfl hx ?_ ?_
      · simp -implicitDefEqProofs only [hw, rkA, rkB, stepA, valA, simprocAttr]
        refine loopK_of (m' := m - 1) (by omega) ?_
        simp -implicitDefEqProofs only [rkA, rkB, stepA, valA, simprocAttr]
        exact ⟨i + 1, by omega, by simp only [Int.natCast_add, Int.natCast_one]⟩
      · simp -implicitDefEqProofs only [rkA, rkB, stepA, valA, simprocAttr]
        exact .inr trivial
    · omega

theorem ok90 (ex : Bool) (r c : Int) (l : List Fr) : Ok Tryz.prog 90 [matV ex r c (frs l)] (.fn (.func 142) [.vp [num r, num c, .sl ex (frs l)]]) := by
  refine ok_fn mixed Tryz.func90 (code := ?_) (h := h90) ?_ k90 ?_
  rotate_left
  · exact rfl
  unfold h90 initS
  simp -implicitDefEqProofs only [rkA, rkB, stepA, valA, simprocAttr, Tryz.ntmps90, Tryz.results90]

def pairsF (a b : List Fr) : List (List PV) := (List.zip a b).map fun p => [frV p.1, frV p.2]

theorem it182 (ea eb : Bool) (a b : List Fr) (ha : a.length ≤ 4398046511104) (hb : b.length ≤ 4398046511104) : IterOk Tryz.prog (.fn (.func 182) [.vp [.sl ea (frs a)], .vp [.sl eb (frs b)]]) (pairsF a b) := by
  refine iter_fn mixed Tryz.func182 (code := ?_) (h := h182) ?_ k182 ?_ ?_
  rotate_left
  · exact rfl
  · exact rfl
  intro yl
  unfold h182 initS
  simp -implicitDefEqProofs only [rkA, rkB, stepA, valA, simprocAttr, Tryz.ntmps182]
  have hl : (pairsF a b).length = min a.length b.length := by simp [pairsF]
  have hx0 : ∀ (i : Nat) (ha : i < a.length) (hb : i < b.length), (pairsF a b)[i]? = some [frV a[i], frV b[i]] := fun i h1 h2 => by
    rw [pairsF, List.getElem?_map, List.getElem?_eq_getElem (by simp; omega), Option.map_some, List.getElem_zip]
  have hmin : (if ((frs b).length : Int) < ((frs a).length : Int) then ((frs b).length : Int) else ((frs a).length : Int)) = ((min a.length b.length : Nat) : Int) := by
    simp only [List.length_map]
    split <;> omega
  simp only [hmin]
  refine wp_loop (fun m s => ∃ i : Nat, i + m = (pairsF a b).length ∧ s = ⟨[.v (.fn (.yield yl) []), .v (.vp [.sl ea (frs a)]), .v (.vp [.sl eb (frs b)]), jk, jk, jk, jk, jk, jk, nt ((min a.length b.length : Nat) : Int), nt i, jk, jk, jk, jk, jk, jk, jk, jk, jk, jk, jk, jk, jk, jk], [], [], [], [], i, nomem⟩) (pairsF a b).length ?_ ?_
  · simp -implicitDefEqProofs only [rkA, rkB, stepA, valA, simprocAttr]
    exact ⟨0, by simp, rfl⟩
  rintro m s ⟨i, hi, rfl⟩
  simp -implicitDefEqProofs only [rkA, rkB, stepA, valA, simprocAttr]
  refine gB_dec ?_ ?_ <;> intro hc <;> simp -implicitDefEqProofs only [hc, rkA, rkB, stepA, valA, simprocAttr]
  · have h1 : i < a.length := by omega
    have h2 : i < b.length := by omega
    have h0 : (0 : Int) ≤ (i : Int) := by omega
    have g1 : (frs a)[i]? = some (frV a[i]) := by simp [h1]
    have g2 : (frs b)[i]? = some (frV b[i]) := by simp [h2]
    simp -implicitDefEqProofs only [h0, Int.toNat_natCast, g1, g2, rkA, rkB, stepA, valA, simprocAttr]
    have hw := wrapped (x := (i : Int) + 1) (by omega) (by omega)
    refine call_yield rfl rfl rfl rfl rfl (hx0 i h1 h2) ?_ ?_
    · simp -implicitDefEqProofs only [hw, rkA, rkB, stepA, valA, simprocAttr]
      refine loopK_of (m' := m - 1) (by omega) ?_
      simp -implicitDefEqProofs only [rkA, rkB, stepA, valA, simprocAttr]
      exact ⟨i + 1, by omega, by simp only [Int.natCast_add, Int.natCast_one]⟩
    · simp -implicitDefEqProofs only [rkA, rkB, stepA, valA, simprocAttr]
      exact .inr trivial
  · omega

theorem ok168 (ea eb : Bool) (a b : List Fr) : Ok Tryz.prog 168 [.sl ea (frs a), .sl eb (frs b)] (.fn (.func 182) [.vp [.sl ea (frs a)], .vp [.sl eb (frs b)]]) := by
  refine ok_fn mixed Tryz.func168 (code := ?_) (h := h168) ?_ k168 ?_
  rotate_left
  · exact rfl
  unfold h168 initS
  simp -implicitDefEqProofs only [rkA, rkB, stepA, valA, simprocAttr, Tryz.ntmps168, Tryz.results168]
end Go.Proofs.YtbflmeomkfjikaaGreat.A.E


set_option linter.unusedVariables false
set_option linter.unusedSimpArgs false
set_option maxRecDepth 100000
namespace Go.Proofs.YtbflmeomkfjikaaGreat.A.E
open Go Go.RowKit Go.Shelf

theorem ok133 (k : Nat) (F : Fr → Fr → Fr) (hF : ∀ x y, Ok Tryz.prog k [frV x, frV y] (frV (F x y))) (ea eb : Bool) (a b : List Fr) (ha : a.length ≤ 4398046511104) (hb : b.length ≤ 4398046511104) :
    Ok Tryz.prog 133 [.sl ea (frs a), .sl eb (frs b), .fn (.func k) []] (.sl false (frs (List.zipWith F a b))) := by
  refine ok_fn mixed Tryz.func133 (code := ?_) (h := h133) ?_ k133 ?_
  rotate_left
  · exact rfl
  unfold h133 initS
  simp -implicitDefEqProofs only [rkA, rkB, stepA, valA, simprocAttr, Tryz.ntmps133, Tryz.results133]
  refine call_fn rfl rfl rfl (ok168 ea eb a b) ?_
  simp -implicitDefEqProofs only [rkA, rkB, stepA, valA, simprocAttr]
  have hlz : (List.zipWith F a b).length = min a.length b.length := by simp
  have hpl : (pairsF a b).length = min a.length b.length := by simp [pairsF]
  refine wp_rf (items := pairsF a b) rfl (it182 ea eb a b ha hb) (fun i s => i ≤ (pairsF a b).length ∧ s = ⟨[], [(5, [.v (.fn (.func k) [])]), (7, [.acc 1007 (frs ((List.zipWith F a b).take i))])], [], [(6, 0), (1007, i)],
    [[.v (.sl ea (frs a)), .v (.sl eb (frs b)), .v (.fn (.func k) []), jk, jk, .ptr 5 0, .acc 6 [], .ptr 7 0, jk, jk, .v (.sl ea (frs a)), .v (.sl eb (frs b)), .v (.fn (.func 182) [.vp [.sl ea (frs a)], .vp [.sl eb (frs b)]]), jk, jk, jk, jk, jk, jk, jk, jk, jk, jk]], 0, nomem⟩) ?_ ?_ ?_
  · simp -implicitDefEqProofs only [rkA, rkB, stepA, valA, simprocAttr]
    exact Nat.zero_le _
  · rintro i x' s' R hx ⟨hi, rfl⟩ hR
    have hlt : i < (pairsF a b).length := (List.getElem?_eq_some_iff.1 hx).1
    have h1 : i < a.length := by omega
    have h2 : i < b.length := by omega
    have hx' : x' = [frV a[i], frV b[i]] := by
      rw [pairsF, List.getElem?_map, List.getElem?_eq_getElem (by simp; omega), Option.map_some, List.getElem_zip] at hx
      exact (Option.some.inj hx).symm
    subst hx'
    refine ⟨rfl, ?_⟩
    simp -implicitDefEqProofs only [rkA, rkB, stepA, valA, simprocAttr]
    refine call_fn rfl rfl rfl (hF a[i] b[i]) ?_
    have hfit : fits 4 32 (frs ((List.zipWith F a b).take i)) [frV (F a[i] b[i])] = true := fits_frs (l := [F a[i] b[i]]) (by simp; omega)
    have hl : (frs ((List.zipWith F a b).take i)).length = i := by simp; omega
    simp -implicitDefEqProofs only [hfit, hl, rkA, rkB, stepA, valA, simprocAttr]
    refine hR _ ⟨by omega, ?_⟩
    rw [List.take_succ_eq_append_getElem (by simp; omega)]
    simp only [frs, List.map_append, List.map_cons, List.map_nil, List.getElem_zipWith]
  · rintro s' ⟨hi, rfl⟩
    simp -implicitDefEqProofs only [rkA, rkB, stepA, valA, simprocAttr]
    rw [List.take_of_length_le (by simp; omega)]

def dotF (a b : List Fr) : Fr := sumF (List.zipWith mulF a b)

theorem ok81 (ea eb : Bool) (a b : List Fr) (ha : a.length ≤ 4398046511104) (hb : b.length ≤ 4398046511104) : Ok Tryz.prog 81 [.sl ea (frs a), .sl eb (frs b)] (frV (dotF a b)) := by
  refine ok_fn mixed Tryz.func81 (code := ?_) (h := h81) ?_ k81 ?_
  rotate_left
  · exact rfl
  unfold h81 initS
  simp -implicitDefEqProofs only [rkA, rkB, stepA, valA, simprocAttr, Tryz.ntmps81, Tryz.results81]
  refine call_fn rfl rfl rfl (ok133 134 mulF ok134 ea eb a b ha hb) ?_
  simp -implicitDefEqProofs only [rkA, rkB, stepA, valA, simprocAttr]
  refine call_fn rfl rfl rfl (ok132 false (List.zipWith mulF a b) (by simp; omega)) ?_
  simp -implicitDefEqProofs only [rkA, rkB, stepA, valA, simprocAttr, dotF]

end Go.Proofs.YtbflmeomkfjikaaGreat.A.E


set_option linter.unusedVariables false
set_option linter.unusedSimpArgs false
set_option maxRecDepth 100000
namespace Go.Proofs.YtbflmeomkfjikaaGreat.A.E
open Go Go.RowKit Go.Shelf

section
variable {α β : Type} (f : α → α → β)
end

/-- All rows. -/
def allF (r c : Int) (l : List Fr) : List (List Fr) := (List.range r.toNat).map fun (i : Nat) => rowF r c l (i : Int)
theorem rowsF_all {r c : Int} {l : List Fr} (h : right r c l.length = true) {i : Nat} {x : List PV} (hx : (rowsF r c l)[i]? = some x) : i < r.toNat ∧ x = [num i, .sl false (frs (rowF r c l i))] ∧ (allF r c l)[i]? = some (rowF r c l i) := by
  obtain ⟨hi, rfl⟩ := List.getElem?_eq_some_iff.1 hx
  have hi' : i < r.toNat := by simpa [rowsF, h] using hi
  refine ⟨hi', by simp [rowsF, h], by simp [allF, hi']⟩
theorem rowsF_length {r c : Int} {l : List Fr} (h : right r c l.length = true) : (rowsF r c l).length = r.toNat := by simp [rowsF, h]
end Go.Proofs.YtbflmeomkfjikaaGreat.A.E


set_option linter.unusedVariables false
set_option linter.unusedSimpArgs false
namespace Go.Proofs.YtbflmeomkfjikaaGreat.A.E
open Go Go.RowKit Go.Shelf

theorem rowF_eq {r c : Int} {l : List Fr} (d : Fr) (h : right r c l.length = true) {i : Nat} (hi : i < r.toNat) : rowF r c l i = (List.range c.toNat).map fun j => l.getD (i * c.toNat + j) d := by
  obtain ⟨r1, r2, c1, c2, hn⟩ := right_spec h
  obtain ⟨R, rfl⟩ := Int.eq_ofNat_of_zero_le (show 0 ≤ r by omega)
  obtain ⟨K, rfl⟩ := Int.eq_ofNat_of_zero_le (show 0 ≤ c by omega)
  simp only [Int.toNat_natCast] at hi ⊢
  unfold rowF
  rw [if_pos ⟨h, by omega, by omega⟩]
  have e1 : (((i : Int) + 1) * (K : Int)).toNat = (i + 1) * K := by
    have : ((i : Int) + 1) * (K : Int) = (((i + 1) * K : Nat) : Int) := by simp
    rw [this, Int.toNat_natCast]
  have e2 : ((i : Int) * (K : Int)).toNat = i * K := by
    have : (i : Int) * (K : Int) = ((i * K : Nat) : Int) := by simp
    rw [this, Int.toNat_natCast]
  rw [e1, e2]
  refine stretch l d i K ?_
  have h1 : (i + 1) * K ≤ R * K := Nat.mul_le_mul_right _ hi
  have h2 : ((R * K : Nat) : Int) = (l.length : Int) := by rw [hn]; simp
  omega

theorem atF_eq {r c : Int} {l : List Fr} (h : right r c l.length = true) {i k : Nat} (hi : i < r.toNat) (hk : k < c.toNat) : atF r c l i k = l.getD (i * c.toNat + k) ⟨0, 0, 0, false⟩ := by
  obtain ⟨r1, r2, c1, c2, hn⟩ := right_spec h
  unfold atF
  rw [if_pos ⟨h, by omega, by omega, by omega, by omega⟩]
  congr 1
  obtain ⟨K, rfl⟩ := Int.eq_ofNat_of_zero_le (show 0 ≤ c by omega)
  have : (i : Int) * (K : Int) + (k : Int) = ((i * K + k : Nat) : Int) := by simp
  rw [this, Int.toNat_natCast, Int.toNat_natCast]

end Go.Proofs.YtbflmeomkfjikaaGreat.A.E


set_option linter.unusedVariables false
set_option linter.unusedSimpArgs false
set_option maxRecDepth 100000
namespace Go.Proofs.YtbflmeomkfjikaaGreat.A.E
open Go Go.RowKit Go.Shelf

/-! ### Whole numbers, enclosed: points -/
abbrev whole (n : Int) : Fr := ⟨n * 16777216, n * 16777216, n * 16777216, false⟩
def few (n : Int) : Prop := -67108864 ≤ n ∧ n ≤ 67108864
theorem natAbs_U (a : Int) : (a * 16777216).natAbs = a.natAbs * 16777216 := by rw [Int.natAbs_mul]; rfl
theorem signed_abs {x : Int} {b : Bool} (h : x = 0 ∨ b = decide (x < 0)) : (if b = true then -((x.natAbs : Nat) : Int) else ((x.natAbs : Nat) : Int)) = x := by
  rcases h with rfl | rfl
  · simp
  · by_cases h : x < 0
    · simp only [h, decide_true, if_true]
      omega
    · simp only [h, decide_false, Bool.false_eq_true, if_false]
      omega
theorem minus_mul (a b : Int) : a * b = 0 ∨ (decide (a < 0) != decide (b < 0)) = decide (a * b < 0) := by
  rcases Int.lt_trichotomy a 0 with ha | rfl | ha
  · rcases Int.lt_trichotomy b 0 with hb | rfl | hb
    · right
      have := Int.mul_pos_of_neg_of_neg ha hb
      rw [decide_eq_true ha, decide_eq_true hb, decide_eq_false (by omega)]; rfl
    · left; simp
    · right
      have := Int.mul_neg_of_neg_of_pos ha hb
      rw [decide_eq_true ha, decide_eq_false (by omega), decide_eq_true this]; rfl
  · left; simp
  · rcases Int.lt_trichotomy b 0 with hb | rfl | hb
    · right
      have := Int.mul_neg_of_pos_of_neg ha hb
      rw [decide_eq_false (by omega), decide_eq_true hb, decide_eq_true this]; rfl
    · left; simp
    · right
      have := Int.mul_pos ha hb
      rw [decide_eq_false (by omega), decide_eq_false (by omega), decide_eq_false (by omega)]; rfl
theorem U_lt (a : Int) : (a * 16777216 < 0) = (a < 0) := by apply propext; omega
theorem md_exact {a b mode : Int} (ha : few a) (hb : few b) (hab : few (a * b)) (hm : 0 ≤ mode ∧ mode ≤ 2) : mdF (a * 16777216) (b * 16777216) 16777216 mode = (a * b * 16777216, true) := by
  have e : (a * 16777216).natAbs * (b * 16777216).natAbs = ((a * b).natAbs * 16777216) * 16777216 := by
    rw [natAbs_U, natAbs_U, Int.natAbs_mul, Nat.mul_assoc, Nat.mul_assoc, Nat.mul_assoc]
    congr 1
    rw [← Nat.mul_assoc, Nat.mul_comm 16777216 b.natAbs, Nat.mul_assoc]
  have hU : (16777216 : Int).natAbs = 16777216 := rfl
  have hN : mdN (a * 16777216) (b * 16777216) 16777216 mode = (a * b).natAbs * 16777216 := by
    unfold mdN
    rw [hU, e, Nat.mul_div_cancel _ (by omega), Nat.mul_mod_left]
    simp [moreF]
  unfold few at ha hb hab
  have hok : mdOk (a * 16777216) (b * 16777216) 16777216 mode = true := by
    unfold mdOk rightW
    rw [hN]
    simp only [Bool.and_eq_true, decide_eq_true_eq]
    refine ⟨by omega, by omega, by omega, by omega, hm, ?_⟩
    omega
  unfold mdF
  rw [hok, if_pos rfl, hN]
  congr 1
  have hs : minus3 (a * 16777216) (b * 16777216) 16777216 = (decide (a < 0) != decide (b < 0)) := by
    unfold minus3
    simp only [U_lt]
    simp
  rw [hs]
  have h1 := signed_abs (x := a * b * 16777216) (b := decide (a < 0) != decide (b < 0)) (by
    rcases minus_mul a b with h | h
    · left; rw [h]; rfl
    · right; rw [h]; congr 1; exact (U_lt _).symm)
  rw [natAbs_U] at h1
  exact h1
theorem of_exact {n : Int} (h : few n) : mdF n 16777216 1 0 = (n * 16777216, true) := by
  have h1U : (1 : Int).natAbs = 1 := rfl
  have hU : (16777216 : Int).natAbs = 16777216 := rfl
  have hN : mdN n 16777216 1 0 = n.natAbs * 16777216 := by
    unfold mdN
    rw [h1U, hU, Nat.div_one, Nat.mod_one]
    simp [moreF]
  unfold few at h
  have hok : mdOk n 16777216 1 0 = true := by
    unfold mdOk rightW
    rw [hN]
    simp only [Bool.and_eq_true, decide_eq_true_eq]
    refine ⟨by omega, by omega, by omega, by omega, by omega, ?_⟩
    omega
  unfold mdF
  rw [hok, if_pos rfl, hN]
  congr 1
  have hs : minus3 n 16777216 1 = decide (n * 16777216 < 0) := by
    unfold minus3
    simp [U_lt]
  rw [hs]
  have h1 := signed_abs (x := n * 16777216) (b := decide (n * 16777216 < 0)) (.inr rfl)
  rw [natAbs_U] at h1
  exact h1
theorem rightX_U {n : Int} (h : few n) : rightX (n * 16777216) = true := by
  unfold few at h
  unfold rightX
  rw [decide_eq_true_eq]
  omega
theorem newF_whole {n : Int} (h : few n) : newF n 1 = whole n := by
  have e : ofX n = (n * 16777216, true) := by
    unfold ofX toldF
    rw [of_exact h]
    simp [rightX_U h]
  unfold newF point
  rw [e]
  simp [rightX_U h]
theorem fine_whole {n : Int} (h : few n) : (whole n).fine = true := by
  unfold Fr.fine
  simp [rightX_U h]
theorem addF_whole {a b : Int} (ha : few a) (hb : few b) (hs : few (a + b)) : addF (whole a) (whole b) = whole (a + b) := by
  have e : addX (a * 16777216) (b * 16777216) = ((a + b) * 16777216, true) := by
    unfold addX toldF
    rw [← Int.add_mul]
    simp [rightX_U ha, rightX_U hb, rightX_U hs]
  unfold addF madeE
  simp [okP, e, fine_whole ha, fine_whole hb, minL, maxL]
theorem mulF_whole {a b : Int} (ha : few a) (hb : few b) (hs : few (a * b)) : mulF (whole a) (whole b) = whole (a * b) := by
  have e : ∀ mode : Int, 0 ≤ mode ∧ mode ≤ 2 → mulX (a * 16777216) (b * 16777216) mode = (a * b * 16777216, true) := fun mode hm => by
    unfold mulX toldF
    rw [md_exact ha hb hs hm]
    simp [rightX_U ha, rightX_U hb, rightX_U hs]
  unfold mulF madeE
  simp [okP, allP, e, fine_whole ha, fine_whole hb, minL, maxL]
end Go.Proofs.YtbflmeomkfjikaaGreat.A.E


set_option linter.unusedVariables false
set_option linter.unusedSimpArgs false
set_option maxRecDepth 100000
namespace Go.Proofs.YtbflmeomkfjikaaGreat.A.E
open Go Go.RowKit Go.Shelf

/-! ### Rounding: what is told of a product, divided -/
theorem minus3_of (a b c : Int) (hc : c ≠ 0) : a * b = 0 ∨ minus3 a b c = decide ((if c < 0 then -(a * b) else a * b) < 0) := by
  rcases minus_mul a b with h | h
  · exact .inl h
  · by_cases h0 : a * b = 0
    · exact .inl h0
    · right
      unfold minus3
      rw [h]
      by_cases hc0 : c < 0
      · rw [if_pos hc0, decide_eq_true hc0]
        by_cases hx : a * b < 0
        · rw [decide_eq_true hx, decide_eq_false (by omega)]; rfl
        · rw [decide_eq_false hx, decide_eq_true (by omega)]; rfl
      · rw [if_neg hc0, decide_eq_false hc0]
        by_cases hx : a * b < 0
        · rw [decide_eq_true hx]; rfl
        · rw [decide_eq_false hx]; rfl
theorem md_spec {a b c mode : Int} (h : (mdF a b c mode).2 = true) : ∃ Y C : Int, 0 < C ∧ ((c = C ∧ Y = a * b) ∨ (c = -C ∧ Y = -(a * b))) ∧
    (mdF a b c mode).1 * C < Y + C ∧ Y < (mdF a b c mode).1 * C + C ∧ (mode = 1 → (mdF a b c mode).1 * C ≤ Y) ∧ (mode = 2 → Y ≤ (mdF a b c mode).1 * C) := by
  unfold mdF at h ⊢
  split at h
  · rename_i hok
    rw [if_pos hok]
    have hc : c ≠ 0 := by
      unfold mdOk at hok
      simp only [Bool.and_eq_true, decide_eq_true_eq] at hok
      exact hok.2.2.2.1
    refine ⟨if c < 0 then -(a * b) else a * b, (c.natAbs : Int), by omega, by split <;> omega, ?_⟩
    have hm := minus3_of a b c hc
    have hP : (if c < 0 then -(a * b) else a * b).natAbs = a.natAbs * b.natAbs := by
      rw [← Int.natAbs_mul]
      split <;> omega
    have h0 : a * b = 0 → (if c < 0 then -(a * b) else a * b) = 0 := fun h => by rw [h]; split <;> rfl
    generalize (if c < 0 then -(a * b) else a * b) = Y at *
    unfold mdN
    have hCp : 0 < c.natAbs := by omega
    generalize c.natAbs = C at *
    generalize a.natAbs * b.natAbs = P at *
    have hd := Nat.div_add_mod P C
    have hr := Nat.mod_lt P hCp
    have hmo : moreF mode (P / C) (P % C) C (minus3 a b c) = true → P % C ≠ 0 := fun h h0 => by
      unfold moreF at h
      rw [if_pos h0] at h
      cases h
    have hm1 : mode = 1 → moreF mode (P / C) (P % C) C (minus3 a b c) = (decide (P % C ≠ 0) && minus3 a b c) := fun h => by
      unfold moreF
      subst h
      by_cases h0 : P % C = 0
      · simp [h0]
      · simp [h0]
    have hm2 : mode = 2 → moreF mode (P / C) (P % C) C (minus3 a b c) = (decide (P % C ≠ 0) && !minus3 a b c) := fun h => by
      unfold moreF
      subst h
      by_cases h0 : P % C = 0
      · simp [h0]
      · simp [h0]
    generalize moreF mode (P / C) (P % C) C (minus3 a b c) = mo at *
    generalize minus3 a b c = mi at *
    generalize P / C = D at *
    generalize P % C = r at *
    have hT : ((D : Int)) * (C : Int) = ((C * D : Nat) : Int) := by rw [Nat.mul_comm, Int.natCast_mul]
    have hT1 : ((D : Int) + 1) * (C : Int) = ((C * D : Nat) : Int) + C := by rw [Int.add_mul, hT, Int.one_mul]
    generalize C * D = T at *
    have hmi : P = 0 ∨ mi = decide (Y < 0) := by
      rcases hm with h | h
      · have := h0 h
        left; omega
      · exact .inr h
    clear hm h0 h hok
    have hm1' : mode = 1 → (mo = true ↔ r ≠ 0 ∧ mi = true) := fun h => by rw [hm1 h]; simp
    have hm2' : mode = 2 → (mo = true ↔ r ≠ 0 ∧ mi = false) := fun h => by rw [hm2 h]; simp
    clear hm1 hm2
    have hmi' : P = 0 ∨ (mi = true ↔ Y < 0) := by
      rcases hmi with h | h
      · exact .inl h
      · right; rw [h, decide_eq_true_eq]
    clear hmi
    cases mo <;> cases mi
    all_goals simp only [if_true, if_false, Bool.false_eq_true, Nat.add_zero, Int.natCast_add, Int.natCast_one, Int.neg_mul, hT, hT1, true_iff, false_iff, reduceCtorEq, and_true, and_false, iff_true, iff_false, not_true_eq_false, not_false_eq_true, Int.natCast_zero, Int.add_zero]
    all_goals simp only [Bool.false_eq_true, reduceCtorEq, false_implies, true_implies, forall_const, true_iff, false_iff, and_true, and_false, iff_true, iff_false, not_true_eq_false, not_false_eq_true, Int.not_lt, ne_eq, Decidable.not_not, false_and, not_and, true_and] at hmo hmi' hm1' hm2'
    all_goals refine ⟨by omega, by omega, fun h => ?_, fun h => ?_⟩
    all_goals first
      | omega
      | (have := hm1' h; omega)
      | (have := hm2' h; omega)
      | exact (hm1' h).elim
      | exact (hm2' h).elim
  · cases h

/-! ### What is made of values and of pairs of bounds -/
theorem minL_foldl : ∀ (l : List Int) (x : Int), l.foldl (fun m y => if y < m then y else m) x ≤ x ∧ (∀ y ∈ l, l.foldl (fun m y => if y < m then y else m) x ≤ y) ∧ (l.foldl (fun m y => if y < m then y else m) x = x ∨ l.foldl (fun m y => if y < m then y else m) x ∈ l)
  | [], x => ⟨Int.le_refl _, by simp, .inl rfl⟩
  | z :: l, x => by
    rw [List.foldl_cons]
    have ht : (if z < x then z else x) ≤ x ∧ (if z < x then z else x) ≤ z ∧ ((if z < x then z else x) = x ∨ (if z < x then z else x) = z) := by split <;> omega
    generalize (if z < x then z else x) = t at ht ⊢
    obtain ⟨h1, h2, h3⟩ := minL_foldl l t
    refine ⟨by omega, fun y hy => ?_, ?_⟩
    · rcases List.mem_cons.1 hy with rfl | hy
      · omega
      · exact h2 y hy
    · rcases h3 with h3 | h3
      · rw [h3]
        rcases ht.2.2 with e | e
        · exact .inl e
        · right; rw [e]; simp
      · right; exact List.mem_cons_of_mem _ h3
theorem maxL_foldl : ∀ (l : List Int) (x : Int), x ≤ l.foldl (fun m y => if m < y then y else m) x ∧ (∀ y ∈ l, y ≤ l.foldl (fun m y => if m < y then y else m) x) ∧ (l.foldl (fun m y => if m < y then y else m) x = x ∨ l.foldl (fun m y => if m < y then y else m) x ∈ l)
  | [], x => ⟨Int.le_refl _, by simp, .inl rfl⟩
  | z :: l, x => by
    rw [List.foldl_cons]
    have ht : x ≤ (if x < z then z else x) ∧ z ≤ (if x < z then z else x) ∧ ((if x < z then z else x) = x ∨ (if x < z then z else x) = z) := by split <;> omega
    generalize (if x < z then z else x) = t at ht ⊢
    obtain ⟨h1, h2, h3⟩ := maxL_foldl l t
    refine ⟨by omega, fun y hy => ?_, ?_⟩
    · rcases List.mem_cons.1 hy with rfl | hy
      · omega
      · exact h2 y hy
    · rcases h3 with h3 | h3
      · rw [h3]
        rcases ht.2.2 with e | e
        · exact .inl e
        · right; rw [e]; simp
      · right; exact List.mem_cons_of_mem _ h3
theorem minL_le {l : List Int} {y : Int} (h : y ∈ l) : minL l ≤ y := by
  cases l with
  | nil => cases h
  | cons x l =>
    rcases List.mem_cons.1 h with rfl | h
    · exact (minL_foldl l y).1
    · exact (minL_foldl l x).2.1 y h
theorem le_maxL {l : List Int} {y : Int} (h : y ∈ l) : y ≤ maxL l := by
  cases l with
  | nil => cases h
  | cons x l =>
    rcases List.mem_cons.1 h with rfl | h
    · exact (maxL_foldl l y).1
    · exact (maxL_foldl l x).2.1 y h
theorem minL_mem {l : List Int} (h : l ≠ []) : minL l ∈ l := by
  cases l with
  | nil => exact absurd rfl h
  | cons x l =>
    rcases (minL_foldl l x).2.2 with e | e
    · have e' : minL (x :: l) = x := e
      rw [e']; simp
    · exact List.mem_cons_of_mem _ e
theorem maxL_mem {l : List Int} (h : l ≠ []) : maxL l ∈ l := by
  cases l with
  | nil => exact absurd rfl h
  | cons x l =>
    rcases (maxL_foldl l x).2.2 with e | e
    · have e' : maxL (x :: l) = x := e
      rw [e']; simp
    · exact List.mem_cons_of_mem _ e
theorem made_is {F : Int → Int → Int → Int × Bool} {a b : Fr} {ps : List (Int × Int)} (h : (madeE F a b ps).bad = false) : a.fine = true ∧ b.fine = true ∧ (F a.v b.v 0).2 = true ∧ (∀ p ∈ ps, (F p.1 p.2 1).2 = true ∧ (F p.1 p.2 2).2 = true) ∧
    madeE F a b ps = ⟨(F a.v b.v 0).1, minL (ps.map fun p => (F p.1 p.2 1).1), maxL (ps.map fun p => (F p.1 p.2 2).1), false⟩ := by
  unfold madeE at h ⊢
  split at h
  · rename_i hc
    rw [if_pos hc]
    obtain ⟨h1, h2, h3⟩ := hc
    rw [Bool.and_eq_true] at h1
    refine ⟨h2, h3, h1.1, fun p hp => ?_, rfl⟩
    have := List.all_eq_true.1 h1.2 p hp
    unfold okP at this
    exact Bool.and_eq_true_iff.1 this
  · cases h
theorem told_is {n : Int} {is : Bool} {l : List Int} (h : (toldF n is l).2 = true) : is = true ∧ (toldF n is l).1 = n ∧ rightX n = true := by
  unfold toldF at h ⊢
  split at h
  · rename_i hc
    rw [if_pos hc]
    exact ⟨hc.1, rfl, List.all_eq_true.1 hc.2 n (by simp)⟩
  · cases h
theorem fine_is {x : Fr} : x.fine = true ↔ x.bad = false ∧ rightX x.lo = true ∧ rightX x.hi = true ∧ x.lo ≤ x.v ∧ x.v ≤ x.hi := by
  unfold Fr.fine
  simp only [Bool.and_eq_true, Bool.not_eq_true', decide_eq_true_eq]

/-! ### To enclose -/
def Enc (x : Fr) (v : Rat) : Prop := x.fine = true ∧ (x.lo : Rat) ≤ v * 16777216 ∧ v * 16777216 ≤ (x.hi : Rat)
/-- Of what is made: every bound told is rounded to its side. -/
theorem made_enc {F : Int → Int → Int → Int × Bool} {a b : Fr} {ps : List (Int × Int)} {w : Rat} (h : (madeE F a b ps).bad = false)
    (hr : ∀ x y m, (F x y m).2 = true → rightX (F x y m).1 = true)
    (hlo : ∃ p ∈ ps, ((F p.1 p.2 1).1 : Rat) ≤ w * 16777216) (hhi : ∃ p ∈ ps, w * 16777216 ≤ ((F p.1 p.2 2).1 : Rat))
    (hlv : ∃ p ∈ ps, (F p.1 p.2 1).1 ≤ (F a.v b.v 0).1) (hvh : ∃ p ∈ ps, (F a.v b.v 0).1 ≤ (F p.1 p.2 2).1) : Enc (madeE F a b ps) w := by
  obtain ⟨h1, h2, h3, h4, h5⟩ := made_is h
  rw [h5]
  have hne : ps ≠ [] := fun e => by obtain ⟨p, hp, _⟩ := hlo; rw [e] at hp; cases hp
  have hml := minL_mem (l := ps.map fun p => (F p.1 p.2 1).1) (by simpa using hne)
  have hmh := maxL_mem (l := ps.map fun p => (F p.1 p.2 2).1) (by simpa using hne)
  have lo_le : ∀ p ∈ ps, minL (ps.map fun p => (F p.1 p.2 1).1) ≤ (F p.1 p.2 1).1 := fun p hp => minL_le (List.mem_map.2 ⟨p, hp, rfl⟩)
  have le_hi : ∀ p ∈ ps, (F p.1 p.2 2).1 ≤ maxL (ps.map fun p => (F p.1 p.2 2).1) := fun p hp => le_maxL (List.mem_map.2 ⟨p, hp, rfl⟩)
  refine ⟨fine_is.2 ⟨rfl, ?_, ?_, ?_, ?_⟩, ?_, ?_⟩
  · obtain ⟨p, hp, e⟩ := List.mem_map.1 hml
    show rightX (minL _) = true
    rw [← e]; exact hr _ _ _ (h4 p hp).1
  · obtain ⟨p, hp, e⟩ := List.mem_map.1 hmh
    show rightX (maxL _) = true
    rw [← e]; exact hr _ _ _ (h4 p hp).2
  · obtain ⟨p, hp, e⟩ := hlv
    exact Int.le_trans (lo_le p hp) e
  · obtain ⟨p, hp, e⟩ := hvh
    exact Int.le_trans e (le_hi p hp)
  · obtain ⟨p, hp, e⟩ := hlo
    exact Rat.le_trans (Rat.intCast_le_intCast.2 (lo_le p hp)) e
  · obtain ⟨p, hp, e⟩ := hhi
    exact Rat.le_trans e (Rat.intCast_le_intCast.2 (le_hi p hp))

theorem add_spec {x y : Int} (h : (addX x y).2 = true) : (addX x y).1 = x + y ∧ rightX (x + y) = true := by
  unfold addX at h ⊢
  split at h
  · rename_i hc
    rw [if_pos hc]
    exact (told_is h).2
  · cases h
theorem sub_spec {x y : Int} (h : (subX x y).2 = true) : (subX x y).1 = x - y ∧ rightX (x - y) = true := by
  unfold subX at h ⊢
  split at h
  · rename_i hc
    rw [if_pos hc]
    exact (told_is h).2
  · cases h
theorem addF_enc {a b : Fr} {v w : Rat} (ha : a.bad = false → Enc a v) (hb : b.bad = false → Enc b w) (h : (addF a b).bad = false) : Enc (addF a b) (v + w) := by
  unfold addF at h ⊢
  obtain ⟨h1, h2, h3, h4, h5⟩ := made_is h
  obtain ⟨fa, la, ua⟩ := ha (fine_is.1 h1).1
  obtain ⟨fb, lb, ub⟩ := hb (fine_is.1 h2).1
  have p1 := h4 (a.lo, b.lo) (by simp)
  have p2 := h4 (a.hi, b.hi) (by simp)
  have s1 : (addX a.lo b.lo).1 = a.lo + b.lo := (add_spec p1.1).1
  have s2 : (addX a.hi b.hi).1 = a.hi + b.hi := (add_spec p2.1).1
  have s0 : (addX a.v b.v).1 = a.v + b.v := (add_spec h3).1
  have oa := (fine_is.1 h1).2.2.2
  have ob := (fine_is.1 h2).2.2.2
  refine made_enc h (fun x y m hxy => ?_) ⟨_, List.mem_cons_self .., ?_⟩ ⟨(a.hi, b.hi), by simp, ?_⟩ ⟨(a.lo, b.lo), by simp, ?_⟩ ⟨(a.hi, b.hi), by simp, ?_⟩
  · have := add_spec hxy
    show rightX (addX x y).1 = true
    rw [this.1]; exact this.2
  · show ((addX a.lo b.lo).1 : Rat) ≤ _
    rw [s1, Rat.intCast_add]
    grind
  · show _ ≤ ((addX a.hi b.hi).1 : Rat)
    rw [s2, Rat.intCast_add]
    grind
  · show (addX a.lo b.lo).1 ≤ (addX a.v b.v).1
    omega
  · show (addX a.v b.v).1 ≤ (addX a.hi b.hi).1
    omega
theorem subF_enc {a b : Fr} {v w : Rat} (ha : a.bad = false → Enc a v) (hb : b.bad = false → Enc b w) (h : (subF a b).bad = false) : Enc (subF a b) (v - w) := by
  unfold subF at h ⊢
  obtain ⟨h1, h2, h3, h4, h5⟩ := made_is h
  obtain ⟨fa, la, ua⟩ := ha (fine_is.1 h1).1
  obtain ⟨fb, lb, ub⟩ := hb (fine_is.1 h2).1
  have p1 := h4 (a.lo, b.hi) (by simp)
  have p2 := h4 (a.hi, b.lo) (by simp)
  have s1 : (subX a.lo b.hi).1 = a.lo - b.hi := (sub_spec p1.1).1
  have s2 : (subX a.hi b.lo).1 = a.hi - b.lo := (sub_spec p2.1).1
  have s0 : (subX a.v b.v).1 = a.v - b.v := (sub_spec h3).1
  have oa := (fine_is.1 h1).2.2.2
  have ob := (fine_is.1 h2).2.2.2
  refine made_enc h (fun x y m hxy => ?_) ⟨_, List.mem_cons_self .., ?_⟩ ⟨(a.hi, b.lo), by simp, ?_⟩ ⟨(a.lo, b.hi), by simp, ?_⟩ ⟨(a.hi, b.lo), by simp, ?_⟩
  · have := sub_spec hxy
    show rightX (subX x y).1 = true
    rw [this.1]; exact this.2
  · show ((subX a.lo b.hi).1 : Rat) ≤ _
    rw [s1, Rat.intCast_sub]
    grind
  · show _ ≤ ((subX a.hi b.lo).1 : Rat)
    rw [s2, Rat.intCast_sub]
    grind
  · show (subX a.lo b.hi).1 ≤ (subX a.v b.v).1
    omega
  · show (subX a.v b.v).1 ≤ (subX a.hi b.lo).1
    omega

/-! ### Corners -/
theorem corner_lo {l h m n x y : Rat} (h1 : l ≤ x) (h2 : x ≤ h) (h3 : m ≤ y) (h4 : y ≤ n) : l * m ≤ x * y ∨ l * n ≤ x * y ∨ h * m ≤ x * y ∨ h * n ≤ x * y := by
  rcases Rat.le_total (a := 0) (b := y) with hy | hy
  · have k1 := Rat.mul_nonneg (show 0 ≤ x - l by grind) hy
    rcases Rat.le_total (a := 0) (b := l) with hl | hl
    · have k2 := Rat.mul_nonneg hl (show 0 ≤ y - m by grind)
      left; grind
    · have k2 := Rat.mul_nonneg (show 0 ≤ -l by grind) (show 0 ≤ n - y by grind)
      right; left; grind
  · have k1 := Rat.mul_nonneg (show 0 ≤ h - x by grind) (show 0 ≤ -y by grind)
    rcases Rat.le_total (a := 0) (b := h) with hl | hl
    · have k2 := Rat.mul_nonneg hl (show 0 ≤ y - m by grind)
      right; right; left; grind
    · have k2 := Rat.mul_nonneg (show 0 ≤ -h by grind) (show 0 ≤ n - y by grind)
      right; right; right; grind
theorem corner_hi {l h m n x y : Rat} (h1 : l ≤ x) (h2 : x ≤ h) (h3 : m ≤ y) (h4 : y ≤ n) : x * y ≤ l * m ∨ x * y ≤ l * n ∨ x * y ≤ h * m ∨ x * y ≤ h * n := by
  have := corner_lo (l := -h) (h := -l) (m := m) (n := n) (x := -x) (y := y) (by grind) (by grind) h3 h4
  rcases this with h | h | h | h
  · right; right; left; grind
  · right; right; right; grind
  · left; grind
  · right; left; grind

/-! ### Products and quotients -/
theorem mul_told {x y m : Int} (h : (mulX x y m).2 = true) : (mdF x y 16777216 m).2 = true ∧ (mulX x y m).1 = (mdF x y 16777216 m).1 ∧ rightX (mulX x y m).1 = true := by
  unfold mulX at h ⊢
  obtain ⟨h1, h2, h3⟩ := told_is h
  exact ⟨h1, h2, by rw [h2]; exact h3⟩
theorem mul_spec {x y m : Int} (h : (mulX x y m).2 = true) : (mulX x y m).1 * 16777216 < x * y + 16777216 ∧ x * y < (mulX x y m).1 * 16777216 + 16777216 ∧ (m = 1 → (mulX x y m).1 * 16777216 ≤ x * y) ∧ (m = 2 → x * y ≤ (mulX x y m).1 * 16777216) := by
  obtain ⟨h1, h2, h3⟩ := mul_told h
  obtain ⟨Y, C, hC, hcY, k⟩ := md_spec h1
  have : C = 16777216 ∧ Y = x * y := by
    rcases hcY with ⟨e1, e2⟩ | ⟨e1, e2⟩
    · exact ⟨e1.symm, e2⟩
    · omega
  rw [this.1, this.2] at k
  rw [h2]
  exact k
theorem corner_loI {l h m n x y : Int} (h1 : l ≤ x) (h2 : x ≤ h) (h3 : m ≤ y) (h4 : y ≤ n) : l * m ≤ x * y ∨ l * n ≤ x * y ∨ h * m ≤ x * y ∨ h * n ≤ x * y := by
  have := corner_lo (Rat.intCast_le_intCast.2 h1) (Rat.intCast_le_intCast.2 h2) (Rat.intCast_le_intCast.2 h3) (Rat.intCast_le_intCast.2 h4)
  simpa only [← Rat.intCast_mul, Rat.intCast_le_intCast] using this
theorem corner_hiI {l h m n x y : Int} (h1 : l ≤ x) (h2 : x ≤ h) (h3 : m ≤ y) (h4 : y ≤ n) : x * y ≤ l * m ∨ x * y ≤ l * n ∨ x * y ≤ h * m ∨ x * y ≤ h * n := by
  have := corner_hi (Rat.intCast_le_intCast.2 h1) (Rat.intCast_le_intCast.2 h2) (Rat.intCast_le_intCast.2 h3) (Rat.intCast_le_intCast.2 h4)
  simpa only [← Rat.intCast_mul, Rat.intCast_le_intCast] using this
theorem mulF_enc {a b : Fr} {v w : Rat} (ha : a.bad = false → Enc a v) (hb : b.bad = false → Enc b w) (h : (mulF a b).bad = false) : Enc (mulF a b) (v * w) := by
  unfold mulF at h ⊢
  obtain ⟨h1, h2, h3, h4, h5⟩ := made_is h
  obtain ⟨fa, la, ua⟩ := ha (fine_is.1 h1).1
  obtain ⟨fb, lb, ub⟩ := hb (fine_is.1 h2).1
  have oa := (fine_is.1 h1).2.2.2
  have ob := (fine_is.1 h2).2.2.2
  have s0 := mul_spec h3
  have lo : ∀ p ∈ allP a b, ((p.1 * p.2 : Int) : Rat) ≤ (v * 16777216) * (w * 16777216) → ((mulX p.1 p.2 1).1 : Rat) ≤ v * w * 16777216 := fun p hp hle => by
    have k := (mul_spec (h4 p hp).1).2.2.1 rfl
    have k' : ((mulX p.1 p.2 1).1 : Rat) * 16777216 ≤ ((p.1 * p.2 : Int) : Rat) := by
      have := Rat.intCast_le_intCast.2 k
      rw [Rat.intCast_mul] at this
      exact this
    grind
  have hi : ∀ p ∈ allP a b, (v * 16777216) * (w * 16777216) ≤ ((p.1 * p.2 : Int) : Rat) → v * w * 16777216 ≤ ((mulX p.1 p.2 2).1 : Rat) := fun p hp hle => by
    have k := (mul_spec (h4 p hp).2).2.2.2 rfl
    have k' : ((p.1 * p.2 : Int) : Rat) ≤ ((mulX p.1 p.2 2).1 : Rat) * 16777216 := by
      have := Rat.intCast_le_intCast.2 k
      rw [Rat.intCast_mul (mulX p.1 p.2 2).1 16777216] at this
      exact this
    grind
  have lv : ∀ p ∈ allP a b, p.1 * p.2 ≤ a.v * b.v → (mulX p.1 p.2 1).1 ≤ (mulX a.v b.v 0).1 := fun p hp hle => by
    have k := (mul_spec (h4 p hp).1).2.2.1 rfl
    omega
  have vh : ∀ p ∈ allP a b, a.v * b.v ≤ p.1 * p.2 → (mulX a.v b.v 0).1 ≤ (mulX p.1 p.2 2).1 := fun p hp hle => by
    have k := (mul_spec (h4 p hp).2).2.2.2 rfl
    omega
  have m1 : (a.lo, b.lo) ∈ allP a b := by simp [allP]
  have m2 : (a.lo, b.hi) ∈ allP a b := by simp [allP]
  have m3 : (a.hi, b.lo) ∈ allP a b := by simp [allP]
  have m4 : (a.hi, b.hi) ∈ allP a b := by simp [allP]
  refine made_enc h (fun x y m hxy => (mul_told hxy).2.2) ?_ ?_ ?_ ?_
  · have := corner_lo la ua lb ub
    simp only [← Rat.intCast_mul] at this
    rcases this with k | k | k | k
    · exact ⟨_, m1, lo _ m1 k⟩
    · exact ⟨_, m2, lo _ m2 k⟩
    · exact ⟨_, m3, lo _ m3 k⟩
    · exact ⟨_, m4, lo _ m4 k⟩
  · have := corner_hi la ua lb ub
    simp only [← Rat.intCast_mul] at this
    rcases this with k | k | k | k
    · exact ⟨_, m1, hi _ m1 k⟩
    · exact ⟨_, m2, hi _ m2 k⟩
    · exact ⟨_, m3, hi _ m3 k⟩
    · exact ⟨_, m4, hi _ m4 k⟩
  · rcases corner_loI oa.1 oa.2 ob.1 ob.2 with k | k | k | k
    · exact ⟨_, m1, lv _ m1 k⟩
    · exact ⟨_, m2, lv _ m2 k⟩
    · exact ⟨_, m3, lv _ m3 k⟩
    · exact ⟨_, m4, lv _ m4 k⟩
  · rcases corner_hiI oa.1 oa.2 ob.1 ob.2 with k | k | k | k
    · exact ⟨_, m1, vh _ m1 k⟩
    · exact ⟨_, m2, vh _ m2 k⟩
    · exact ⟨_, m3, vh _ m3 k⟩
    · exact ⟨_, m4, vh _ m4 k⟩

theorem inv_nn {y : Rat} (h : 0 < y) : 0 ≤ y⁻¹ := Rat.le_of_lt (Rat.inv_pos.2 h)
theorem inv_mono {m y : Rat} (h : 0 < m) (hy : m ≤ y) : y⁻¹ ≤ m⁻¹ := by
  have h1 : m * m⁻¹ = 1 := Rat.mul_inv_cancel m (by grind)
  have h2 : y * y⁻¹ = 1 := Rat.mul_inv_cancel y (by grind)
  have k := Rat.mul_nonneg (show 0 ≤ y - m by grind) (Rat.mul_nonneg (inv_nn h) (inv_nn (show 0 < y by grind)))
  have e : (y - m) * (m⁻¹ * y⁻¹) = m⁻¹ - y⁻¹ := by grind
  grind
theorem inv_neg' (y : Rat) : (-y)⁻¹ = -y⁻¹ := by
  by_cases h : y = 0
  · subst h
    simp
  · have h1 : y * y⁻¹ = 1 := Rat.mul_inv_cancel y h
    have h2 : (-y) * (-y)⁻¹ = 1 := Rat.mul_inv_cancel (-y) (by grind)
    grind
theorem inv_mono_neg {n y : Rat} (h : n < 0) (hy : y ≤ n) : n⁻¹ ≤ y⁻¹ := by
  have := inv_mono (m := -n) (y := -y) (by grind) (by grind)
  rw [inv_neg', inv_neg'] at this
  grind
theorem inv_between {m n y : Rat} (h1 : m ≤ y) (h2 : y ≤ n) (h : 0 < m ∨ n < 0) : n⁻¹ ≤ y⁻¹ ∧ y⁻¹ ≤ m⁻¹ := by
  rcases h with h | h
  · exact ⟨inv_mono (by grind) h2, inv_mono h h1⟩
  · exact ⟨inv_mono_neg h h2, inv_mono_neg (by grind) h1⟩
theorem div_told {x y m : Int} (h : (divX x y m).2 = true) : (mdF x 16777216 y m).2 = true ∧ (divX x y m).1 = (mdF x 16777216 y m).1 ∧ rightX (divX x y m).1 = true := by
  unfold divX at h ⊢
  obtain ⟨h1, h2, h3⟩ := told_is h
  exact ⟨h1, h2, by rw [h2]; exact h3⟩
theorem div_spec {s t m : Int} (h : (divX s t m).2 = true) : t ≠ 0 ∧ ((divX s t m).1 : Rat) < (s : Rat) * (t : Rat)⁻¹ * 16777216 + 1 ∧ (s : Rat) * (t : Rat)⁻¹ * 16777216 < ((divX s t m).1 : Rat) + 1 ∧
    (m = 1 → ((divX s t m).1 : Rat) ≤ (s : Rat) * (t : Rat)⁻¹ * 16777216) ∧ (m = 2 → (s : Rat) * (t : Rat)⁻¹ * 16777216 ≤ ((divX s t m).1 : Rat)) := by
  obtain ⟨h1, h2, _⟩ := div_told h
  obtain ⟨Y, C, hC, hcY, k1, k2, k3, k4⟩ := md_spec h1
  rw [← h2] at k1 k2 k3 k4
  generalize (divX s t m).1 = q at *
  have ht : t ≠ 0 := by omega
  have hC' : (0 : Rat) < (C : Rat) := by
    have := Rat.intCast_lt_intCast.2 hC
    simpa using this
  have hCi := inv_nn hC'
  have hCC : (C : Rat) * (C : Rat)⁻¹ = 1 := Rat.mul_inv_cancel _ (by grind)
  have hz : (s : Rat) * (t : Rat)⁻¹ * 16777216 = (Y : Rat) * (C : Rat)⁻¹ := by
    rcases hcY with ⟨e1, e2⟩ | ⟨e1, e2⟩
    · rw [e1, e2, Rat.intCast_mul]
      grind
    · rw [e1, e2, Rat.intCast_neg, Rat.intCast_neg, Rat.intCast_mul, inv_neg']
      grind
  rw [hz]
  have r1 := Rat.intCast_lt_intCast.2 k1
  have r2 := Rat.intCast_lt_intCast.2 k2
  rw [Rat.intCast_mul, Rat.intCast_add] at r1
  rw [Rat.intCast_add, Rat.intCast_mul] at r2
  have hCp : 0 < (C : Rat)⁻¹ := Rat.inv_pos.2 hC'
  have r3 : m = 1 → (q : Rat) * C ≤ Y := fun h => by
    have k := Rat.intCast_le_intCast.2 (k3 h)
    rwa [Rat.intCast_mul] at k
  have r4 : m = 2 → (Y : Rat) ≤ q * C := fun h => by
    have k := Rat.intCast_le_intCast.2 (k4 h)
    rwa [Rat.intCast_mul] at k
  clear hz k1 k2 k3 k4 hcY h1 h2 h
  generalize (C : Rat)⁻¹ = i at *
  generalize (C : Rat) = c at *
  generalize (Y : Rat) = y at *
  generalize (q : Rat) = Q at *
  clear hC
  refine ⟨ht, ?_, ?_, fun h => ?_, fun h => ?_⟩
  · have := Rat.mul_pos (show 0 < y + c - Q * c by grind) hCp
    have e : (y + c - Q * c) * i = y * i + c * i - Q * (c * i) := by grind
    rw [e, hCC] at this
    grind
  · have := Rat.mul_pos (show 0 < Q * c + c - y by grind) hCp
    have e : (Q * c + c - y) * i = Q * (c * i) + c * i - y * i := by grind
    rw [e, hCC] at this
    grind
  · have := Rat.mul_nonneg (show 0 ≤ y - Q * c by have := r3 h; grind) hCi
    have e : (y - Q * c) * i = y * i - Q * (c * i) := by grind
    rw [e, hCC] at this
    grind
  · have := Rat.mul_nonneg (show 0 ≤ Q * c - y by have := r4 h; grind) hCi
    have e : (Q * c - y) * i = Q * (c * i) - y * i := by grind
    rw [e, hCC] at this
    grind

theorem divF_enc {a b : Fr} {v w : Rat} (ha : a.bad = false → Enc a v) (hb : b.bad = false → Enc b w) (h : (divF a b).bad = false) : Enc (divF a b) (v / w) := by
  unfold divF at h ⊢
  split at h
  · cases h
  · rename_i h0
    rw [if_neg h0]
    obtain ⟨h1, h2, h3, h4, h5⟩ := made_is h
    obtain ⟨fa, la, ua⟩ := ha (fine_is.1 h1).1
    obtain ⟨fb, lb, ub⟩ := hb (fine_is.1 h2).1
    have oa := (fine_is.1 h1).2.2.2
    have ob := (fine_is.1 h2).2.2.2
    have hs : (0 : Rat) < (b.lo : Rat) ∨ (b.hi : Rat) < 0 := by
      by_cases hl : b.lo ≤ 0
      · right
        have : b.hi < 0 := by omega
        have := Rat.intCast_lt_intCast.2 this
        simpa using this
      · left
        have : 0 < b.lo := by omega
        have := Rat.intCast_lt_intCast.2 this
        simpa using this
    obtain ⟨n1, n2⟩ := inv_between lb ub hs
    obtain ⟨n3, n4⟩ := inv_between (Rat.intCast_le_intCast.2 ob.1) (Rat.intCast_le_intCast.2 ob.2) hs
    have hw : w ≠ 0 := fun e => by subst e; rcases hs with k | k <;> grind
    have hz : v / w * 16777216 = (v * 16777216) * (w * 16777216)⁻¹ * 16777216 := by
      have h1 : w * w⁻¹ = 1 := Rat.mul_inv_cancel w hw
      have h2 : (w * 16777216) * (w * 16777216)⁻¹ = 1 := Rat.mul_inv_cancel _ (by grind)
      rw [Rat.div_def]
      grind
    have s0 := div_spec h3
    have lo : ∀ p ∈ allP a b, (p.1 : Rat) * (p.2 : Rat)⁻¹ ≤ (v * 16777216) * (w * 16777216)⁻¹ → ((divX p.1 p.2 1).1 : Rat) ≤ v / w * 16777216 := fun p hp hle => by
      have k := (div_spec (h4 p hp).1).2.2.2.1 rfl
      rw [hz]
      grind
    have hi : ∀ p ∈ allP a b, (v * 16777216) * (w * 16777216)⁻¹ ≤ (p.1 : Rat) * (p.2 : Rat)⁻¹ → v / w * 16777216 ≤ ((divX p.1 p.2 2).1 : Rat) := fun p hp hle => by
      have k := (div_spec (h4 p hp).2).2.2.2.2 rfl
      rw [hz]
      grind
    have lv : ∀ p ∈ allP a b, (p.1 : Rat) * (p.2 : Rat)⁻¹ ≤ (a.v : Rat) * (b.v : Rat)⁻¹ → (divX p.1 p.2 1).1 ≤ (divX a.v b.v 0).1 := fun p hp hle => by
      have k := (div_spec (h4 p hp).1).2.2.2.1 rfl
      have k2 := s0.2.2.1
      have : ((divX p.1 p.2 1).1 : Rat) < (((divX a.v b.v 0).1 + 1 : Int) : Rat) := by
        rw [Rat.intCast_add]
        grind
      have := Rat.intCast_lt_intCast.1 this
      omega
    have vh : ∀ p ∈ allP a b, (a.v : Rat) * (b.v : Rat)⁻¹ ≤ (p.1 : Rat) * (p.2 : Rat)⁻¹ → (divX a.v b.v 0).1 ≤ (divX p.1 p.2 2).1 := fun p hp hle => by
      have k := (div_spec (h4 p hp).2).2.2.2.2 rfl
      have k2 := s0.2.1
      have : ((divX a.v b.v 0).1 : Rat) < (((divX p.1 p.2 2).1 + 1 : Int) : Rat) := by
        rw [Rat.intCast_add]
        grind
      have := Rat.intCast_lt_intCast.1 this
      omega
    have m1 : (a.lo, b.lo) ∈ allP a b := by simp [allP]
    have m2 : (a.lo, b.hi) ∈ allP a b := by simp [allP]
    have m3 : (a.hi, b.lo) ∈ allP a b := by simp [allP]
    have m4 : (a.hi, b.hi) ∈ allP a b := by simp [allP]
    refine made_enc h (fun x y m hxy => (div_told hxy).2.2) ?_ ?_ ?_ ?_
    · rcases corner_lo la ua n1 n2 with k | k | k | k
      · exact ⟨_, m2, lo _ m2 k⟩
      · exact ⟨_, m1, lo _ m1 k⟩
      · exact ⟨_, m4, lo _ m4 k⟩
      · exact ⟨_, m3, lo _ m3 k⟩
    · rcases corner_hi la ua n1 n2 with k | k | k | k
      · exact ⟨_, m2, hi _ m2 k⟩
      · exact ⟨_, m1, hi _ m1 k⟩
      · exact ⟨_, m4, hi _ m4 k⟩
      · exact ⟨_, m3, hi _ m3 k⟩
    · rcases corner_lo (Rat.intCast_le_intCast.2 oa.1) (Rat.intCast_le_intCast.2 oa.2) n3 n4 with k | k | k | k
      · exact ⟨_, m2, lv _ m2 k⟩
      · exact ⟨_, m1, lv _ m1 k⟩
      · exact ⟨_, m4, lv _ m4 k⟩
      · exact ⟨_, m3, lv _ m3 k⟩
    · rcases corner_hi (Rat.intCast_le_intCast.2 oa.1) (Rat.intCast_le_intCast.2 oa.2) n3 n4 with k | k | k | k
      · exact ⟨_, m2, vh _ m2 k⟩
      · exact ⟨_, m1, vh _ m1 k⟩
      · exact ⟨_, m4, vh _ m4 k⟩
      · exact ⟨_, m3, vh _ m3 k⟩
theorem whole_enc {n : Int} (h : few n) : Enc (newF n 1) (n : Rat) := by
  rw [newF_whole h]
  refine ⟨fine_whole h, ?_, ?_⟩
  · show ((n * 16777216 : Int) : Rat) ≤ _
    rw [Rat.intCast_mul]
    exact Rat.le_refl
  · show _ ≤ ((n * 16777216 : Int) : Rat)
    rw [Rat.intCast_mul]
    exact Rat.le_refl
end Go.Proofs.YtbflmeomkfjikaaGreat.A.E


set_option linter.unusedVariables false
set_option linter.unusedSimpArgs false
set_option maxRecDepth 100000
namespace Go.Proofs.YtbflmeomkfjikaaGreat.A
open Go Go.RowKit Go.Shelf

end Go.Proofs.YtbflmeomkfjikaaGreat.A


set_option linter.unusedVariables false
set_option linter.unusedSimpArgs false
set_option maxRecDepth 100000
namespace Go.Proofs.YtbflmeomkfjikaaGreat.A
open Go Go.RowKit Go.Shelf

end Go.Proofs.YtbflmeomkfjikaaGreat.A


set_option linter.unusedVariables false
set_option linter.unusedSimpArgs false
set_option maxRecDepth 100000
namespace Go.Proofs.YtbflmeomkfjikaaGreat.A.E
open Go Go.RowKit Go.Shelf

end Go.Proofs.YtbflmeomkfjikaaGreat.A.E


set_option linter.unusedVariables false
set_option linter.unusedSimpArgs false
set_option maxRecDepth 100000
namespace Go.Proofs.YtbflmeomkfjikaaGreat.A
open Go Go.RowKit Go.Shelf

theorem methSub : Meth Tryz.prog 32 "Sub" 218 := by
  intro v xs w
  rfl

theorem ok180 (a b : Fr) : Ok Tryz.prog 180 [frV a, frV b] (frV (subF a b)) := by
  refine ok_fn mixed Tryz.func180 (code := ?_) (h := h180) ?_ k180 ?_
  rotate_left
  · exact rfl
  unfold h180 initS
  simp -implicitDefEqProofs only [rkA, rkB, stepA, valA, simprocAttr, Tryz.ntmps180, Tryz.results180]
  refine call_meth rfl rfl methSub (ok218 a b) ?_
  simp -implicitDefEqProofs only [rkA, rkB, stepA, valA, simprocAttr]
theorem right_le {r c : Int} {n : Nat} (h : right r c n = true) : n ≤ 256 := by
  obtain ⟨r1, r2, c1, c2, hn⟩ := right_spec h
  have : r * c ≤ 16 * 16 := Int.mul_le_mul r2 c2 (by omega) (by omega)
  omega

/-! ### Beside -/
theorem rowF_len {r c : Int} {l : List Fr} (h : right r c l.length = true) {i : Nat} (hi : i < r.toNat) : (rowF r c l i).length = c.toNat := by
  rw [rowF_eq ⟨0, 0, false⟩ h hi]
  simp
/-! ### Mirrored -/
/-! ### Alike -/
end Go.Proofs.YtbflmeomkfjikaaGreat.A


set_option linter.unusedVariables false
set_option linter.unusedSimpArgs false
set_option maxRecDepth 100000
namespace Go.Proofs.YtbflmeomkfjikaaGreat.A.E
open Go Go.RowKit Go.Shelf

theorem methSub : Meth Tryz.prog 40 "Sub" 97 := by
  intro v xs w
  rfl

theorem ok170 (a b : Fr) : Ok Tryz.prog 170 [frV a, frV b] (frV (subF a b)) := by
  refine ok_fn mixed Tryz.func170 (code := ?_) (h := h170) ?_ k170 ?_
  rotate_left
  · exact rfl
  unfold h170 initS
  simp -implicitDefEqProofs only [rkA, rkB, stepA, valA, simprocAttr, Tryz.ntmps170, Tryz.results170]
  refine call_meth rfl rfl methSub (ok97 a b) ?_
  simp -implicitDefEqProofs only [rkA, rkB, stepA, valA, simprocAttr]
theorem rowF_len {r c : Int} {l : List Fr} (h : right r c l.length = true) {i : Nat} (hi : i < r.toNat) : (rowF r c l i).length = c.toNat := by
  rw [rowF_eq ⟨0, 0, 0, false⟩ h hi]
  simp
end Go.Proofs.YtbflmeomkfjikaaGreat.A.E


set_option linter.unusedVariables false
set_option linter.unusedSimpArgs false
set_option maxRecDepth 100000
namespace Go.Proofs.YtbflmeomkfjikaaGreat.A
open Go Go.RowKit Go.Shelf

theorem gridP_congr {α : Type} {g f : Nat → Nat → α} {n N : Nat} (h : ∀ i k, i < N → k < n → g i k = f i k) : gridP g n N 0 = gridP f n N 0 := by
  rw [gridP_zero, gridP_zero]
  apply flatMap_same
  intro i hi
  apply List.map_congr_left
  intro k hk
  exact h i k (List.mem_range.1 hi) (List.mem_range.1 hk)

section
variable (a b : List Int) (R K : Nat)
end

section
variable {a b : List Int} {R K : Nat}
theorem right_nat (hR : 1 ≤ R ∧ R ≤ 16) (hK : 1 ≤ K ∧ K ≤ 16) {n : Nat} (hl : n = R * K) : right (R : Int) (K : Int) n = true := by
  simp only [right, Bool.and_eq_true, decide_eq_true_eq, beq_iff_eq]
  refine ⟨by omega, by omega, ?_⟩
  rw [hl]
  simp
end
end Go.Proofs.YtbflmeomkfjikaaGreat.A


set_option linter.unusedVariables false
set_option linter.unusedSimpArgs false
namespace Go.Proofs.YtbflmeomkfjikaaGreat.A
open Go Go.RowKit Go.Shelf

/-- All numbers of a row lie within a bound. -/
def bnd (B : Nat) (l : List Int) : Prop := ∀ x ∈ l, x.natAbs ≤ B
theorem grid_getD {g : Nat → Nat → Int} {n N i k : Nat} (hi : i < N) (hk : k < n) : (gridP g n N 0).getD (i * n + k) 0 = g i k := by
  rw [List.getD_eq_getElem?_getD, gridP_get g n N i k hi hk, Option.getD_some]
end Go.Proofs.YtbflmeomkfjikaaGreat.A


set_option linter.unusedVariables false
set_option linter.unusedSimpArgs false
set_option maxRecDepth 100000
namespace Go.Proofs.YtbflmeomkfjikaaGreat.A
open Go Go.RowKit Go.Shelf

/-! ### The unit -/
end Go.Proofs.YtbflmeomkfjikaaGreat.A


set_option linter.unusedVariables false
set_option linter.unusedSimpArgs false
set_option maxRecDepth 100000
namespace Go.Proofs.YtbflmeomkfjikaaGreat.A.E
open Go Go.RowKit Go.Shelf

end Go.Proofs.YtbflmeomkfjikaaGreat.A.E



set_option linter.unusedVariables false
set_option linter.unusedSimpArgs false
set_option maxRecDepth 100000
namespace Go.Proofs.YtbflmeomkfjikaaGreat.A
open Go Go.RowKit Go.Shelf

/-! ### Plain laws of products -/
theorem dotI_sum (a b : List Int) (many cols i k : Nat) : ∀ j, dotI a b many cols i k j = ((List.range j).map fun j => a.getD (i * many + j) 0 * b.getD (j * cols + k) 0).sum
  | 0 => rfl
  | j + 1 => by
    simp only [dotI, List.range_succ, List.map_append, List.sum_append, List.map_cons, List.map_nil, List.sum_cons, List.sum_nil]
    rw [dotI_sum a b many cols i k j]
    omega

theorem sum_congr {f g : Nat → Int} {n : Nat} (h : ∀ j, j < n → f j = g j) : ((List.range n).map f).sum = ((List.range n).map g).sum := by
  congr 1
  apply List.map_congr_left
  intro j hj
  exact h j (List.mem_range.1 hj)
theorem sum_mul (f : Nat → Int) (c : Int) : ∀ n, ((List.range n).map f).sum * c = ((List.range n).map fun j => f j * c).sum
  | 0 => by simp
  | n + 1 => by
    simp only [List.range_succ, List.map_append, List.sum_append, List.map_cons, List.map_nil, List.sum_cons, List.sum_nil, Int.add_mul]
    rw [sum_mul f c n]
    omega
theorem mul_sum' (f : Nat → Int) (c : Int) (n : Nat) : c * ((List.range n).map f).sum = ((List.range n).map fun j => c * f j).sum := by
  rw [Int.mul_comm, sum_mul]
  exact sum_congr fun j _ => Int.mul_comm _ _
theorem sum_add (f g : Nat → Int) : ∀ n, ((List.range n).map fun j => f j + g j).sum = ((List.range n).map f).sum + ((List.range n).map g).sum
  | 0 => rfl
  | n + 1 => by
    simp only [List.range_succ, List.map_append, List.sum_append, List.map_cons, List.map_nil, List.sum_cons, List.sum_nil]
    rw [sum_add f g n]
    omega
theorem sum_swap (f : Nat → Nat → Int) : ∀ n m, ((List.range n).map fun i => ((List.range m).map fun j => f i j).sum).sum = ((List.range m).map fun j => ((List.range n).map fun i => f i j).sum).sum
  | 0, m => by
    have : ∀ m : Nat, ((List.range m).map fun _ => (0 : Int)).sum = 0 := fun m => by
      induction m with
      | zero => rfl
      | succ m ih => simp [List.range_succ, ih]
    simp [this]
  | n + 1, m => by
    simp only [List.range_succ, List.map_append, List.sum_append, List.map_cons, List.map_nil, List.sum_cons, List.sum_nil, Int.add_zero]
    rw [sum_swap f n m, sum_add]

/-- Brackets do not matter. -/
theorem mul_assoc {a b c : List Int} {N : Nat} : mulI (mulI a b N N N) c N N N = mulI a (mulI b c N N N) N N N := by
  have hg : ∀ {x y : List Int} {i k : Nat}, i < N → k < N → (mulI x y N N N).getD (i * N + k) 0 = dotI x y N N i k N := fun hi hk => grid_getD hi hk
  show gridP _ N N 0 = gridP _ N N 0
  refine gridP_congr fun i k hi hk => ?_
  rw [dotI_sum, dotI_sum]
  have e1 : ((List.range N).map fun j => (mulI a b N N N).getD (i * N + j) 0 * c.getD (j * N + k) 0).sum = ((List.range N).map fun j => ((List.range N).map fun l => a.getD (i * N + l) 0 * b.getD (l * N + j) 0 * c.getD (j * N + k) 0).sum).sum :=
    sum_congr fun j hj => by rw [hg hi hj, dotI_sum, sum_mul]
  have e2 : ((List.range N).map fun l => a.getD (i * N + l) 0 * (mulI b c N N N).getD (l * N + k) 0).sum = ((List.range N).map fun l => ((List.range N).map fun j => a.getD (i * N + l) 0 * b.getD (l * N + j) 0 * c.getD (j * N + k) 0).sum).sum :=
    sum_congr fun l hl => by
      rw [hg hl hk, dotI_sum, mul_sum']
      exact sum_congr fun j _ => by rw [Int.mul_assoc]
  rw [e1, e2, sum_swap]

end Go.Proofs.YtbflmeomkfjikaaGreat.A


set_option linter.unusedVariables false
set_option linter.unusedSimpArgs false
set_option maxRecDepth 100000
namespace Go.Proofs.YtbflmeomkfjikaaGreat.A
open Go Go.RowKit Go.Shelf

/-! ### Division -/
theorem methDiv : Meth Tryz.prog 32 "Div" 211 := by
  intro v xs w
  rfl

def divF (a b : Fr) : Fr := if a.fine = false ∨ b.fine = false then .wrong else newF (a.n * b.d) (a.d * b.n)
theorem ok220 (a b : Fr) (ha : a.fine = true) (hb : b.fine = true) : Ok Tryz.prog 220 [.vp [num a.n, num a.d, tru a.bad], .vp [num b.n, num b.d, tru b.bad]] (.tup [num (a.n * b.d), num (a.d * b.n)]) := by
  obtain ⟨a1, a2, a3, a4, a5⟩ := Fr.fine_spec ha
  obtain ⟨b1, b2, b3, b4, b5⟩ := Fr.fine_spec hb
  have p1 := prod_le (x := a.n) (y := b.d) ⟨a5, a4⟩ (by omega)
  have p3 := prod_le (x := a.d) (y := b.n) (by omega) ⟨b5, b4⟩
  have w1 := wrapped (x := a.n * b.d) (by omega) (by omega)
  have w3 := wrapped (x := a.d * b.n) (by omega) (by omega)
  refine ok_fn mixed Tryz.func220 (code := ?_) (h := h220) ?_ k220 ?_
  rotate_left
  · exact rfl
  unfold h220 initS
  simp -implicitDefEqProofs only [rkA, rkB, stepA, valA, simprocAttr, Tryz.ntmps220, Tryz.results220]
  simp -implicitDefEqProofs only [w1, w3, rkA, rkB, stepA, valA, simprocAttr]
theorem ok211 (a b : Fr) : Ok Tryz.prog 211 [frV a, frV b] (frV (divF a b)) := by
  refine ok_fn mixed Tryz.func211 (code := ?_) (h := h211) ?_ k211 ?_
  rotate_left
  · exact rfl
  unfold h211 initS
  simp -implicitDefEqProofs only [rkA, rkB, stepA, valA, simprocAttr, Tryz.ntmps211, Tryz.results211]
  refine call_fn rfl rfl rfl (ok219 a b 220 _ _ _ (fun ha hb => ok220 a b ha hb)) ?_
  simp -implicitDefEqProofs only [rkA, rkB, stepA, valA, simprocAttr]
  simp [divF]

/-! ### A row, scaled -/
/-! ### Squares -/
theorem ok73 (ex : Bool) (r c : Int) (l : List Fr) : Ok Tryz.prog 73 [matV ex r c (frs l)] (tru (right r c l.length && (r == c))) := by
  refine ok_fn mixed Tryz.func73 (code := ?_) (h := h73) ?_ k73 ?_
  rotate_left
  · exact rfl
  unfold h73 initS
  simp -implicitDefEqProofs only [rkA, rkB, stepA, valA, simprocAttr, Tryz.ntmps73, Tryz.results73]
  refine call_fn rfl rfl rfl (ok100 ex r c (frs l)) ?_
  have e : (frs l).length = l.length := by simp
  rw [e]
  cases hr : right r c l.length with
  | false => simp -implicitDefEqProofs only [rkA, rkB, stepA, valA, simprocAttr]
  | true => simp -implicitDefEqProofs only [rkA, rkB, stepA, valA, simprocAttr]

theorem right_sq {n : Nat} (hn : 1 ≤ n ∧ n ≤ 16) {l : List Fr} (h : l.length = n * n) : right (n : Int) (n : Int) l.length = true := right_nat hn hn h
end Go.Proofs.YtbflmeomkfjikaaGreat.A


set_option linter.unusedVariables false
set_option linter.unusedSimpArgs false
set_option maxRecDepth 100000
namespace Go.Proofs.YtbflmeomkfjikaaGreat.A.E
open Go Go.RowKit Go.Shelf

theorem methDiv : Meth Tryz.prog 40 "Div" 228 := by
  intro v xs w
  rfl

theorem ok79 (ex : Bool) (r c : Int) (l : List Fr) : Ok Tryz.prog 79 [matV ex r c (frs l)] (tru (right r c l.length && (r == c))) := by
  refine ok_fn mixed Tryz.func79 (code := ?_) (h := h79) ?_ k79 ?_
  rotate_left
  · exact rfl
  unfold h79 initS
  simp -implicitDefEqProofs only [rkA, rkB, stepA, valA, simprocAttr, Tryz.ntmps79, Tryz.results79]
  refine call_fn rfl rfl rfl (ok88 ex r c (frs l)) ?_
  have e : (frs l).length = l.length := by simp
  rw [e]
  cases hr : right r c l.length with
  | false => simp -implicitDefEqProofs only [rkA, rkB, stepA, valA, simprocAttr]
  | true => simp -implicitDefEqProofs only [rkA, rkB, stepA, valA, simprocAttr]

theorem right_sq {n : Nat} (hn : 1 ≤ n ∧ n ≤ 16) {l : List Fr} (h : l.length = n * n) : right (n : Int) (n : Int) l.length = true := right_nat hn hn h
end Go.Proofs.YtbflmeomkfjikaaGreat.A.E



set_option linter.unusedVariables false
set_option linter.unusedSimpArgs false
set_option maxRecDepth 100000
namespace Go.Proofs.YtbflmeomkfjikaaGreat.A
open Go Go.RowKit Go.Shelf

/-! ### States -/
/-! ### A new state -/
/-! ### Turned -/
end Go.Proofs.YtbflmeomkfjikaaGreat.A



set_option linter.unusedVariables false
set_option linter.unusedSimpArgs false
set_option maxRecDepth 100000
namespace Go.Proofs.YtbflmeomkfjikaaGreat.A.E
open Go Go.RowKit Go.Shelf

end Go.Proofs.YtbflmeomkfjikaaGreat.A.E



set_option linter.unusedVariables false
set_option linter.unusedSimpArgs false
set_option maxRecDepth 100000
namespace Go.Proofs.YtbflmeomkfjikaaGreat.A.E
open Go Go.RowKit Go.Shelf

end Go.Proofs.YtbflmeomkfjikaaGreat.A.E



set_option linter.unusedVariables false
set_option linter.unusedSimpArgs false
set_option maxRecDepth 100000
namespace Go.Proofs.YtbflmeomkfjikaaGreat.A.E
open Go Go.RowKit Go.Shelf

section
variable (n : Nat) (x p h : List Fr) (r z : Fr)
end
end Go.Proofs.YtbflmeomkfjikaaGreat.A.E



set_option linter.unusedVariables false
set_option linter.unusedSimpArgs false
set_option maxRecDepth 100000
namespace Go.Proofs.YtbflmeomkfjikaaGreat.A
open Go Go.RowKit Go.Shelf

/-! ### Predict -/
end Go.Proofs.YtbflmeomkfjikaaGreat.A



set_option linter.unusedVariables false
set_option linter.unusedSimpArgs false
set_option maxRecDepth 100000
namespace Go.Proofs.YtbflmeomkfjikaaGreat.A
open Go Go.RowKit Go.Shelf

/-! ### Update -/
section
variable (n : Nat) (x p h : List Fr) (r z : Fr)
end
end Go.Proofs.YtbflmeomkfjikaaGreat.A


set_option linter.unusedVariables false
set_option linter.unusedSimpArgs false
set_option maxRecDepth 100000
namespace Go.Proofs.YtbflmeomkfjikaaGreat.A
open Go Go.RowKit Go.Shelf

/-! ### Fractions as numbers -/
def Fr.val (x : Fr) : Rat := (x.n : Rat) / (x.d : Rat)
theorem cast_ne {d : Int} (h : d ≠ 0) : (d : Rat) ≠ 0 := by
  intro e
  exact h (Rat.intCast_inj.1 (by simpa using e))
theorem val_div {n d m e k : Int} (hd : d ≠ 0) (he : e ≠ 0) (h : n * e = m * d) : (n : Rat) / d = (m : Rat) / e := by
  have h1 := cast_ne hd
  have h2 := cast_ne he
  have h3 : (n : Rat) * e = (m : Rat) * d := by
    rw [← Rat.intCast_mul, ← Rat.intCast_mul, h]
  grind
theorem div_val {n d m e : Int} (hd : d ≠ 0) (he : e ≠ 0) (h : (n : Rat) / d = (m : Rat) / e) : n * e = m * d := by
  have h1 := cast_ne hd
  have h2 := cast_ne he
  have h3 : (n : Rat) * e = (m : Rat) * d := by grind
  rw [← Rat.intCast_mul, ← Rat.intCast_mul] at h3
  exact Rat.intCast_inj.1 h3

/-- What New tells, where it is not Bad. -/
theorem newF_spec {n d : Int} (h : (newF n d).bad = false) : d ≠ 0 ∧ 0 < (newF n d).d ∧ (newF n d).n * d = n * (newF n d).d ∧ Int.gcd (newF n d).n (newF n d).d = 1 ∧ (newF n d).d ≤ 1073741824 ∧ (newF n d).n ≤ 1073741824 ∧ -1073741824 ≤ (newF n d).n := by
  unfold newF at h ⊢
  by_cases h1 : n > 1152921504606846976 ∨ n < -1152921504606846976 ∨ d > 1152921504606846976 ∨ d < -1152921504606846976 ∨ d = 0
  · rw [if_pos h1] at h; cases h
  rw [if_neg h1] at h ⊢
  simp only at h ⊢
  have hd : d ≠ 0 := by omega
  have key : ∀ m e : Int, 0 < e → m * d = n * e → ∀ x : Fr, x = (if m.tdiv (Int.gcd m e : Int) > 1073741824 ∨ m.tdiv (Int.gcd m e : Int) < -1073741824 ∨ e.tdiv (Int.gcd m e : Int) > 1073741824 then Fr.wrong else ⟨m.tdiv (Int.gcd m e : Int), e.tdiv (Int.gcd m e : Int), false⟩) → x.bad = false →
      d ≠ 0 ∧ 0 < x.d ∧ x.n * d = n * x.d ∧ Int.gcd x.n x.d = 1 ∧ x.d ≤ 1073741824 ∧ x.n ≤ 1073741824 ∧ -1073741824 ≤ x.n := by
    intro m e he hme x hx hb
    have hg : 0 < Int.gcd m e := Int.gcd_pos_of_ne_zero_right m (by omega)
    obtain ⟨m', hm'⟩ := Int.gcd_dvd_left m e
    obtain ⟨e', he'⟩ := Int.gcd_dvd_right m e
    generalize hk : Int.gcd m e = k at *
    have hk0 : (k : Int) ≠ 0 := by omega
    have q1 : m.tdiv (k : Int) = m' := by rw [hm', Int.mul_tdiv_cancel_left _ hk0]
    have q2 : e.tdiv (k : Int) = e' := by rw [he', Int.mul_tdiv_cancel_left _ hk0]
    rw [q1, q2] at hx
    have hcop : Int.gcd m' e' = 1 := by
      have h3 : Int.gcd ((k : Int) * m') ((k : Int) * e') = k * Int.gcd m' e' := by
        rw [Int.gcd_mul_left]; simp
      rw [← hm', ← he', hk] at h3
      have : k * 1 = k * Int.gcd m' e' := by omega
      exact (Nat.eq_of_mul_eq_mul_left hg this).symm
    have he0 : 0 < e' := by
      have h4 : 0 < (k : Int) * e' := by rw [← he']; exact he
      exact Int.pos_of_mul_pos_right h4 (by omega)
    split at hx
    · rw [hx] at hb; cases hb
    · rename_i hns
      subst hx
      refine ⟨hd, he0, ?_, hcop, by simp only; omega, by simp only; omega, by simp only; omega⟩
      simp only
      rw [hm', he'] at hme
      have : (k : Int) * (m' * d) = (k : Int) * (n * e') := by
        rw [← Int.mul_assoc, hme, ← Int.mul_assoc, ← Int.mul_assoc, Int.mul_comm (k : Int) n]
      exact Int.eq_of_mul_eq_mul_left hk0 this
  by_cases hneg : d < 0
  · simp only [hneg, if_true] at h ⊢
    exact key (-n) (-d) (by omega) (by rw [Int.neg_mul, Int.mul_neg]) _ rfl h
  · simp only [hneg, if_false] at h ⊢
    exact key n d (by omega) rfl _ rfl h

theorem newF_low {n d : Int} (hd : 0 < d) (hg : Int.gcd n d = 1) (h1 : n ≤ 1073741824) (h2 : -1073741824 ≤ n) (h3 : d ≤ 1073741824) : newF n d = ⟨n, d, false⟩ := by
  unfold newF
  rw [if_neg (by omega)]
  simp only [show ¬ d < 0 by omega, if_false, hg]
  rw [if_neg (by simp; omega)]
  simp
theorem fine_of {x : Fr} (hb : x.bad = false) (hd : 0 < x.d) (hg : Int.gcd x.n x.d = 1) (h1 : x.n ≤ 1073741824) (h2 : -1073741824 ≤ x.n) (h3 : x.d ≤ 1073741824) : x.fine = true := by
  unfold Fr.fine
  rw [newF_low hd hg h1 h2 h3]
  simp [hb]
  omega
theorem fine_low {x : Fr} (h : x.fine = true) : x.bad = false ∧ 0 < x.d ∧ Int.gcd x.n x.d = 1 := by
  obtain ⟨h1, h2, h3, h4, h5⟩ := Fr.fine_spec h
  refine ⟨h1, by omega, ?_⟩
  have hn : newF x.n x.d = x := by
    unfold Fr.fine at h
    simp only [Bool.and_eq_true, beq_iff_eq, decide_eq_true_eq] at h
    obtain ⟨n, d, b⟩ := x
    obtain ⟨_, k1, k2, k3, _⟩ := h
    generalize newF n d = y at *
    obtain ⟨n', d', b'⟩ := y
    simp only at k1 k2 k3
    rw [k1, k2, k3]
  have hb : (newF x.n x.d).bad = false := by rw [hn]; exact h1
  obtain ⟨_, _, _, g, _⟩ := newF_spec hb
  rw [hn] at g
  exact g
theorem newF_fine {n d : Int} (h : (newF n d).bad = false) : (newF n d).fine = true ∧ (newF n d).val = (n : Rat) / (d : Rat) ∧ d ≠ 0 := by
  obtain ⟨h1, h2, h3, h4, h5, h6, h7⟩ := newF_spec h
  exact ⟨fine_of h h2 h4 h6 h7 h5, val_div (k := 0) (by omega) h1 h3, h1⟩
theorem dvd_cop {a b c : Int} (h : a ∣ b * c) (g : Int.gcd b a = 1) : a ∣ c := by
  rw [← Int.natAbs_dvd_natAbs] at h ⊢
  rw [Int.natAbs_mul] at h
  refine Nat.Coprime.dvd_of_dvd_mul_left ?_ h
  rw [Int.gcd_comm] at g
  exact g
/-- What stands for the same number is the same. -/
theorem fine_inj {a b : Fr} (ha : a.fine = true) (hb : b.fine = true) (h : a.val = b.val) : a = b := by
  obtain ⟨a1, a2, a3⟩ := fine_low ha
  obtain ⟨b1, b2, b3⟩ := fine_low hb
  have e := div_val (by omega) (by omega) h
  have c1 : a.d ∣ b.d := by
    have : a.d ∣ a.n * b.d := ⟨b.n, by rw [e, Int.mul_comm]⟩
    exact dvd_cop this a3
  have c2 : b.d ∣ a.d := by
    have : b.d ∣ b.n * a.d := ⟨a.n, by rw [← e, Int.mul_comm]⟩
    exact dvd_cop this b3
  have hd : a.d = b.d := Int.dvd_antisymm (by omega) (by omega) c1 c2
  rw [hd] at e
  have hn : a.n = b.n := Int.eq_of_mul_eq_mul_right (by omega) e
  obtain ⟨n, d, x⟩ := a
  obtain ⟨n', d', x'⟩ := b
  simp only at hd hn a1 b1
  rw [hd, hn, a1, b1]
theorem fine_bad {a : Fr} (h : a.fine = true) : a.bad = false := (Fr.fine_spec h).1

/-- x stands for the number v. -/
def Is (x : Fr) (v : Rat) : Prop := x.fine = true ∧ x.val = v
theorem Is.inj {a b : Fr} {v : Rat} (ha : Is a v) (hb : Is b v) : a = b := fine_inj ha.1 hb.1 (ha.2.trans hb.2.symm)
theorem fine_ne {a : Fr} (h : a.fine = true) : (a.d : Rat) ≠ 0 := cast_ne (by have := (Fr.fine_spec h).2.1; omega)
theorem two_fine {a b : Fr} {x : Fr} (h : (if a.fine = false ∨ b.fine = false then Fr.wrong else x).bad = false) : a.fine = true ∧ b.fine = true ∧ x.bad = false := by
  by_cases h1 : a.fine = false ∨ b.fine = false
  · rw [if_pos h1] at h; cases h
  · rw [if_neg h1] at h
    simp only [not_or, Bool.not_eq_false] at h1
    exact ⟨h1.1, h1.2, h⟩
theorem mulF_is {a b : Fr} (h : (mulF a b).bad = false) : a.fine = true ∧ b.fine = true ∧ Is (mulF a b) (a.val * b.val) := by
  have h0 := h
  unfold mulF at h
  obtain ⟨ha, hb, hx⟩ := two_fine h
  obtain ⟨f1, f2, f3⟩ := newF_fine hx
  have e : mulF a b = newF (a.n * b.n) (a.d * b.d) := by unfold mulF; rw [if_neg (by simp [ha, hb])]
  refine ⟨ha, hb, by rw [e]; exact f1, ?_⟩
  rw [e, f2]
  have h1 := fine_ne ha
  have h2 := fine_ne hb
  simp only [Fr.val, Rat.intCast_mul]
  grind
theorem divF_is {a b : Fr} (h : (divF a b).bad = false) : a.fine = true ∧ b.fine = true ∧ b.val ≠ 0 ∧ Is (divF a b) (a.val / b.val) := by
  unfold divF at h
  obtain ⟨ha, hb, hx⟩ := two_fine h
  obtain ⟨f1, f2, f3⟩ := newF_fine hx
  have e : divF a b = newF (a.n * b.d) (a.d * b.n) := by unfold divF; rw [if_neg (by simp [ha, hb])]
  have h1 := fine_ne ha
  have h2 := fine_ne hb
  have h3 : (b.n : Rat) ≠ 0 := cast_ne (fun e => f3 (by rw [e, Int.mul_zero]))
  refine ⟨ha, hb, ?_, by rw [e]; exact f1, ?_⟩
  · simp only [Fr.val]
    intro e
    apply h3
    have : (b.n : Rat) = (b.n : Rat) / (b.d : Rat) * (b.d : Rat) := by grind
    rw [this, e]
    grind
  · rw [e, f2]
    simp only [Fr.val, Rat.intCast_mul]
    grind
theorem addF_is {a b : Fr} (h : (addF a b).bad = false) : a.fine = true ∧ b.fine = true ∧ Is (addF a b) (a.val + b.val) := by
  unfold addF at h
  obtain ⟨ha, hb, hx⟩ := two_fine h
  obtain ⟨f1, f2, f3⟩ := newF_fine hx
  have e : addF a b = newF ((a.n * b.d + b.n * a.d).tdiv (Int.gcd (a.n * b.d + b.n * a.d) (a.d * b.d))) ((a.d * b.d).tdiv (Int.gcd (a.n * b.d + b.n * a.d) (a.d * b.d))) := by
    unfold addF; rw [if_neg (by simp [ha, hb])]
  have h1 := fine_ne ha
  have h2 := fine_ne hb
  refine ⟨ha, hb, by rw [e]; exact f1, ?_⟩
  rw [e, f2]
  have hd1 := (Fr.fine_spec ha).2.1
  have hd2 := (Fr.fine_spec hb).2.1
  have hdd : 0 < a.d * b.d := Int.mul_pos (by omega) (by omega)
  generalize hD : a.d * b.d = D at *
  generalize hN : a.n * b.d + b.n * a.d = Nn at *
  have hg : 0 < Int.gcd Nn D := Int.gcd_pos_of_ne_zero_right _ (by omega)
  obtain ⟨m', hm'⟩ := Int.gcd_dvd_left Nn D
  obtain ⟨e', he'⟩ := Int.gcd_dvd_right Nn D
  have hk0 : ((Int.gcd Nn D : Nat) : Int) ≠ 0 := by omega
  generalize hk : ((Int.gcd Nn D : Nat) : Int) = k at *
  have q1 : Nn.tdiv k = m' := by rw [hm', Int.mul_tdiv_cancel_left _ hk0]
  have q2 : D.tdiv k = e' := by rw [he', Int.mul_tdiv_cancel_left _ hk0]
  rw [q1, q2]
  have he0 : e' ≠ 0 := fun e0 => by rw [e0, Int.mul_zero] at he'; omega
  have h3 : (m' : Rat) / (e' : Rat) = (Nn : Rat) / (D : Rat) := by
    refine val_div (k := 0) he0 (by omega) ?_
    rw [hm', he', Int.mul_comm k e', ← Int.mul_assoc, Int.mul_comm k m']
    rw [Int.mul_assoc, Int.mul_assoc, Int.mul_comm e' k, Int.mul_comm k e']
  rw [h3, ← hN, ← hD]
  simp only [Fr.val, Rat.intCast_mul, Rat.intCast_add]
  grind
theorem negF_is {a : Fr} (h : (negF a).bad = false) : a.fine = true ∧ Is (negF a) (-a.val) := by
  unfold negF at h
  by_cases ha : a.fine = false
  · rw [if_pos ha] at h; cases h
  · rw [if_neg ha] at h
    simp only [Bool.not_eq_false] at ha
    obtain ⟨f1, f2, f3⟩ := newF_fine h
    have e : negF a = newF (-a.n) a.d := by unfold negF; rw [if_neg (by simp [ha])]
    refine ⟨ha, by rw [e]; exact f1, ?_⟩
    rw [e, f2]
    simp only [Fr.val, Rat.intCast_neg]
    grind
theorem subF_is {a b : Fr} (h : (subF a b).bad = false) : a.fine = true ∧ b.fine = true ∧ Is (subF a b) (a.val - b.val) := by
  unfold subF at h
  obtain ⟨h1, h2, h3⟩ := addF_is h
  obtain ⟨h4, h5⟩ := negF_is (fine_bad h2)
  refine ⟨h1, h4, h3.1, ?_⟩
  have e : (subF a b).val = a.val + (negF b).val := h3.2
  rw [e, h5.2]
  grind
theorem whole_is {n : Int} (h : few n) : Is (newF n 1) (n : Rat) := by
  rw [newF_whole h]
  refine ⟨fine_whole h, ?_⟩
  simp only [Fr.val]
  have : ((1 : Int) : Rat) = 1 := rfl
  rw [this]
  grind
end Go.Proofs.YtbflmeomkfjikaaGreat.A


set_option linter.unusedVariables false
set_option linter.unusedSimpArgs false
set_option maxRecDepth 100000
namespace Go.Proofs.YtbflmeomkfjikaaGreat.A.E
open Go Go.RowKit Go.Shelf

/-! ### Enclosed numbers beside fractions: whatever both tell, the one encloses the other -/
def Rl (x : Fr) (y : A.Fr) : Prop := x.fine = true → y.fine = true → Enc x y.val
theorem made_fine {F : Int → Int → Int → Int × Bool} {a b : Fr} {ps : List (Int × Int)} (h : (madeE F a b ps).fine = true) : a.fine = true ∧ b.fine = true :=
  ⟨(made_is (fine_is.1 h).1).1, (made_is (fine_is.1 h).1).2.1⟩
theorem Rl.add {a b : Fr} {a' b' : A.Fr} (ha : Rl a a') (hb : Rl b b') : Rl (addF a b) (A.addF a' b') := fun hx hy => by
  obtain ⟨h1, h2⟩ := made_fine hx
  obtain ⟨k1, k2, k3⟩ := A.addF_is (fine_bad hy)
  rw [k3.2]
  exact addF_enc (fun _ => ha h1 k1) (fun _ => hb h2 k2) (fine_is.1 hx).1
theorem Rl.sub {a b : Fr} {a' b' : A.Fr} (ha : Rl a a') (hb : Rl b b') : Rl (subF a b) (A.subF a' b') := fun hx hy => by
  obtain ⟨h1, h2⟩ := made_fine hx
  obtain ⟨k1, k2, k3⟩ := A.subF_is (fine_bad hy)
  rw [k3.2]
  exact subF_enc (fun _ => ha h1 k1) (fun _ => hb h2 k2) (fine_is.1 hx).1
theorem Rl.mul {a b : Fr} {a' b' : A.Fr} (ha : Rl a a') (hb : Rl b b') : Rl (mulF a b) (A.mulF a' b') := fun hx hy => by
  obtain ⟨h1, h2⟩ := made_fine hx
  obtain ⟨k1, k2, k3⟩ := A.mulF_is (fine_bad hy)
  rw [k3.2]
  exact mulF_enc (fun _ => ha h1 k1) (fun _ => hb h2 k2) (fine_is.1 hx).1
theorem Rl.div {a b : Fr} {a' b' : A.Fr} (ha : Rl a a') (hb : Rl b b') : Rl (divF a b) (A.divF a' b') := fun hx hy => by
  have hnb := (fine_is.1 hx).1
  have hf : a.fine = true ∧ b.fine = true := by
    unfold divF at hx
    split at hx
    · exact absurd hx (by decide)
    · exact made_fine hx
  obtain ⟨k1, k2, k3, k4⟩ := A.divF_is (fine_bad hy)
  rw [k4.2]
  exact divF_enc (fun _ => ha hf.1 k1) (fun _ => hb hf.2 k2) hnb
theorem Rl.whole {n : Int} (h : few n) : Rl (newF n 1) (A.newF n 1) := fun hx hy => by
  have hf : A.few n := by unfold A.few; unfold few at h; omega
  rw [(A.whole_is hf).2]
  exact whole_enc h
theorem Rl.dz : Rl ⟨0, 0, 0, false⟩ ⟨0, 0, false⟩ := fun _ hy => absurd hy (by decide)

def RL (l : List Fr) (l' : List A.Fr) : Prop := l.length = l'.length ∧ ∀ k, Rl (l.getD k ⟨0, 0, 0, false⟩) (l'.getD k ⟨0, 0, false⟩)
theorem RL.nil : RL [] [] := ⟨rfl, fun k => Rl.dz⟩
theorem RL.cons {x : Fr} {y : A.Fr} {l : List Fr} {l' : List A.Fr} (h : Rl x y) (hl : RL l l') : RL (x :: l) (y :: l') := ⟨by simp [hl.1], fun k => by
  cases k with
  | zero => exact h
  | succ k => exact hl.2 k⟩
theorem RL.uncons {x : Fr} {y : A.Fr} {l : List Fr} {l' : List A.Fr} (h : RL (x :: l) (y :: l')) : Rl x y ∧ RL l l' := ⟨h.2 0, by simpa using h.1, fun k => h.2 (k + 1)⟩
theorem RL.induct {P : List Fr → List A.Fr → Prop} (h0 : P [] []) (hs : ∀ x y l l', Rl x y → RL l l' → P l l' → P (x :: l) (y :: l')) : ∀ {l : List Fr} {l' : List A.Fr}, RL l l' → P l l'
  | [], [], _ => h0
  | [], _ :: _, h => absurd h.1 (by simp)
  | _ :: _, [], h => absurd h.1 (by simp)
  | x :: l, y :: l', h => hs x y l l' h.uncons.1 h.uncons.2 (RL.induct h0 hs h.uncons.2)
theorem RL.map {f : Fr → Fr} {f' : A.Fr → A.Fr} (hf : ∀ x y, Rl x y → Rl (f x) (f' y)) {l : List Fr} {l' : List A.Fr} (h : RL l l') : RL (l.map f) (l'.map f') :=
  RL.induct (P := fun l l' => RL (l.map f) (l'.map f')) RL.nil (fun x y l l' h1 _ ih => RL.cons (hf x y h1) ih) h
theorem RL.zip {f : Fr → Fr → Fr} {f' : A.Fr → A.Fr → A.Fr} (hf : ∀ x y u v, Rl x y → Rl u v → Rl (f x u) (f' y v)) {l : List Fr} {l' : List A.Fr} (h : RL l l') : ∀ {m : List Fr} {m' : List A.Fr}, RL m m' → RL (List.zipWith f l m) (List.zipWith f' l' m') := by
  refine RL.induct (P := fun l l' => ∀ {m : List Fr} {m' : List A.Fr}, RL m m' → RL (List.zipWith f l m) (List.zipWith f' l' m')) (fun _ => by simpa using RL.nil) (fun x y l l' h1 _ ih m m' hm => ?_) h
  cases m with
  | nil =>
    cases m' with
    | nil => exact RL.nil
    | cons _ _ => exact absurd hm.1 (by simp)
  | cons u m =>
    cases m' with
    | nil => exact absurd hm.1 (by simp)
    | cons v m' => exact RL.cons (hf x y u v h1 hm.uncons.1) (ih hm.uncons.2)
theorem RL.range {g : Nat → Fr} {g' : Nat → A.Fr} (hg : ∀ i, Rl (g i) (g' i)) (l : List Nat) : RL (l.map g) (l.map g') := by
  induction l with
  | nil => exact RL.nil
  | cons x l ih => exact RL.cons (hg x) ih
theorem RL.append {l m : List Fr} {l' m' : List A.Fr} (h : RL l l') (hm : RL m m') : RL (l ++ m) (l' ++ m') :=
  RL.induct (P := fun l l' => RL (l ++ m) (l' ++ m')) hm (fun x y l l' h1 _ ih => RL.cons h1 ih) h
theorem RL.flatMap {g : Nat → List Fr} {g' : Nat → List A.Fr} (hg : ∀ i, RL (g i) (g' i)) (l : List Nat) : RL (l.flatMap g) (l.flatMap g') := by
  induction l with
  | nil => exact RL.nil
  | cons x l ih =>
    rw [List.flatMap_cons, List.flatMap_cons]
    exact RL.append (hg x) ih
theorem RL.take {l : List Fr} {l' : List A.Fr} (h : RL l l') : ∀ n, RL (l.take n) (l'.take n) := by
  refine RL.induct (P := fun l l' => ∀ n, RL (l.take n) (l'.take n)) (fun n => by simpa using RL.nil) (fun x y l l' h1 _ ih n => ?_) h
  cases n with
  | zero => exact RL.nil
  | succ n => exact RL.cons h1 (ih n)
theorem RL.drop {l : List Fr} {l' : List A.Fr} (h : RL l l') : ∀ n, RL (l.drop n) (l'.drop n) := by
  refine RL.induct (P := fun l l' => ∀ n, RL (l.drop n) (l'.drop n)) (fun n => by simpa using RL.nil) (fun x y l l' h1 h2 ih n => ?_) h
  cases n with
  | zero => exact RL.cons h1 h2
  | succ n => exact ih n
section
variable {n : Nat} {x p h : List Fr} {x' p' h' : List A.Fr} {r z : Fr} {r' z' : A.Fr}
end
end Go.Proofs.YtbflmeomkfjikaaGreat.A.E



set_option linter.unusedVariables false
set_option linter.unusedSimpArgs false
set_option maxRecDepth 100000
namespace Go.Proofs.YtbflmeomkfjikaaGreat.A
open Go Go.RowKit Go.Shelf

/-! ### Products of two words, compared -/
abbrev prW (p : Nat) : PV := .agg [uw (p / 18446744073709551616), uw (p % 18446744073709551616)]
theorem eq_prW (p q : Nat) : cellsEq [some .u64, some .u64] [uw (p / 18446744073709551616), uw (p % 18446744073709551616)] [uw (q / 18446744073709551616), uw (q % 18446744073709551616)] = some (decide (p = q)) := by
  have e : (p = q) ↔ (((p / 18446744073709551616 : Nat) : Int) = ((q / 18446744073709551616 : Nat) : Int) ∧ ((p % 18446744073709551616 : Nat) : Int) = ((q % 18446744073709551616 : Nat) : Int)) := by omega
  unfold uw
  generalize ((p / 18446744073709551616 : Nat) : Int) = A at *
  generalize ((q / 18446744073709551616 : Nat) : Int) = B at *
  generalize ((p % 18446744073709551616 : Nat) : Int) = C at *
  generalize ((q % 18446744073709551616 : Nat) : Int) = D at *
  simp only [cellsEq, e]
  by_cases h1 : A = B <;> by_cases h2 : C = D <;> simp [h1, h2]
theorem ok138 (p q : Nat) : Ok Tryz.prog 138 [prW p, prW q] (tru (decide (p < q))) := by
  refine ok_fn mixed Tryz.func138 (code := ?_) (h := h138) ?_ k138 ?_
  rotate_left
  · exact rfl
  unfold h138 initS
  simp -implicitDefEqProofs (maxSteps := 10000000) only [rkA, rkB, stepA, valA, simprocAttr, Tryz.ntmps138, Tryz.results138]
  have e1 := Nat.div_add_mod p 18446744073709551616
  have e2 := Nat.div_add_mod q 18446744073709551616
  have l1 := Nat.mod_lt p (show 0 < 18446744073709551616 by omega)
  have l2 := Nat.mod_lt q (show 0 < 18446744073709551616 by omega)
  refine gB_dec ?_ ?_ <;> intro h1
  · have : p < q := by omega
    simp -implicitDefEqProofs (maxSteps := 10000000) only [this, h1, rkA, rkB, stepA, valA, simprocAttr]
  · simp -implicitDefEqProofs (maxSteps := 10000000) only [h1, rkA, rkB, stepA, valA, simprocAttr]
    refine gB_bool ?_ ?_ <;> intro h2 <;> simp -implicitDefEqProofs (maxSteps := 10000000) only [h2, rkA, rkB, stepA, valA, simprocAttr]
    · have h3 : ((p / 18446744073709551616 : Nat) : Int) = ((q / 18446744073709551616 : Nat) : Int) := by simpa using h2
      have : (((p % 18446744073709551616 : Nat) : Int) < ((q % 18446744073709551616 : Nat) : Int)) = (p < q) := by apply propext; omega
      simp only [this]
    · have h3 : ¬ ((p / 18446744073709551616 : Nat) : Int) = ((q / 18446744073709551616 : Nat) : Int) := by simpa using h2
      have : ¬ p < q := by omega
      simp -implicitDefEqProofs (maxSteps := 10000000) only [this, rkA, rkB, stepA, valA, simprocAttr]

def sgn2 (a b : Int) : Int := if a = 0 ∨ b = 0 then 0 else if (decide (a < 0) != decide (b < 0)) = true then -1 else 1
theorem ok135 (a b : Int) : Ok Tryz.prog 135 [num a, num b] (num (sgn2 a b)) := by
  refine ok_fn mixed Tryz.func135 (code := ?_) (h := h135) ?_ k135 ?_
  rotate_left
  · exact rfl
  unfold h135 initS
  simp -implicitDefEqProofs (maxSteps := 10000000) only [rkA, rkB, stepA, valA, simprocAttr, Tryz.ntmps135, Tryz.results135]
  unfold sgn2
  refine gB_bool ?_ ?_ <;> intro h1 <;> simp -implicitDefEqProofs (maxSteps := 10000000) only [h1, rkA, rkB, stepA, valA, simprocAttr]
  · have h1' : a = 0 := by simpa using h1
    rw [if_pos (.inl h1')]
  · have h1' : ¬ a = 0 := by simpa using h1
    refine gB_bool ?_ ?_ <;> intro h2 <;> simp -implicitDefEqProofs (maxSteps := 10000000) only [h2, rkA, rkB, stepA, valA, simprocAttr]
    · have h2' : b = 0 := by simpa using h2
      rw [if_pos (.inr h2')]
    · have h2' : ¬ b = 0 := by simpa using h2
      rw [if_neg (by omega)]
      refine gB_bool ?_ ?_ <;> intro h3 <;> simp -implicitDefEqProofs (maxSteps := 10000000) only [h3, rkA, rkB, stepA, valA, simprocAttr]
      · rw [show (decide (a < 0) != decide (b < 0)) = true from h3, if_pos rfl]
      · rw [show (decide (a < 0) != decide (b < 0)) = false from h3, if_neg (by simp)]

def cmpF (a b c d : Int) : Int :=
  if sgn2 a b < sgn2 c d ∨ (sgn2 a b = sgn2 c d ∧ 0 < sgn2 a b ∧ a.natAbs * b.natAbs < c.natAbs * d.natAbs) ∨ (sgn2 a b = sgn2 c d ∧ sgn2 a b < 0 ∧ c.natAbs * d.natAbs < a.natAbs * b.natAbs) then -1
  else if sgn2 c d < sgn2 a b ∨ (a.natAbs * b.natAbs ≠ c.natAbs * d.natAbs ∧ sgn2 a b ≠ 0) then 1 else 0
theorem sgn2_of (a b : Int) : (sgn2 a b = 0 ∧ a * b = 0) ∨ (sgn2 a b = 1 ∧ 0 < a * b) ∨ (sgn2 a b = -1 ∧ a * b < 0) := by
  unfold sgn2
  by_cases h0 : a = 0 ∨ b = 0
  · left
    rw [if_pos h0]
    rcases h0 with rfl | rfl <;> simp
  · rw [if_neg h0]
    right
    rcases Int.lt_or_lt_of_ne (show a ≠ 0 from fun h => h0 (.inl h)) with ha | ha <;> rcases Int.lt_or_lt_of_ne (show b ≠ 0 from fun h => h0 (.inr h)) with hb | hb
    · left
      refine ⟨?_, Int.mul_pos_of_neg_of_neg ha hb⟩
      simp [ha, hb]
    · right
      refine ⟨?_, Int.mul_neg_of_neg_of_pos ha hb⟩
      have : ¬ b < 0 := by omega
      simp [ha, this]
    · right
      refine ⟨?_, Int.mul_neg_of_pos_of_neg ha hb⟩
      have : ¬ a < 0 := by omega
      simp [hb, this]
    · left
      refine ⟨?_, Int.mul_pos ha hb⟩
      have h1 : ¬ b < 0 := by omega
      have h2 : ¬ a < 0 := by omega
      simp [h1, h2]
theorem cmpF_is (a b c d : Int) : cmpF a b c d = if a * b < c * d then -1 else if c * d < a * b then 1 else 0 := by
  unfold cmpF
  have h1 := sgn2_of a b
  have h2 := sgn2_of c d
  rw [← Int.natAbs_mul, ← Int.natAbs_mul]
  generalize a * b = X at *
  generalize c * d = Y at *
  generalize sgn2 a b = x at *
  generalize sgn2 c d = y at *
  by_cases l1 : X < Y
  · rw [if_pos l1, if_pos (by omega)]
  · rw [if_neg l1, if_neg (by omega)]
    by_cases l2 : Y < X
    · rw [if_pos l2, if_pos (by omega)]
    · rw [if_neg l2, if_neg (by omega)]
theorem natAbs_lt {n : Int} (h : rightW n = true) : n.natAbs < 18446744073709551616 := by
  unfold rightW at h
  rw [decide_eq_true_eq] at h
  omega
set_option maxHeartbeats 4000000 in
theorem ok86 (a b c d : Int) (ha : rightW a = true) (hb : rightW b = true) (hc : rightW c = true) (hd : rightW d = true) : Ok Tryz.prog 86 [num a, num b, num c, num d] (num (cmpF a b c d)) := by
  have w0 : IntKind.wrap .i64 ((0 : Int) + 1) = 1 := by decide
  have w1 : IntKind.wrap .i64 ((1 : Int) + 1) = 2 := by decide
  have w2 : IntKind.wrap .i64 ((2 : Int) + 1) = 3 := by decide
  have w3 : IntKind.wrap .i64 ((3 : Int) + 1) = 4 := by decide
  have n4 : ((4 : Nat) : Int) = 4 := rfl
  refine ok_fn mixed Tryz.func86 (code := ?_) (h := h86) ?_ k86 ?_
  rotate_left
  · exact rfl
  unfold h86 initS
  simp -implicitDefEqProofs (maxSteps := 10000000) only [rkA, rkB, stepA, valA, simprocAttr, Tryz.ntmps86, Tryz.results86]
  refine wp_loop (fun m s => ∃ k : Int, ((k = 0 ∧ m = 4) ∨ (k = 1 ∧ m = 3) ∨ (k = 2 ∧ m = 2) ∨ (k = 3 ∧ m = 1) ∨ (k = 4 ∧ m = 0)) ∧ s = ⟨[.v (num a), .v (num b), .v (num c), .v (num d), jk, jk, jk, jk, jk, jk, jk, jk, jk, jk, jk, jk, jk, jk, jk, jk, .v (.agg [num a, num b, num c, num d]), nt k, jk, jk, jk, jk, jk, jk, jk, jk, jk, jk, jk, jk, jk, jk, jk, jk, jk, jk, jk, jk, jk, jk, jk, jk, jk, jk, jk, jk, jk, jk, jk, jk, jk, jk, jk, jk, jk, jk, jk, jk, jk, jk, jk, jk, jk, jk, jk, jk, jk, jk, jk, jk, jk, jk, jk, jk, jk, jk, jk, jk, jk, jk, jk], [], [], [], [], 0, nomem⟩) 4 ?_ ?_
  · simp -implicitDefEqProofs (maxSteps := 10000000) only [rkA, rkB, stepA, valA, simprocAttr]
    exact ⟨0, by omega, rfl⟩
  rintro m s ⟨k, ⟨rfl, rfl⟩ | ⟨rfl, rfl⟩ | ⟨rfl, rfl⟩ | ⟨rfl, rfl⟩ | ⟨rfl, rfl⟩, rfl⟩
  · simp -implicitDefEqProofs (maxSteps := 10000000) only [n4, rkA, rkB, stepA, valA, simprocAttr]
    refine call_fn rfl rfl rfl (ok85' a) ?_
    simp -implicitDefEqProofs (maxSteps := 10000000) only [ha, w0, rkA, rkB, stepA, valA, simprocAttr]
    refine loopK_of (m' := 3) (by omega) ?_
    simp -implicitDefEqProofs (maxSteps := 10000000) only [rkA, rkB, stepA, valA, simprocAttr]
    exact ⟨1, by omega, rfl⟩
  · simp -implicitDefEqProofs (maxSteps := 10000000) only [n4, rkA, rkB, stepA, valA, simprocAttr]
    refine call_fn rfl rfl rfl (ok85' b) ?_
    simp -implicitDefEqProofs (maxSteps := 10000000) only [hb, w1, rkA, rkB, stepA, valA, simprocAttr]
    refine loopK_of (m' := 2) (by omega) ?_
    simp -implicitDefEqProofs (maxSteps := 10000000) only [rkA, rkB, stepA, valA, simprocAttr]
    exact ⟨2, by omega, rfl⟩
  · simp -implicitDefEqProofs (maxSteps := 10000000) only [n4, rkA, rkB, stepA, valA, simprocAttr]
    refine call_fn rfl rfl rfl (ok85' c) ?_
    simp -implicitDefEqProofs (maxSteps := 10000000) only [hc, w2, rkA, rkB, stepA, valA, simprocAttr]
    refine loopK_of (m' := 1) (by omega) ?_
    simp -implicitDefEqProofs (maxSteps := 10000000) only [rkA, rkB, stepA, valA, simprocAttr]
    exact ⟨3, by omega, rfl⟩
  · simp -implicitDefEqProofs (maxSteps := 10000000) only [n4, rkA, rkB, stepA, valA, simprocAttr]
    refine call_fn rfl rfl rfl (ok85' d) ?_
    simp -implicitDefEqProofs (maxSteps := 10000000) only [hd, w3, rkA, rkB, stepA, valA, simprocAttr]
    refine loopK_of (m' := 0) (by omega) ?_
    simp -implicitDefEqProofs (maxSteps := 10000000) only [rkA, rkB, stepA, valA, simprocAttr]
    exact ⟨4, by omega, rfl⟩
  · simp -implicitDefEqProofs (maxSteps := 10000000) only [rkA, rkB, stepA, valA, simprocAttr]
    refine call_fn rfl rfl rfl (ok135 a b) ?_
    simp -implicitDefEqProofs (maxSteps := 10000000) only [rkA, rkB, stepA, valA, simprocAttr]
    refine call_fn rfl rfl rfl (ok135 c d) ?_
    simp -implicitDefEqProofs (maxSteps := 10000000) only [rkA, rkB, stepA, valA, simprocAttr]
    refine call_fn rfl rfl rfl (ok137 a ha) ?_
    simp -implicitDefEqProofs (maxSteps := 10000000) only [rkA, rkB, stepA, valA, simprocAttr]
    refine call_fn rfl rfl rfl (ok137 b hb) ?_
    simp -implicitDefEqProofs (maxSteps := 10000000) only [rkA, rkB, stepA, valA, simprocAttr]
    refine call_fn rfl rfl rfl (ok136 _ _ (natAbs_lt ha) (natAbs_lt hb)) ?_
    simp -implicitDefEqProofs (maxSteps := 10000000) only [rkA, rkB, stepA, valA, simprocAttr]
    refine call_fn rfl rfl rfl (ok137 c hc) ?_
    simp -implicitDefEqProofs (maxSteps := 10000000) only [rkA, rkB, stepA, valA, simprocAttr]
    refine call_fn rfl rfl rfl (ok137 d hd) ?_
    simp -implicitDefEqProofs (maxSteps := 10000000) only [rkA, rkB, stepA, valA, simprocAttr]
    refine call_fn rfl rfl rfl (ok136 _ _ (natAbs_lt hc) (natAbs_lt hd)) ?_
    unfold cmpF
    generalize sgn2 a b = x
    generalize sgn2 c d = y
    generalize a.natAbs * b.natAbs = p
    generalize c.natAbs * d.natAbs = q
    generalize hF : (if x < y ∨ (x = y ∧ 0 < x ∧ p < q) ∨ (x = y ∧ x < 0 ∧ q < p) then (-1 : Int) else if y < x ∨ (p ≠ q ∧ x ≠ 0) then 1 else 0) = r
    simp -implicitDefEqProofs (maxSteps := 10000000) only [rkA, rkB, stepA, valA, simprocAttr]
    repeat' (first
      | (refine gB_bool ?_ ?_ <;> intro hx <;> simp -implicitDefEqProofs (maxSteps := 10000000) only [hx, eq_prW, rkA, rkB, stepA, valA, simprocAttr])
      | (refine call_fn rfl rfl rfl (ok138 p q) ?_; simp -implicitDefEqProofs (maxSteps := 10000000) only [rkA, rkB, stepA, valA, simprocAttr])
      | (refine call_fn rfl rfl rfl (ok138 q p) ?_; simp -implicitDefEqProofs (maxSteps := 10000000) only [rkA, rkB, stepA, valA, simprocAttr]))
    all_goals clear ha hb hc hd w0 w1 w2 w3 n4
    all_goals simp only [decide_eq_true_eq, decide_eq_false_iff_not, beq_iff_eq, beq_eq_false_iff_ne, bne_iff_ne, bne_eq_false_iff_eq, Bool.not_eq_true', Bool.not_eq_false'] at *
    all_goals first
      | (rw [← hF, if_pos (by omega)]; done)
      | (rw [← hF, if_neg (by omega), if_pos (by omega)]; done)
      | (rw [← hF, if_neg (by omega), if_neg (by omega)]; done)
      | (exfalso; omega)
end Go.Proofs.YtbflmeomkfjikaaGreat.A



set_option linter.unusedVariables false
set_option linter.unusedSimpArgs false
set_option maxRecDepth 100000
namespace Go.Proofs.YtbflmeomkfjikaaGreat.A.E
open Go Go.RowKit Go.Shelf

/-! ### Is a fraction enclosed? -/
def enclB (x : Fr) (n d : Int) : Bool := x.fine && (decide (1 ≤ d) && (rightW n && (rightW d && (decide (cmpF x.lo d n 16777216 ≤ 0) && decide (cmpF n 16777216 x.hi d ≤ 0)))))
theorem rightXW {n : Int} (h : rightX n = true) : rightW n = true := by
  unfold rightX at h
  unfold rightW
  rw [decide_eq_true_eq] at h ⊢
  omega
theorem fine_lohi {x : Fr} (h : x.fine = true) : rightX x.lo = true ∧ rightX x.hi = true := by
  unfold Fr.fine at h
  simp only [Bool.and_eq_true] at h
  exact ⟨h.2.1, h.2.2.1⟩
theorem ok25 (x : Fr) (n d : Int) : Ok Tryz.prog 25 [frV x, num n, num d] (tru (enclB x n d)) := by
  refine ok_fn mixed Tryz.func25 (code := ?_) (h := h25) ?_ k25 ?_
  rotate_left
  · exact rfl
  unfold h25 initS
  simp -implicitDefEqProofs (maxSteps := 10000000) only [rkA, rkB, stepA, valA, simprocAttr, Tryz.ntmps25, Tryz.results25]
  refine call_fn rfl rfl rfl (ok84 x) ?_
  unfold enclB
  cases hf : x.fine with
  | false => simp -implicitDefEqProofs (maxSteps := 10000000) only [rkA, rkB, stepA, valA, simprocAttr]
  | true =>
    obtain ⟨hlo, hhi⟩ := fine_lohi hf
    simp -implicitDefEqProofs (maxSteps := 10000000) only [rkA, rkB, stepA, valA, simprocAttr]
    refine gB_dec ?_ ?_ <;> intro h1
    · have : ¬ 1 ≤ d := by omega
      simp -implicitDefEqProofs (maxSteps := 10000000) only [h1, this, rkA, rkB, stepA, valA, simprocAttr]
    · have h1' : 1 ≤ d := by omega
      simp -implicitDefEqProofs (maxSteps := 10000000) only [h1, h1', rkA, rkB, stepA, valA, simprocAttr]
      refine call_fn rfl rfl rfl (ok85' n) ?_
      cases hn : rightW n with
      | false => simp -implicitDefEqProofs (maxSteps := 10000000) only [rkA, rkB, stepA, valA, simprocAttr]
      | true =>
        simp -implicitDefEqProofs (maxSteps := 10000000) only [rkA, rkB, stepA, valA, simprocAttr]
        refine call_fn rfl rfl rfl (ok85' d) ?_
        cases hd : rightW d with
        | false => simp -implicitDefEqProofs (maxSteps := 10000000) only [rkA, rkB, stepA, valA, simprocAttr]
        | true =>
          simp -implicitDefEqProofs (maxSteps := 10000000) only [rkA, rkB, stepA, valA, simprocAttr]
          refine call_fn rfl rfl rfl (ok86 x.lo d n 16777216 (rightXW hlo) hd hn (by decide)) ?_
          simp -implicitDefEqProofs (maxSteps := 10000000) only [rkA, rkB, stepA, valA, simprocAttr]
          refine gB_dec ?_ ?_ <;> intro h2 <;> simp -implicitDefEqProofs (maxSteps := 10000000) only [h2, rkA, rkB, stepA, valA, simprocAttr]
          refine call_fn rfl rfl rfl (ok86 n 16777216 x.hi d hn (by decide) (rightXW hhi) hd) ?_
          simp -implicitDefEqProofs (maxSteps := 10000000) only [rkA, rkB, stepA, valA, simprocAttr]
/-! ### Products of whole numbers -/
theorem getD_newF {a : List Int} {i : Nat} (h : i < a.length) (d : Fr) : (a.map (newF · 1)).getD i d = newF (a.getD i 0) 1 := by
  simp [h]
theorem sumF_whole (f : Nat → Int) (s : Nat → Int) (h0 : s 0 = 0) (hs : ∀ j, s (j + 1) = s j + f j) (N : Nat) (hf : ∀ j, j < N → few (f j)) (hb : ∀ j, j ≤ N → few (s j)) : ∀ n, n ≤ N → sumF ((List.range n).map fun j => whole (f j)) = whole (s n)
  | 0, _ => by
    have := newF_whole (n := 0) (by unfold few; omega)
    simp [sumF, this, h0]
  | n + 1, hn => by
    have ih := sumF_whole f s h0 hs N hf hb n (by omega)
    have : sumF ((List.range (n + 1)).map fun j => whole (f j)) = addF (sumF ((List.range n).map fun j => whole (f j))) (whole (f n)) := by
      unfold sumF
      rw [List.range_succ, List.map_append, List.foldl_append]
      rfl
    rw [this, ih, addF_whole (hb n (by omega)) (hf n (by omega)) (by rw [← hs]; exact hb _ hn), ← hs]
theorem few_small {x : Int} (h : -100 ≤ x ∧ x ≤ 100) : few x := by unfold few; omega
end Go.Proofs.YtbflmeomkfjikaaGreat.A.E



set_option linter.unusedVariables false
set_option linter.unusedSimpArgs false
set_option maxRecDepth 100000
namespace Go.Proofs.YtbflmeomkfjikaaGreat.A.E
open Go Go.RowKit Go.Shelf

/-! ### What is not Bad is fine -/
def SndE (x : Fr) : Prop := x.bad = false → x.fine = true
theorem self_enc {a : Fr} (h : a.fine = true) : Enc a ((a.v : Rat) / 16777216) := by
  have o := (fine_is.1 h).2.2.2
  have e : ((a.v : Rat) / 16777216) * 16777216 = (a.v : Rat) := by grind
  refine ⟨h, ?_, ?_⟩
  · rw [e]; exact Rat.intCast_le_intCast.2 o.1
  · rw [e]; exact Rat.intCast_le_intCast.2 o.2
theorem subF_snd (a b : Fr) : SndE (subF a b) := fun h => by
  have k := made_is h
  exact (subF_enc (fun _ => self_enc k.1) (fun _ => self_enc k.2.1) h).1
/-! ### Enclosed numbers that enclose -/
end Go.Proofs.YtbflmeomkfjikaaGreat.A.E


set_option linter.unusedVariables false
set_option linter.unusedSimpArgs false
set_option maxRecDepth 100000
namespace Go.Proofs.YtbflmeomkfjikaaGreat.A
open Go Go.RowKit Go.Shelf

/-! ### Sums of numbers -/
def sumR : Nat → (Nat → Rat) → Rat
  | 0, _ => 0
  | n + 1, f => sumR n f + f n
theorem sumR_congr {f g : Nat → Rat} : ∀ {n : Nat}, (∀ j, j < n → f j = g j) → sumR n f = sumR n g
  | 0, _ => rfl
  | n + 1, h => by rw [sumR, sumR, sumR_congr fun j hj => h j (by omega), h n (by omega)]
theorem sumR_zero : ∀ n, sumR n (fun _ => 0) = 0
  | 0 => rfl
  | n + 1 => by simp only [sumR, sumR_zero n]; grind
/-! ### Dots -/
abbrev dz : Fr := ⟨0, 0, false⟩
/-! ### Products, entry by entry -/
theorem grid_at {g : Nat → Nat → Fr} {n N i k : Nat} (hi : i < N) (hk : k < n) : (gridP g n N 0).getD (i * n + k) dz = g i k := by
  rw [List.getD_eq_getElem?_getD, gridP_get _ _ _ _ _ hi hk, Option.getD_some]
end Go.Proofs.YtbflmeomkfjikaaGreat.A


set_option linter.unusedVariables false
set_option linter.unusedSimpArgs false
set_option maxRecDepth 100000
namespace Go.Proofs.YtbflmeomkfjikaaGreat.A
open Go Go.RowKit Go.Shelf

/-! ### One column folded, in numbers -/
theorem sumR_pick (f : Nat → Rat) {k : Nat} : ∀ {n : Nat}, k < n → sumR n (fun j => if j = k then f j else 0) = f k
  | n + 1, h => by
    simp only [sumR]
    by_cases e : k = n
    · subst e
      have : sumR k (fun j => if j = k then f j else 0) = sumR k (fun _ => 0) := sumR_congr fun j hj => by rw [if_neg (by omega)]
      rw [this, sumR_zero, if_pos rfl]
      grind
    · rw [sumR_pick f (show k < n by omega), if_neg (by omega)]
      grind
/-- The mirror's normal. -/
def vR (A : Nat → Nat → Rat) (k : Nat) (p : Rat) (c : Nat) : Rat := if c < k then 0 else if c = k then A k k - p else A k c
/-- The row that is folded, behind it. -/
def xR (A : Nat → Nat → Rat) (k : Nat) (p : Rat) (c : Nat) : Rat := if c < k then A k c else if c = k then p else 0
def qR (m : Nat) (A : Nat → Nat → Rat) (k : Nat) (p : Rat) : Rat := sumR m fun c => vR A k p c * vR A k p c
def dR (m : Nat) (A : Nat → Nat → Rat) (k : Nat) (p : Rat) (i : Nat) : Rat := sumR m fun c => A i c * vR A k p c
def tR (m : Nat) (A : Nat → Nat → Rat) (k : Nat) (p : Rat) (i : Nat) : Rat := (dR m A k p i + dR m A k p i) / qR m A k p
def foldR (m : Nat) (A : Nat → Nat → Rat) (k : Nat) (p : Rat) (i c : Nat) : Rat := if i < k then A i c else if i = k then xR A k p c else A i c - vR A k p c * tR m A k p i
section
variable {m : Nat} {A : Nat → Nat → Rat} {k : Nat} {p : Rat}
end
theorem abs_mul {a b x y : Rat} (h1 : -a ≤ x ∧ x ≤ a) (h2 : -b ≤ y ∧ y ≤ b) : -(a * b) ≤ x * y ∧ x * y ≤ a * b := by
  have k1 : 0 ≤ (a - x) * (b + y) := Rat.mul_nonneg (by grind) (by grind)
  have k2 : 0 ≤ (a + x) * (b - y) := Rat.mul_nonneg (by grind) (by grind)
  have k3 : 0 ≤ (a - x) * (b - y) := Rat.mul_nonneg (by grind) (by grind)
  have k4 : 0 ≤ (a + x) * (b + y) := Rat.mul_nonneg (by grind) (by grind)
  constructor <;> grind
end Go.Proofs.YtbflmeomkfjikaaGreat.A


set_option linter.unusedVariables false
set_option linter.unusedSimpArgs false
set_option maxRecDepth 100000
namespace Go.Proofs.YtbflmeomkfjikaaGreat.A
open Go Go.RowKit Go.Shelf

/-! ### Numbers that tend to one -/
def Tends (s : Nat → Rat) (v : Rat) : Prop := ∀ e : Rat, 0 < e → ∃ N : Nat, ∀ m, N ≤ m → -e < s m - v ∧ s m - v < e
theorem Tends.const (v : Rat) : Tends (fun _ => v) v := fun e he => ⟨0, fun m _ => by grind⟩
theorem Tends.add {s t : Nat → Rat} {v w : Rat} (h : Tends s v) (k : Tends t w) : Tends (fun m => s m + t m) (v + w) := fun e he => by
  obtain ⟨N, hN⟩ := h (e / 2) (by grind)
  obtain ⟨M, hM⟩ := k (e / 2) (by grind)
  refine ⟨max N M, fun m hm => ?_⟩
  have h1 := hN m (by omega)
  have h2 := hM m (by omega)
  grind
theorem Tends.neg {s : Nat → Rat} {v : Rat} (h : Tends s v) : Tends (fun m => - s m) (-v) := fun e he => by
  obtain ⟨N, hN⟩ := h e he
  exact ⟨N, fun m hm => by have := hN m hm; grind⟩
theorem Tends.sub {s t : Nat → Rat} {v w : Rat} (h : Tends s v) (k : Tends t w) : Tends (fun m => s m - t m) (v - w) := by
  have := h.add k.neg
  have e : (fun m => s m + - t m) = fun m => s m - t m := by funext m; grind
  rw [e] at this
  have e2 : v + -w = v - w := by grind
  rwa [e2] at this
/-- Bounded, and behind some number. -/
def BndS (s : Nat → Rat) : Prop := ∃ B : Rat, 0 < B ∧ ∃ N : Nat, ∀ m, N ≤ m → -B ≤ s m ∧ s m ≤ B
theorem rat_abs (v : Rat) : ∃ B : Rat, 0 < B ∧ -B ≤ v ∧ v ≤ B := by
  by_cases h : 0 ≤ v
  · exact ⟨v + 1, by grind, by grind, by grind⟩
  · exact ⟨-v + 1, by grind, by grind, by grind⟩
theorem Tends.bnd {s : Nat → Rat} {v : Rat} (h : Tends s v) : BndS s := by
  obtain ⟨B, hB, h1, h2⟩ := rat_abs v
  obtain ⟨N, hN⟩ := h 1 (by decide)
  exact ⟨B + 1, by grind, N, fun m hm => by have := hN m hm; grind⟩
theorem mul_small {x y e B : Rat} (hB : 0 < B) (hx : -B ≤ x ∧ x ≤ B) (hy : -(e / B) < y ∧ y < e / B) (he : 0 < e) : -e ≤ x * y ∧ x * y ≤ e := by
  have h1 := abs_mul hx (b := e / B) ⟨Rat.le_of_lt hy.1, Rat.le_of_lt hy.2⟩
  have e1 : B * (e / B) = e := by grind
  rwa [e1] at h1
theorem div_pos' {e B : Rat} (he : 0 < e) (hB : 0 < B) : 0 < e / B := by
  rw [Rat.div_def]
  exact Rat.mul_pos he (Rat.inv_pos.2 hB)
theorem Tends.null_mul {s t : Nat → Rat} (h : BndS s) (k : Tends t 0) : Tends (fun m => s m * t m) 0 := fun e he => by
  obtain ⟨B, hB, N, hN⟩ := h
  obtain ⟨M, hM⟩ := k (e / 2 / B) (div_pos' (by grind) hB)
  refine ⟨max N M, fun m hm => ?_⟩
  have h1 := hN m (by omega)
  have h2 := hM m (by omega)
  have h3 := mul_small (x := s m) (y := t m) hB h1 (by grind) (by grind : 0 < e / 2)
  grind
theorem Tends.zero_iff {s : Nat → Rat} {v : Rat} : Tends s v ↔ Tends (fun m => s m - v) 0 := by
  unfold Tends
  constructor
  · intro h e he
    obtain ⟨N, hN⟩ := h e he
    exact ⟨N, fun m hm => by have := hN m hm; grind⟩
  · intro h e he
    obtain ⟨N, hN⟩ := h e he
    exact ⟨N, fun m hm => by have := hN m hm; grind⟩
theorem Tends.mul {s t : Nat → Rat} {v w : Rat} (h : Tends s v) (k : Tends t w) : Tends (fun m => s m * t m) (v * w) := by
  rw [Tends.zero_iff]
  have h1 := Tends.null_mul h.bnd (Tends.zero_iff.1 k)
  have h2 := Tends.null_mul (Tends.const w).bnd (Tends.zero_iff.1 h)
  have h3 := h1.add h2
  have e : (fun m => s m * (t m - w) + w * (s m - v)) = fun m => s m * t m - v * w := by funext m; grind
  rw [e] at h3
  have e2 : (0 : Rat) + 0 = 0 := by grind
  rwa [e2] at h3
theorem Tends.inv {s : Nat → Rat} {v : Rat} (h : Tends s v) (hv : v ≠ 0) : Tends (fun m => (s m)⁻¹) v⁻¹ := by
  -- away from 0
  have hb : ∃ c : Rat, 0 < c ∧ ∃ N : Nat, ∀ m, N ≤ m → s m ≠ 0 ∧ -c ≤ (s m)⁻¹ ∧ (s m)⁻¹ ≤ c := by
    by_cases hp : 0 < v
    · obtain ⟨N, hN⟩ := h (v / 2) (by grind)
      refine ⟨(v / 2)⁻¹, Rat.inv_pos.2 (by grind), N, fun m hm => ?_⟩
      have h1 := hN m hm
      have h2 : 0 < s m := by grind
      have h3 : 0 < (s m)⁻¹ := Rat.inv_pos.2 h2
      have h4 : 0 < (v / 2)⁻¹ := Rat.inv_pos.2 (by grind)
      refine ⟨by grind, by grind, ?_⟩
      have h5 : 0 ≤ (s m - v / 2) * ((s m)⁻¹ * (v / 2)⁻¹) := Rat.mul_nonneg (by grind) (Rat.le_of_lt (Rat.mul_pos h3 h4))
      have e1 : (s m - v / 2) * ((s m)⁻¹ * (v / 2)⁻¹) = (v / 2)⁻¹ - (s m)⁻¹ := by
        have a1 : s m * (s m)⁻¹ = 1 := Rat.mul_inv_cancel _ (by grind)
        have a2 : (v / 2) * (v / 2)⁻¹ = 1 := Rat.mul_inv_cancel _ (by grind)
        generalize (s m)⁻¹ = a at *
        generalize (v / 2)⁻¹ = b at *
        grind
      grind
    · have hn : v < 0 := by grind
      obtain ⟨N, hN⟩ := h (-v / 2) (by grind)
      refine ⟨(-v / 2)⁻¹, Rat.inv_pos.2 (by grind), N, fun m hm => ?_⟩
      have h1 := hN m hm
      have h2 : 0 < - s m := by grind
      have h3 : 0 < (- s m)⁻¹ := Rat.inv_pos.2 h2
      have h4 : 0 < (-v / 2)⁻¹ := Rat.inv_pos.2 (by grind)
      have h6 : (s m)⁻¹ = -(- s m)⁻¹ := by
        have a1 : s m * (s m)⁻¹ = 1 := Rat.mul_inv_cancel _ (by grind)
        have a2 : (- s m) * (- s m)⁻¹ = 1 := Rat.mul_inv_cancel _ (by grind)
        generalize (s m)⁻¹ = a at *
        generalize (- s m)⁻¹ = b at *
        have : s m * a = s m * (-b) := by grind
        have h0 : s m ≠ 0 := by grind
        grind
      have h5 : 0 ≤ (- s m - -v / 2) * ((- s m)⁻¹ * (-v / 2)⁻¹) := Rat.mul_nonneg (by grind) (Rat.le_of_lt (Rat.mul_pos h3 h4))
      have e1 : (- s m - -v / 2) * ((- s m)⁻¹ * (-v / 2)⁻¹) = (-v / 2)⁻¹ - (- s m)⁻¹ := by
        have a1 : - s m * (- s m)⁻¹ = 1 := Rat.mul_inv_cancel _ (by grind)
        have a2 : (-v / 2) * (-v / 2)⁻¹ = 1 := Rat.mul_inv_cancel _ (by grind)
        generalize (- s m)⁻¹ = a at *
        generalize (-v / 2)⁻¹ = b at *
        grind
      refine ⟨by grind, by grind, by grind⟩
  obtain ⟨c, hc, N, hN⟩ := hb
  rw [Tends.zero_iff]
  have h2 : Tends (fun m => (s m)⁻¹ * (v⁻¹ * (v - s m))) 0 := by
    refine Tends.null_mul ⟨c, hc, N, fun m hm => (hN m hm).2⟩ ?_
    refine Tends.null_mul (Tends.const v⁻¹).bnd ?_
    have := (Tends.const v).sub h
    have e2 : v - v = 0 := by grind
    rwa [e2] at this
  intro e he
  obtain ⟨M, hM⟩ := h2 e he
  refine ⟨max N M, fun m hm => ?_⟩
  have h3 : -e < (s m)⁻¹ * (v⁻¹ * (v - s m)) - 0 ∧ (s m)⁻¹ * (v⁻¹ * (v - s m)) - 0 < e := hM m (by omega)
  have h4 := (hN m (by omega)).1
  have e1 : (s m)⁻¹ * (v⁻¹ * (v - s m)) = (s m)⁻¹ - v⁻¹ := by
    have a1 : s m * (s m)⁻¹ = 1 := Rat.mul_inv_cancel _ h4
    have a2 : v * v⁻¹ = 1 := Rat.mul_inv_cancel _ hv
    generalize (s m)⁻¹ = a at *
    generalize v⁻¹ = b at *
    grind
  rw [e1] at h3
  exact ⟨by grind, by grind⟩
theorem Tends.div {s t : Nat → Rat} {v w : Rat} (h : Tends s v) (k : Tends t w) (hw : w ≠ 0) : Tends (fun m => s m / t m) (v / w) := by
  have := h.mul (k.inv hw)
  simp only [← Rat.div_def] at this
  exact this
theorem Tends.sum {s : Nat → Nat → Rat} {v : Nat → Rat} (h : ∀ j, Tends (fun m => s m j) (v j)) : ∀ n, Tends (fun m => sumR n (s m)) (sumR n v)
  | 0 => Tends.const 0
  | n + 1 => (Tends.sum h n).add (h n)
/-- What stays below a bound has its limit there. -/
theorem Tends.le {s : Nat → Rat} {v b : Rat} (h : Tends s v) (hb : ∀ m, s m ≤ b) : v ≤ b := by
  by_cases hv : v ≤ b
  · exact hv
  · obtain ⟨N, hN⟩ := h (v - b) (by grind)
    have h1 := hN N (Nat.le_refl _)
    have h2 := hb N
    grind
theorem Tends.congr {s t : Nat → Rat} {v : Rat} (h : Tends s v) (k : ∀ m, s m = t m) : Tends t v := by
  have : s = t := funext k
  rwa [← this]
/-- What is within e / (m + 1) of one tends to it. -/
theorem Tends.near {s t : Nat → Rat} {v c : Rat} (h : Tends t v) (hc : 0 ≤ c) (k : ∀ m : Nat, -(c / ((m : Rat) + 1)) ≤ s m - t m ∧ s m - t m ≤ c / ((m : Rat) + 1)) : Tends s v := by
  have h0 : Tends (fun m => s m - t m) 0 := fun e he => by
    obtain ⟨N, hN⟩ : ∃ N : Nat, c / e < (N : Rat) := by
      refine ⟨((c / e).floor + 1).toNat, ?_⟩
      have h1 : c / e < ((c / e).floor + 1 : Int) := Rat.lt_floor_add_one _
      have h2 : ((c / e).floor + 1 : Int) ≤ (((c / e).floor + 1).toNat : Int) := Int.self_le_toNat _
      have h3 := Rat.intCast_le_intCast.2 h2
      rw [Rat.intCast_natCast] at h3
      grind
    refine ⟨N, fun m hm => ?_⟩
    have h1 := k m
    have hm' : (N : Rat) ≤ (m : Rat) := by exact_mod_cast hm
    have h2 : c < e * ((m : Rat) + 1) := by
      have h3 : c = e * (c / e) := by grind
      have h4 : 0 ≤ e * ((m : Rat) - c / e) := Rat.mul_nonneg (Rat.le_of_lt he) (by grind)
      grind
    have hm0 : 0 < (m : Rat) + 1 := by
      have : (0 : Rat) ≤ (N : Rat) := by exact_mod_cast Nat.zero_le N
      grind
    have h5 : c / ((m : Rat) + 1) < e := by
      have h6 : 0 < (e * ((m : Rat) + 1) - c) * ((m : Rat) + 1)⁻¹ := Rat.mul_pos (by grind) (Rat.inv_pos.2 hm0)
      have h7 : ((m : Rat) + 1) * ((m : Rat) + 1)⁻¹ = 1 := Rat.mul_inv_cancel _ (by grind)
      rw [Rat.div_def]
      generalize ((m : Rat) + 1)⁻¹ = a at *
      have h8 : (e * ((m : Rat) + 1) - c) * a = e * (((m : Rat) + 1) * a) - c * a := by grind
      rw [h8, h7] at h6
      grind
    constructor <;> grind
  have := h0.add h
  have e1 : (fun m => s m - t m + t m) = s := by funext m; grind
  have e2 : (0 : Rat) + v = v := by grind
  rwa [e1, e2] at this
/-! ### Roots, as near as is asked -/
end Go.Proofs.YtbflmeomkfjikaaGreat.A


set_option linter.unusedVariables false
set_option linter.unusedSimpArgs false
set_option maxRecDepth 100000
namespace Go.Proofs.YtbflmeomkfjikaaGreat.A.E
open Go Go.RowKit Go.Shelf

/-! ### Enclosed numbers beside numbers: where it is fine, it encloses -/
def Rq (x : Fr) (v : Rat) : Prop := x.fine = true → Enc x v
theorem Rq.add {a b : Fr} {v w : Rat} (ha : Rq a v) (hb : Rq b w) : Rq (addF a b) (v + w) := fun hx =>
  addF_enc (fun _ => ha (made_fine hx).1) (fun _ => hb (made_fine hx).2) (fine_is.1 hx).1
theorem Rq.sub {a b : Fr} {v w : Rat} (ha : Rq a v) (hb : Rq b w) : Rq (subF a b) (v - w) := fun hx =>
  subF_enc (fun _ => ha (made_fine hx).1) (fun _ => hb (made_fine hx).2) (fine_is.1 hx).1
theorem Rq.mul {a b : Fr} {v w : Rat} (ha : Rq a v) (hb : Rq b w) : Rq (mulF a b) (v * w) := fun hx =>
  mulF_enc (fun _ => ha (made_fine hx).1) (fun _ => hb (made_fine hx).2) (fine_is.1 hx).1
theorem div_fine {a b : Fr} (h : (divF a b).fine = true) : a.fine = true ∧ b.fine = true ∧ ¬ (b.lo ≤ 0 ∧ b.hi ≥ 0) := by
  unfold divF at h
  split at h
  · exact absurd h (by decide)
  · rename_i hc
    exact ⟨(made_fine h).1, (made_fine h).2, hc⟩
theorem Rq.div {a b : Fr} {v w : Rat} (ha : Rq a v) (hb : Rq b w) : Rq (divF a b) (v / w) := fun hx =>
  divF_enc (fun _ => ha (div_fine hx).1) (fun _ => hb (div_fine hx).2.1) (fine_is.1 hx).1
theorem Rq.whole {n : Int} (h : few n) : Rq (newF n 1) (n : Rat) := fun _ => whole_enc h
theorem Rq.zero : Rq (newF 0 1) 0 := by
  have := Rq.whole (n := 0) (by unfold few; omega)
  simpa using this
theorem Enc.ne {b : Fr} {w : Rat} (h : Enc b w) (hb : ¬ (b.lo ≤ 0 ∧ b.hi ≥ 0)) : w ≠ 0 := fun e => by
  subst e
  obtain ⟨_, h1, h2⟩ := h
  have e0 : (0 : Rat) * 16777216 = ((0 : Int) : Rat) := by simp
  rw [e0] at h1 h2
  exact hb ⟨Rat.intCast_le_intCast.1 h1, Rat.intCast_le_intCast.1 h2⟩
theorem rightX_le {n : Int} (h : rightX n = true) : -1125899906842624 ≤ n ∧ n ≤ 1125899906842624 := by
  unfold rightX at h
  exact of_decide_eq_true h
/-- What is enclosed is not great. -/
theorem Enc.bnd {x : Fr} {v : Rat} (h : Enc x v) : -67108864 ≤ v ∧ v ≤ 67108864 := by
  obtain ⟨hf, h1, h2⟩ := h
  obtain ⟨_, k1, k2, _, _⟩ := fine_is.1 hf
  have a1 := Rat.intCast_le_intCast.2 (rightX_le k1).1
  have a2 := Rat.intCast_le_intCast.2 (rightX_le k2).2
  have e1 : ((-1125899906842624 : Int) : Rat) = -1125899906842624 := by decide +kernel
  have e2 : ((1125899906842624 : Int) : Rat) = 1125899906842624 := by decide +kernel
  rw [e1] at a1
  rw [e2] at a2
  grind
theorem sumF_succ (f : Nat → Fr) (n : Nat) : sumF ((List.range (n + 1)).map f) = addF (sumF ((List.range n).map f)) (f n) := by
  unfold sumF
  rw [List.range_succ, List.map_append, List.foldl_append]
  rfl
theorem Rq.sum {f : Nat → Fr} {v : Nat → Rat} : ∀ {n : Nat}, (∀ j, j < n → Rq (f j) (v j)) → Rq (sumF ((List.range n).map f)) (sumR n v)
  | 0, _ => Rq.zero
  | n + 1, h => by
    rw [sumF_succ]
    exact Rq.add (Rq.sum fun j hj => h j (by omega)) (h n (by omega))
theorem sum_fine {f : Nat → Fr} : ∀ {n : Nat}, (sumF ((List.range n).map f)).fine = true → ∀ j, j < n → (f j).fine = true
  | 0, _, j, hj => by omega
  | n + 1, h, j, hj => by
    rw [sumF_succ] at h
    have := made_fine h
    by_cases e : j = n
    · rw [e]; exact this.2
    · exact sum_fine this.1 j (by omega)
theorem dotF_range (f g : Nat → Fr) (n : Nat) : dotF ((List.range n).map f) ((List.range n).map g) = sumF ((List.range n).map fun j => mulF (f j) (g j)) := by
  unfold dotF
  rw [List.zipWith_map, List.zipWith_self]
theorem Rq.dot {f g : Nat → Fr} {v w : Nat → Rat} {n : Nat} (hf : ∀ j, j < n → Rq (f j) (v j)) (hg : ∀ j, j < n → Rq (g j) (w j)) : Rq (dotF ((List.range n).map f) ((List.range n).map g)) (sumR n fun j => v j * w j) := by
  rw [dotF_range]
  exact Rq.sum fun j hj => (hf j hj).mul (hg j hj)
theorem dot_fine {f g : Nat → Fr} {n : Nat} (h : (dotF ((List.range n).map f) ((List.range n).map g)).fine = true) : ∀ j, j < n → (f j).fine = true ∧ (g j).fine = true := fun j hj => by
  rw [dotF_range] at h
  exact made_fine (sum_fine h j hj)
end Go.Proofs.YtbflmeomkfjikaaGreat.A.E


set_option linter.unusedVariables false
set_option linter.unusedSimpArgs false
set_option maxRecDepth 100000
namespace Go.Proofs.YtbflmeomkfjikaaGreat.A
open Go Go.RowKit Go.Shelf

/-! ### Roots of whole numbers, bit by bit -/
def rtB (n K : Nat) : Nat → Nat
  | 0 => 0
  | j + 1 => if (rtB n K j + 2 ^ (K - 1 - j)) * (rtB n K j + 2 ^ (K - 1 - j)) ≤ n then rtB n K j + 2 ^ (K - 1 - j) else rtB n K j

theorem rtB_spec {n K : Nat} (hn : n < 2 ^ K * 2 ^ K) : ∀ j, j ≤ K → rtB n K j * rtB n K j ≤ n ∧ n < (rtB n K j + 2 ^ (K - j)) * (rtB n K j + 2 ^ (K - j)) ∧ (∃ q, rtB n K j = 2 ^ (K - j) * q) ∧ rtB n K j + 2 ^ (K - j) ≤ 2 ^ K
  | 0, _ => ⟨by simp [rtB], by simpa [rtB] using hn, ⟨0, by simp [rtB]⟩, by simp [rtB]⟩
  | j + 1, hj => by
    obtain ⟨h1, h2, ⟨q, hq⟩, h3⟩ := rtB_spec hn j (by omega)
    have e1 : K - j = (K - (j + 1)) + 1 := by omega
    have e2 : K - 1 - j = K - (j + 1) := by omega
    rw [e1, Nat.pow_succ] at h2 hq h3
    simp only [rtB, e2]
    generalize rtB n K j = r at *
    generalize 2 ^ (K - (j + 1)) = t at *
    split
    · rename_i hc
      refine ⟨hc, by rw [Nat.add_assoc, ← Nat.mul_two]; exact h2, ⟨2 * q + 1, ?_⟩, by omega⟩
      rw [hq, Nat.mul_add, Nat.mul_one, Nat.mul_assoc]
    · rename_i hc
      exact ⟨h1, by omega, ⟨2 * q, by rw [hq, Nat.mul_assoc]⟩, by omega⟩

theorem rtB_final {n K : Nat} (hn : n < 2 ^ K * 2 ^ K) : rtB n K K * rtB n K K ≤ n ∧ n < (rtB n K K + 1) * (rtB n K K + 1) ∧ rtB n K K < 2 ^ K := by
  obtain ⟨h1, h2, _, h3⟩ := rtB_spec hn K (Nat.le_refl _)
  rw [Nat.sub_self, Nat.pow_zero] at h2 h3
  exact ⟨h1, h2, by omega⟩

theorem sq_lt {a b : Nat} (h : a * a < b * b) : a < b := by
  rcases Nat.lt_or_ge a b with h1 | h1
  · exact h1
  · have := Nat.mul_le_mul h1 h1
    omega
theorem rtB_sq {s K : Nat} (hs : s < 2 ^ K) : rtB (s * s) K K = s := by
  have hn : s * s < 2 ^ K * 2 ^ K := Nat.mul_lt_mul'' hs hs
  obtain ⟨h1, h2, _⟩ := rtB_final hn
  have h3 : s < rtB (s * s) K K + 1 := sq_lt h2
  rcases Nat.lt_or_ge (rtB (s * s) K K) s with h4 | h4
  · omega
  · have : rtB (s * s) K K = s := by
      rcases Nat.lt_or_ge s (rtB (s * s) K K) with h5 | h5
      · have := Nat.mul_lt_mul'' h5 h5
        omega
      · omega
    exact this

theorem or_bit {r k : Nat} (hr : r < 2 ^ 62) (hk : k < 62) (hd : ∃ q, r = 2 ^ (k + 1) * q) : (BitVec.ofInt 64 (r : Int) ||| BitVec.ofInt 64 ((2 ^ k : Nat) : Int)).toNat = r + 2 ^ k := by
  obtain ⟨q, rfl⟩ := hd
  have h2 : (2 : Nat) ^ k < 2 ^ (k + 1) := Nat.pow_lt_pow_right (by omega) (by omega)
  have h3 : (2 : Nat) ^ k < 2 ^ 62 := Nat.pow_lt_pow_right (by omega) hk
  rw [BitVec.toNat_or, BitVec.ofInt_natCast, BitVec.ofInt_natCast, BitVec.toNat_ofNat, BitVec.toNat_ofNat, Nat.mod_eq_of_lt (by omega), Nat.mod_eq_of_lt (by omega), Nat.two_pow_add_eq_or_of_lt h2]

theorem wrapNat {n : Nat} (h : n < 9223372036854775808) : IntKind.wrap .i64 (n : Int) = (n : Int) := wrapped (by omega) (by omega)
def rootI (n : Int) : Int := if rtB n.toNat 16 16 * rtB n.toNat 16 16 = n.toNat then (rtB n.toNat 16 16 : Int) else -1

theorem ok223 (n : Int) (h0 : 0 ≤ n) (h1 : n ≤ 1073741824) : Ok Tryz.prog 223 [num n] (num (rootI n)) := by
  obtain ⟨N, rfl⟩ : ∃ N : Nat, n = N := ⟨n.toNat, by omega⟩
  have hN : N < 2 ^ 16 * 2 ^ 16 := by omega
  have hs := rtB_spec hN
  refine ok_fn mixed Tryz.func223 (code := ?_) (h := h223) ?_ k223 ?_
  rotate_left
  · exact rfl
  unfold h223 initS
  simp -implicitDefEqProofs only [rkA, rkB, stepA, valA, simprocAttr, Tryz.ntmps223, Tryz.results223]
  refine wp_loop (fun m s => ∃ j : Nat, j + m = 16 ∧ s = ⟨[nt N, jk, jk, nt (rtB N 16 j), nt (15 - (j : Int)), jk, jk, jk, jk, jk, jk, jk, jk, jk, jk, jk, jk, jk, jk, jk, jk, jk, jk, jk, jk, jk], [], [], [], [], 0, nomem⟩) 16 ?_ ?_
  · simp -implicitDefEqProofs only [rkA, rkB, stepA, valA, simprocAttr]
    exact ⟨0, rfl, by simp [nt, rtB]⟩
  rintro m s ⟨j, hj, rfl⟩
  simp -implicitDefEqProofs only [rkA, rkB, stepA, valA, simprocAttr]
  refine gB_dec ?_ ?_ <;> intro hc <;> simp -implicitDefEqProofs only [hc, rkA, rkB, stepA, valA, simprocAttr]
  · obtain ⟨s1, s2, s3, s4⟩ := hs j (by omega)
    have e1 : 16 - j = (15 - j) + 1 := by omega
    have e2 : (15 - (j : Int)) = ((15 - j : Nat) : Int) := by omega
    have e3 : 16 - 1 - j = 15 - j := by omega
    have h0k : (0 : Int) ≤ ((15 - j : Nat) : Int) := by omega
    have hkb : min ((15 - j : Nat) : Int).toNat (IntKind.bits .i64) = 15 - j := by
      have : IntKind.bits .i64 = 64 := rfl
      rw [this, Int.toNat_natCast]
      omega
    rw [e1] at s3
    have hp : (2 : Nat) ^ (15 - j) ≤ 2 ^ 15 := Nat.pow_le_pow_right (by omega) (by omega)
    have hrl : rtB N 16 j < 2 ^ 16 := by
      have : 0 < 2 ^ (16 - j) := Nat.pow_pos (by omega)
      omega
    have hpI : (1 : Int) * 2 ^ (15 - j) = ((2 ^ (15 - j) : Nat) : Int) := by rw [Int.one_mul, Int.natCast_pow]; rfl
    have hw1 : IntKind.wrap .i64 ((2 ^ (15 - j) : Nat) : Int) = ((2 ^ (15 - j) : Nat) : Int) := wrapNat (by omega)
    have hor := or_bit (r := rtB N 16 j) (k := 15 - j) (by omega) (by omega) s3
    have hbits : IntKind.bits .i64 = 64 := rfl
    have hw2 : IntKind.wrap .i64 ((rtB N 16 j + 2 ^ (15 - j) : Nat) : Int) = ((rtB N 16 j + 2 ^ (15 - j) : Nat) : Int) := wrapNat (by omega)
    have hx : (rtB N 16 j + 2 ^ (15 - j)) * (rtB N 16 j + 2 ^ (15 - j)) ≤ (2 ^ 16 + 2 ^ 15) * (2 ^ 16 + 2 ^ 15) := Nat.mul_le_mul (by omega) (by omega)
    have hw3 : IntKind.wrap .i64 (((rtB N 16 j + 2 ^ (15 - j) : Nat) : Int) * ((rtB N 16 j + 2 ^ (15 - j) : Nat) : Int)) = (((rtB N 16 j + 2 ^ (15 - j)) * (rtB N 16 j + 2 ^ (15 - j)) : Nat) : Int) := by
      rw [← Int.natCast_mul]
      exact wrapNat (by omega)
    have hA : IntKind.wrap .i64 (1 * 2 ^ min ((15 - j : Nat) : Int).toNat (IntKind.bits .i64)) = ((2 ^ (15 - j) : Nat) : Int) := by rw [hkb, hpI, hw1]
    have hB : IntKind.wrap .i64 ((BitVec.ofInt (IntKind.bits .i64) (rtB N 16 j : Int) ||| BitVec.ofInt (IntKind.bits .i64) ((2 ^ (15 - j) : Nat) : Int)).toNat : Int) = ((rtB N 16 j + 2 ^ (15 - j) : Nat) : Int) := by rw [hbits, hor, hw2]
    have hw4 : IntKind.wrap .i64 (((15 - j : Nat) : Int) - 1) = 15 - ((j + 1 : Nat) : Int) := by rw [wrapped (by omega) (by omega)]; omega
    simp -implicitDefEqProofs only [e2, h0k, hA, hB, hw3, rkA, rkB, stepA, valA, simprocAttr]
    refine gB_dec ?_ ?_ <;> intro hq
    · have hr : rtB N 16 (j + 1) = rtB N 16 j + 2 ^ (15 - j) := by simp only [rtB, e3]; rw [if_pos (by omega)]
      simp -implicitDefEqProofs only [hw4, rkA, rkB, stepA, valA, simprocAttr]
      refine loopK_of (m' := m - 1) (by omega) ?_
      simp -implicitDefEqProofs only [rkA, rkB, stepA, valA, simprocAttr]
      exact ⟨j + 1, by omega, by rw [hr]⟩
    · have hr : rtB N 16 (j + 1) = rtB N 16 j := by simp only [rtB, e3]; rw [if_neg (by omega)]
      simp -implicitDefEqProofs only [hw4, rkA, rkB, stepA, valA, simprocAttr]
      refine loopK_of (m' := m - 1) (by omega) ?_
      simp -implicitDefEqProofs only [rkA, rkB, stepA, valA, simprocAttr]
      exact ⟨j + 1, by omega, by rw [hr]⟩
  · have hj16 : j = 16 := by omega
    subst hj16
    obtain ⟨f1, f2, f3⟩ := rtB_final hN
    have hw3 : IntKind.wrap .i64 ((rtB N 16 16 : Int) * (rtB N 16 16 : Int)) = ((rtB N 16 16 * rtB N 16 16 : Nat) : Int) := by
      rw [← Int.natCast_mul]
      exact wrapNat (by omega)
    simp -implicitDefEqProofs only [hw3, rkA, rkB, stepA, valA, simprocAttr]
    unfold rootI
    rw [Int.toNat_natCast]
    refine gB_bool ?_ ?_ <;> intro hq
    · have : ¬ rtB N 16 16 * rtB N 16 16 = N := by
        have := bne_iff_ne.1 hq
        omega
      rw [if_neg this]
      simp -implicitDefEqProofs only [rkA, rkB, stepA, valA, simprocAttr]
    · have : rtB N 16 16 * rtB N 16 16 = N := by
        have := (bne_eq_false_iff_eq (a := ((rtB N 16 16 * rtB N 16 16 : Nat) : Int)) (b := (N : Int))).1 hq
        omega
      rw [if_pos this]
      simp -implicitDefEqProofs only [rkA, rkB, stepA, valA, simprocAttr]

def rootF (a : Fr) : Fr := if a.fine = false ∨ a.n < 0 ∨ rootI a.n < 0 ∨ rootI a.d < 0 then .wrong else newF (rootI a.n) (rootI a.d)
theorem fine_bnd {a : Fr} (h : a.fine = true) : 1 ≤ a.d ∧ a.d ≤ 1073741824 ∧ a.n ≤ 1073741824 ∧ -1073741824 ≤ a.n := by
  simp only [Fr.fine, Bool.and_eq_true, decide_eq_true_eq] at h
  omega
theorem ok216 (a : Fr) : Ok Tryz.prog 216 [frV a] (frV (rootF a)) := by
  refine ok_fn mixed Tryz.func216 (code := ?_) (h := h216) ?_ k216 ?_
  rotate_left
  · exact rfl
  unfold h216 initS
  simp -implicitDefEqProofs only [rkA, rkB, stepA, valA, simprocAttr, Tryz.ntmps216, Tryz.results216]
  refine call_fn rfl rfl rfl (ok212 a) ?_
  cases hf : a.fine with
  | false =>
    simp -implicitDefEqProofs only [rkA, rkB, stepA, valA, simprocAttr]
    refine call_fn rfl rfl rfl (ok101) ?_
    have : rootF a = .wrong := by unfold rootF; rw [if_pos (.inl hf)]
    rw [this]
    simp -implicitDefEqProofs only [rkA, rkB, stepA, valA, simprocAttr]
  | true =>
    obtain ⟨d1, d2, n1, n2⟩ := fine_bnd hf
    simp -implicitDefEqProofs only [rkA, rkB, stepA, valA, simprocAttr]
    refine gB_dec ?_ ?_ <;> intro hn <;> simp -implicitDefEqProofs only [hn, rkA, rkB, stepA, valA, simprocAttr]
    · refine call_fn rfl rfl rfl (ok101) ?_
      have : rootF a = .wrong := by unfold rootF; rw [if_pos (.inr (.inl hn))]
      rw [this]
      simp -implicitDefEqProofs only [rkA, rkB, stepA, valA, simprocAttr]
    · refine call_fn rfl rfl rfl (ok223 a.n (by omega) n1) ?_
      simp -implicitDefEqProofs only [rkA, rkB, stepA, valA, simprocAttr]
      refine gB_dec ?_ ?_ <;> intro hr <;> simp -implicitDefEqProofs only [hr, rkA, rkB, stepA, valA, simprocAttr]
      · refine call_fn rfl rfl rfl (ok101) ?_
        have : rootF a = .wrong := by unfold rootF; rw [if_pos (.inr (.inr (.inl hr)))]
        rw [this]
        simp -implicitDefEqProofs only [rkA, rkB, stepA, valA, simprocAttr]
      · refine call_fn rfl rfl rfl (ok223 a.d (by omega) d2) ?_
        simp -implicitDefEqProofs only [rkA, rkB, stepA, valA, simprocAttr]
        refine gB_dec ?_ ?_ <;> intro hs <;> simp -implicitDefEqProofs only [hs, rkA, rkB, stepA, valA, simprocAttr]
        · refine call_fn rfl rfl rfl (ok101) ?_
          have : rootF a = .wrong := by unfold rootF; rw [if_pos (.inr (.inr (.inr hs)))]
          rw [this]
          simp -implicitDefEqProofs only [rkA, rkB, stepA, valA, simprocAttr]
        · refine call_fn rfl rfl rfl (ok223 a.n (by omega) n1) ?_
          simp -implicitDefEqProofs only [rkA, rkB, stepA, valA, simprocAttr]
          refine call_fn rfl rfl rfl (ok223 a.d (by omega) d2) ?_
          simp -implicitDefEqProofs only [rkA, rkB, stepA, valA, simprocAttr]
          refine call_fn rfl rfl rfl (ok44 (rootI a.n) (rootI a.d)) ?_
          have : rootF a = newF (rootI a.n) (rootI a.d) := by
            unfold rootF
            rw [if_neg (by rw [hf]; rintro (h | h | h | h) <;> first | cases h | omega)]
          rw [this]
          simp -implicitDefEqProofs only [rkA, rkB, stepA, valA, simprocAttr]

def signF (a : Fr) : Int := if a.fine = false then 0 else if a.n = 0 then 0 else if a.n < 0 then -1 else 1
theorem ok217 (a : Fr) : Ok Tryz.prog 217 [frV a] (num (signF a)) := by
  refine ok_fn mixed Tryz.func217 (code := ?_) (h := h217) ?_ k217 ?_
  rotate_left
  · exact rfl
  unfold h217 initS
  simp -implicitDefEqProofs only [rkA, rkB, stepA, valA, simprocAttr, Tryz.ntmps217, Tryz.results217]
  refine call_fn rfl rfl rfl (ok212 a) ?_
  unfold signF
  cases hf : a.fine with
  | false => simp -implicitDefEqProofs only [rkA, rkB, stepA, valA, simprocAttr]
  | true =>
    simp -implicitDefEqProofs only [rkA, rkB, stepA, valA, simprocAttr]
    refine gB_bool ?_ ?_ <;> intro h0
    · have e0 : a.n = 0 := by simpa using h0
      simp -implicitDefEqProofs only [e0, rkA, rkB, stepA, valA, simprocAttr]
    · have e0 : ¬ a.n = 0 := by simpa using h0
      simp -implicitDefEqProofs only [e0, rkA, rkB, stepA, valA, simprocAttr]
      refine gB_dec ?_ ?_ <;> intro h1 <;> simp -implicitDefEqProofs only [h1, rkA, rkB, stepA, valA, simprocAttr]
end Go.Proofs.YtbflmeomkfjikaaGreat.A



set_option linter.unusedVariables false
set_option linter.unusedSimpArgs false
set_option maxRecDepth 100000
namespace Go.Proofs.YtbflmeomkfjikaaGreat.A
open Go Go.RowKit Go.Shelf

/-! ### Roots of products, bit by bit -/
def rtW (p : Nat) : Nat := rtB p 63 63
def upW (p : Nat) (mode : Int) : Bool := decide (rtW p * rtW p ≠ p) && (decide (mode = 2) || (decide (mode = 0) && decide (rtW p * (rtW p + 1) < p)))
def wRootN (p : Nat) (mode : Int) : Nat := if upW p mode = true then rtW p + 1 else rtW p
def wRootOk (a b mode : Int) : Bool := rightW a && (rightW b && (decide (0 ≤ mode ∧ mode ≤ 2) && !((decide (a ≠ 0) && decide (b ≠ 0)) && (decide (a < 0) != decide (b < 0)))))
def wRoot (a b mode : Int) : Int × Bool := if wRootOk a b mode = true then ((wRootN (a.natAbs * b.natAbs) mode : Int), true) else (0, false)
theorem rtB_step {n K j : Nat} (hn : n < 2 ^ K * 2 ^ K) (hj : j < K) : ∃ q, rtB n K j = q * 2 ^ (K - j) ∧ rtB n K j + 2 ^ (K - j) ≤ 2 ^ K := by
  obtain ⟨_, _, ⟨q, hq⟩, h4⟩ := rtB_spec hn j (by omega)
  exact ⟨q, by rw [hq, Nat.mul_comm], h4⟩
theorem abs_right {n : Int} (h : rightW n = true) : n.natAbs ≤ 4611686018427387903 := by
  unfold rightW at h
  rw [decide_eq_true_eq] at h
  omega
theorem wRoot_no {a b mode : Int} (h : wRootOk a b mode = false) : wRoot a b mode = (0, false) := by unfold wRoot; rw [h]; rfl
theorem wRoot_yes {a b mode : Int} (h : wRootOk a b mode = true) : wRoot a b mode = ((wRootN (a.natAbs * b.natAbs) mode : Int), true) := by unfold wRoot; rw [if_pos h]
theorem rtW_spec {p : Nat} (hp : p ≤ 4611686018427387903 * 4611686018427387903) : rtW p * rtW p ≤ p ∧ p < (rtW p + 1) * (rtW p + 1) ∧ rtW p ≤ 4611686018427387903 := by
  have hp2 : p < 2 ^ 63 * 2 ^ 63 := by omega
  obtain ⟨f1, f2, f3⟩ := rtB_final hp2
  refine ⟨f1, f2, ?_⟩
  have f1' : rtW p * rtW p ≤ p := f1
  rcases Nat.lt_or_ge 4611686018427387903 (rtW p) with h | h
  · have := Nat.mul_lt_mul'' h h
    omega
  · exact h
set_option maxHeartbeats 4000000 in
theorem ok235 (a b mode : Int) : Ok Tryz.prog 235 [num a, num b, num mode] (.tup [num (wRoot a b mode).1, tru (wRoot a b mode).2]) := by
  refine ok_fn mixed Tryz.func235 (code := ?_) (h := h235) ?_ k235 ?_
  rotate_left
  · exact rfl
  unfold h235 initS
  simp -implicitDefEqProofs (maxSteps := 10000000) only [rkA, rkB, stepA, valA, simprocAttr, Tryz.ntmps235, Tryz.results235]
  refine call_fn rfl rfl rfl (ok85' a) ?_
  cases ha : rightW a with
  | false =>
    rw [wRoot_no (by unfold wRootOk; rw [ha]; rfl)]
    simp -implicitDefEqProofs (maxSteps := 10000000) only [rkA, rkB, stepA, valA, simprocAttr]
  | true =>
    simp -implicitDefEqProofs (maxSteps := 10000000) only [rkA, rkB, stepA, valA, simprocAttr]
    refine call_fn rfl rfl rfl (ok85' b) ?_
    cases hb : rightW b with
    | false =>
      rw [wRoot_no (by unfold wRootOk; rw [ha, hb]; rfl)]
      simp -implicitDefEqProofs (maxSteps := 10000000) only [rkA, rkB, stepA, valA, simprocAttr]
    | true =>
      simp -implicitDefEqProofs (maxSteps := 10000000) only [rkA, rkB, stepA, valA, simprocAttr]
      refine call_fn rfl rfl rfl (ok178 mode) ?_
      by_cases hm : 0 ≤ mode ∧ mode ≤ 2
      · have hm' : decide (0 ≤ mode ∧ mode ≤ 2) = true := decide_eq_true hm
        have hb1 := abs_right ha
        have hb2 := abs_right hb
        have hp : a.natAbs * b.natAbs ≤ 4611686018427387903 * 4611686018427387903 := Nat.mul_le_mul hb1 hb2
        simp -implicitDefEqProofs (maxSteps := 10000000) only [hm', rkA, rkB, stepA, valA, simprocAttr]
        have cs : (a = 0) ∨ (a ≠ 0 ∧ b = 0) ∨ (a ≠ 0 ∧ b ≠ 0 ∧ (decide (a < 0) != decide (b < 0)) = true) ∨ (a ≠ 0 ∧ b ≠ 0 ∧ (decide (a < 0) != decide (b < 0)) = false) := by
          cases (decide (a < 0) != decide (b < 0)) <;> simp <;> omega
        rcases cs with h1 | ⟨h1, h2⟩ | ⟨h1, h2, h3⟩ | ⟨h1, h2, h3⟩
        rotate_left 2
        · have n1 : (a != 0) = true := by simpa using h1
          have n2 : (b != 0) = true := by simpa using h2
          rw [wRoot_no (by unfold wRootOk; rw [ha, hb, hm', h3, decide_eq_true h1, decide_eq_true h2]; rfl)]
          have n3 : (!(decide (a < 0) == decide (b < 0))) = true := h3
          simp -implicitDefEqProofs (maxSteps := 10000000) only [n1, n2, n3, rkA, rkB, stepA, valA, simprocAttr]
        have hr := wRoot_yes (a := a) (b := b) (mode := mode) (by unfold wRootOk; rw [ha, hb, hm', h3]; simp)
        have n1 : (a != 0) = true := by simpa using h1
        have n2 : (b != 0) = true := by simpa using h2
        have n3 : (!(decide (a < 0) == decide (b < 0))) = false := h3
        simp -implicitDefEqProofs (maxSteps := 10000000) only [n1, n2, n3, rkA, rkB, stepA, valA, simprocAttr]
        clear h1 h2 h3 n1 n2 n3
        rotate_left
        have hr := wRoot_yes (a := a) (b := b) (mode := mode) (by unfold wRootOk; rw [ha, hb, hm', decide_eq_false (p := a ≠ 0) (by simpa using h1)]; rfl)
        have n1 : (a != 0) = false := by simpa using h1
        simp -implicitDefEqProofs (maxSteps := 10000000) only [n1, rkA, rkB, stepA, valA, simprocAttr]
        clear h1 n1
        rotate_left
        have hr := wRoot_yes (a := a) (b := b) (mode := mode) (by unfold wRootOk; rw [ha, hb, hm', decide_eq_false (p := b ≠ 0) (by simpa using h2)]; simp)
        have n1 : (a != 0) = true := by simpa using h1
        have n2 : (b != 0) = false := by simpa using h2
        simp -implicitDefEqProofs (maxSteps := 10000000) only [n1, n2, rkA, rkB, stepA, valA, simprocAttr]
        clear h1 h2 n1 n2
        all_goals
          rw [hr]
          clear hr
          refine call_fn rfl rfl rfl (ok137 a ha) ?_
          simp -implicitDefEqProofs (maxSteps := 10000000) only [rkA, rkB, stepA, valA, simprocAttr]
          refine call_fn rfl rfl rfl (ok137 b hb) ?_
          simp -implicitDefEqProofs (maxSteps := 10000000) only [rkA, rkB, stepA, valA, simprocAttr]
          refine call_fn rfl rfl rfl (ok136 a.natAbs b.natAbs (by omega) (by omega)) ?_
          simp -implicitDefEqProofs (maxSteps := 10000000) only [rkA, rkB, stepA, valA, simprocAttr]
          generalize a.natAbs * b.natAbs = p at *
          have hp2 : p < 2 ^ 63 * 2 ^ 63 := by omega
          refine wp_loop (fun m s => ∃ j : Nat, j + m = 63 ∧ s = ⟨[jk, jk, .v (num mode), jk, jk, jk, jk, jk, .ptr 8 0, ut (rtB p 63 j), jk, jk, jk, jk, jk, jk, jk, jk, jk, jk, jk, jk, jk, jk, jk, jk, jk, jk, jk, jk, jk, jk, jk, jk, jk, jk, jk, jk, jk, jk, jk, jk, jk, jk, jk, jk, jk, nt j, jk, jk, jk, jk, jk, jk, jk, jk, jk, jk, jk, jk, jk, jk, jk, jk, jk, jk, jk, jk, jk, jk, jk, jk, jk, jk, jk, jk, jk, jk, jk, jk, jk, jk, jk, jk, jk, jk, jk, jk, jk, jk, jk],
            [(8, [ut (p / 18446744073709551616), ut (p % 18446744073709551616)])], [], [], [], 0, nomem⟩) 63 ?_ ?_
          · simp -implicitDefEqProofs (maxSteps := 10000000) only [rkA, rkB, stepA, valA, simprocAttr]
            exact ⟨0, rfl, rfl⟩
          rintro m s ⟨j, hj, rfl⟩
          simp -implicitDefEqProofs (maxSteps := 10000000) only [rkA, rkB, stepA, valA, simprocAttr]
          refine gB_dec ?_ ?_ <;> intro hc <;> simp -implicitDefEqProofs (maxSteps := 10000000) only [hc, rkA, rkB, stepA, valA, simprocAttr]
          · obtain ⟨q, hq, hq2⟩ := rtB_step hp2 (show j < 63 by omega)
            obtain ⟨t, ht⟩ : ∃ t, 63 - j = t + 1 := ⟨62 - j, by omega⟩
            have ht2 : 63 - 1 - j = t := by omega
            have hti : (62 : Int) - (j : Int) = ((t : Nat) : Int) := by omega
            have h0t : (0 : Int) ≤ ((t : Nat) : Int) := by omega
            have hwt := wrapped (x := ((t : Nat) : Int)) (by omega) (by omega)
            have hshl := shlN 1 (k := t) (by omega)
            rw [ht] at hq hq2
            have hpt : 2 ^ t < 2 ^ (t + 1) := Nat.pow_lt_pow_right (by omega) (by omega)
            have hpt2 : 2 ^ (t + 1) ≤ 2 ^ 63 := Nat.pow_le_pow_right (by omega) (by omega)
            have hor := orN (a := q) (b := 2 ^ t) (k := t + 1) hpt (by rw [← hq]; omega)
            rw [← hq] at hor
            rw [Nat.one_mul, Nat.mod_eq_of_lt (by omega)] at hshl
            have e1 : ((1 : Nat) : Int) = 1 := rfl
            rw [e1] at hshl
            have hx : rtB p 63 j + 2 ^ t < 18446744073709551616 := by omega
            simp -implicitDefEqProofs (maxSteps := 10000000) only [hti, h0t, hwt, Int.toNat_natCast, hshl, hor, rkA, rkB, stepA, valA, simprocAttr]
            refine call_fn rfl rfl rfl (ok136 (rtB p 63 j + 2 ^ t) (rtB p 63 j + 2 ^ t) hx hx) ?_
            simp -implicitDefEqProofs (maxSteps := 10000000) only [rkA, rkB, stepA, valA, simprocAttr]
            refine call_fn rfl rfl rfl (ok138 p ((rtB p 63 j + 2 ^ t) * (rtB p 63 j + 2 ^ t))) ?_
            have hstep : rtB p 63 (j + 1) = if (rtB p 63 j + 2 ^ t) * (rtB p 63 j + 2 ^ t) ≤ p then rtB p 63 j + 2 ^ t else rtB p 63 j := by rw [rtB, ht2]
            have hw2 := wrapped (x := (j : Int) + 1) (by omega) (by omega)
            by_cases hlt : p < (rtB p 63 j + 2 ^ t) * (rtB p 63 j + 2 ^ t)
            · rw [if_neg (by omega)] at hstep
              simp -implicitDefEqProofs (maxSteps := 10000000) only [hlt, hw2, rkA, rkB, stepA, valA, simprocAttr]
              refine loopK_of (m' := m - 1) (by omega) ?_
              simp -implicitDefEqProofs (maxSteps := 10000000) only [rkA, rkB, stepA, valA, simprocAttr]
              exact ⟨j + 1, by omega, by rw [hstep, show ((j + 1 : Nat) : Int) = (j : Int) + 1 from rfl]⟩
            · rw [if_pos (by omega)] at hstep
              simp -implicitDefEqProofs (maxSteps := 10000000) only [hlt, hw2, rkA, rkB, stepA, valA, simprocAttr]
              refine loopK_of (m' := m - 1) (by omega) ?_
              simp -implicitDefEqProofs (maxSteps := 10000000) only [rkA, rkB, stepA, valA, simprocAttr]
              exact ⟨j + 1, by omega, by rw [hstep, show ((j + 1 : Nat) : Int) = (j : Int) + 1 from rfl]⟩
          · have hj' : j = 63 := by omega
            subst hj'
            obtain ⟨f1, f2, f3⟩ := rtW_spec hp
            have er : rtB p 63 63 = rtW p := by unfold rtW; rfl
            rw [er]
            clear er hp2
            unfold wRootN upW
            generalize rtW p = r at *
            have h64 : r < 18446744073709551616 := by omega
            have h65 : r + 1 < 18446744073709551616 := by omega
            have hw1 := wrapN (n := r + 1) h65
            have ea : ((r : Nat) : Int) + 1 = ((r + 1 : Nat) : Int) := by simp
            refine call_fn rfl rfl rfl (ok136 (r) (r) h64 h64) ?_
            simp -implicitDefEqProofs (maxSteps := 10000000) only [eq_prW, ea, hw1, rkA, rkB, stepA, valA, simprocAttr]
            refine call_fn rfl rfl rfl (ok136 (r) (r + 1) h64 h65) ?_
            simp -implicitDefEqProofs (maxSteps := 10000000) only [rkA, rkB, stepA, valA, simprocAttr]
            refine call_fn rfl rfl rfl (ok138 (r * (r + 1)) p) ?_
            simp -implicitDefEqProofs (maxSteps := 10000000) only [rkA, rkB, stepA, valA, simprocAttr]
            have hwi : IntKind.wrap .i64 ((r : Nat) : Int) = ((r : Nat) : Int) := wrapped (by omega) (by omega)
            have hwi2 : IntKind.wrap .i64 ((r + 1 : Nat) : Int) = ((r + 1 : Nat) : Int) := wrapped (by omega) (by omega)
            by_cases q1 : r * r = p
            · have d1 : decide (r * r = p) = true := decide_eq_true q1
              have d2 : decide (r * r ≠ p) = false := decide_eq_false (by simpa using q1)
              simp -implicitDefEqProofs (maxSteps := 10000000) only [d1, d2, hwi, rkA, rkB, stepA, valA, simprocAttr]
            · have d1 : decide (r * r = p) = false := decide_eq_false q1
              have d2 : decide (r * r ≠ p) = true := decide_eq_true q1
              have m2 : (mode == 2) = decide (mode = 2) := by by_cases h : mode = 2 <;> simp [h]
              have m0 : (mode == 0) = decide (mode = 0) := by by_cases h : mode = 0 <;> simp [h]
              by_cases q2 : mode = 2
              · have d3 : decide (mode = 2) = true := decide_eq_true q2
                simp -implicitDefEqProofs (maxSteps := 10000000) only [d1, d2, d3, m2, rkA, rkB, stepA, valA, simprocAttr]
                simp -implicitDefEqProofs (maxSteps := 10000000) only [ea, hw1, hwi2, rkA, rkB, stepA, valA, simprocAttr]
              · have d3 : decide (mode = 2) = false := decide_eq_false q2
                by_cases q3 : mode = 0
                · have d4 : decide (mode = 0) = true := decide_eq_true q3
                  by_cases q4 : r * (r + 1) < p
                  · have d5 : decide (r * (r + 1) < p) = true := decide_eq_true q4
                    simp -implicitDefEqProofs (maxSteps := 10000000) only [d1, d2, d3, d4, d5, m2, m0, rkA, rkB, stepA, valA, simprocAttr]
                    simp -implicitDefEqProofs (maxSteps := 10000000) only [ea, hw1, hwi2, rkA, rkB, stepA, valA, simprocAttr]
                  · have d5 : decide (r * (r + 1) < p) = false := decide_eq_false q4
                    simp -implicitDefEqProofs (maxSteps := 10000000) only [d1, d2, d3, d4, d5, m2, m0, hwi, rkA, rkB, stepA, valA, simprocAttr]
                · have d4 : decide (mode = 0) = false := decide_eq_false q3
                  simp -implicitDefEqProofs (maxSteps := 10000000) only [d1, d2, d3, d4, m2, m0, hwi, rkA, rkB, stepA, valA, simprocAttr]
      · have hm' : decide (0 ≤ mode ∧ mode ≤ 2) = false := decide_eq_false hm
        rw [wRoot_no (by unfold wRootOk; rw [ha, hb, hm']; rfl)]
        simp -implicitDefEqProofs (maxSteps := 10000000) only [hm', rkA, rkB, stepA, valA, simprocAttr]
end Go.Proofs.YtbflmeomkfjikaaGreat.A



set_option linter.unusedVariables false
set_option linter.unusedSimpArgs false
set_option maxRecDepth 100000
namespace Go.Proofs.YtbflmeomkfjikaaGreat.A
open Go Go.RowKit Go.Shelf

/-! ### Roots of rounded numbers -/
def rtX (a mode : Int) : Int × Bool := toldF (wRoot a 16777216 mode).1 (wRoot a 16777216 mode).2 [a]
theorem ok234 (a mode : Int) : Ok Tryz.prog 234 [num a, num mode] (.tup [num (rtX a mode).1, tru (rtX a mode).2]) := by
  refine ok_fn mixed Tryz.func234 (code := ?_) (h := h234) ?_ k234 ?_
  rotate_left
  · exact rfl
  unfold h234 initS
  simp -implicitDefEqProofs (maxSteps := 10000000) only [rkA, rkB, stepA, valA, simprocAttr, Tryz.ntmps234, Tryz.results234]
  refine call_fn rfl rfl rfl (ok235 a 16777216 mode) ?_
  simp -implicitDefEqProofs (maxSteps := 10000000) only [rkA, rkB, stepA, valA, simprocAttr]
  refine call_fn rfl rfl rfl (ok156 _ _ [a] (by simp)) ?_
  simp -implicitDefEqProofs (maxSteps := 10000000) only [rkA, rkB, stepA, valA, simprocAttr, rtX]
theorem ok233 (x y m : Int) : Ok Tryz.prog 233 [num x, num y, num m] (.tup [num (rtX x m).1, tru (rtX x m).2]) := by
  refine ok_fn mixed Tryz.func233 (code := ?_) (h := h233) ?_ k233 ?_
  rotate_left
  · exact rfl
  unfold h233 initS
  simp -implicitDefEqProofs (maxSteps := 10000000) only [rkA, rkB, stepA, valA, simprocAttr, Tryz.ntmps233, Tryz.results233]
  refine call_fn rfl rfl rfl (ok234 x m) ?_
  simp -implicitDefEqProofs (maxSteps := 10000000) only [rkA, rkB, stepA, valA, simprocAttr]
end Go.Proofs.YtbflmeomkfjikaaGreat.A
namespace Go.Proofs.YtbflmeomkfjikaaGreat.A.E
open Go Go.RowKit Go.Shelf

/-! ### Roots, signs of enclosed numbers -/
def rootF (a : Fr) : Fr := madeE (fun x _ m => rtX x m) a a [(a.lo, a.lo), (a.hi, a.hi)]
theorem ok229 (a : Fr) : Ok Tryz.prog 229 [frV a] (frV (rootF a)) := by
  have h := ok103 _ (fun x _ m => rtX x m) (fun x y m => ok233 x y m) a a true [(a.lo, a.lo), (a.hi, a.hi)] (by simp) (by simp)
  refine ok_fn mixed Tryz.func229 (code := ?_) (h := h229) ?_ k229 ?_
  rotate_left
  · exact rfl
  unfold h229 initS
  simp -implicitDefEqProofs (maxSteps := 10000000) only [rkA, rkB, stepA, valA, simprocAttr, Tryz.ntmps229, Tryz.results229]
  refine call_fn rfl rfl rfl (h) ?_
  simp -implicitDefEqProofs (maxSteps := 10000000) only [rkA, rkB, stepA, valA, simprocAttr, rootF]
def negF (a : Fr) : Fr := subF (point 0) a
theorem ok36 (a : Fr) : Ok Tryz.prog 36 [frV a] (frV (negF a)) := by
  refine ok_fn mixed Tryz.func36 (code := ?_) (h := h36) ?_ k36 ?_
  rotate_left
  · exact rfl
  unfold h36 initS
  simp -implicitDefEqProofs (maxSteps := 10000000) only [rkA, rkB, stepA, valA, simprocAttr, Tryz.ntmps36, Tryz.results36]
  refine call_fn rfl rfl rfl (ok53 0) ?_
  simp -implicitDefEqProofs (maxSteps := 10000000) only [rkA, rkB, stepA, valA, simprocAttr]
  refine call_fn rfl rfl rfl (ok97 (point 0) a) ?_
  simp -implicitDefEqProofs (maxSteps := 10000000) only [rkA, rkB, stepA, valA, simprocAttr, negF]
def signF (a : Fr) : Int := if a.bad = true ∨ a.v = 0 then 0 else if a.v < 0 then -1 else 1
theorem ok34 (a : Fr) : Ok Tryz.prog 34 [frV a] (num (signF a)) := by
  refine ok_fn mixed Tryz.func34 (code := ?_) (h := h34) ?_ k34 ?_
  rotate_left
  · exact rfl
  unfold h34 initS
  simp -implicitDefEqProofs (maxSteps := 10000000) only [rkA, rkB, stepA, valA, simprocAttr, Tryz.ntmps34, Tryz.results34]
  cases hb : a.bad with
  | true =>
    have e : signF a = 0 := by unfold signF; rw [hb]; simp
    simp -implicitDefEqProofs (maxSteps := 10000000) only [e, rkA, rkB, stepA, valA, simprocAttr]
  | false =>
    simp -implicitDefEqProofs (maxSteps := 10000000) only [rkA, rkB, stepA, valA, simprocAttr]
    by_cases h0 : a.v = 0
    · have e : signF a = 0 := by unfold signF; rw [h0]; simp
      simp -implicitDefEqProofs (maxSteps := 10000000) only [e, h0, rkA, rkB, stepA, valA, simprocAttr]
    · have h0' : (a.v == 0) = false := by simpa using h0
      simp -implicitDefEqProofs (maxSteps := 10000000) only [h0, h0', rkA, rkB, stepA, valA, simprocAttr]
      refine gB_dec ?_ ?_ <;> intro h1 <;> simp -implicitDefEqProofs (maxSteps := 10000000) only [h1, rkA, rkB, stepA, valA, simprocAttr]
      · have e : signF a = -1 := by unfold signF; rw [hb, if_neg (by simp [h0]), if_pos h1]
        rw [e]
      · have e : signF a = 1 := by unfold signF; rw [hb, if_neg (by simp [h0]), if_neg h1]
        rw [e]
theorem methRoot : Meth Tryz.prog 40 "Root" 229 := by
  intro v xs w
  rfl
end Go.Proofs.YtbflmeomkfjikaaGreat.A.E


set_option linter.unusedVariables false
set_option linter.unusedSimpArgs false
set_option maxRecDepth 100000
namespace Go.Proofs.YtbflmeomkfjikaaGreat.A.E
open Go Go.RowKit Go.Shelf

/-! ### Roots of enclosed numbers enclose -/
/-- What a rounded root is: r the root from below, R what is told. -/
theorem rt_spec {x m : Int} (h : (rtX x m).2 = true) : ∃ r R : Nat, (rtX x m).1 = (R : Int) ∧ 0 ≤ x ∧ rightX (R : Int) = true ∧ (r : Int) * r ≤ x * 16777216 ∧ x * 16777216 < ((r : Int) + 1) * ((r : Int) + 1) ∧
    (R = r ∨ (R = r + 1 ∧ (r : Int) * r < x * 16777216)) ∧ (m = 1 → R = r) ∧ (m = 2 → x * 16777216 ≤ (R : Int) * R) := by
  unfold rtX at h ⊢
  obtain ⟨h1, h2, h3⟩ := told_is h
  cases hok : wRootOk x 16777216 m with
  | false => rw [wRoot_no hok] at h1; cases h1
  | true =>
    rw [h2] at *
    rw [wRoot_yes hok] at *
    simp only at *
    have h0 : 0 ≤ x ∧ rightW x = true := by
      unfold wRootOk at hok
      simp only [Bool.and_eq_true, Bool.not_eq_true', Bool.and_eq_false_iff, decide_eq_false_iff_not, decide_eq_true_eq, bne_eq_false_iff_eq, decide_eq_decide] at hok
      refine ⟨?_, hok.1⟩
      obtain ⟨_, _, _, hh⟩ := hok
      rcases hh with (hh | hh) | hh
      · omega
      · omega
      · omega
    have hp : x.natAbs * (16777216 : Int).natAbs ≤ 4611686018427387903 * 4611686018427387903 := Nat.mul_le_mul (abs_right h0.2) (by decide)
    obtain ⟨s1, s2, s3⟩ := rtW_spec hp
    have ep : ((x.natAbs * (16777216 : Int).natAbs : Nat) : Int) = x * 16777216 := by
      have : (16777216 : Int).natAbs = 16777216 := rfl
      rw [this]
      omega
    generalize x.natAbs * (16777216 : Int).natAbs = p at *
    have i1 : ((rtW p : Nat) : Int) * (rtW p : Nat) ≤ x * 16777216 := by rw [← ep, ← Int.natCast_mul]; omega
    have i2 : x * 16777216 < (((rtW p : Nat) : Int) + 1) * (((rtW p : Nat) : Int) + 1) := by
      rw [← ep]
      have : (((rtW p : Nat) : Int) + 1) = ((rtW p + 1 : Nat) : Int) := by simp
      rw [this, ← Int.natCast_mul]
      omega
    refine ⟨rtW p, wRootN p m, rfl, h0.1, h3, i1, i2, ?_, ?_, ?_⟩
    · unfold wRootN
      split
      · rename_i hu
        refine .inr ⟨rfl, ?_⟩
        unfold upW at hu
        rw [Bool.and_eq_true, decide_eq_true_eq] at hu
        rw [← ep, ← Int.natCast_mul]
        have := hu.1
        omega
      · exact .inl rfl
    · rintro rfl
      unfold wRootN upW
      simp
    · rintro rfl
      unfold wRootN upW
      by_cases he : rtW p * rtW p = p
      · simp only [he, ne_eq, not_true_eq_false, decide_false, Bool.false_and, Bool.false_eq_true, if_false]
        rw [← ep, ← Int.natCast_mul]
        omega
      · simp only [he, ne_eq, not_false_eq_true, decide_true, Bool.true_and, Bool.true_or, if_true]
        have : ((rtW p + 1 : Nat) : Int) = ((rtW p : Nat) : Int) + 1 := by simp
        rw [this]
        exact Int.le_of_lt i2
theorem sqr_le {a b : Nat} (h : (a : Int) * a < ((b : Int) + 1) * ((b : Int) + 1)) : a ≤ b := by
  rcases Nat.lt_or_ge b a with h1 | h1
  · exfalso
    have h2 : ((b : Int) + 1) ≤ (a : Int) := by omega
    have h3 := Int.mul_le_mul h2 h2 (by omega) (by omega)
    omega
  · exact h1
theorem rt_lohi {x y : Int} (hx : (rtX x 1).2 = true) (hy : (rtX y 0).2 = true) (h : x ≤ y) : (rtX x 1).1 ≤ (rtX y 0).1 := by
  obtain ⟨r, R, e1, _, _, a1, a2, a3, a4, _⟩ := rt_spec hx
  obtain ⟨s, S, f1, _, _, b1, b2, b3, _, _⟩ := rt_spec hy
  rw [e1, f1, a4 rfl]
  have : r ≤ s := sqr_le (by omega)
  omega
theorem rt_hilo {x y : Int} (hx : (rtX x 0).2 = true) (hy : (rtX y 2).2 = true) (h : x ≤ y) : (rtX x 0).1 ≤ (rtX y 2).1 := by
  obtain ⟨r, R, e1, _, _, a1, a2, a3, _, _⟩ := rt_spec hx
  obtain ⟨s, S, f1, _, _, b1, b2, b3, _, b5⟩ := rt_spec hy
  rw [e1, f1]
  have h1 : r ≤ s := sqr_le (by omega)
  have h2 := b5 rfl
  rcases b3 with rfl | ⟨rfl, _⟩
  · rcases a3 with rfl | ⟨rfl, h3⟩
    · omega
    · have : (r : Int) * r < (S : Int) * S := by omega
      have hne : r ≠ S := fun e => by subst e; omega
      omega
  · rcases a3 with rfl | ⟨rfl, h3⟩ <;> omega
/-- Whatever lies between both roots told is enclosed. -/
theorem root_between {a : Fr} (h : (rootF a).fine = true) {w : Rat} (h1 : ((rtX a.lo 1).1 : Rat) ≤ w * 16777216) (h2 : w * 16777216 ≤ ((rtX a.hi 2).1 : Rat)) : Enc (rootF a) w := by
  have hb := (fine_is.1 h).1
  unfold rootF at hb h ⊢
  obtain ⟨k1, k2, k3, k4, k5⟩ := made_is hb
  obtain ⟨_, _, _, q1, q2⟩ := fine_is.1 k1
  have p1 := k4 (a.lo, a.lo) (by simp)
  have p2 := k4 (a.hi, a.hi) (by simp)
  refine made_enc hb (fun x y m hh => (by obtain ⟨r, R, e1, _, e3, _⟩ := rt_spec hh; rw [e1]; exact e3)) ⟨(a.lo, a.lo), by simp, h1⟩ ⟨(a.hi, a.hi), by simp, h2⟩
    ⟨(a.lo, a.lo), by simp, rt_lohi p1.1 k3 q1⟩ ⟨(a.hi, a.hi), by simp, rt_hilo k3 p2.2 q2⟩
theorem root_ends {a : Fr} {v : Rat} (h : (rootF a).fine = true) (ha : Enc a v) : ∃ L H : Nat, (rtX a.lo 1).1 = (L : Int) ∧ (rtX a.hi 2).1 = (H : Int) ∧ L ≤ H ∧ (L : Rat) * L ≤ v * 16777216 * 16777216 ∧ v * 16777216 * 16777216 ≤ (H : Rat) * H := by
  have hb := (fine_is.1 h).1
  unfold rootF at hb
  obtain ⟨k1, k2, k3, k4, k5⟩ := made_is hb
  obtain ⟨_, _, _, q1, q2⟩ := fine_is.1 k1
  have p1 := k4 (a.lo, a.lo) (by simp)
  have p2 := k4 (a.hi, a.hi) (by simp)
  have g1 := rt_lohi p1.1 k3 q1
  have g2 := rt_hilo k3 p2.2 q2
  obtain ⟨r, R, e1, _, _, a1, a2, a3, a4, _⟩ := rt_spec p1.1
  obtain ⟨s, S, f1, _, _, b1, b2, b3, _, b5⟩ := rt_spec p2.2
  obtain ⟨_, h1, h2⟩ := ha
  have c1 : ((r : Int) * r : Int) ≤ a.lo * 16777216 := a1
  have c2 := b5 rfl
  have c1' := Rat.intCast_le_intCast.2 c1
  have c2' := Rat.intCast_le_intCast.2 c2
  simp only [Rat.intCast_mul, Rat.intCast_natCast, Rat.intCast_ofNat] at c1' c2'
  refine ⟨R, S, e1, f1, by simp only at g1 g2 e1 f1; omega, ?_, ?_⟩
  · rw [a4 rfl]
    have : (a.lo : Rat) * 16777216 ≤ v * 16777216 * 16777216 := by
      have := Rat.mul_le_mul_of_nonneg_right h1 (show (0 : Rat) ≤ 16777216 by decide)
      exact this
    grind
  · have : v * 16777216 * 16777216 ≤ (a.hi : Rat) * 16777216 := Rat.mul_le_mul_of_nonneg_right h2 (show (0 : Rat) ≤ 16777216 by decide)
    grind
theorem nn_nat (n : Nat) : (0 : Rat) ≤ (n : Rat) := by exact_mod_cast Nat.zero_le n
theorem le_of_sq {a b : Rat} (ha : 0 ≤ a) (hb : 0 ≤ b) (h : a * a ≤ b * b) : a ≤ b := by
  by_cases h1 : a ≤ b
  · exact h1
  · have h2 : 0 < (a - b) * (a + b) := Rat.mul_pos (by grind) (by grind)
    grind
/-- The root of what is enclosed is enclosed. -/
theorem Rq.root {a : Fr} {v r : Rat} (ha : Rq a v) (hr : 0 ≤ r) (h : r * r = v) : Rq (rootF a) r := fun hf => by
  have hfa : a.fine = true := by
    have hb := (fine_is.1 hf).1
    unfold rootF at hb
    exact (made_is hb).1
  obtain ⟨L, H, e1, e2, _, h1, h2⟩ := root_ends hf (ha hfa)
  have hw : 0 ≤ r * 16777216 := Rat.mul_nonneg hr (by decide)
  have e : v * 16777216 * 16777216 = (r * 16777216) * (r * 16777216) := by rw [← h]; grind
  rw [e] at h1 h2
  refine root_between hf ?_ ?_
  · rw [e1, Rat.intCast_natCast]
    exact le_of_sq (nn_nat L) hw h1
  · rw [e2, Rat.intCast_natCast]
    exact le_of_sq hw (nn_nat H) h2
theorem root_fine {a : Fr} (hf : (rootF a).fine = true) : a.fine = true := by
  have hb := (fine_is.1 hf).1
  unfold rootF at hb
  exact (made_is hb).1
theorem Rq.neg {a : Fr} {v : Rat} (ha : Rq a v) : Rq (negF a) (-v) := by
  have h0 : Rq (point 0) 0 := fun _ => by
    have e : point 0 = newF 0 1 := by decide +kernel
    rw [e]
    exact Rq.zero (by decide +kernel)
  have := h0.sub ha
  have e : (0 : Rat) - v = -v := by grind
  rw [e] at this
  exact this
theorem neg_fine {a : Fr} (h : (negF a).fine = true) : a.fine = true := (made_fine h).2
end Go.Proofs.YtbflmeomkfjikaaGreat.A.E


set_option linter.unusedVariables false
set_option linter.unusedSimpArgs false
set_option maxRecDepth 100000
namespace Go.Proofs.YtbflmeomkfjikaaGreat.A
open Go Go.RowKit Go.Shelf

/-! ### Functions that hand new rows back -/
theorem frs_cells (l : List Fr) : ∀ e ∈ frs l, e.cells.length = 3 := fun e he => by
  obtain ⟨x, _, rfl⟩ := List.mem_map.1 he
  rfl
theorem RFs_frs : ∀ (l : List Fr), RFs (flat (frs l)) = true
  | [] => rfl
  | x :: l => by
    have h := RFs_frs l
    simp only [frs, List.map_cons, flat, List.flatMap_cons, PV.cells, List.cons_append, List.nil_append, RFs, RF, Bool.true_and] at h ⊢
    exact h

theorem okn109 (ex : Bool) (l : List Fr) (hl : l ≠ []) (h : l.length ≤ 5864062014805) : OkN Tryz.prog 109 [.sl ex (frs l)] (frs l) := by
  have hfit : fits 3 24 [] (frs l) = true := by
    have := fits_frs (k := []) (l := l) (by simpa using h)
    simpa using this
  have he : (frs l).isEmpty = false := by cases l <;> simp_all
  refine okn_fn mixed Tryz.func109 (code := ?_) (h := hN109) ?_ kN109 rfl (RFs_frs l) ?_
  rotate_left
  · exact rfl
  unfold hN109 initS
  simp -implicitDefEqProofs only [rkA, rkB, stepA, valA, simprocAttr, Tryz.ntmps109, Tryz.results109]
  refine nilA_sl _ _ rfl fun b hb => ?_
  have hb' := hb he
  subst hb'
  simp -implicitDefEqProofs only [hfit, he, rkA, rkB, stepA, valA, simprocAttr]
  refine .inl ⟨7, ?_⟩
  simp -implicitDefEqProofs only [rkA, rkB, stepA, valA, simprocAttr]

/-- A new matrix: its numbers lie in memory of their own. -/
def NewMat (r c : Int) (l : List PV) (x : PV) (m : Mem) : Prop := ∃ b cap q, l.length ≤ cap ∧ x = .tup [.agg [num r, num c, .s (.slice (some ⟨b, 0, none⟩) l.length cap)], tru true] ∧ m = nomem.put b (flat l ++ List.replicate q .junk)

theorem tell_row {m : Mem} {b cap q : Nat} {l : List Fr} (hm : m b = some (flat (frs l) ++ List.replicate q .junk)) (hc : (frs l).length ≤ cap) : Tell m (.s (.slice (some ⟨b, 0, none⟩) (frs l).length cap)) (.sl false (frs l)) := by
  refine .row hm (frs_cells l) rfl (by simp) hc (fun h => by cases h) ?_
  rw [List.drop_zero, List.take_left]
  exact Tells.same _ _

theorem okm71 (r c : Int) (ex : Bool) (l : List Fr) (hr : right r c l.length = true) : OkM Tryz.prog 71 [num r, num c, .sl ex (frs l)] nomem (NewMat r c (frs l)) := by
  have hn := right_le hr
  have hpos := right_spec hr
  have hl : l ≠ [] := by
    intro h
    subst h
    have h1 : r * c = 0 := by have := hpos.2.2.2.2; simpa using this.symm
    rcases Int.mul_eq_zero.1 h1 with h | h <;> omega
  refine okm_fn mixed Tryz.func71 (code := ?_) (h := hN71) ?_ kN71 ?_
  rotate_left
  · exact rfl
  unfold hN71 initS
  simp -implicitDefEqProofs only [rkA, rkB, stepA, valA, simprocAttr, Tryz.ntmps71, Tryz.results71]
  refine newRow_fn rfl rfl (Tells.same _ _) (okn109 ex l hl (by omega)) (RFs_frs l) (by simpa using hl) ?_
  intro b cap q hb hcap
  simp -implicitDefEqProofs only [rkA, rkB, stepA, valA, simprocAttr]
  have e : (frs l).length = l.length := by simp
  have h17 := ok100 false r c (frs l)
  rw [e, hr] at h17
  refine lend_fn rfl rfl (.cons (.agg (.cons (.same _) (.cons (.same _) (.cons (tell_row (Mem.put_same _ _ _) hcap) .nil)))) .nil) (h17) rfl ?_
  simp -implicitDefEqProofs only [rkA, rkB, stepA, valA, simprocAttr]
  exact ⟨_, rfl, b, cap, q, hcap, rfl, rfl⟩
end Go.Proofs.YtbflmeomkfjikaaGreat.A


set_option linter.unusedVariables false
set_option linter.unusedSimpArgs false
set_option maxRecDepth 100000
namespace Go.Proofs.YtbflmeomkfjikaaGreat.A.E
open Go Go.RowKit Go.Shelf

theorem frs_cells (l : List Fr) : ∀ e ∈ frs l, e.cells.length = 4 := fun e he => by
  obtain ⟨x, _, rfl⟩ := List.mem_map.1 he
  rfl
theorem RFs_frs : ∀ (l : List Fr), RFs (flat (frs l)) = true
  | [] => rfl
  | x :: l => by
    have h := RFs_frs l
    simp only [frs, List.map_cons, flat, List.flatMap_cons, PV.cells, List.cons_append, List.nil_append, RFs, RF, Bool.true_and] at h ⊢
    exact h

theorem okn87 (ex : Bool) (l : List Fr) (hl : l ≠ []) (h : l.length ≤ 4398046511104) : OkN Tryz.prog 87 [.sl ex (frs l)] (frs l) := by
  have hfit : fits 4 32 [] (frs l) = true := by
    have := fits_frs (k := []) (l := l) (by simpa using h)
    simpa using this
  have he : (frs l).isEmpty = false := by cases l <;> simp_all
  refine okn_fn mixed Tryz.func87 (code := ?_) (h := hN87) ?_ kN87 rfl (RFs_frs l) ?_
  rotate_left
  · exact rfl
  unfold hN87 initS
  simp -implicitDefEqProofs only [rkA, rkB, stepA, valA, simprocAttr, Tryz.ntmps87, Tryz.results87]
  refine nilA_sl _ _ rfl fun b hb => ?_
  have hb' := hb he
  subst hb'
  simp -implicitDefEqProofs only [hfit, he, rkA, rkB, stepA, valA, simprocAttr]
  refine .inl ⟨7, ?_⟩
  simp -implicitDefEqProofs only [rkA, rkB, stepA, valA, simprocAttr]

theorem tell_row {m : Mem} {b cap q : Nat} {l : List Fr} (hm : m b = some (flat (frs l) ++ List.replicate q .junk)) (hc : (frs l).length ≤ cap) : Tell m (.s (.slice (some ⟨b, 0, none⟩) (frs l).length cap)) (.sl false (frs l)) := by
  refine .row hm (frs_cells l) rfl (by simp) hc (fun h => by cases h) ?_
  rw [List.drop_zero, List.take_left]
  exact Tells.same _ _

theorem okm26 (r c : Int) (ex : Bool) (l : List Fr) (hr : right r c l.length = true) : OkM Tryz.prog 26 [num r, num c, .sl ex (frs l)] nomem (NewMat r c (frs l)) := by
  have hn := right_le hr
  have hpos := right_spec hr
  have hl : l ≠ [] := by
    intro h
    subst h
    have h1 : r * c = 0 := by have := hpos.2.2.2.2; simpa using this.symm
    rcases Int.mul_eq_zero.1 h1 with h | h <;> omega
  refine okm_fn mixed Tryz.func26 (code := ?_) (h := hN26) ?_ kN26 ?_
  rotate_left
  · exact rfl
  unfold hN26 initS
  simp -implicitDefEqProofs only [rkA, rkB, stepA, valA, simprocAttr, Tryz.ntmps26, Tryz.results26]
  refine newRow_fn rfl rfl (Tells.same _ _) (okn87 ex l hl (by omega)) (RFs_frs l) (by simpa using hl) ?_
  intro b cap q hb hcap
  simp -implicitDefEqProofs only [rkA, rkB, stepA, valA, simprocAttr]
  have e : (frs l).length = l.length := by simp
  have h17 := ok88 false r c (frs l)
  rw [e, hr] at h17
  refine lend_fn rfl rfl (.cons (.agg (.cons (.same _) (.cons (.same _) (.cons (tell_row (Mem.put_same _ _ _) hcap) .nil)))) .nil) (h17) rfl ?_
  simp -implicitDefEqProofs only [rkA, rkB, stepA, valA, simprocAttr]
  exact ⟨_, rfl, b, cap, q, hcap, rfl, rfl⟩
end Go.Proofs.YtbflmeomkfjikaaGreat.A.E


set_option linter.unusedVariables false
set_option linter.unusedSimpArgs false
set_option maxRecDepth 100000
namespace Go.Proofs.YtbflmeomkfjikaaGreat.A
open Go Go.RowKit Go.Shelf

/-- A square matrix, number by number. -/
theorem okm77 (n : Nat) (hn : 1 ≤ n ∧ n ≤ 16) (K : Nat) (caps : List PV) (g : Nat → Nat → Fr) (hg : ∀ i k : Nat, i < n → k < n → Ok Tryz.prog K (num i :: num k :: caps) (frV (g i k))) :
    OkM Tryz.prog 77 [num n, .fn (.func K) caps] nomem (NewMat n n (frs (gridP g n n 0))) := by
  have hlen := gridP_length g n
  have hbig : ∀ i k, i ≤ n → k ≤ n → i * n + k ≤ 272 := fun i k h1 h2 => by
    have : i * n ≤ 16 * 16 := Nat.mul_le_mul (by omega) (by omega)
    omega
  refine okm_fn mixed Tryz.func77 (code := ?_) (h := h77) ?_ k77 ?_
  rotate_left
  · exact rfl
  unfold h77 initS
  simp -implicitDefEqProofs only [rkA, rkB, stepA, valA, simprocAttr, Tryz.ntmps77, Tryz.results77]
  refine wp_loop (fun m s => ∃ i : Nat, i + m = n ∧ s = ⟨[.v (num n), .v (.fn (.func K) caps), jk, jk, .ptr 4 0, jk, .acc 6 (frs (gridP g n i 0)), jk, jk, .v (num n), nt i, jk, jk, jk, jk, jk, jk, jk, jk, jk, jk, jk, jk, jk, jk, jk, jk, jk, jk, jk, jk, jk], [(4, [nt 0, nt 0, .acc 3004 []])], [],
    [(6, (gridP g n i 0).length), (3004, 0)], [], 0, nomem⟩) n ?_ ?_
  · simp -implicitDefEqProofs only [rkA, rkB, stepA, valA, simprocAttr]
    exact ⟨0, by simp, rfl⟩
  rintro m s ⟨i, hi, rfl⟩
  simp -implicitDefEqProofs only [rkA, rkB, stepA, valA, simprocAttr]
  refine gB_dec ?_ ?_ <;> intro hc <;> simp -implicitDefEqProofs only [hc, rkA, rkB, stepA, valA, simprocAttr]
  · refine wp_loop (fun m s => ∃ k : Nat, k + m = n ∧ s = ⟨[.v (num n), .v (.fn (.func K) caps), jk, jk, .ptr 4 0, jk, .acc 6 (frs (gridP g n i k)), nt i, jk, .v (num n), nt i, jk, jk, .v (num n), nt k, jk, jk, jk, jk, jk, jk, jk, jk, jk, jk, jk, jk, jk, jk, jk, jk, jk], [(4, [nt 0, nt 0, .acc 3004 []])], [],
      [(6, (gridP g n i k).length), (3004, 0)], [], 0, nomem⟩) n ?_ ?_
    · simp -implicitDefEqProofs only [rkA, rkB, stepA, valA, simprocAttr]
      exact ⟨0, by simp, rfl⟩
    rintro m' s ⟨k, hk, rfl⟩
    simp -implicitDefEqProofs only [rkA, rkB, stepA, valA, simprocAttr]
    refine gB_dec ?_ ?_ <;> intro hc2 <;> simp -implicitDefEqProofs only [hc2, rkA, rkB, stepA, valA, simprocAttr]
    · refine call_fn rfl rfl rfl (hg i k (by omega) (by omega)) ?_
      have hl1 := hlen i k
      have hb := hbig i k (by omega) (by omega)
      have hfit : fits 3 24 (frs (gridP g n i k)) [frV (g i k)] = true := fits_frs (l := [g i k]) (by simp only [List.length_cons, List.length_nil]; omega)
      have hl : (frs (gridP g n i k)).length = (gridP g n i k).length := by simp
      have hw := wrapped (x := (k : Int) + 1) (by omega) (by omega)
      simp -implicitDefEqProofs only [hfit, hl, hw, rkA, rkB, stepA, valA, simprocAttr]
      refine loopK_of (m' := m' - 1) (by omega) ?_
      simp -implicitDefEqProofs only [rkA, rkB, stepA, valA, simprocAttr]
      refine ⟨k + 1, by omega, ?_⟩
      rw [gridP_succ]
      simp only [frs, List.map_append, List.map_cons, List.map_nil, List.length_append, List.length_cons, List.length_nil, Int.natCast_add, Int.natCast_one]
    · have hkr : k = n := by omega
      have hw := wrapped (x := (i : Int) + 1) (by omega) (by omega)
      simp -implicitDefEqProofs only [hw, rkA, rkB, stepA, valA, simprocAttr]
      refine loopK_of (m' := m - 1) (by omega) ?_
      simp -implicitDefEqProofs only [rkA, rkB, stepA, valA, simprocAttr]
      refine ⟨i + 1, by omega, ?_⟩
      rw [hkr, gridP_next]
      simp only [Int.natCast_add, Int.natCast_one]
  · have : i = n := by omega
    subst this
    have hr : right (i : Int) (i : Int) (gridP g i i 0).length = true := by
      rw [hlen, Nat.add_zero]
      simp only [right, Bool.and_eq_true, decide_eq_true_eq, beq_iff_eq]
      exact ⟨⟨by omega, by omega⟩, ⟨by omega, by omega⟩, Int.natCast_mul i i⟩
    refine lendNew_fn rfl rfl (Tells.same _ _) (okm71 i i false (gridP g i i 0) hr) ?_ ?_
    · rintro r m' ⟨b, cap, q, h1, rfl, rfl⟩
      refine ⟨rfl, fun c cells hc => ?_⟩
      by_cases e : c = b
      · subst e
        rw [Mem.put_same] at hc
        cases hc
        exact RFs_append (RFs_frs _) (RFs_junk q)
      · rw [Mem.put_other _ _ e] at hc
        cases hc
    · rintro r m' ⟨b, cap, q, h1, rfl, rfl⟩ hfr
      simp -implicitDefEqProofs only [rkA, rkB, stepA, valA, simprocAttr]
      exact ⟨_, rfl, b, cap, q, h1, rfl, rfl⟩
end Go.Proofs.YtbflmeomkfjikaaGreat.A


set_option linter.unusedVariables false
set_option linter.unusedSimpArgs false
set_option maxRecDepth 100000
namespace Go.Proofs.YtbflmeomkfjikaaGreat.A.E
open Go Go.RowKit Go.Shelf

/-- A square matrix, number by number. -/
theorem okm82 (n : Nat) (hn : 1 ≤ n ∧ n ≤ 16) (K : Nat) (caps : List PV) (g : Nat → Nat → Fr) (hg : ∀ i k : Nat, i < n → k < n → Ok Tryz.prog K (num i :: num k :: caps) (frV (g i k))) :
    OkM Tryz.prog 82 [num n, .fn (.func K) caps] nomem (NewMat n n (frs (gridP g n n 0))) := by
  have hlen := gridP_length g n
  have hbig : ∀ i k, i ≤ n → k ≤ n → i * n + k ≤ 272 := fun i k h1 h2 => by
    have : i * n ≤ 16 * 16 := Nat.mul_le_mul (by omega) (by omega)
    omega
  refine okm_fn mixed Tryz.func82 (code := ?_) (h := h82) ?_ k82 ?_
  rotate_left
  · exact rfl
  unfold h82 initS
  simp -implicitDefEqProofs only [rkA, rkB, stepA, valA, simprocAttr, Tryz.ntmps82, Tryz.results82]
  refine wp_loop (fun m s => ∃ i : Nat, i + m = n ∧ s = ⟨[.v (num n), .v (.fn (.func K) caps), jk, jk, .ptr 4 0, jk, .acc 6 (frs (gridP g n i 0)), jk, jk, .v (num n), nt i, jk, jk, jk, jk, jk, jk, jk, jk, jk, jk, jk, jk, jk, jk, jk, jk, jk, jk, jk, jk, jk], [(4, [nt 0, nt 0, .acc 3004 []])], [],
    [(6, (gridP g n i 0).length), (3004, 0)], [], 0, nomem⟩) n ?_ ?_
  · simp -implicitDefEqProofs only [rkA, rkB, stepA, valA, simprocAttr]
    exact ⟨0, by simp, rfl⟩
  rintro m s ⟨i, hi, rfl⟩
  simp -implicitDefEqProofs only [rkA, rkB, stepA, valA, simprocAttr]
  refine gB_dec ?_ ?_ <;> intro hc <;> simp -implicitDefEqProofs only [hc, rkA, rkB, stepA, valA, simprocAttr]
  · refine wp_loop (fun m s => ∃ k : Nat, k + m = n ∧ s = ⟨[.v (num n), .v (.fn (.func K) caps), jk, jk, .ptr 4 0, jk, .acc 6 (frs (gridP g n i k)), nt i, jk, .v (num n), nt i, jk, jk, .v (num n), nt k, jk, jk, jk, jk, jk, jk, jk, jk, jk, jk, jk, jk, jk, jk, jk, jk, jk], [(4, [nt 0, nt 0, .acc 3004 []])], [],
      [(6, (gridP g n i k).length), (3004, 0)], [], 0, nomem⟩) n ?_ ?_
    · simp -implicitDefEqProofs only [rkA, rkB, stepA, valA, simprocAttr]
      exact ⟨0, by simp, rfl⟩
    rintro m' s ⟨k, hk, rfl⟩
    simp -implicitDefEqProofs only [rkA, rkB, stepA, valA, simprocAttr]
    refine gB_dec ?_ ?_ <;> intro hc2 <;> simp -implicitDefEqProofs only [hc2, rkA, rkB, stepA, valA, simprocAttr]
    · refine call_fn rfl rfl rfl (hg i k (by omega) (by omega)) ?_
      have hl1 := hlen i k
      have hb := hbig i k (by omega) (by omega)
      have hfit : fits 4 32 (frs (gridP g n i k)) [frV (g i k)] = true := fits_frs (l := [g i k]) (by simp only [List.length_cons, List.length_nil]; omega)
      have hl : (frs (gridP g n i k)).length = (gridP g n i k).length := by simp
      have hw := wrapped (x := (k : Int) + 1) (by omega) (by omega)
      simp -implicitDefEqProofs only [hfit, hl, hw, rkA, rkB, stepA, valA, simprocAttr]
      refine loopK_of (m' := m' - 1) (by omega) ?_
      simp -implicitDefEqProofs only [rkA, rkB, stepA, valA, simprocAttr]
      refine ⟨k + 1, by omega, ?_⟩
      rw [gridP_succ]
      simp only [frs, List.map_append, List.map_cons, List.map_nil, List.length_append, List.length_cons, List.length_nil, Int.natCast_add, Int.natCast_one]
    · have hkr : k = n := by omega
      have hw := wrapped (x := (i : Int) + 1) (by omega) (by omega)
      simp -implicitDefEqProofs only [hw, rkA, rkB, stepA, valA, simprocAttr]
      refine loopK_of (m' := m - 1) (by omega) ?_
      simp -implicitDefEqProofs only [rkA, rkB, stepA, valA, simprocAttr]
      refine ⟨i + 1, by omega, ?_⟩
      rw [hkr, gridP_next]
      simp only [Int.natCast_add, Int.natCast_one]
  · have : i = n := by omega
    subst this
    have hr : right (i : Int) (i : Int) (gridP g i i 0).length = true := by
      rw [hlen, Nat.add_zero]
      simp only [right, Bool.and_eq_true, decide_eq_true_eq, beq_iff_eq]
      exact ⟨⟨by omega, by omega⟩, ⟨by omega, by omega⟩, Int.natCast_mul i i⟩
    refine lendNew_fn rfl rfl (Tells.same _ _) (okm26 i i false (gridP g i i 0) hr) ?_ ?_
    · rintro r m' ⟨b, cap, q, h1, rfl, rfl⟩
      refine ⟨rfl, fun c cells hc => ?_⟩
      by_cases e : c = b
      · subst e
        rw [Mem.put_same] at hc
        cases hc
        exact RFs_append (RFs_frs _) (RFs_junk q)
      · rw [Mem.put_other _ _ e] at hc
        cases hc
    · rintro r m' ⟨b, cap, q, h1, rfl, rfl⟩ hfr
      simp -implicitDefEqProofs only [rkA, rkB, stepA, valA, simprocAttr]
      exact ⟨_, rfl, b, cap, q, h1, rfl, rfl⟩
end Go.Proofs.YtbflmeomkfjikaaGreat.A.E


set_option linter.unusedVariables false
set_option linter.unusedSimpArgs false
set_option maxRecDepth 100000
namespace Go.Proofs.YtbflmeomkfjikaaGreat.A
open Go Go.RowKit Go.Shelf

/-! ### Squares in memory, row by row -/
def rowM (n : Nat) (M : Nat → Nat → Fr) (i : Nat) : List Fr := (List.range n).map (M i)
def setM (M : Nat → Nat → Fr) (i k : Nat) (x : Fr) : Nat → Nat → Fr := fun a b => if a = i ∧ b = k then x else M a b
theorem rowM_length (n : Nat) (M : Nat → Nat → Fr) (i : Nat) : (rowM n M i).length = n := by simp [rowM]
theorem rowM_get {n : Nat} {M : Nat → Nat → Fr} {i k : Nat} (h : k < n) : (rowM n M i)[k]? = some (M i k) := by simp [rowM, h]
theorem rowM_set {n : Nat} {M : Nat → Nat → Fr} {i k : Nat} {x : Fr} (h : k < n) : (rowM n M i).set k x = rowM n (setM M i k x) i := by
  apply List.ext_getElem?
  intro j
  rw [List.getElem?_set]
  by_cases hj : j < n
  · by_cases e : k = j
    · subst e
      rw [if_pos rfl, if_pos (by rw [rowM_length]; exact h), rowM_get h]
      simp [setM]
    · rw [if_neg e, rowM_get hj, rowM_get hj]
      have : ¬ (j = k) := fun h => e h.symm
      simp [setM, this]
  · rw [if_neg (by omega), List.getElem?_eq_none (by rw [rowM_length]; omega), List.getElem?_eq_none (by rw [rowM_length]; omega)]
theorem rowM_other {n : Nat} {M : Nat → Nat → Fr} {i j k : Nat} {x : Fr} (h : j ≠ i) : rowM n (setM M i k x) j = rowM n M j := by
  simp [rowM, setM, h]

abbrev rawRow (c n : Nat) : PV := .s (.slice (some ⟨c, 0, none⟩) n n)
abbrev nilRow : PV := .s (.slice none 0 0)
/-- The rows' row: b of n are there. -/
def headR (n b : Nat) (c : Nat → Nat) : List PV := (List.range n).map fun j => if j < b then rawRow (c j) n else nilRow
theorem headR_length (n b : Nat) (c : Nat → Nat) : (headR n b c).length = n := by simp [headR]
structure RowsIn (m : Mem) (R : Nat) (c : Nat → Nat) (n b : Nat) (M : Nat → Nat → Fr) : Prop where
  head : m R = some (headR n b c)
  row : ∀ i, i < b → m (c i) = some (flat (frs (rowM n M i)))
  ne : ∀ i, i < b → c i ≠ R
  inj : ∀ i j, i < b → j < b → c i = c j → i = j

theorem RowsIn.store {m : Mem} {R : Nat} {c : Nat → Nat} {n b : Nat} {M : Nat → Nat → Fr} (h : RowsIn m R c n b M) {i k : Nat} (hi : i < b) (hk : k < n) (x : Fr) :
    RowsIn (m.put (c i) (flat (frs ((rowM n M i).set k x)))) R c n b (setM M i k x) where
  head := by rw [Mem.put_other _ _ (fun e => h.ne i hi e.symm)]; exact h.head
  row := fun j hj => by
    by_cases e : j = i
    · subst e
      rw [Mem.put_same, rowM_set hk]
    · rw [Mem.put_other _ _ (fun e' => e (h.inj j i hj hi e')), rowM_other e]
      exact h.row j hj
  ne := h.ne
  inj := h.inj

theorem tells_map {α : Type} {m : Mem} {f g : α → PV} : ∀ {l : List α}, (∀ x ∈ l, Tell m (f x) (g x)) → Tells m (l.map f) (l.map g)
  | [], _ => .nil
  | x :: l, h => .cons (h x (by simp)) (tells_map fun y hy => h y (by simp [hy]))

/-- The rows, as values. -/
abbrev rowsV (n : Nat) (M : Nat → Nat → Fr) : PV := .sl true ((List.range n).map fun i => .sl false (frs (rowM n M i)))
theorem flat_one {l : List PV} (h : ∀ x ∈ l, x.cells = [x]) : flat l = l := by
  induction l with
  | nil => rfl
  | cons x l ih =>
    have e1 := h x (by simp)
    have e2 := ih fun y hy => h y (by simp [hy])
    simp only [flat, List.flatMap_cons, e1] at e2 ⊢
    rw [e2]
    rfl
theorem RowsIn.tell {m : Mem} {R : Nat} {c : Nat → Nat} {n : Nat} {M : Nat → Nat → Fr} (h : RowsIn m R c n n M) : Tell m (rawRow R n) (rowsV n M) := by
  have hf : flat ((List.range n).map fun i => PV.sl false (frs (rowM n M i))) = (List.range n).map fun i => PV.sl false (frs (rowM n M i)) := flat_one fun x hx => by
    obtain ⟨i, _, rfl⟩ := List.mem_map.1 hx
    rfl
  refine .row (sz := 1) h.head (fun x hx => ?_) (by simp) (by rw [hf, headR_length]; simp) (Nat.le_refl _) (fun _ => rfl) ?_
  · obtain ⟨i, _, rfl⟩ := List.mem_map.1 hx
    rfl
  · rw [hf, List.drop_zero, List.take_of_length_le (by rw [headR_length]; simp)]
    refine tells_map fun i hi => ?_
    have hi' := List.mem_range.1 hi
    rw [if_pos hi']
    have e := h.row i hi'
    rw [← List.append_nil (flat _)] at e
    have := tell_row (m := m) (b := c i) (cap := n) (q := 0) (l := rowM n M i) e (by simp [rowM_length])
    simpa [rowM_length] using this

/-! ### The root of a square -/
def leftM (n : Nat) (p : List Fr) (M : Nat → Nat → Fr) (i k : Nat) : Fr := subF (atF n n p i k) (dotF ((rowM n M i).take k) ((rowM n M k).take k))

theorem methRoot : Meth Tryz.prog 32 "Root" 216 := by
  intro v xs w
  rfl

def stepD (n : Nat) (p : List Fr) (M : Nat → Nat → Fr) (k : Nat) : Nat → Nat → Fr := setM M k k (rootF (leftM n p M k k))
/-- One column: k + 1 rows below its diagonal are done for every one counted. -/
def colS (n : Nat) (p : List Fr) (k : Nat) (M : Nat → Nat → Fr) : Nat → Nat → Nat → Fr
  | 0 => stepD n p M k
  | j + 1 => setM (colS n p k M j) (k + 1 + j) k (divF (leftM n p (colS n p k M j) (k + 1 + j) k) (colS n p k M j k k))
def rootS (n : Nat) (p : List Fr) : Nat → Nat → Nat → Fr
  | 0 => fun _ _ => newF 0 1
  | k + 1 => colS n p k (rootS n p k) (n - (k + 1))
/-- While the rows are made: noughts so far, zero values behind. -/
def zeroM (i k : Nat) : Nat → Nat → Fr := fun a b => if a < i ∨ a = i ∧ b < k then newF 0 1 else ⟨0, 0, false⟩

theorem flat_zeros : ∀ (n : Nat), (List.replicate n [num 0, num 0, tru false]).flatten = flat (frs (List.replicate n (⟨0, 0, false⟩ : Fr)))
  | 0 => rfl
  | n + 1 => by
    rw [List.replicate_succ, List.flatten_cons, flat_zeros n]
    rfl
theorem zero_row (n i : Nat) : rowM n (zeroM i 0) i = List.replicate n ⟨0, 0, false⟩ := by
  apply List.ext_getElem?
  intro j
  by_cases h : j < n
  · rw [rowM_get h]; simp [zeroM, h]
  · rw [List.getElem?_eq_none (by rw [rowM_length]; omega), List.getElem?_eq_none (by simp; omega)]
theorem RowsIn.grow {m : Mem} {R : Nat} {c : Nat → Nat} {n i b : Nat} (h : RowsIn m R c n i (zeroM i 0)) (hi : i < n) (hb : m b = none) :
    RowsIn ((m.put b (flat (frs (List.replicate n (⟨0, 0, false⟩ : Fr))))).put R (headR n (i + 1) (fun j => if j = i then b else c j))) R (fun j => if j = i then b else c j) n (i + 1) (zeroM i 0) := by
  have hRb : R ≠ b := fun e => by have := h.head; rw [e, hb] at this; cases this
  have hcb : ∀ j, j < i → c j ≠ b := fun j hj e => by have := h.row j hj; rw [e, hb] at this; cases this
  refine ⟨Mem.put_same _ _ _, fun j hj => ?_, fun j hj => ?_, fun j k hj hk => ?_⟩
  · by_cases e : j = i
    · subst e
      rw [if_pos rfl, Mem.put_other _ _ (fun e => hRb e.symm), Mem.put_same, zero_row]
    · rw [if_neg e, Mem.put_other _ _ (h.ne j (by omega)), Mem.put_other _ _ (hcb j (by omega))]
      exact h.row j (by omega)
  · by_cases e : j = i
    · rw [if_pos e]; exact fun e => hRb e.symm
    · rw [if_neg e]; exact h.ne j (by omega)
  · by_cases e : j = i <;> by_cases e' : k = i
    · intro _; omega
    · rw [if_pos e, if_neg e']
      exact fun h1 => absurd h1.symm (hcb k (by omega))
    · rw [if_neg e, if_pos e']
      exact fun h1 => absurd h1 (hcb j (by omega))
    · rw [if_neg e, if_neg e']
      exact h.inj j k (by omega) (by omega)
theorem RowsIn.congr {m : Mem} {R : Nat} {c : Nat → Nat} {n b : Nat} {M N : Nat → Nat → Fr} (h : RowsIn m R c n b M) (hMN : ∀ i k, i < b → k < n → M i k = N i k) : RowsIn m R c n b N :=
  ⟨h.head, fun i hi => by
    have e : rowM n N i = rowM n M i := by
      unfold rowM
      exact List.map_congr_left fun k hk => (hMN i k hi (List.mem_range.1 hk)).symm
    rw [e]
    exact h.row i hi, h.ne, h.inj⟩

end Go.Proofs.YtbflmeomkfjikaaGreat.A


set_option linter.unusedVariables false
set_option linter.unusedSimpArgs false
set_option maxRecDepth 100000
namespace Go.Proofs.YtbflmeomkfjikaaGreat.A.E
open Go Go.RowKit Go.Shelf

def rowM (n : Nat) (M : Nat → Nat → Fr) (i : Nat) : List Fr := (List.range n).map (M i)
def setM (M : Nat → Nat → Fr) (i k : Nat) (x : Fr) : Nat → Nat → Fr := fun a b => if a = i ∧ b = k then x else M a b
theorem rowM_length (n : Nat) (M : Nat → Nat → Fr) (i : Nat) : (rowM n M i).length = n := by simp [rowM]
theorem rowM_get {n : Nat} {M : Nat → Nat → Fr} {i k : Nat} (h : k < n) : (rowM n M i)[k]? = some (M i k) := by simp [rowM, h]
theorem rowM_set {n : Nat} {M : Nat → Nat → Fr} {i k : Nat} {x : Fr} (h : k < n) : (rowM n M i).set k x = rowM n (setM M i k x) i := by
  apply List.ext_getElem?
  intro j
  rw [List.getElem?_set]
  by_cases hj : j < n
  · by_cases e : k = j
    · subst e
      rw [if_pos rfl, if_pos (by rw [rowM_length]; exact h), rowM_get h]
      simp [setM]
    · rw [if_neg e, rowM_get hj, rowM_get hj]
      have : ¬ (j = k) := fun h => e h.symm
      simp [setM, this]
  · rw [if_neg (by omega), List.getElem?_eq_none (by rw [rowM_length]; omega), List.getElem?_eq_none (by rw [rowM_length]; omega)]
theorem rowM_other {n : Nat} {M : Nat → Nat → Fr} {i j k : Nat} {x : Fr} (h : j ≠ i) : rowM n (setM M i k x) j = rowM n M j := by
  simp [rowM, setM, h]

structure RowsIn (m : Mem) (R : Nat) (c : Nat → Nat) (n b : Nat) (M : Nat → Nat → Fr) : Prop where
  head : m R = some (headR n b c)
  row : ∀ i, i < b → m (c i) = some (flat (frs (rowM n M i)))
  ne : ∀ i, i < b → c i ≠ R
  inj : ∀ i j, i < b → j < b → c i = c j → i = j

theorem RowsIn.store {m : Mem} {R : Nat} {c : Nat → Nat} {n b : Nat} {M : Nat → Nat → Fr} (h : RowsIn m R c n b M) {i k : Nat} (hi : i < b) (hk : k < n) (x : Fr) :
    RowsIn (m.put (c i) (flat (frs ((rowM n M i).set k x)))) R c n b (setM M i k x) where
  head := by rw [Mem.put_other _ _ (fun e => h.ne i hi e.symm)]; exact h.head
  row := fun j hj => by
    by_cases e : j = i
    · subst e
      rw [Mem.put_same, rowM_set hk]
    · rw [Mem.put_other _ _ (fun e' => e (h.inj j i hj hi e')), rowM_other e]
      exact h.row j hj
  ne := h.ne
  inj := h.inj

/-- The rows, as values. -/
abbrev rowsV (n : Nat) (M : Nat → Nat → Fr) : PV := .sl true ((List.range n).map fun i => .sl false (frs (rowM n M i)))
theorem RowsIn.tell {m : Mem} {R : Nat} {c : Nat → Nat} {n : Nat} {M : Nat → Nat → Fr} (h : RowsIn m R c n n M) : Tell m (rawRow R n) (rowsV n M) := by
  have hf : flat ((List.range n).map fun i => PV.sl false (frs (rowM n M i))) = (List.range n).map fun i => PV.sl false (frs (rowM n M i)) := flat_one fun x hx => by
    obtain ⟨i, _, rfl⟩ := List.mem_map.1 hx
    rfl
  refine .row (sz := 1) h.head (fun x hx => ?_) (by simp) (by rw [hf, headR_length]; simp) (Nat.le_refl _) (fun _ => rfl) ?_
  · obtain ⟨i, _, rfl⟩ := List.mem_map.1 hx
    rfl
  · rw [hf, List.drop_zero, List.take_of_length_le (by rw [headR_length]; simp)]
    refine tells_map fun i hi => ?_
    have hi' := List.mem_range.1 hi
    rw [if_pos hi']
    have e := h.row i hi'
    rw [← List.append_nil (flat _)] at e
    have := tell_row (m := m) (b := c i) (cap := n) (q := 0) (l := rowM n M i) e (by simp [rowM_length])
    simpa [rowM_length] using this

def leftM (n : Nat) (p : List Fr) (M : Nat → Nat → Fr) (i k : Nat) : Fr := subF (atF n n p i k) (dotF ((rowM n M i).take k) ((rowM n M k).take k))

def stepD (n : Nat) (p : List Fr) (M : Nat → Nat → Fr) (k : Nat) : Nat → Nat → Fr := setM M k k (rootF (leftM n p M k k))
/-- One column: k + 1 rows below its diagonal are done for every one counted. -/
def colS (n : Nat) (p : List Fr) (k : Nat) (M : Nat → Nat → Fr) : Nat → Nat → Nat → Fr
  | 0 => stepD n p M k
  | j + 1 => setM (colS n p k M j) (k + 1 + j) k (divF (leftM n p (colS n p k M j) (k + 1 + j) k) (colS n p k M j k k))
def rootS (n : Nat) (p : List Fr) : Nat → Nat → Nat → Fr
  | 0 => fun _ _ => newF 0 1
  | k + 1 => colS n p k (rootS n p k) (n - (k + 1))
/-- While the rows are made: noughts so far, zero values behind. -/
def zeroM (i k : Nat) : Nat → Nat → Fr := fun a b => if a < i ∨ a = i ∧ b < k then newF 0 1 else ⟨0, 0, 0, false⟩

theorem flat_zeros : ∀ (n : Nat), (List.replicate n [num 0, num 0, num 0, tru false]).flatten = flat (frs (List.replicate n (⟨0, 0, 0, false⟩ : Fr)))
  | 0 => rfl
  | n + 1 => by
    rw [List.replicate_succ, List.flatten_cons, flat_zeros n]
    rfl
theorem zero_row (n i : Nat) : rowM n (zeroM i 0) i = List.replicate n ⟨0, 0, 0, false⟩ := by
  apply List.ext_getElem?
  intro j
  by_cases h : j < n
  · rw [rowM_get h]; simp [zeroM, h]
  · rw [List.getElem?_eq_none (by rw [rowM_length]; omega), List.getElem?_eq_none (by simp; omega)]
theorem RowsIn.grow {m : Mem} {R : Nat} {c : Nat → Nat} {n i b : Nat} (h : RowsIn m R c n i (zeroM i 0)) (hi : i < n) (hb : m b = none) :
    RowsIn ((m.put b (flat (frs (List.replicate n (⟨0, 0, 0, false⟩ : Fr))))).put R (headR n (i + 1) (fun j => if j = i then b else c j))) R (fun j => if j = i then b else c j) n (i + 1) (zeroM i 0) := by
  have hRb : R ≠ b := fun e => by have := h.head; rw [e, hb] at this; cases this
  have hcb : ∀ j, j < i → c j ≠ b := fun j hj e => by have := h.row j hj; rw [e, hb] at this; cases this
  refine ⟨Mem.put_same _ _ _, fun j hj => ?_, fun j hj => ?_, fun j k hj hk => ?_⟩
  · by_cases e : j = i
    · subst e
      rw [if_pos rfl, Mem.put_other _ _ (fun e => hRb e.symm), Mem.put_same, zero_row]
    · rw [if_neg e, Mem.put_other _ _ (h.ne j (by omega)), Mem.put_other _ _ (hcb j (by omega))]
      exact h.row j (by omega)
  · by_cases e : j = i
    · rw [if_pos e]; exact fun e => hRb e.symm
    · rw [if_neg e]; exact h.ne j (by omega)
  · by_cases e : j = i <;> by_cases e' : k = i
    · intro _; omega
    · rw [if_pos e, if_neg e']
      exact fun h1 => absurd h1.symm (hcb k (by omega))
    · rw [if_neg e, if_pos e']
      exact fun h1 => absurd h1 (hcb j (by omega))
    · rw [if_neg e, if_neg e']
      exact h.inj j k (by omega) (by omega)
theorem RowsIn.congr {m : Mem} {R : Nat} {c : Nat → Nat} {n b : Nat} {M N : Nat → Nat → Fr} (h : RowsIn m R c n b M) (hMN : ∀ i k, i < b → k < n → M i k = N i k) : RowsIn m R c n b N :=
  ⟨h.head, fun i hi => by
    have e : rowM n N i = rowM n M i := by
      unfold rowM
      exact List.map_congr_left fun k hk => (hMN i k hi (List.mem_range.1 hk)).symm
    rw [e]
    exact h.row i hi, h.ne, h.inj⟩

end Go.Proofs.YtbflmeomkfjikaaGreat.A.E


set_option linter.unusedVariables false
set_option linter.unusedSimpArgs false
set_option maxRecDepth 100000
namespace Go.Proofs.YtbflmeomkfjikaaGreat.A.E
open Go Go.RowKit Go.Shelf

theorem ok82 (n : Nat) (hn : 1 ≤ n ∧ n ≤ 16) (K : Nat) (caps : List PV) (g : Nat → Nat → Fr) (hg : ∀ i k : Nat, i < n → k < n → Ok Tryz.prog K (num i :: num k :: caps) (frV (g i k))) :
    Ok Tryz.prog 82 [num n, .fn (.func K) caps] (.tup [matV false n n (frs (gridP g n n 0)), tru true]) := by
  refine Ok.ofM (okm82 n hn K caps g hg) ?_
  rintro r m ⟨b, cap, q, h1, rfl, rfl⟩
  have hl : (frs (gridP g n n 0)).length = (gridP g n n 0).length := by simp
  exact .tup (.cons (.agg (.cons (.same _) (.cons (.same _) (.cons (tell_row (Mem.put_same _ _ _) h1) .nil)))) (.cons (.same _) .nil))

def clearG (n : Nat) (l : List Fr) (i k : Nat) : Fr := if i < k then newF 0 1 else atF n n l i k
def clearF (n : Nat) (l : List Fr) : List Fr := gridP (clearG n l) n n 0
theorem ok145 (e : Bool) (n : Nat) (l : List Fr) (i k : Nat) : Ok Tryz.prog 145 [num i, num k, .vp [num 0, num 0, num 0, tru false], .vp [num n, num n, .sl e (frs l)]] (frV (clearG n l i k)) := by
  refine ok_fn mixed Tryz.func145 (code := ?_) (h := h145) ?_ k145 ?_
  rotate_left
  · exact rfl
  unfold h145 initS
  simp -implicitDefEqProofs only [rkA, rkB, stepA, valA, simprocAttr, Tryz.ntmps145, Tryz.results145]
  unfold clearG
  refine gB_dec ?_ ?_ <;> intro hc <;> simp -implicitDefEqProofs only [hc, rkA, rkB, stepA, valA, simprocAttr]
  · have : i < k := by omega
    refine call_meth rfl rfl methOf (ok56 ⟨0, 0, 0, false⟩ 0) ?_
    rw [if_pos this]
    simp -implicitDefEqProofs only [rkA, rkB, stepA, valA, simprocAttr]
  · have : ¬ i < k := by omega
    refine call_fn rfl rfl rfl (ok35 e n n i k l) ?_
    rw [if_neg this]
    simp -implicitDefEqProofs only [rkA, rkB, stepA, valA, simprocAttr]

theorem ok92 (n : Nat) (hn : 1 ≤ n ∧ n ≤ 16) (e : Bool) (l : List Fr) (h : l.length = n * n) : Ok Tryz.prog 92 [matV e n n (frs l)] (.tup [matV false n n (frs (clearF n l)), tru true]) := by
  have hr := right_sq hn h
  refine ok_fn mixed Tryz.func92 (code := ?_) (h := h92) ?_ k92 ?_
  rotate_left
  · exact rfl
  unfold h92 initS
  simp -implicitDefEqProofs only [rkA, rkB, stepA, valA, simprocAttr, Tryz.ntmps92, Tryz.results92]
  refine call_fn rfl rfl rfl (ok79 e n n l) ?_
  simp -implicitDefEqProofs only [hr, beq_self_eq_true, rkA, rkB, stepA, valA, simprocAttr]
  refine call_fn rfl rfl rfl (ok82 n hn _ _ (clearG n l) (fun i k _ _ => ok145 e n l i k)) ?_
  simp -implicitDefEqProofs only [rkA, rkB, stepA, valA, simprocAttr, clearF]

theorem rowF_get {r c : Int} {l : List Fr} (hr : right r c l.length = true) {i k : Nat} (hi : i < r.toNat) (hk : k < c.toNat) : (frs (rowF r c l i))[k]? = some (frV (atF r c l i k)) := by
  have h0 := rowF_eq ⟨0, 0, 0, false⟩ hr (i := i) hi
  have h1 := atF_eq hr (i := i) (k := k) hi hk
  rw [h0, List.getElem?_map, List.getElem?_map, List.getElem?_range hk, h1]
  rfl
end Go.Proofs.YtbflmeomkfjikaaGreat.A.E


set_option linter.unusedVariables false
set_option linter.unusedSimpArgs false
set_option maxRecDepth 100000
namespace Go.Proofs.YtbflmeomkfjikaaGreat.A
open Go Go.RowKit Go.Shelf

theorem ok77 (n : Nat) (hn : 1 ≤ n ∧ n ≤ 16) (K : Nat) (caps : List PV) (g : Nat → Nat → Fr) (hg : ∀ i k : Nat, i < n → k < n → Ok Tryz.prog K (num i :: num k :: caps) (frV (g i k))) :
    Ok Tryz.prog 77 [num n, .fn (.func K) caps] (.tup [matV false n n (frs (gridP g n n 0)), tru true]) := by
  refine Ok.ofM (okm77 n hn K caps g hg) ?_
  rintro r m ⟨b, cap, q, h1, rfl, rfl⟩
  have hl : (frs (gridP g n n 0)).length = (gridP g n n 0).length := by simp
  exact .tup (.cons (.agg (.cons (.same _) (.cons (.same _) (.cons (tell_row (Mem.put_same _ _ _) h1) .nil)))) (.cons (.same _) .nil))

/-! ### Cleared -/
def clearG (n : Nat) (l : List Fr) (i k : Nat) : Fr := if i < k then newF 0 1 else atF n n l i k
def clearF (n : Nat) (l : List Fr) : List Fr := gridP (clearG n l) n n 0
theorem ok99 (e : Bool) (n : Nat) (l : List Fr) (i k : Nat) : Ok Tryz.prog 99 [num i, num k, .vp [num 0, num 0, tru false], .vp [num n, num n, .sl e (frs l)]] (frV (clearG n l i k)) := by
  refine ok_fn mixed Tryz.func99 (code := ?_) (h := h99) ?_ k99 ?_
  rotate_left
  · exact rfl
  unfold h99 initS
  simp -implicitDefEqProofs only [rkA, rkB, stepA, valA, simprocAttr, Tryz.ntmps99, Tryz.results99]
  unfold clearG
  refine gB_dec ?_ ?_ <;> intro hc <;> simp -implicitDefEqProofs only [hc, rkA, rkB, stepA, valA, simprocAttr]
  · have : i < k := by omega
    refine call_meth rfl rfl methOf (ok215 ⟨0, 0, false⟩ 0) ?_
    rw [if_pos this]
    simp -implicitDefEqProofs only [rkA, rkB, stepA, valA, simprocAttr]
  · have : ¬ i < k := by omega
    refine call_fn rfl rfl rfl (ok75 e n n i k l) ?_
    rw [if_neg this]
    simp -implicitDefEqProofs only [rkA, rkB, stepA, valA, simprocAttr]

theorem ok40 (n : Nat) (hn : 1 ≤ n ∧ n ≤ 16) (e : Bool) (l : List Fr) (h : l.length = n * n) : Ok Tryz.prog 40 [matV e n n (frs l)] (.tup [matV false n n (frs (clearF n l)), tru true]) := by
  have hr := right_sq hn h
  refine ok_fn mixed Tryz.func40 (code := ?_) (h := h40) ?_ k40 ?_
  rotate_left
  · exact rfl
  unfold h40 initS
  simp -implicitDefEqProofs only [rkA, rkB, stepA, valA, simprocAttr, Tryz.ntmps40, Tryz.results40]
  refine call_fn rfl rfl rfl (ok73 e n n l) ?_
  simp -implicitDefEqProofs only [hr, beq_self_eq_true, rkA, rkB, stepA, valA, simprocAttr]
  refine call_fn rfl rfl rfl (ok77 n hn _ _ (clearG n l) (fun i k _ _ => ok99 e n l i k)) ?_
  simp -implicitDefEqProofs only [rkA, rkB, stepA, valA, simprocAttr, clearF]

/-! ### The diagonal -/
theorem rowF_get {r c : Int} {l : List Fr} (hr : right r c l.length = true) {i k : Nat} (hi : i < r.toNat) (hk : k < c.toNat) : (frs (rowF r c l i))[k]? = some (frV (atF r c l i k)) := by
  have h0 := rowF_eq ⟨0, 0, false⟩ hr (i := i) hi
  have h1 := atF_eq hr (i := i) (k := k) hi hk
  rw [h0, List.getElem?_map, List.getElem?_map, List.getElem?_range hk, h1]
  rfl
/-! ### Is it a triangle? -/
end Go.Proofs.YtbflmeomkfjikaaGreat.A


set_option linter.unusedVariables false
set_option linter.unusedSimpArgs false
set_option maxRecDepth 100000
namespace Go.Proofs.YtbflmeomkfjikaaGreat.A
open Go Go.RowKit Go.Shelf

/-! ### The document's answers, of whole numbers -/
/-! ### What the document fixes of a root -/
end Go.Proofs.YtbflmeomkfjikaaGreat.A


set_option linter.unusedVariables false
set_option linter.unusedSimpArgs false
set_option maxRecDepth 100000
namespace Go.Proofs.YtbflmeomkfjikaaGreat.A
open Go Go.RowKit Go.Shelf

/-! ### Plain laws of clearing -/
/-! ### The function TriClears -/
end Go.Proofs.YtbflmeomkfjikaaGreat.A


set_option linter.unusedVariables false
set_option linter.unusedSimpArgs false
set_option maxRecDepth 100000
namespace Go.Proofs.YtbflmeomkfjikaaGreat.A
open Go Go.RowKit Go.Shelf

/-! ### Plain laws of squares -/
end Go.Proofs.YtbflmeomkfjikaaGreat.A


set_option linter.unusedVariables false
set_option linter.unusedSimpArgs false
set_option maxRecDepth 100000
namespace Go.Proofs.YtbflmeomkfjikaaGreat.A
open Go Go.RowKit Go.Shelf

/-! ### What a root is, entry by entry -/
theorem take_rowM (n : Nat) (M : Nat → Nat → Fr) (i k : Nat) (hk : k ≤ n) : (rowM n M i).take k = (List.range k).map (M i) := by
  rw [rowM, ← List.map_take, List.take_range, Nat.min_eq_left hk]
theorem leftM_congr {n : Nat} {p : List Fr} {M N : Nat → Nat → Fr} {i k : Nat} (hk : k ≤ n) (h : ∀ j, j < k → M i j = N i j ∧ M k j = N k j) : leftM n p M i k = leftM n p N i k := by
  unfold leftM
  rw [take_rowM n M i k hk, take_rowM n M k k hk, take_rowM n N i k hk, take_rowM n N k k hk]
  congr 2
  · exact List.map_congr_left fun j hj => (h j (List.mem_range.1 hj)).1
  · exact List.map_congr_left fun j hj => (h j (List.mem_range.1 hj)).2
theorem colS_other (n : Nat) (p : List Fr) (k : Nat) (M : Nat → Nat → Fr) : ∀ (j a b : Nat), b ≠ k ∨ a < k → colS n p k M j a b = M a b
  | 0, a, b, h => by
    simp only [colS, stepD, setM]
    rw [if_neg (by omega)]
  | j + 1, a, b, h => by
    simp only [colS, setM]
    rw [if_neg (by omega)]
    exact colS_other n p k M j a b h
theorem colS_diag (n : Nat) (p : List Fr) (k : Nat) (M : Nat → Nat → Fr) : ∀ j, colS n p k M j k k = rootF (leftM n p M k k)
  | 0 => by
    simp only [colS, stepD, setM]
    rw [if_pos (by simp)]
  | j + 1 => by
    simp only [colS, setM]
    rw [if_neg (by rintro ⟨h, _⟩; omega)]
    exact colS_diag n p k M j
theorem colS_low (n : Nat) (p : List Fr) (k : Nat) (M : Nat → Nat → Fr) (hk : k ≤ n) : ∀ (j t : Nat), t < j → colS n p k M j (k + 1 + t) k = divF (leftM n p M (k + 1 + t) k) (rootF (leftM n p M k k))
  | 0, t, h => by omega
  | j + 1, t, h => by
    simp only [colS, setM]
    by_cases e : t = j
    · subst e
      rw [if_pos (by simp), colS_diag]
      congr 1
      exact leftM_congr hk fun q hq => ⟨colS_other n p k M t _ _ (.inl (by omega)), colS_other n p k M t _ _ (.inl (by omega))⟩
    · rw [if_neg (by omega)]
      exact colS_low n p k M hk j t (by omega)
theorem rootS_out (n : Nat) (p : List Fr) : ∀ (k a b : Nat), k ≤ b → rootS n p k a b = newF 0 1
  | 0, a, b, h => rfl
  | k + 1, a, b, h => by
    rw [rootS, colS_other n p k _ _ _ _ (.inl (by omega))]
    exact rootS_out n p k a b (by omega)
theorem rootS_keep (n : Nat) (p : List Fr) : ∀ (k a b : Nat), b < k → rootS n p k a b = rootS n p (b + 1) a b
  | 0, a, b, h => by omega
  | k + 1, a, b, h => by
    by_cases e : b = k
    · rw [e]
    · rw [rootS, colS_other n p k _ _ _ _ (.inl (by omega))]
      exact rootS_keep n p k a b (by omega)
theorem rootS_left {n : Nat} {p : List Fr} {i k : Nat} (hk : k ≤ n) : leftM n p (rootS n p k) i k = leftM n p (rootS n p n) i k :=
  leftM_congr hk fun j hj => ⟨(rootS_keep n p k i j hj).trans (rootS_keep n p n i j (by omega)).symm, (rootS_keep n p k k j hj).trans (rootS_keep n p n k j (by omega)).symm⟩
theorem root_up {n : Nat} {p : List Fr} {i k : Nat} (h : i < k) (hk : k < n) : rootS n p n i k = newF 0 1 := by
  rw [rootS_keep n p n i k hk, rootS, colS_other n p k _ _ _ _ (.inr h)]
  exact rootS_out n p k i k (Nat.le_refl _)
theorem root_diag {n : Nat} {p : List Fr} {k : Nat} (hk : k < n) : rootS n p n k k = rootF (leftM n p (rootS n p n) k k) := by
  rw [rootS_keep n p n k k hk, rootS, colS_diag, rootS_left (by omega)]
theorem root_low {n : Nat} {p : List Fr} {i k : Nat} (h : k < i) (hi : i < n) : rootS n p n i k = divF (leftM n p (rootS n p n) i k) (rootS n p n k k) := by
  rw [rootS_keep n p n i k (by omega), rootS]
  have := colS_low n p k (rootS n p k) (by omega) (n - (k + 1)) (i - (k + 1)) (by omega)
  rw [show k + 1 + (i - (k + 1)) = i by omega] at this
  rw [this, rootS_left (by omega), rootS_left (by omega), ← root_diag (by omega)]

end Go.Proofs.YtbflmeomkfjikaaGreat.A


