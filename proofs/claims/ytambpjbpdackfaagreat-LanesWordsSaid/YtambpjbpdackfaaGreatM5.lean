import Derived.Test.YtambpjbpdackfaaGreatM3
import Derived.Test.YtambpjbpdackfaaGreatM4
set_option linter.unusedVariables false
set_option linter.unusedSimpArgs false
set_option maxRecDepth 100000
namespace Go.Proofs.YtambpjbpdackfaaGreat.A.E
open Go Go.RowKit Go.Shelf

/-! ### Frames -/
abbrev frmV (e : Bool) (k q n : Int) (l : List Int) : PV := .agg [num k, num q, num n, .sl e (l.map num)]
def manyZ (k n : Int) : Int := if n < 1 ∨ n > 4 then 0 else if k = 1 then n + n * n else if k = 2 then 2 * n * n else if k = 3 then n + 2 else 0
theorem side4 {n : Int} (h : ¬ (n < 1 ∨ n > 4)) : n = 1 ∨ n = 2 ∨ n = 3 ∨ n = 4 := by omega
theorem ok188 (k n : Int) : Ok Tryz.prog 188 [num k, num n] (num (manyZ k n)) := by
  refine ok_fn mixed Tryz.func188 (code := ?_) (h := h188) ?_ k188 ?_
  rotate_left
  · exact rfl
  unfold h188 initS
  simp -implicitDefEqProofs (maxSteps := 10000000) only [rkA, rkB, stepA, valA, simprocAttr, Tryz.ntmps188, Tryz.results188]
  by_cases h1 : n < 1
  · have e : manyZ k n = 0 := by unfold manyZ; rw [if_pos (.inl h1)]
    simp -implicitDefEqProofs (maxSteps := 10000000) only [h1, e, rkA, rkB, stepA, valA, simprocAttr]
  by_cases h2 : n > 4
  · have e : manyZ k n = 0 := by unfold manyZ; rw [if_pos (.inr h2)]
    simp -implicitDefEqProofs (maxSteps := 10000000) only [h1, h2, e, rkA, rkB, stepA, valA, simprocAttr]
  have h3 : ¬ (n < 1 ∨ n > 4) := by omega
  simp -implicitDefEqProofs (maxSteps := 10000000) only [h1, h2, rkA, rkB, stepA, valA, simprocAttr]
  rcases side4 h3 with rfl | rfl | rfl | rfl
  all_goals
    by_cases k1 : k = 1
    · subst k1
      simp -implicitDefEqProofs (maxSteps := 10000000) only [beq_self_eq_true, manyZ, rkA, rkB, stepA, valA, simprocAttr]
      rfl
    have k1' : (k == 1) = false := by simpa using k1
    by_cases k2 : k = 2
    · subst k2
      simp -implicitDefEqProofs (maxSteps := 10000000) only [k1', beq_self_eq_true, manyZ, rkA, rkB, stepA, valA, simprocAttr]
      rfl
    have k2' : (k == 2) = false := by simpa using k2
    by_cases k3 : k = 3
    · subst k3
      simp -implicitDefEqProofs (maxSteps := 10000000) only [k1', k2', beq_self_eq_true, manyZ, rkA, rkB, stepA, valA, simprocAttr]
      rfl
    have k3' : (k == 3) = false := by simpa using k3
    simp -implicitDefEqProofs (maxSteps := 10000000) only [k1', k2', k3', manyZ, k1, k2, k3, rkA, rkB, stepA, valA, simprocAttr]
    rfl
theorem ok187 (n : Int) : Ok Tryz.prog 187 [num n] (tru (!rightX n)) := by
  refine ok_fn mixed Tryz.func187 (code := ?_) (h := h187) ?_ k187 ?_
  rotate_left
  · exact rfl
  unfold h187 initS
  simp -implicitDefEqProofs (maxSteps := 10000000) only [rkA, rkB, stepA, valA, simprocAttr, Tryz.ntmps187, Tryz.results187]
  refine call_fn rfl rfl rfl (ok138 n) ?_
  simp -implicitDefEqProofs (maxSteps := 10000000) only [rkA, rkB, stepA, valA, simprocAttr]
/-- Where the first one of a row is, of which this is so. -/
def ixOf {α : Type} (p : α → Bool) : List α → Int
  | [] => -1
  | x :: l => if p x = true then 0 else if ixOf p l < 0 then -1 else ixOf p l + 1
theorem ixOf_bnd {α : Type} (p : α → Bool) (l : List α) : -1 ≤ ixOf p l ∧ ixOf p l < l.length := by
  induction l with
  | nil => simp [ixOf]
  | cons x l ih =>
    unfold ixOf
    simp only [List.length_cons]
    split
    · omega
    · split <;> omega
theorem ixOf_any {α : Type} (p : α → Bool) (l : List α) : decide (0 ≤ ixOf p l) = l.any p := by
  induction l with
  | nil => simp [ixOf]
  | cons x l ih =>
    have hb := ixOf_bnd p l
    unfold ixOf
    cases hx : p x with
    | true => simp [hx]
    | false =>
      simp only [List.any_cons, hx, Bool.false_or, ← ih]
      by_cases h : ixOf p l < 0
      · simp [h]
      · simp [h]
        omega
theorem ixOf_at {α : Type} (p : α → Bool) : ∀ (l : List α) (i : Nat) (hi : i < l.length), (∀ j (hj : j < i), p (l[j]'(by omega)) = false) → p l[i] = true → ixOf p l = i
  | x :: l, 0, hi, h1, h2 => by
    have : p x = true := h2
    simp [ixOf, this]
  | x :: l, i + 1, hi, h1, h2 => by
    have h0 := h1 0 (by omega)
    have hx : p x = false := h0
    have := ixOf_at p l i (by simpa using hi) (fun j hj => h1 (j + 1) (by omega)) h2
    simp only [ixOf, hx, this]
    have hn : ¬ ((i : Int) < 0) := by omega
    simp [hn]
theorem ixOf_none {α : Type} (p : α → Bool) (l : List α) (h : ∀ j (hj : j < l.length), p l[j] = false) : ixOf p l = -1 := by
  induction l with
  | nil => rfl
  | cons x l ih =>
    have hx : p x = false := h 0 (by simp)
    have := ih fun j hj => h (j + 1) (by simpa using hj)
    simp [ixOf, hx, this]
theorem ok184 (e : Bool) (f : Nat) (caps : List PV) (p : Int → Bool) (l : List Int) (hl : l.length ≤ 4398046511104) (hp : ∀ x ∈ l, Ok Tryz.prog f ([num x] ++ caps) (tru (p x))) : Ok Tryz.prog 184 [.sl e (l.map num), .fn (.func f) caps] (num (ixOf p l)) := by
  refine ok_fn mixed Tryz.func184 (code := ?_) (h := h184) ?_ k184 ?_
  rotate_left
  · exact rfl
  unfold h184 initS
  simp -implicitDefEqProofs (maxSteps := 10000000) only [rkA, rkB, stepA, valA, simprocAttr, Tryz.ntmps184, Tryz.results184]
  refine wp_loop (fun m s => ∃ i : Nat, i + m = l.length ∧ (∀ j (hj : j < i) (hjl : j < l.length), p l[j] = false) ∧ s = ⟨[.v (.sl e (l.map num)), .v (.fn (.func f) caps), jk, jk, jk, jk, jk, nt l.length, nt i, jk, jk, jk, jk, jk, jk, jk, jk, jk, jk], [], [], [], [], 0, nomem⟩) l.length ?_ ?_
  · simp -implicitDefEqProofs (maxSteps := 10000000) only [List.length_map, rkA, rkB, stepA, valA, simprocAttr]
    exact ⟨0, by omega, fun j hj => by omega, rfl⟩
  rintro m s ⟨i, hi, hb, rfl⟩
  simp -implicitDefEqProofs (maxSteps := 10000000) only [rkA, rkB, stepA, valA, simprocAttr]
  refine gB_dec ?_ ?_ <;> intro hc <;> simp -implicitDefEqProofs (maxSteps := 10000000) only [hc, rkA, rkB, stepA, valA, simprocAttr]
  · have hlt : i < l.length := by omega
    have h0 : (0 : Int) ≤ (i : Int) := by omega
    have hg : (l.map num)[i]? = some (num l[i]) := by simp [hlt]
    have hw := wrapped (x := (i : Int) + 1) (by omega) (by omega)
    have hpi := hp l[i] (List.getElem_mem hlt)
    simp -implicitDefEqProofs (maxSteps := 10000000) only [h0, Int.toNat_natCast, hg, rkA, rkB, stepA, valA, simprocAttr]
    refine call_fn rfl rfl rfl (hpi) ?_
    cases hpx : p l[i] with
    | true =>
      have := ixOf_at p l i hlt (fun j hj => hb j hj (by omega)) hpx
      simp -implicitDefEqProofs (maxSteps := 10000000) only [this, rkA, rkB, stepA, valA, simprocAttr]
    | false =>
      simp -implicitDefEqProofs (maxSteps := 10000000) only [hw, rkA, rkB, stepA, valA, simprocAttr]
      refine loopK_of (m' := m - 1) (by omega) ?_
      simp -implicitDefEqProofs (maxSteps := 10000000) only [rkA, rkB, stepA, valA, simprocAttr]
      refine ⟨i + 1, by omega, fun j hj hjl => ?_, by simp only [Int.natCast_add, Int.natCast_one]⟩
      by_cases ej : j = i
      · subst ej; exact hpx
      · exact hb j (by omega) hjl
  · have := ixOf_none p l fun j hj => hb j (by omega) hj
    simp -implicitDefEqProofs (maxSteps := 10000000) only [this, rkA, rkB, stepA, valA, simprocAttr]
theorem ok119 (e : Bool) (f : Nat) (caps : List PV) (p : Int → Bool) (l : List Int) (hl : l.length ≤ 4398046511104) (hp : ∀ x ∈ l, Ok Tryz.prog f ([num x] ++ caps) (tru (p x))) : Ok Tryz.prog 119 [.sl e (l.map num), .fn (.func f) caps] (tru (l.any p)) := by
  have ha := ixOf_any p l
  refine ok_fn mixed Tryz.func119 (code := ?_) (h := h119) ?_ k119 ?_
  rotate_left
  · exact rfl
  unfold h119 initS
  simp -implicitDefEqProofs (maxSteps := 10000000) only [rkA, rkB, stepA, valA, simprocAttr, Tryz.ntmps119, Tryz.results119]
  refine call_fn rfl rfl rfl (ok184 e f caps p l hl hp) ?_
  simp -implicitDefEqProofs (maxSteps := 10000000) only [ge_iff_le, ha, rkA, rkB, stepA, valA, simprocAttr]
theorem ok125 (e : Bool) (l : List Int) (h : l.length ≤ 4398046511104) : Ok Tryz.prog 125 [.sl e (l.map num)] (.sl false (l.map num)) := by
  have hf : fits 1 8 [] (l.map num) = true := fits_num (k := []) (l := l) (by simp only [List.length_nil]; omega)
  refine ok_fn mixed Tryz.func125 (code := ?_) (h := h125) ?_ k125 ?_
  rotate_left
  · exact rfl
  unfold h125 initS
  simp -implicitDefEqProofs (maxSteps := 10000000) only [rkA, rkB, stepA, valA, simprocAttr, Tryz.ntmps125, Tryz.results125]
  intro b hb
  cases b with
  | true =>
    have h0 : l = [] := by
      cases l with
      | nil => rfl
      | cons x l => simp at hb
    subst h0
    simp -implicitDefEqProofs (maxSteps := 10000000) only [rkA, rkB, stepA, valA, simprocAttr]
  | false => simp -implicitDefEqProofs (maxSteps := 10000000) only [hf, rkA, rkB, stepA, valA, simprocAttr]
def rightFr (k q n : Int) (l : List Int) : Bool := decide (manyZ k n > 0) && (decide ((l.length : Int) = manyZ k n) && (decide (0 ≤ q) && (decide (q ≤ 4294967295) && !(l.any fun x => !rightX x))))
theorem ok124 (e : Bool) (k q n : Int) (l : List Int) (hl : l.length ≤ 4398046511104) : Ok Tryz.prog 124 [frmV e k q n l] (tru (rightFr k q n l)) := by
  refine ok_fn mixed Tryz.func124 (code := ?_) (h := h124) ?_ k124 ?_
  rotate_left
  · exact rfl
  unfold h124 initS
  simp -implicitDefEqProofs (maxSteps := 10000000) only [rkA, rkB, stepA, valA, simprocAttr, Tryz.ntmps124, Tryz.results124]
  refine call_fn rfl rfl rfl (ok188 k n) ?_
  unfold rightFr
  generalize manyZ k n = z
  by_cases h1 : z > 0
  · by_cases h2 : (l.length : Int) = z
    · by_cases h3 : 0 ≤ q
      · by_cases h4 : q ≤ 4294967295
        · simp -implicitDefEqProofs (maxSteps := 10000000) only [List.length_map, h1, h2, beq_self_eq_true, ge_iff_le, h3, h4, rkA, rkB, stepA, valA, simprocAttr]
          refine call_fn rfl rfl rfl (ok119 e _ [] (fun x => !rightX x) l hl (fun x _ => ok187 x)) ?_
          simp -implicitDefEqProofs (maxSteps := 10000000) only [rkA, rkB, stepA, valA, simprocAttr]
        · simp -implicitDefEqProofs (maxSteps := 10000000) only [List.length_map, h1, h2, beq_self_eq_true, ge_iff_le, h3, h4, rkA, rkB, stepA, valA, simprocAttr]
      · simp -implicitDefEqProofs (maxSteps := 10000000) only [List.length_map, h1, h2, beq_self_eq_true, ge_iff_le, h3, rkA, rkB, stepA, valA, simprocAttr]
    · have h2' : ((l.length : Int) == z) = false := by simpa using h2
      simp -implicitDefEqProofs (maxSteps := 10000000) only [List.length_map, h1, h2, h2', rkA, rkB, stepA, valA, simprocAttr]
  · simp -implicitDefEqProofs (maxSteps := 10000000) only [h1, rkA, rkB, stepA, valA, simprocAttr]
theorem rightFr_spec {k q n : Int} {l : List Int} (h : rightFr k q n l = true) : ∃ m : Nat, n = m ∧ 1 ≤ m ∧ m ≤ 4 ∧ ((k = 1 ∧ l.length = m + m * m) ∨ (k = 2 ∧ l.length = m * m + m * m) ∨ (k = 3 ∧ l.length = m + 2)) ∧ 0 ≤ q ∧ q ≤ 4294967295 ∧ ∀ x ∈ l, rightX x = true := by
  unfold rightFr at h
  simp only [Bool.and_eq_true, decide_eq_true_eq, Bool.not_eq_true', List.any_eq_false, Bool.not_eq_false, Bool.not_eq_eq_eq_not, Bool.not_true] at h
  obtain ⟨h1, h2, h3, h4, h5⟩ := h
  have h5' : ∀ x ∈ l, rightX x = true := fun x hx => by
    have := h5 x hx
    simpa using this
  unfold manyZ at h1 h2
  by_cases hn : n < 1 ∨ n > 4
  · rw [if_pos hn] at h1; omega
  rw [if_neg hn] at h1 h2
  refine ⟨n.toNat, by omega, by omega, by omega, ?_, h3, h4, h5'⟩
  have hc := side4 hn
  by_cases k1 : k = 1
  · rw [if_pos k1] at h2
    refine .inl ⟨k1, ?_⟩
    rcases hc with rfl | rfl | rfl | rfl <;> simp at h2 ⊢ <;> omega
  rw [if_neg k1] at h1 h2
  by_cases k2 : k = 2
  · rw [if_pos k2] at h2
    refine .inr (.inl ⟨k2, ?_⟩)
    rcases hc with rfl | rfl | rfl | rfl <;> simp at h2 ⊢ <;> omega
  rw [if_neg k2] at h1 h2
  by_cases k3 : k = 3
  · rw [if_pos k3] at h2
    refine .inr (.inr ⟨k3, ?_⟩)
    omega
  rw [if_neg k3] at h1
  omega
end Go.Proofs.YtambpjbpdackfaaGreat.A.E


set_option linter.unusedVariables false
namespace Go.Proofs.YtambpjbpdackfaaGreat.A
open Go Go.RowKit Go.Shelf
def hm0 : Hint := .r [(0, { n := 4 })]
def hm1 : Hint := .s (.r [(0, { n := 4, agg := true })]) (.s (.s (.o) (.o)) (.o))
def hmL : List (Nat × Inf) := [(1, { off := 2 }), (2, { n := 1, agg := false }), (3, { n := 1 }), (5, { off := 2 }), (6, { n := 1, agg := false }), (7, { off := 2 }), (8, { n := 1, agg := false }), (10, { n := 1 }), (12, { off := 2 }), (13, { n := 1, agg := false }), (14, { off := 2 }), (15, { n := 1, agg := false }), (17, { n := 1 }), (20, { off := 0 }), (21, { n := 1, agg := false }), (22, { zero := [(.slice none 0 0)] })]
def hm2 : Hint := .s (.r [(0, { acc := [(0, 4)] })]) (.s (.o) (.s (.s (.r [(1, { off := 3 }), (2, { n := 1, agg := false }), (4, { n := 1 }), (5, { n := 1, t := 8 })]) (.b (.l [.junk [0, 2, 3, 6, 7, 8, 9, 10, 11, 12, 13, 14, 15, 16, 17, 18, 19, 20, 21, 22, 23, 24, 25, 26, 27, 28, 29, 30, 31, 32, 33, 34, 35, 39, 40, 41, 42, 43, 44, 45, 46, 47, 48, 49, 50, 51, 52, 53]] (.s (.o) (.s (.s (.o) (.o)) (.s (.b (.s (.r [(0, { n := 1 }), (1, { n := 1, agg := false })]) (.s (.r [(1, { off := 3 }), (2, { n := 1, agg := false }), (5, { n := 1 }), (7, { n := 1 }), (8, { n := 1, t := 24 })]) (.o)))) (.o))))))) (.s (.o) (.o))))
theorem kmap : okMap Tryz.prog Tryz.f44 hm0 hm1 hm2 hmL [(false, 0)] = true := by kernel_rfl
end Go.Proofs.YtambpjbpdackfaaGreat.A



set_option linter.unusedVariables false
set_option linter.unusedSimpArgs false
set_option maxRecDepth 100000
namespace Go.Proofs.YtambpjbpdackfaaGreat.A.E
open Go Go.RowKit Go.Shelf

/-! ### Parts of frames -/
/-- Where the parts of a frame end. -/
def endsZ (k : Int) (n len : Nat) : List Nat := if k = 1 then [n, len] else if k = 2 then [n * n, len] else [n, n + 1, len]
def stZ (es : List Nat) : Nat → Nat
  | 0 => 0
  | i + 1 => es.getD i 0
def pcZ (es : List Nat) (l : List Int) (i : Nat) : List Int := (l.take (es.getD i 0)).drop (stZ es i)
def partsZ (k : Int) (n : Nat) (l : List Int) : List (List Int) := (List.range (endsZ k n l.length).length).map (pcZ (endsZ k n l.length) l)
abbrev rowV (l : List Int) : PV := .sl false (l.map num)
theorem ok44_bad (e : Bool) (k q n : Int) (l : List Int) (hl : l.length ≤ 4398046511104) (h : rightFr k q n l = false) : Ok Tryz.prog 44 [frmV e k q n l] (.s (.slice none 0 0)) := by
  refine okm3_fn mixed Tryz.func44 (c0 := ?_) (c1 := ?_) (c2 := ?_) (id := ?_) (ops := ?_) (h0 := hm0) (h1 := hm1) (h2 := hm2) (l := hmL) ?_ kmap ?_
  rotate_left 5
  · exact rfl
  unfold hm0 hm1 hm2 hmL initS
  simp -implicitDefEqProofs (maxSteps := 10000000) only [thenT_normal, thenT_ret, thenT_exit, opsMK_at, regM_cons, opsM_nil, insC_some, opsMI_at, opsM_ins, lkC_some, opsML_at, opsM_lk, mapOp_move, mapOp_assign, mapOp_load, mapOp_fieldAddr, mapOp_binOp, mapOp_buildSlice, opsM_op, lkz, Int.reduceEq, rkA, rkB, stepA, valA, simprocAttr, Tryz.ntmps44, Tryz.results44]
  have h1 := ok124 e k q n l hl
  rw [h] at h1
  refine call_fn rfl rfl rfl (h1) ?_
  simp -implicitDefEqProofs (maxSteps := 10000000) only [thenT_normal, thenT_ret, thenT_exit, opsMK_at, regM_cons, opsM_nil, insC_some, opsMI_at, opsM_ins, lkC_some, opsML_at, opsM_lk, mapOp_move, mapOp_assign, mapOp_load, mapOp_fieldAddr, mapOp_binOp, mapOp_buildSlice, opsM_op, lkz, Int.reduceEq, rkA, rkB, stepA, valA, simprocAttr]
theorem fits_rows {k : List (List Int)} {r : List Int} (h : k.length ≤ 1000) : fits 1 24 (k.map rowV) [rowV r] = true := by
  unfold fits
  simp only [List.all_map, List.length_map, List.length_cons, List.length_nil, Bool.and_eq_true, List.all_eq_true, decide_eq_true_eq, Function.comp, List.all_cons, List.all_nil, Bool.and_true]
  refine ⟨⟨fun x _ => ⟨rfl, rfl⟩, rfl, rfl⟩, by omega⟩
theorem ok44 (e : Bool) (k q n : Int) (l : List Int) (hl : l.length ≤ 4398046511104) (h : rightFr k q n l = true) : Ok Tryz.prog 44 [frmV e k q n l] (.sl false ((partsZ k n.toNat l).map rowV)) := by
  obtain ⟨m, rfl, h1, h4, hlen, hq0, hq1, hx⟩ := rightFr_spec h
  have hr := ok124 e k q m l hl
  rw [h] at hr
  rw [Int.toNat_natCast]
  have hmm : m * m ≤ 16 := Nat.mul_le_mul h4 h4
  have hmp : 1 * 1 ≤ m * m := Nat.mul_le_mul h1 h1
  have c1 : (m : Int) * (m : Int) = ((m * m : Nat) : Int) := by simp
  have c2 : (m : Int) + 1 = ((m + 1 : Nat) : Int) := by simp
  have w1 := wrapped (x := ((m * m : Nat) : Int)) (by omega) (by omega)
  have w2 := wrapped (x := ((m + 1 : Nat) : Int)) (by omega) (by omega)
  rcases hlen with ⟨rfl, hlen⟩ | ⟨rfl, hlen⟩ | ⟨rfl, hlen⟩
  · refine okm3_fn mixed Tryz.func44 (c0 := ?_) (c1 := ?_) (c2 := ?_) (id := ?_) (ops := ?_) (h0 := hm0) (h1 := hm1) (h2 := hm2) (l := hmL) ?_ kmap ?_
    rotate_left 5
    · exact rfl
    unfold hm0 hm1 hm2 hmL initS
    simp -implicitDefEqProofs (maxSteps := 10000000) only [thenT_normal, thenT_ret, thenT_exit, opsMK_at, regM_cons, opsM_nil, insC_some, opsMI_at, opsM_ins, lkC_some, opsML_at, opsM_lk, mapOp_move, mapOp_assign, mapOp_load, mapOp_fieldAddr, mapOp_binOp, mapOp_buildSlice, opsM_op, lkz, Int.reduceEq, rkA, rkB, stepA, valA, simprocAttr, Tryz.ntmps44, Tryz.results44]
    refine call_fn rfl rfl rfl (hr) ?_
    simp -implicitDefEqProofs (maxSteps := 10000000) only [c1, c2, w1, w2, List.length_map, thenT_normal, thenT_ret, thenT_exit, opsMK_at, regM_cons, opsM_nil, insC_some, opsMI_at, opsM_ins, lkC_some, opsML_at, opsM_lk, mapOp_move, mapOp_assign, mapOp_load, mapOp_fieldAddr, mapOp_binOp, mapOp_buildSlice, opsM_op, lkz, Int.reduceEq, rkA, rkB, stepA, valA, simprocAttr]
    intro r
    obtain ⟨es, hesd⟩ : ∃ es : List Nat, es = [m, l.length] := ⟨_, rfl⟩
    have hfit : fits 1 8 [num (m : Int)] [num (l.length : Int)] = true := fits_num (k := [(m : Int)]) (l := [(l.length : Int)]) (by simp)
    have e1 : [num (m : Int), num (l.length : Int)] = es.map fun (x : Nat) => num (x : Int) := by rw [hesd]; rfl
    have hmax : ∀ i, i < es.length → es.getD i 0 ≤ l.length := by
      rw [hesd]
      intro i hi
      match i, hi with
      | 0, _ => simp; omega
      | 1, _ => simp
    have hinc : ∀ i, i < es.length → stZ es i ≤ es.getD i 0 := by
      rw [hesd]
      intro i hi
      match i, hi with
      | 0, _ => simp [stZ]
      | 1, _ => simp [stZ]; omega
    have hlen3 : es.length ≤ 3 := by rw [hesd]; simp
    have hpz : partsZ 1 m l = (List.range es.length).map (pcZ es l) := by rw [hesd]; rfl
    have lz : (es.map fun (x : Nat) => num (x : Int)).length = es.length := by rw [List.length_map]
    have hl16 : l.length ≤ 32 := by omega
    have hel : es.length ≤ 3 := hlen3
    simp -implicitDefEqProofs (maxSteps := 10000000) only [hfit, e1, lz, rkA, rkB, stepA, valA, simprocAttr]
    refine wp_loop (fun m' s => ∃ i : Nat, i + m' = es.length ∧ s = ⟨[jk, .ptr 1 0, jk, jk, .acc 4 (((List.range i).map (pcZ es l)).map rowV), nt (stZ es i : Nat), jk, jk, jk, jk, jk, jk, jk, jk, jk, jk, jk, jk, jk, jk, jk, jk, jk, jk, jk, jk, jk, jk, jk, jk, jk, jk, jk, jk, jk, jk, .v (.sl false (es.map fun (x : Nat) => num (x : Int))), nt es.length, nt i, jk, jk, jk, jk, jk, jk, jk, jk, jk, jk, jk, jk, jk, jk, jk], [(1, [.v (num 1), .v (num q), .v (num m), .v (.sl e (l.map num))])], [], [(4, i)], [], 0, nomem⟩) es.length ?_ ?_
    · simp -implicitDefEqProofs (maxSteps := 10000000) only [rkA, rkB, stepA, valA, simprocAttr]
      exact ⟨0, by omega, rfl⟩
    rintro m' s ⟨i, hi, rfl⟩
    simp -implicitDefEqProofs (maxSteps := 10000000) only [rkA, rkB, stepA, valA, simprocAttr]
    refine gB_dec ?_ ?_ <;> intro hc <;> simp -implicitDefEqProofs (maxSteps := 10000000) only [hc, rkA, rkB, stepA, valA, simprocAttr]
    · have hlt : i < es.length := by omega
      have h0 : (0 : Int) ≤ (i : Int) := by omega
      have hg : (es.map fun (x : Nat) => num (x : Int))[i]? = some (num ((es.getD i 0 : Nat) : Int)) := by
        rw [List.getElem?_map, List.getD_eq_getElem?_getD, List.getElem?_eq_getElem hlt]
        rfl
      have hw := wrapped (x := (i : Int) + 1) (by omega) (by omega)
      have hs := sl_num (ex := e) (l := l) (hinc i hlt) (hmax i hlt)
      have s0 : (0 : Int) ≤ (stZ es i : Nat) := by omega
      have s1 : (0 : Int) ≤ (es.getD i 0 : Nat) := by omega
      simp -implicitDefEqProofs (maxSteps := 10000000) only [h0, s0, s1, Int.toNat_natCast, hg, hs, rkA, rkB, stepA, valA, simprocAttr]
      refine call_fn rfl rfl rfl (ok125 _ ((l.take (es.getD i 0)).drop (stZ es i)) (by rw [List.length_drop, List.length_take]; omega)) ?_
      have hfr : fits 1 24 (((List.range i).map (pcZ es l)).map rowV) [rowV ((l.take (es.getD i 0)).drop (stZ es i))] = true := fits_rows (by rw [List.length_map, List.length_range]; omega)
      have hlr : (((List.range i).map (pcZ es l)).map rowV).length = i := by rw [List.length_map, List.length_map, List.length_range]
      simp -implicitDefEqProofs (maxSteps := 10000000) only [hfr, hlr, hw, rkA, rkB, stepA, valA, simprocAttr]
      refine loopK_of (m' := m' - 1) (by omega) ?_
      simp -implicitDefEqProofs (maxSteps := 10000000) only [rkA, rkB, stepA, valA, simprocAttr]
      refine ⟨i + 1, by omega, ?_⟩
      rw [List.range_succ, List.map_append, List.map_append]
      have hst : stZ es (i + 1) = es.getD i 0 := rfl
      simp only [hst, List.map_cons, List.map_nil, pcZ, Int.natCast_add, Int.natCast_one]
    · have hie : i = es.length := by omega
      have hfin : (List.range i).map (pcZ es l) = partsZ 1 m l := by rw [hie, hpz]
      rw [hfin]
  · refine okm3_fn mixed Tryz.func44 (c0 := ?_) (c1 := ?_) (c2 := ?_) (id := ?_) (ops := ?_) (h0 := hm0) (h1 := hm1) (h2 := hm2) (l := hmL) ?_ kmap ?_
    rotate_left 5
    · exact rfl
    unfold hm0 hm1 hm2 hmL initS
    simp -implicitDefEqProofs (maxSteps := 10000000) only [thenT_normal, thenT_ret, thenT_exit, opsMK_at, regM_cons, opsM_nil, insC_some, opsMI_at, opsM_ins, lkC_some, opsML_at, opsM_lk, mapOp_move, mapOp_assign, mapOp_load, mapOp_fieldAddr, mapOp_binOp, mapOp_buildSlice, opsM_op, lkz, Int.reduceEq, rkA, rkB, stepA, valA, simprocAttr, Tryz.ntmps44, Tryz.results44]
    refine call_fn rfl rfl rfl (hr) ?_
    simp -implicitDefEqProofs (maxSteps := 10000000) only [c1, c2, w1, w2, List.length_map, thenT_normal, thenT_ret, thenT_exit, opsMK_at, regM_cons, opsM_nil, insC_some, opsMI_at, opsM_ins, lkC_some, opsML_at, opsM_lk, mapOp_move, mapOp_assign, mapOp_load, mapOp_fieldAddr, mapOp_binOp, mapOp_buildSlice, opsM_op, lkz, Int.reduceEq, rkA, rkB, stepA, valA, simprocAttr]
    intro r
    obtain ⟨es, hesd⟩ : ∃ es : List Nat, es = [m * m, l.length] := ⟨_, rfl⟩
    have hfit : fits 1 8 [num ((m * m : Nat) : Int)] [num (l.length : Int)] = true := fits_num (k := [((m * m : Nat) : Int)]) (l := [(l.length : Int)]) (by simp)
    have e1 : [num ((m * m : Nat) : Int), num (l.length : Int)] = es.map fun (x : Nat) => num (x : Int) := by rw [hesd]; rfl
    have hmax : ∀ i, i < es.length → es.getD i 0 ≤ l.length := by
      rw [hesd]
      intro i hi
      match i, hi with
      | 0, _ => simp; omega
      | 1, _ => simp
    have hinc : ∀ i, i < es.length → stZ es i ≤ es.getD i 0 := by
      rw [hesd]
      intro i hi
      match i, hi with
      | 0, _ => simp [stZ]
      | 1, _ => simp [stZ]; omega
    have hlen3 : es.length ≤ 3 := by rw [hesd]; simp
    have hpz : partsZ 2 m l = (List.range es.length).map (pcZ es l) := by rw [hesd]; rfl
    have lz : (es.map fun (x : Nat) => num (x : Int)).length = es.length := by rw [List.length_map]
    have hl16 : l.length ≤ 32 := by omega
    have hel : es.length ≤ 3 := hlen3
    simp -implicitDefEqProofs (maxSteps := 10000000) only [hfit, e1, lz, rkA, rkB, stepA, valA, simprocAttr]
    refine wp_loop (fun m' s => ∃ i : Nat, i + m' = es.length ∧ s = ⟨[jk, .ptr 1 0, jk, jk, .acc 4 (((List.range i).map (pcZ es l)).map rowV), nt (stZ es i : Nat), jk, jk, jk, jk, jk, jk, jk, jk, jk, jk, jk, jk, jk, jk, jk, jk, jk, jk, jk, jk, jk, jk, jk, jk, jk, jk, jk, jk, jk, jk, .v (.sl false (es.map fun (x : Nat) => num (x : Int))), nt es.length, nt i, jk, jk, jk, jk, jk, jk, jk, jk, jk, jk, jk, jk, jk, jk, jk], [(1, [.v (num 2), .v (num q), .v (num m), .v (.sl e (l.map num))])], [], [(4, i)], [], 0, nomem⟩) es.length ?_ ?_
    · simp -implicitDefEqProofs (maxSteps := 10000000) only [rkA, rkB, stepA, valA, simprocAttr]
      exact ⟨0, by omega, rfl⟩
    rintro m' s ⟨i, hi, rfl⟩
    simp -implicitDefEqProofs (maxSteps := 10000000) only [rkA, rkB, stepA, valA, simprocAttr]
    refine gB_dec ?_ ?_ <;> intro hc <;> simp -implicitDefEqProofs (maxSteps := 10000000) only [hc, rkA, rkB, stepA, valA, simprocAttr]
    · have hlt : i < es.length := by omega
      have h0 : (0 : Int) ≤ (i : Int) := by omega
      have hg : (es.map fun (x : Nat) => num (x : Int))[i]? = some (num ((es.getD i 0 : Nat) : Int)) := by
        rw [List.getElem?_map, List.getD_eq_getElem?_getD, List.getElem?_eq_getElem hlt]
        rfl
      have hw := wrapped (x := (i : Int) + 1) (by omega) (by omega)
      have hs := sl_num (ex := e) (l := l) (hinc i hlt) (hmax i hlt)
      have s0 : (0 : Int) ≤ (stZ es i : Nat) := by omega
      have s1 : (0 : Int) ≤ (es.getD i 0 : Nat) := by omega
      simp -implicitDefEqProofs (maxSteps := 10000000) only [h0, s0, s1, Int.toNat_natCast, hg, hs, rkA, rkB, stepA, valA, simprocAttr]
      refine call_fn rfl rfl rfl (ok125 _ ((l.take (es.getD i 0)).drop (stZ es i)) (by rw [List.length_drop, List.length_take]; omega)) ?_
      have hfr : fits 1 24 (((List.range i).map (pcZ es l)).map rowV) [rowV ((l.take (es.getD i 0)).drop (stZ es i))] = true := fits_rows (by rw [List.length_map, List.length_range]; omega)
      have hlr : (((List.range i).map (pcZ es l)).map rowV).length = i := by rw [List.length_map, List.length_map, List.length_range]
      simp -implicitDefEqProofs (maxSteps := 10000000) only [hfr, hlr, hw, rkA, rkB, stepA, valA, simprocAttr]
      refine loopK_of (m' := m' - 1) (by omega) ?_
      simp -implicitDefEqProofs (maxSteps := 10000000) only [rkA, rkB, stepA, valA, simprocAttr]
      refine ⟨i + 1, by omega, ?_⟩
      rw [List.range_succ, List.map_append, List.map_append]
      have hst : stZ es (i + 1) = es.getD i 0 := rfl
      simp only [hst, List.map_cons, List.map_nil, pcZ, Int.natCast_add, Int.natCast_one]
    · have hie : i = es.length := by omega
      have hfin : (List.range i).map (pcZ es l) = partsZ 2 m l := by rw [hie, hpz]
      rw [hfin]
  · refine okm3_fn mixed Tryz.func44 (c0 := ?_) (c1 := ?_) (c2 := ?_) (id := ?_) (ops := ?_) (h0 := hm0) (h1 := hm1) (h2 := hm2) (l := hmL) ?_ kmap ?_
    rotate_left 5
    · exact rfl
    unfold hm0 hm1 hm2 hmL initS
    simp -implicitDefEqProofs (maxSteps := 10000000) only [thenT_normal, thenT_ret, thenT_exit, opsMK_at, regM_cons, opsM_nil, insC_some, opsMI_at, opsM_ins, lkC_some, opsML_at, opsM_lk, mapOp_move, mapOp_assign, mapOp_load, mapOp_fieldAddr, mapOp_binOp, mapOp_buildSlice, opsM_op, lkz, Int.reduceEq, rkA, rkB, stepA, valA, simprocAttr, Tryz.ntmps44, Tryz.results44]
    refine call_fn rfl rfl rfl (hr) ?_
    simp -implicitDefEqProofs (maxSteps := 10000000) only [c1, c2, w1, w2, List.length_map, thenT_normal, thenT_ret, thenT_exit, opsMK_at, regM_cons, opsM_nil, insC_some, opsMI_at, opsM_ins, lkC_some, opsML_at, opsM_lk, mapOp_move, mapOp_assign, mapOp_load, mapOp_fieldAddr, mapOp_binOp, mapOp_buildSlice, opsM_op, lkz, Int.reduceEq, rkA, rkB, stepA, valA, simprocAttr]
    intro r
    obtain ⟨es, hesd⟩ : ∃ es : List Nat, es = [m, m + 1, l.length] := ⟨_, rfl⟩
    have hfit : fits 1 8 [num (m : Int), num ((m + 1 : Nat) : Int)] [num (l.length : Int)] = true := fits_num (k := [(m : Int), ((m + 1 : Nat) : Int)]) (l := [(l.length : Int)]) (by simp)
    have e1 : [num (m : Int), num ((m + 1 : Nat) : Int), num (l.length : Int)] = es.map fun (x : Nat) => num (x : Int) := by rw [hesd]; rfl
    have hmax : ∀ i, i < es.length → es.getD i 0 ≤ l.length := by
      rw [hesd]
      intro i hi
      match i, hi with
      | 0, _ => simp; omega
      | 1, _ => simp; omega
      | 2, _ => simp
    have hinc : ∀ i, i < es.length → stZ es i ≤ es.getD i 0 := by
      rw [hesd]
      intro i hi
      match i, hi with
      | 0, _ => simp [stZ]
      | 1, _ => simp [stZ]
      | 2, _ => simp [stZ]; omega
    have hlen3 : es.length ≤ 3 := by rw [hesd]; simp
    have hpz : partsZ 3 m l = (List.range es.length).map (pcZ es l) := by rw [hesd]; rfl
    have lz : (es.map fun (x : Nat) => num (x : Int)).length = es.length := by rw [List.length_map]
    have hl16 : l.length ≤ 32 := by omega
    have hel : es.length ≤ 3 := hlen3
    simp -implicitDefEqProofs (maxSteps := 10000000) only [hfit, e1, lz, rkA, rkB, stepA, valA, simprocAttr]
    refine wp_loop (fun m' s => ∃ i : Nat, i + m' = es.length ∧ s = ⟨[jk, .ptr 1 0, jk, jk, .acc 4 (((List.range i).map (pcZ es l)).map rowV), nt (stZ es i : Nat), jk, jk, jk, jk, jk, jk, jk, jk, jk, jk, jk, jk, jk, jk, jk, jk, jk, jk, jk, jk, jk, jk, jk, jk, jk, jk, jk, jk, jk, jk, .v (.sl false (es.map fun (x : Nat) => num (x : Int))), nt es.length, nt i, jk, jk, jk, jk, jk, jk, jk, jk, jk, jk, jk, jk, jk, jk, jk], [(1, [.v (num 3), .v (num q), .v (num m), .v (.sl e (l.map num))])], [], [(4, i)], [], 0, nomem⟩) es.length ?_ ?_
    · simp -implicitDefEqProofs (maxSteps := 10000000) only [rkA, rkB, stepA, valA, simprocAttr]
      exact ⟨0, by omega, rfl⟩
    rintro m' s ⟨i, hi, rfl⟩
    simp -implicitDefEqProofs (maxSteps := 10000000) only [rkA, rkB, stepA, valA, simprocAttr]
    refine gB_dec ?_ ?_ <;> intro hc <;> simp -implicitDefEqProofs (maxSteps := 10000000) only [hc, rkA, rkB, stepA, valA, simprocAttr]
    · have hlt : i < es.length := by omega
      have h0 : (0 : Int) ≤ (i : Int) := by omega
      have hg : (es.map fun (x : Nat) => num (x : Int))[i]? = some (num ((es.getD i 0 : Nat) : Int)) := by
        rw [List.getElem?_map, List.getD_eq_getElem?_getD, List.getElem?_eq_getElem hlt]
        rfl
      have hw := wrapped (x := (i : Int) + 1) (by omega) (by omega)
      have hs := sl_num (ex := e) (l := l) (hinc i hlt) (hmax i hlt)
      have s0 : (0 : Int) ≤ (stZ es i : Nat) := by omega
      have s1 : (0 : Int) ≤ (es.getD i 0 : Nat) := by omega
      simp -implicitDefEqProofs (maxSteps := 10000000) only [h0, s0, s1, Int.toNat_natCast, hg, hs, rkA, rkB, stepA, valA, simprocAttr]
      refine call_fn rfl rfl rfl (ok125 _ ((l.take (es.getD i 0)).drop (stZ es i)) (by rw [List.length_drop, List.length_take]; omega)) ?_
      have hfr : fits 1 24 (((List.range i).map (pcZ es l)).map rowV) [rowV ((l.take (es.getD i 0)).drop (stZ es i))] = true := fits_rows (by rw [List.length_map, List.length_range]; omega)
      have hlr : (((List.range i).map (pcZ es l)).map rowV).length = i := by rw [List.length_map, List.length_map, List.length_range]
      simp -implicitDefEqProofs (maxSteps := 10000000) only [hfr, hlr, hw, rkA, rkB, stepA, valA, simprocAttr]
      refine loopK_of (m' := m' - 1) (by omega) ?_
      simp -implicitDefEqProofs (maxSteps := 10000000) only [rkA, rkB, stepA, valA, simprocAttr]
      refine ⟨i + 1, by omega, ?_⟩
      rw [List.range_succ, List.map_append, List.map_append]
      have hst : stZ es (i + 1) = es.getD i 0 := rfl
      simp only [hst, List.map_cons, List.map_nil, pcZ, Int.natCast_add, Int.natCast_one]
    · have hie : i = es.length := by omega
      have hfin : (List.range i).map (pcZ es l) = partsZ 3 m l := by rw [hie, hpz]
      rw [hfin]
end Go.Proofs.YtambpjbpdackfaaGreat.A.E



set_option linter.unusedVariables false
set_option linter.unusedSimpArgs false
set_option maxRecDepth 100000
namespace Go.Proofs.YtambpjbpdackfaaGreat.A.E
open Go Go.RowKit Go.Shelf

/-! ### check.Sound -/
def greatZ (x : Int) : Bool := decide (x > 17179869184) || decide (x < -17179869184)
theorem ok118 (n : Int) : Ok Tryz.prog 118 [num n] (tru (greatZ n)) := by
  refine ok_fn mixed Tryz.func118 (code := ?_) (h := h118) ?_ k118 ?_
  rotate_left
  · exact rfl
  unfold h118 initS
  simp -implicitDefEqProofs (maxSteps := 10000000) only [rkA, rkB, stepA, valA, simprocAttr, Tryz.ntmps118, Tryz.results118]
  unfold greatZ
  by_cases h1 : n > 17179869184
  · simp -implicitDefEqProofs (maxSteps := 10000000) only [h1, rkA, rkB, stepA, valA, simprocAttr]
  · simp -implicitDefEqProofs (maxSteps := 10000000) only [h1, rkA, rkB, stepA, valA, simprocAttr]
def partZ (k : Int) (n : Nat) (l : List Int) (i : Nat) : List Int := pcZ (endsZ k n l.length) l i
def lowZ (p : List Int) (n : Nat) : Bool := (List.range n).any fun i => decide (p.getD (i * n + i) 0 < 65536)
def soundZ (k q n : Int) (l : List Int) : Int :=
  if rightFr k q n l = false then 1 else if l.any greatZ = true then 3 else if k = 3 then (if (partZ k n.toNat l 1).getD 0 0 < 65536 then 9 else 0) else if lowZ (partZ k n.toNat l 1) n.toNat = true then 9 else 0
theorem endsZ_two {k : Int} {n len : Nat} : 2 ≤ (endsZ k n len).length := by
  unfold endsZ
  split
  · simp
  · split <;> simp
theorem parts_at {k : Int} {n : Nat} {l : List Int} {i : Nat} (h : i < (endsZ k n l.length).length) : (partsZ k n l)[i]? = some (partZ k n l i) := by
  unfold partsZ partZ
  rw [List.getElem?_map, List.getElem?_range h]
  rfl
theorem part_len {k : Int} {m : Nat} {l : List Int} (h1 : 1 ≤ m) (hlen : (k = 1 ∧ l.length = m + m * m) ∨ (k = 2 ∧ l.length = m * m + m * m) ∨ (k = 3 ∧ l.length = m + 2)) : (partZ k m l 1).length = if k = 3 then 1 else m * m := by
  unfold partZ pcZ endsZ
  rcases hlen with ⟨rfl, h⟩ | ⟨rfl, h⟩ | ⟨rfl, h⟩
  · simp [stZ, h]
  · simp [stZ, h]
  · simp [stZ, h]
theorem ok41 (e : Bool) (k q n : Int) (l : List Int) (hl : l.length ≤ 4398046511104) : Ok Tryz.prog 41 [frmV e k q n l] (num (soundZ k q n l)) := by
  cases hr : rightFr k q n l with
  | false =>
    have hz : soundZ k q n l = 1 := by unfold soundZ; rw [if_pos hr]
    refine ok_fn mixed Tryz.func41 (code := ?_) (h := h41) ?_ k41 ?_
    rotate_left
    · exact rfl
    unfold h41 initS
    simp -implicitDefEqProofs (maxSteps := 10000000) only [rkA, rkB, stepA, valA, simprocAttr, Tryz.ntmps41, Tryz.results41]
    refine call_fn rfl rfl rfl (ok44_bad e k q n l hl hr) ?_
    simp -implicitDefEqProofs (maxSteps := 10000000) only [hz, rkA, rkB, stepA, valA, simprocAttr]
  | true =>
    obtain ⟨m, rfl, h1, h4, hlen, hq0, hq1, hx⟩ := rightFr_spec hr
    have hz : soundZ k q m l = if l.any greatZ = true then 3 else if k = 3 then (if (partZ k m l 1).getD 0 0 < 65536 then 9 else 0) else if lowZ (partZ k m l 1) m = true then 9 else 0 := by
      unfold soundZ
      rw [if_neg (by rw [hr]; decide), Int.toNat_natCast]
    have hp7 := ok44 e k q m l hl hr
    rw [Int.toNat_natCast] at hp7
    have hpl := part_len h1 hlen
    have hg1 : ((partsZ k m l).map rowV)[1]? = some (rowV (partZ k m l 1)) := by
      rw [List.getElem?_map, parts_at (by have := endsZ_two (k := k) (n := m) (len := l.length); omega)]
      rfl
    have hne : ((partsZ k m l).map rowV).isEmpty = false := by
      cases hh : (partsZ k m l).map rowV with
      | nil => rw [hh] at hg1; cases hg1
      | cons => rfl
    refine ok_fn mixed Tryz.func41 (code := ?_) (h := h41) ?_ k41 ?_
    rotate_left
    · exact rfl
    unfold h41 initS
    simp -implicitDefEqProofs (maxSteps := 10000000) only [rkA, rkB, stepA, valA, simprocAttr, Tryz.ntmps41, Tryz.results41]
    refine call_fn rfl rfl rfl (hp7) ?_
    simp -implicitDefEqProofs (maxSteps := 10000000) only [rkA, rkB, stepA, valA, simprocAttr]
    intro b hb
    obtain rfl := hb hne
    simp -implicitDefEqProofs (maxSteps := 10000000) only [rkA, rkB, stepA, valA, simprocAttr]
    refine call_fn rfl rfl rfl (ok119 e _ [] greatZ l hl (fun x _ => ok118 x)) ?_
    cases hgr : l.any greatZ with
    | true =>
      rw [if_pos hgr] at hz
      simp -implicitDefEqProofs (maxSteps := 10000000) only [hz, rkA, rkB, stepA, valA, simprocAttr]
    | false =>
      rw [if_neg (by rw [hgr]; decide)] at hz
      simp -implicitDefEqProofs (maxSteps := 10000000) only [rkA, rkB, stepA, valA, simprocAttr]
      by_cases h3 : k = 3
      · subst h3
        rw [if_pos rfl] at hz hpl
        obtain ⟨x, hxx⟩ : ∃ x, partZ 3 m l 1 = [x] := by
          cases hh : partZ 3 m l 1 with
          | nil => rw [hh] at hpl; cases hpl
          | cons x r =>
            rw [hh] at hpl
            have : r = [] := List.eq_nil_of_length_eq_zero (by simpa using hpl)
            subst this
            exact ⟨x, rfl⟩
        have hb0 : ∀ z : Int, ((z : Int) == z) = true := fun z => by simp
        rw [hxx] at hg1 hz
        have hz : soundZ 3 q m l = if x < 65536 then 9 else 0 := hz
        simp -implicitDefEqProofs (maxSteps := 10000000) only [hb0, hg1, rkA, rkB, stepA, valA, simprocAttr]
        by_cases hlow : x < 65536
        · have hz' : soundZ 3 q m l = 9 := by rw [hz, if_pos hlow]
          simp -implicitDefEqProofs (maxSteps := 10000000) only [hlow, hz', rkA, rkB, stepA, valA, simprocAttr]
        · have hz' : soundZ 3 q m l = 0 := by rw [hz, if_neg hlow]
          simp -implicitDefEqProofs (maxSteps := 10000000) only [hlow, hb0, hz', rkA, rkB, stepA, valA, simprocAttr]
      · rw [if_neg h3] at hz hpl
        have h3' : (k == 3) = false := by simpa using h3
        have hmm : m * m ≤ 16 := Nat.mul_le_mul h4 h4
        simp -implicitDefEqProofs (maxSteps := 10000000) only [h3', rkA, rkB, stepA, valA, simprocAttr]
        refine wp_loop (fun m' s => ∃ i : Nat, i + m' = m ∧ (∀ j, j < i → ¬ (partZ k m l 1).getD (j * m + j) 0 < 65536) ∧ s = ⟨[jk, .ptr 1 0, jk, jk, .v (.sl false ((partsZ k m l).map rowV)), jk, jk, jk, jk, jk, jk, jk, jk, jk, jk, jk, jk, jk, jk, jk, jk, jk, jk, jk, jk, jk, jk, jk, jk, jk, jk, jk, jk, nt m, nt i, jk, jk, jk, jk, jk, jk, jk, jk, jk, jk, jk, jk, jk, jk, jk], [(1, [.v (num k), .v (num q), .v (num m), .v (.sl e (l.map num))])], [], [], [], 0, nomem⟩) m ?_ ?_
        · simp -implicitDefEqProofs (maxSteps := 10000000) only [rkA, rkB, stepA, valA, simprocAttr]
          exact ⟨0, by omega, fun j hj => by omega, rfl⟩
        rintro m' s ⟨i, hi, hb, rfl⟩
        simp -implicitDefEqProofs (maxSteps := 10000000) only [rkA, rkB, stepA, valA, simprocAttr]
        refine gB_dec ?_ ?_ <;> intro hc <;> simp -implicitDefEqProofs (maxSteps := 10000000) only [hc, rkA, rkB, stepA, valA, simprocAttr]
        · have him : i < m := by omega
          have t0 := at_table (i := i) (j := i) (n := m) (m := m) him him
          have d1 : (i : Int) * (m : Int) = ((i * m : Nat) : Int) := by simp
          have d2 : ((i * m : Nat) : Int) + (i : Int) = ((i * m + i : Nat) : Int) := by simp
          have e1 := wrapped (x := ((i * m : Nat) : Int)) (by omega) (by omega)
          have e2 := wrapped (x := ((i * m + i : Nat) : Int)) (by omega) (by omega)
          have n2 : (0 : Int) ≤ ((i * m + i : Nat) : Int) := by omega
          have g2 := at_num (a := partZ k m l 1) (i := i * m + i) (by omega)
          have hw := wrapped (x := (i : Int) + 1) (by omega) (by omega)
          simp -implicitDefEqProofs (maxSteps := 10000000) only [hg1, d1, e1, d2, e2, n2, Int.toNat_natCast, g2, rkA, rkB, stepA, valA, simprocAttr]
          by_cases hlow : (partZ k m l 1).getD (i * m + i) 0 < 65536
          · have hz' : soundZ k q m l = 9 := by
              rw [hz, if_pos]
              unfold lowZ
              rw [List.any_eq_true]
              exact ⟨i, by simpa using him, by simpa using hlow⟩
            simp -implicitDefEqProofs (maxSteps := 10000000) only [hlow, hz', rkA, rkB, stepA, valA, simprocAttr]
          · simp -implicitDefEqProofs (maxSteps := 10000000) only [hlow, hw, rkA, rkB, stepA, valA, simprocAttr]
            refine loopK_of (m' := m' - 1) (by omega) ?_
            simp -implicitDefEqProofs (maxSteps := 10000000) only [rkA, rkB, stepA, valA, simprocAttr]
            refine ⟨i + 1, by omega, fun j hj => ?_, by simp only [Int.natCast_add, Int.natCast_one]⟩
            by_cases ej : j = i
            · subst ej; exact hlow
            · exact hb j (by omega)
        · have hz' : soundZ k q m l = 0 := by
            rw [hz, if_neg]
            unfold lowZ
            rw [List.any_eq_true]
            rintro ⟨j, hj, hlow⟩
            have hjm : j < m := by simpa using hj
            exact hb j (by omega) (by simpa using hlow)
          simp -implicitDefEqProofs (maxSteps := 10000000) only [hz', rkA, rkB, stepA, valA, simprocAttr]
end Go.Proofs.YtambpjbpdackfaaGreat.A.E


set_option linter.unusedVariables false
set_option linter.unusedSimpArgs false
set_option maxRecDepth 100000
namespace Go.Proofs.YtambpjbpdackfaaGreat.A.E
open Go Go.RowKit Go.Shelf

theorem methAdd : Meth Tryz.prog 28 "Add" 63 := by
  intro v xs w
  rfl
theorem methMul : Meth Tryz.prog 28 "Mul" 250 := by
  intro v xs w
  rfl

def sumF (l : List Fr) : Fr := l.foldl addF (newF 0 1)

theorem ok203 (ex : Bool) (l : List Fr) (h : l.length ≤ 4398046511104) : Ok Tryz.prog 203 [.sl ex (frs l)] (frV (sumF l)) := by
  refine ok_fn mixed Tryz.func203 (code := ?_) (h := h203) ?_ k203 ?_
  rotate_left
  · exact rfl
  unfold h203 initS
  simp -implicitDefEqProofs only [rkA, rkB, stepA, valA, simprocAttr, Tryz.ntmps203, Tryz.results203]
  refine call_meth rfl rfl methOf (ok107 ⟨0, 0, 0, false⟩ 0) ?_
  simp -implicitDefEqProofs only [rkA, rkB, stepA, valA, simprocAttr]
  refine wp_loop (fun m s => ∃ i, i + m = l.length ∧ s = ⟨[jk, jk, .ptr 2 0, jk, .ptr 4 0, jk, jk, jk, jk, jk, .v (.sl ex (frs l)), nt l.length, nt i, jk, jk, jk, jk, jk, jk, jk, jk, jk],
    [(2, [nt 0, nt 0, nt 0, .v (tru false)]), (3, [nt 0, nt 0, nt 0, .v (tru false)]), (4, [nt (sumF (l.take i)).v, nt (sumF (l.take i)).lo, nt (sumF (l.take i)).hi, .v (tru (sumF (l.take i)).bad)])], [], [], [], 0, nomem⟩) l.length ?_ ?_
  · simp -implicitDefEqProofs only [rkA, rkB, stepA, valA, simprocAttr]
    refine ⟨0, by simp, ?_⟩
    simp [sumF]
  rintro m s ⟨i, hi, rfl⟩
  simp -implicitDefEqProofs only [rkA, rkB, stepA, valA, simprocAttr]
  refine gB_dec ?_ ?_ <;> intro hc <;> simp -implicitDefEqProofs only [hc, rkA, rkB, stepA, valA, simprocAttr]
  · have hlt : i < l.length := by omega
    have h0 : (0 : Int) ≤ (i : Int) := by omega
    have hg : (frs l)[i]? = some (frV l[i]) := by simp [hlt]
    simp -implicitDefEqProofs only [h0, Int.toNat_natCast, hg, rkA, rkB, stepA, valA, simprocAttr]
    refine call_meth rfl rfl methAdd (ok63 (sumF (l.take i)) l[i]) ?_
    have hw := wrapped (x := (i : Int) + 1) (by omega) (by omega)
    simp -implicitDefEqProofs only [hw, rkA, rkB, stepA, valA, simprocAttr]
    refine loopK_of (m' := m - 1) (by omega) ?_
    simp -implicitDefEqProofs only [rkA, rkB, stepA, valA, simprocAttr]
    refine ⟨i + 1, by omega, ?_⟩
    have e : sumF (l.take (i + 1)) = addF (sumF (l.take i)) l[i] := by
      unfold sumF
      rw [List.take_succ_eq_append_getElem hlt, List.foldl_append]
      rfl
    rw [e]
    simp only [Int.natCast_add, Int.natCast_one]
  · have : l.length ≤ i := by omega
    rw [List.take_of_length_le this]

theorem ok205 (a b : Fr) : Ok Tryz.prog 205 [frV a, frV b] (frV (mulF a b)) := by
  refine ok_fn mixed Tryz.func205 (code := ?_) (h := h205) ?_ k205 ?_
  rotate_left
  · exact rfl
  unfold h205 initS
  simp -implicitDefEqProofs only [rkA, rkB, stepA, valA, simprocAttr, Tryz.ntmps205, Tryz.results205]
  refine call_meth rfl rfl methMul (ok250 a b) ?_
  simp -implicitDefEqProofs only [rkA, rkB, stepA, valA, simprocAttr]

theorem sl_frs {ex : Bool} {l : List Fr} {a b : Nat} (h1 : a ≤ b) (h2 : b ≤ l.length) : sliceA 4 (frs l) ex (some a) (some b) none = some (.sl (exA none ex b (frs l).length) (frs ((l.take b).drop a))) := by
  unfold sliceA
  simp only [Option.getD_some]
  rw [if_pos ⟨h1, by simpa using h2, by simp, by simp [PV.cells]⟩]
  simp

/-- A row. -/
def rowF (r c : Int) (l : List Fr) (i : Int) : List Fr := if right r c l.length = true ∧ 0 ≤ i ∧ i < r then (l.take ((i + 1) * c).toNat).drop (i * c).toNat else []

theorem ok150 (ex : Bool) (r c i : Int) (l : List Fr) : Ok Tryz.prog 150 [matV ex r c (frs l), num i] (.sl false (frs (rowF r c l i))) := by
  refine ok_fn mixed Tryz.func150 (code := ?_) (h := h150) ?_ k150 ?_
  rotate_left
  · exact rfl
  unfold h150 initS
  simp -implicitDefEqProofs only [rkA, rkB, stepA, valA, simprocAttr, Tryz.ntmps150, Tryz.results150]
  refine call_fn rfl rfl rfl (ok72 ex r c (frs l)) ?_
  have e : (frs l).length = l.length := by simp
  rw [e]
  cases hr : right r c l.length with
  | false =>
    simp -implicitDefEqProofs only [rkA, rkB, stepA, valA, simprocAttr]
    simp [rowF, hr]
  | true =>
    obtain ⟨r1, r2, c1, c2, hn⟩ := right_spec hr
    simp -implicitDefEqProofs only [rkA, rkB, stepA, valA, simprocAttr]
    repeat' (refine gB_dec ?_ ?_ <;> intro hc <;> first | (exfalso; omega) | simp -implicitDefEqProofs only [hc, rkA, rkB, stepA, valA, simprocAttr])
    · rw [show rowF r c l i = [] from if_neg (fun ⟨_, _, _⟩ => by omega)]; rfl
    · rw [show rowF r c l i = [] from if_neg (fun ⟨_, _, _⟩ => by omega)]; rfl
    · obtain ⟨b1, b2, b3, b4, b5⟩ := at_bound (i := i) (k := 0) r2 ⟨c1, c2⟩ (by omega) (by omega)
      have b6 : (i + 1) * c = i * c + c := by rw [Int.add_mul, Int.one_mul]
      have b7 : (i + 1) * c ≤ r * c := Int.mul_le_mul_of_nonneg_right (by omega) (by omega)
      have w1 := wrapped (x := i * c) (by omega) (by omega)
      have w2 := wrapped (x := i + 1) (by omega) (by omega)
      have w3 := wrapped (x := (i + 1) * c) (by omega) (by omega)
      have h3 : 0 ≤ (i + 1) * c := by omega
      have hs := sl_frs (ex := ex) (l := l) (a := (i * c).toNat) (b := ((i + 1) * c).toNat) (by omega) (by omega)
      have hrow : rowF r c l i = (l.take ((i + 1) * c).toNat).drop (i * c).toNat := if_pos ⟨hr, by omega, by omega⟩
      rw [hrow]
      simp -implicitDefEqProofs only [w1, w2, w3, b1, h3, hs, rkA, rkB, stepA, valA, simprocAttr]
      refine call_fn rfl rfl rfl (ok71 _ _ (by simp; omega)) ?_
      simp -implicitDefEqProofs only [rkA, rkB, stepA, valA, simprocAttr]
end Go.Proofs.YtambpjbpdackfaaGreat.A.E


set_option linter.unusedVariables false
set_option linter.unusedSimpArgs false
set_option maxRecDepth 100000
namespace Go.Proofs.YtambpjbpdackfaaGreat.A.E
open Go Go.RowKit Go.Shelf

def rowsF (r c : Int) (l : List Fr) : List (List PV) := if right r c l.length = true then (List.range r.toNat).map fun (i : Nat) => [num (i : Int), .sl false (frs (rowF r c l (i : Int)))] else []

theorem it149 (ex : Bool) (r c : Int) (l : List Fr) : IterOk Tryz.prog (.fn (.func 149) [.vp [num r, num c, .sl ex (frs l)]]) (rowsF r c l) := by
  refine iter_fn mixed Tryz.func149 (code := ?_) (h := h149) ?_ k149 ?_ ?_
  rotate_left
  · exact rfl
  · exact rfl
  intro yl
  unfold h149 initS
  simp -implicitDefEqProofs only [rkA, rkB, stepA, valA, simprocAttr, Tryz.ntmps149]
  refine wp_loop (fun m s => ∃ i : Nat, i + m = (rowsF r c l).length ∧ s = ⟨[.v (.fn (.yield yl) []), .v (.vp [num r, num c, .sl ex (frs l)]), jk, nt i, jk, jk, jk, jk, jk, jk, jk, jk, jk, jk, jk, jk, jk, jk, jk, jk, jk], [], [], [], [], i, nomem⟩) (rowsF r c l).length ?_ ?_
  · simp -implicitDefEqProofs only [rkA, rkB, stepA, valA, simprocAttr]
    exact ⟨0, by simp, rfl⟩
  rintro m s ⟨i, hi, rfl⟩
  simp -implicitDefEqProofs only [rkA, rkB, stepA, valA, simprocAttr]
  refine call_fn rfl rfl rfl (ok72 ex r c (frs l)) ?_
  have e : (frs l).length = l.length := by simp
  rw [e]
  cases hr : right r c l.length with
  | false =>
    simp -implicitDefEqProofs only [rkA, rkB, stepA, valA, simprocAttr]
    have hl : (rowsF r c l).length = 0 := by simp [rowsF, hr]
    omega
  | true =>
    obtain ⟨r1, r2, c1, c2, hn⟩ := right_spec hr
    have hl : (rowsF r c l).length = r.toNat := by simp [rowsF, hr]
    simp -implicitDefEqProofs only [rkA, rkB, stepA, valA, simprocAttr]
    refine gB_dec ?_ ?_ <;> intro hc <;> simp -implicitDefEqProofs only [hc, rkA, rkB, stepA, valA, simprocAttr]
    · refine call_fn rfl rfl rfl (ok150 ex r c i l) ?_
      simp -implicitDefEqProofs only [rkA, rkB, stepA, valA, simprocAttr]
      have hx : (rowsF r c l)[i]? = some [num (i : Int), .sl false (frs (rowF r c l i))] := by
        have : i < r.toNat := by omega
        simp [rowsF, hr, this]
      have hw := wrapped (x := (i : Int) + 1) (by omega) (by omega)
      refine call_yield rfl rfl rfl rfl rfl hx ?_ ?_
      · simp -implicitDefEqProofs only [hw, rkA, rkB, stepA, valA, simprocAttr]
        refine loopK_of (m' := m - 1) (by omega) ?_
        simp -implicitDefEqProofs only [rkA, rkB, stepA, valA, simprocAttr]
        exact ⟨i + 1, by omega, by simp only [Int.natCast_add, Int.natCast_one]⟩
      · simp -implicitDefEqProofs only [rkA, rkB, stepA, valA, simprocAttr]
        exact .inr trivial
    · omega

theorem ok75 (ex : Bool) (r c : Int) (l : List Fr) : Ok Tryz.prog 75 [matV ex r c (frs l)] (.fn (.func 149) [.vp [num r, num c, .sl ex (frs l)]]) := by
  refine ok_fn mixed Tryz.func75 (code := ?_) (h := h75) ?_ k75 ?_
  rotate_left
  · exact rfl
  unfold h75 initS
  simp -implicitDefEqProofs only [rkA, rkB, stepA, valA, simprocAttr, Tryz.ntmps75, Tryz.results75]

def pairsF (a b : List Fr) : List (List PV) := (List.zip a b).map fun p => [frV p.1, frV p.2]

theorem it229 (ea eb : Bool) (a b : List Fr) (ha : a.length ≤ 4398046511104) (hb : b.length ≤ 4398046511104) : IterOk Tryz.prog (.fn (.func 229) [.vp [.sl ea (frs a)], .vp [.sl eb (frs b)]]) (pairsF a b) := by
  refine iter_fn mixed Tryz.func229 (code := ?_) (h := h229) ?_ k229 ?_ ?_
  rotate_left
  · exact rfl
  · exact rfl
  intro yl
  unfold h229 initS
  simp -implicitDefEqProofs only [rkA, rkB, stepA, valA, simprocAttr, Tryz.ntmps229]
  have hl : (pairsF a b).length = min a.length b.length := by simp [pairsF]
  have hx0 : ∀ (i : Nat) (ha : i < a.length) (hb : i < b.length), (pairsF a b)[i]? = some [frV a[i], frV b[i]] := fun i h1 h2 => by
    rw [pairsF, List.getElem?_map, List.getElem?_eq_getElem (by simp; omega), Option.map_some, List.getElem_zip]
  have hmin : (if ((frs b).length : Int) < ((frs a).length : Int) then ((frs b).length : Int) else ((frs a).length : Int)) = ((min a.length b.length : Nat) : Int) := by
    simp only [List.length_map]
    split <;> omega
  simp only [hmin]
  refine wp_loop (fun m s => ∃ i : Nat, i + m = (pairsF a b).length ∧ s = ⟨[.v (.fn (.yield yl) []), .v (.vp [.sl ea (frs a)]), .v (.vp [.sl eb (frs b)]), jk, jk, jk, jk, jk, jk, nt ((min a.length b.length : Nat) : Int), nt i, jk, jk, jk, jk, jk, jk, jk, jk, jk, jk, jk, jk, jk, jk], [], [], [], [], i, nomem⟩) (pairsF a b).length ?_ ?_
  · simp -implicitDefEqProofs only [rkA, rkB, stepA, valA, simprocAttr]
    exact ⟨0, by simp, rfl⟩
  rintro m s ⟨i, hi, rfl⟩
  simp -implicitDefEqProofs only [rkA, rkB, stepA, valA, simprocAttr]
  refine gB_dec ?_ ?_ <;> intro hc <;> simp -implicitDefEqProofs only [hc, rkA, rkB, stepA, valA, simprocAttr]
  · have h1 : i < a.length := by omega
    have h2 : i < b.length := by omega
    have h0 : (0 : Int) ≤ (i : Int) := by omega
    have g1 : (frs a)[i]? = some (frV a[i]) := by simp [h1]
    have g2 : (frs b)[i]? = some (frV b[i]) := by simp [h2]
    simp -implicitDefEqProofs only [h0, Int.toNat_natCast, g1, g2, rkA, rkB, stepA, valA, simprocAttr]
    have hw := wrapped (x := (i : Int) + 1) (by omega) (by omega)
    refine call_yield rfl rfl rfl rfl rfl (hx0 i h1 h2) ?_ ?_
    · simp -implicitDefEqProofs only [hw, rkA, rkB, stepA, valA, simprocAttr]
      refine loopK_of (m' := m - 1) (by omega) ?_
      simp -implicitDefEqProofs only [rkA, rkB, stepA, valA, simprocAttr]
      exact ⟨i + 1, by omega, by simp only [Int.natCast_add, Int.natCast_one]⟩
    · simp -implicitDefEqProofs only [rkA, rkB, stepA, valA, simprocAttr]
      exact .inr trivial
  · omega

theorem ok221 (ea eb : Bool) (a b : List Fr) : Ok Tryz.prog 221 [.sl ea (frs a), .sl eb (frs b)] (.fn (.func 229) [.vp [.sl ea (frs a)], .vp [.sl eb (frs b)]]) := by
  refine ok_fn mixed Tryz.func221 (code := ?_) (h := h221) ?_ k221 ?_
  rotate_left
  · exact rfl
  unfold h221 initS
  simp -implicitDefEqProofs only [rkA, rkB, stepA, valA, simprocAttr, Tryz.ntmps221, Tryz.results221]
end Go.Proofs.YtambpjbpdackfaaGreat.A.E


set_option linter.unusedVariables false
set_option linter.unusedSimpArgs false
set_option maxRecDepth 100000
namespace Go.Proofs.YtambpjbpdackfaaGreat.A.E
open Go Go.RowKit Go.Shelf

theorem ok204 (k : Nat) (F : Fr → Fr → Fr) (hF : ∀ x y, Ok Tryz.prog k [frV x, frV y] (frV (F x y))) (ea eb : Bool) (a b : List Fr) (ha : a.length ≤ 4398046511104) (hb : b.length ≤ 4398046511104) :
    Ok Tryz.prog 204 [.sl ea (frs a), .sl eb (frs b), .fn (.func k) []] (.sl false (frs (List.zipWith F a b))) := by
  refine ok_fn mixed Tryz.func204 (code := ?_) (h := h204) ?_ k204 ?_
  rotate_left
  · exact rfl
  unfold h204 initS
  simp -implicitDefEqProofs only [rkA, rkB, stepA, valA, simprocAttr, Tryz.ntmps204, Tryz.results204]
  refine call_fn rfl rfl rfl (ok221 ea eb a b) ?_
  simp -implicitDefEqProofs only [rkA, rkB, stepA, valA, simprocAttr]
  have hlz : (List.zipWith F a b).length = min a.length b.length := by simp
  have hpl : (pairsF a b).length = min a.length b.length := by simp [pairsF]
  refine wp_rf (items := pairsF a b) rfl (it229 ea eb a b ha hb) (fun i s => i ≤ (pairsF a b).length ∧ s = ⟨[], [(5, [.v (.fn (.func k) [])]), (7, [.acc 1007 (frs ((List.zipWith F a b).take i))])], [], [(6, 0), (1007, i)],
    [[.v (.sl ea (frs a)), .v (.sl eb (frs b)), .v (.fn (.func k) []), jk, jk, .ptr 5 0, .acc 6 [], .ptr 7 0, jk, jk, .v (.sl ea (frs a)), .v (.sl eb (frs b)), .v (.fn (.func 229) [.vp [.sl ea (frs a)], .vp [.sl eb (frs b)]]), jk, jk, jk, jk, jk, jk, jk, jk, jk, jk]], 0, nomem⟩) ?_ ?_ ?_
  · simp -implicitDefEqProofs only [rkA, rkB, stepA, valA, simprocAttr]
    exact Nat.zero_le _
  · rintro i x' s' R hx ⟨hi, rfl⟩ hR
    have hlt : i < (pairsF a b).length := (List.getElem?_eq_some_iff.1 hx).1
    have h1 : i < a.length := by omega
    have h2 : i < b.length := by omega
    have hx' : x' = [frV a[i], frV b[i]] := by
      rw [pairsF, List.getElem?_map, List.getElem?_eq_getElem (by simp; omega), Option.map_some, List.getElem_zip] at hx
      exact (Option.some.inj hx).symm
    subst hx'
    refine ⟨rfl, ?_⟩
    simp -implicitDefEqProofs only [rkA, rkB, stepA, valA, simprocAttr]
    refine call_fn rfl rfl rfl (hF a[i] b[i]) ?_
    have hfit : fits 4 32 (frs ((List.zipWith F a b).take i)) [frV (F a[i] b[i])] = true := fits_frs (l := [F a[i] b[i]]) (by simp; omega)
    have hl : (frs ((List.zipWith F a b).take i)).length = i := by simp; omega
    simp -implicitDefEqProofs only [hfit, hl, rkA, rkB, stepA, valA, simprocAttr]
    refine hR _ ⟨by omega, ?_⟩
    rw [List.take_succ_eq_append_getElem (by simp; omega)]
    simp only [frs, List.map_append, List.map_cons, List.map_nil, List.getElem_zipWith]
  · rintro s' ⟨hi, rfl⟩
    simp -implicitDefEqProofs only [rkA, rkB, stepA, valA, simprocAttr]
    rw [List.take_of_length_le (by simp; omega)]

def dotF (a b : List Fr) : Fr := sumF (List.zipWith mulF a b)

theorem ok151 (ea eb : Bool) (a b : List Fr) (ha : a.length ≤ 4398046511104) (hb : b.length ≤ 4398046511104) : Ok Tryz.prog 151 [.sl ea (frs a), .sl eb (frs b)] (frV (dotF a b)) := by
  refine ok_fn mixed Tryz.func151 (code := ?_) (h := h151) ?_ k151 ?_
  rotate_left
  · exact rfl
  unfold h151 initS
  simp -implicitDefEqProofs only [rkA, rkB, stepA, valA, simprocAttr, Tryz.ntmps151, Tryz.results151]
  refine call_fn rfl rfl rfl (ok204 205 mulF ok205 ea eb a b ha hb) ?_
  simp -implicitDefEqProofs only [rkA, rkB, stepA, valA, simprocAttr]
  refine call_fn rfl rfl rfl (ok203 false (List.zipWith mulF a b) (by simp; omega)) ?_
  simp -implicitDefEqProofs only [rkA, rkB, stepA, valA, simprocAttr, dotF]

/-- A matrix, turned. -/
def turnF (r c : Int) (l : List Fr) : List Fr := if right r c l.length = true then (List.range c.toNat).flatMap fun (k : Nat) => (List.range r.toNat).map fun (i : Nat) => atF r c l i k else []

/-- Of a turned matrix, what is told so far. -/
def turnP (r c : Int) (l : List Fr) (k i : Nat) : List Fr := (List.range k).flatMap (fun (k : Nat) => (List.range r.toNat).map fun (i : Nat) => atF r c l i k) ++ (List.range i).map fun (i : Nat) => atF r c l i k
theorem turnP_succ (r c : Int) (l : List Fr) (k i : Nat) : turnP r c l k (i + 1) = turnP r c l k i ++ [atF r c l i k] := by
  simp [turnP, List.range_succ]
theorem turnP_next (r c : Int) (l : List Fr) (k : Nat) : turnP r c l k r.toNat = turnP r c l (k + 1) 0 := by
  simp [turnP, List.range_succ]
theorem turnP_length (r c : Int) (l : List Fr) (k i : Nat) : (turnP r c l k i).length = k * r.toNat + i := by
  simp [turnP, List.length_flatMap, List.map_const', List.sum_replicate_nat]

theorem ok161 (ex : Bool) (r c : Int) (l : List Fr) : Ok Tryz.prog 161 [matV ex r c (frs l)] (if right r c l.length = true then matV false c r (frs (turnF r c l)) else matNil) := by
  refine ok_fn mixed Tryz.func161 (code := ?_) (h := h161) ?_ k161 ?_
  rotate_left
  · exact rfl
  unfold h161 initS
  simp -implicitDefEqProofs only [rkA, rkB, stepA, valA, simprocAttr, Tryz.ntmps161, Tryz.results161]
  refine call_fn rfl rfl rfl (ok72 ex r c (frs l)) ?_
  have e : (frs l).length = l.length := by simp
  rw [e]
  cases hr : right r c l.length with
  | false => simp -implicitDefEqProofs only [rkA, rkB, stepA, valA, simprocAttr]
  | true =>
    obtain ⟨r1, r2, c1, c2, hn⟩ := right_spec hr
    simp -implicitDefEqProofs only [rkA, rkB, stepA, valA, simprocAttr]
    refine wp_loop (fun m s => ∃ k : Nat, k + m = c.toNat ∧ s = ⟨[jk, .ptr 1 0, .ptr 2 0, .ptr 3 0, jk, jk, jk, jk, jk, jk, jk, jk, jk, jk, jk, jk, .v (num c), nt k, jk, jk, jk, jk, jk, jk, jk, jk, jk, jk, jk, jk, jk, jk, jk, jk, jk, jk, jk], [(1, [.v (num r), .v (num c), .v (.sl ex (frs l))]), (2, [nt 0, nt 0, .acc 3002 []]), (3, [nt c, nt r, .acc 15003 (frs (turnP r c l k 0))])], [],
      [(3002, 0), (3003, 0), (15003, (turnP r c l k 0).length)], [], 0, nomem⟩) c.toNat ?_ ?_
    · simp -implicitDefEqProofs only [rkA, rkB, stepA, valA, simprocAttr]
      exact ⟨0, by simp, rfl⟩
    rintro m s ⟨k, hk, rfl⟩
    simp -implicitDefEqProofs only [rkA, rkB, stepA, valA, simprocAttr]
    refine gB_dec ?_ ?_ <;> intro hc <;> simp -implicitDefEqProofs only [hc, rkA, rkB, stepA, valA, simprocAttr]
    · refine wp_loop (fun m s => ∃ i : Nat, i + m = r.toNat ∧ s = ⟨[jk, .ptr 1 0, .ptr 2 0, .ptr 3 0, nt k, jk, jk, jk, jk, jk, jk, jk, jk, jk, jk, jk, .v (num c), nt k, jk, jk, jk, nt r, nt i, jk, jk, jk, jk, jk, jk, jk, jk, jk, jk, jk, jk, jk, jk], [(1, [.v (num r), .v (num c), .v (.sl ex (frs l))]), (2, [nt 0, nt 0, .acc 3002 []]), (3, [nt c, nt r, .acc 15003 (frs (turnP r c l k i))])], [],
        [(3002, 0), (3003, 0), (15003, (turnP r c l k i).length)], [], 0, nomem⟩) r.toNat ?_ ?_
      · simp -implicitDefEqProofs only [rkA, rkB, stepA, valA, simprocAttr]
        exact ⟨0, by simp, rfl⟩
      rintro m' s ⟨i, hi, rfl⟩
      simp -implicitDefEqProofs only [rkA, rkB, stepA, valA, simprocAttr]
      have hlen := turnP_length r c l k i
      have hb : k * r.toNat + i ≤ 256 := by
        have : (k + 1) * r.toNat ≤ 16 * 16 := Nat.mul_le_mul (by omega) (by omega)
        rw [Nat.add_mul] at this
        omega
      refine gB_dec ?_ ?_ <;> intro hc2 <;> simp -implicitDefEqProofs only [hc2, rkA, rkB, stepA, valA, simprocAttr]
      · refine call_fn rfl rfl rfl (ok89 ex r c i k l) ?_
        have hfit : fits 4 32 (frs (turnP r c l k i)) [frV (atF r c l i k)] = true := fits_frs (l := [atF r c l i k]) (by simp only [List.length_cons, List.length_nil]; omega)
        have hl : (frs (turnP r c l k i)).length = (turnP r c l k i).length := by simp
        have hw := wrapped (x := (i : Int) + 1) (by omega) (by omega)
        simp -implicitDefEqProofs only [hfit, hl, hw, rkA, rkB, stepA, valA, simprocAttr]
        refine loopK_of (m' := m' - 1) (by omega) ?_
        simp -implicitDefEqProofs only [rkA, rkB, stepA, valA, simprocAttr]
        refine ⟨i + 1, by omega, ?_⟩
        rw [turnP_succ]
        simp only [frs, List.map_append, List.map_cons, List.map_nil, List.length_append, List.length_cons, List.length_nil, Int.natCast_add, Int.natCast_one]
      · have hw := wrapped (x := (k : Int) + 1) (by omega) (by omega)
        simp -implicitDefEqProofs only [hw, rkA, rkB, stepA, valA, simprocAttr]
        refine loopK_of (m' := m - 1) (by omega) ?_
        simp -implicitDefEqProofs only [rkA, rkB, stepA, valA, simprocAttr]
        refine ⟨k + 1, by omega, ?_⟩
        have hi2 : i = r.toNat := by omega
        rw [hi2, turnP_next]
        simp only [Int.natCast_add, Int.natCast_one]
    · have hk2 : k = c.toNat := by omega
      have : turnF r c l = turnP r c l k 0 := by
        rw [hk2]
        simp [turnF, hr, turnP]
      rw [this]
end Go.Proofs.YtambpjbpdackfaaGreat.A.E


set_option linter.unusedVariables false
set_option linter.unusedSimpArgs false
set_option maxRecDepth 100000
namespace Go.Proofs.YtambpjbpdackfaaGreat.A.E
open Go Go.RowKit Go.Shelf

theorem turnF_length {r c : Int} {l : List Fr} (h : right r c l.length = true) : (turnF r c l).length = c.toNat * r.toNat := by
  have : turnF r c l = turnP r c l c.toNat 0 := by simp [turnF, h, turnP]
  rw [this, turnP_length, Nat.add_zero]

theorem right_turn {r c : Int} {l : List Fr} (h : right r c l.length = true) : right c r (turnF r c l).length = true := by
  obtain ⟨r1, r2, c1, c2, hn⟩ := right_spec h
  rw [turnF_length h]
  simp only [right, Bool.and_eq_true, decide_eq_true_eq, beq_iff_eq]
  refine ⟨by omega, by omega, ?_⟩
  rw [Int.natCast_mul, Int.toNat_of_nonneg (by omega), Int.toNat_of_nonneg (by omega)]

section
variable {α β : Type} (f : α → α → β)
end

/-- All rows. -/
def allF (r c : Int) (l : List Fr) : List (List Fr) := (List.range r.toNat).map fun (i : Nat) => rowF r c l (i : Int)
def prodF (r m c : Int) (a b : List Fr) : List Fr := (allF r m a).flatMap fun x => (allF c m (turnF m c b)).map (dotF x)

theorem allF_length (r c : Int) (l : List Fr) : (allF r c l).length = r.toNat := by simp [allF]
theorem rowsF_all {r c : Int} {l : List Fr} (h : right r c l.length = true) {i : Nat} {x : List PV} (hx : (rowsF r c l)[i]? = some x) : i < r.toNat ∧ x = [num i, .sl false (frs (rowF r c l i))] ∧ (allF r c l)[i]? = some (rowF r c l i) := by
  obtain ⟨hi, rfl⟩ := List.getElem?_eq_some_iff.1 hx
  have hi' : i < r.toNat := by simpa [rowsF, h] using hi
  refine ⟨hi', by simp [rowsF, h], by simp [allF, hi']⟩
theorem rowsF_length {r c : Int} {l : List Fr} (h : right r c l.length = true) : (rowsF r c l).length = r.toNat := by simp [rowsF, h]
theorem rowF_length {r c : Int} {l : List Fr} (i : Int) : (rowF r c l i).length ≤ l.length := by
  unfold rowF
  split <;> simp <;> omega

theorem ok175 (ea eb : Bool) (r m m2 c : Int) (a b : List Fr) : Ok Tryz.prog 175 [matV ea r m (frs a), matV eb m2 c (frs b)]
    (if right r m a.length = true ∧ right m2 c b.length = true ∧ m = m2 then .tup [matV false r c (frs (prodF r m c a b)), tru true] else .tup [matNil, tru false]) := by
  refine ok_fn mixed Tryz.func175 (code := ?_) (h := h175) ?_ k175 ?_
  rotate_left
  · exact rfl
  unfold h175 initS
  simp -implicitDefEqProofs only [rkA, rkB, stepA, valA, simprocAttr, Tryz.ntmps175, Tryz.results175]
  refine call_fn rfl rfl rfl (ok72 ea r m (frs a)) ?_
  have e : (frs a).length = a.length := by simp
  have e' : (frs b).length = b.length := by simp
  rw [e]
  cases hr : right r m a.length with
  | false =>
    simp -implicitDefEqProofs only [rkA, rkB, stepA, valA, simprocAttr]
  | true =>
    simp -implicitDefEqProofs only [rkA, rkB, stepA, valA, simprocAttr]
    refine call_fn rfl rfl rfl (ok72 eb m2 c (frs b)) ?_
    rw [e']
    cases hr2 : right m2 c b.length with
    | false => simp -implicitDefEqProofs only [rkA, rkB, stepA, valA, simprocAttr]
    | true =>
      obtain ⟨r1, r2, c1, c2, hn⟩ := right_spec hr
      obtain ⟨m1, m3, d1, d2, hn2⟩ := right_spec hr2
      simp -implicitDefEqProofs only [rkA, rkB, stepA, valA, simprocAttr]
      refine gB_bool ?_ ?_ <;> intro hb
      · have hm : m ≠ m2 := by simpa using hb
        simp -implicitDefEqProofs only [hm, rkA, rkB, stepA, valA, simprocAttr]
      · have hm : m = m2 := by simpa using hb
        clear hb
        subst hm
        simp -implicitDefEqProofs only [rkA, rkB, stepA, valA, simprocAttr]
        have h25 := ok161 eb m c b
        rw [if_pos hr2] at h25
        refine call_fn rfl rfl rfl (h25) ?_
        simp -implicitDefEqProofs only [rkA, rkB, stepA, valA, simprocAttr]
        refine call_fn rfl rfl rfl (ok75 ea r m a) ?_
        simp -implicitDefEqProofs only [rkA, rkB, stepA, valA, simprocAttr]
        have hrt := right_turn hr2
        have hpl : ∀ i k, i < r.toNat → k ≤ c.toNat → (prodP dotF (allF r m a) (allF c m (turnF m c b)) i k).length = i * c.toNat + k := fun i k hi hk => by
          rw [prodP_length dotF (by rw [allF_length]; exact hi) (by rw [allF_length]; exact hk), allF_length]
        have hbig : ∀ i k, i < r.toNat → k ≤ c.toNat → i * c.toNat + k ≤ 256 := fun i k hi hk => by
          have : (i + 1) * c.toNat ≤ 16 * 16 := Nat.mul_le_mul (by omega) (by omega)
          rw [Nat.add_mul] at this
          omega
        have hal : a.length ≤ 256 := by
          have : r * m ≤ 16 * 16 := Int.mul_le_mul r2 c2 (by omega) (by omega)
          omega
        have hbl : (turnF m c b).length ≤ 256 := by
          have h1 := turnF_length hr2
          have : c.toNat * m.toNat ≤ 16 * 16 := Nat.mul_le_mul (by omega) (by omega)
          omega
        refine wp_rf' (items := rowsF r m a) rfl (it149 ea r m a) (fun sv i s => i ≤ r.toNat ∧ s = ⟨[], [(2, [nt r, nt m, .v (.sl ea (frs a))]), (3, [nt m, nt c, .v (.sl eb (frs b))]), (4, [nt 0, nt 0, .acc 3004 []]), (6, [nt r, nt c, .acc 15006 (frs (prodP dotF (allF r m a) (allF c m (turnF m c b)) i 0))]),
          (7, [nt c, nt m, .v (.sl false (frs (turnF m c b)))])], [], [(1009, 0), (3004, 0), (3006, 0), (3007, 0), (15006, (prodP dotF (allF r m a) (allF c m (turnF m c b)) i 0).length)], sv, 0, nomem⟩) ?_ ?_ ?_
        · simp -implicitDefEqProofs only [rkA, rkB, stepA, valA, simprocAttr]
          exact ⟨Nat.zero_le _, by rw [prodP_zero]; exact rfl⟩
        · rintro i x' s' R hx ⟨hi, rfl⟩ hR
          obtain ⟨hlt, rfl, hxi⟩ := rowsF_all hr hx
          refine ⟨rfl, ?_⟩
          simp -implicitDefEqProofs only [rkA, rkB, stepA, valA, simprocAttr]
          refine call_fn rfl rfl rfl (ok75 false c m (turnF m c b)) ?_
          simp -implicitDefEqProofs only [rkA, rkB, stepA, valA, simprocAttr]
          refine wp_rf' (items := rowsF c m (turnF m c b)) rfl (it149 false c m (turnF m c b)) (fun sv k s => k ≤ c.toNat ∧ s = ⟨[], [(2, [nt r, nt m, .v (.sl ea (frs a))]), (3, [nt m, nt c, .v (.sl eb (frs b))]), (4, [nt 0, nt 0, .acc 3004 []]), (6, [nt r, nt c, .acc 15006 (frs (prodP dotF (allF r m a) (allF c m (turnF m c b)) i k))]),
            (7, [nt c, nt m, .v (.sl false (frs (turnF m c b)))]), (9, [.v (.sl false (frs (rowF r m a i)))])], [], [(1009, 0), (3004, 0), (3006, 0), (3007, 0), (15006, (prodP dotF (allF r m a) (allF c m (turnF m c b)) i k).length)], sv, 0, nomem⟩) ?_ ?_ ?_
          · simp -implicitDefEqProofs only [rkA, rkB, stepA, valA, simprocAttr]
            exact Nat.zero_le _
          · rintro k x' s' R2 hx2 ⟨hk, rfl⟩ hR2
            obtain ⟨hlt2, rfl, hyk⟩ := rowsF_all hrt hx2
            refine ⟨rfl, ?_⟩
            simp -implicitDefEqProofs only [rkA, rkB, stepA, valA, simprocAttr]
            have hra := rowF_length (r := r) (c := m) (l := a) i
            have hrb := rowF_length (r := c) (c := m) (l := turnF m c b) k
            refine call_fn rfl rfl rfl (ok151 false false (rowF r m a i) (rowF c m (turnF m c b) k) (by omega) (by omega)) ?_
            have h1 := hpl i k hlt (by omega)
            have h2 := hbig i k hlt (by omega)
            have hfit : fits 4 32 (frs (prodP dotF (allF r m a) (allF c m (turnF m c b)) i k)) [frV (dotF (rowF r m a i) (rowF c m (turnF m c b) k))] = true := fits_frs (l := [dotF (rowF r m a i) (rowF c m (turnF m c b) k)]) (by simp only [List.length_cons, List.length_nil]; omega)
            have hl : (frs (prodP dotF (allF r m a) (allF c m (turnF m c b)) i k)).length = (prodP dotF (allF r m a) (allF c m (turnF m c b)) i k).length := by simp
            simp -implicitDefEqProofs only [hfit, hl, rkA, rkB, stepA, valA, simprocAttr]
            refine hR2 _ ⟨by omega, ?_⟩
            rw [prodP_succ dotF hxi hyk]
            simp only [frs, List.map_append, List.map_cons, List.map_nil, List.length_append, List.length_cons, List.length_nil]
          · rintro s' ⟨hk, rfl⟩
            simp -implicitDefEqProofs only [rkA, rkB, stepA, valA, simprocAttr]
            refine hR _ ⟨by omega, ?_⟩
            have hnx := prodP_next dotF (xs := allF r m a) (ys := allF c m (turnF m c b)) (i := i) (by rw [allF_length]; exact hlt)
            rw [allF_length] at hnx
            rw [rowsF_length hrt, hnx]
        · rintro s' ⟨hi, rfl⟩
          simp -implicitDefEqProofs only [rkA, rkB, stepA, valA, simprocAttr]
          have : prodF r m c a b = prodP dotF (allF r m a) (allF c m (turnF m c b)) (rowsF r m a).length 0 := by
            rw [prodP_zero, rowsF_length hr, ← allF_length r m a, List.take_length]
            rfl
          rw [this]
end Go.Proofs.YtambpjbpdackfaaGreat.A.E


set_option linter.unusedVariables false
set_option linter.unusedSimpArgs false
namespace Go.Proofs.YtambpjbpdackfaaGreat.A.E
open Go Go.RowKit Go.Shelf

theorem rowF_eq {r c : Int} {l : List Fr} (d : Fr) (h : right r c l.length = true) {i : Nat} (hi : i < r.toNat) : rowF r c l i = (List.range c.toNat).map fun j => l.getD (i * c.toNat + j) d := by
  obtain ⟨r1, r2, c1, c2, hn⟩ := right_spec h
  obtain ⟨R, rfl⟩ := Int.eq_ofNat_of_zero_le (show 0 ≤ r by omega)
  obtain ⟨K, rfl⟩ := Int.eq_ofNat_of_zero_le (show 0 ≤ c by omega)
  simp only [Int.toNat_natCast] at hi ⊢
  unfold rowF
  rw [if_pos ⟨h, by omega, by omega⟩]
  have e1 : (((i : Int) + 1) * (K : Int)).toNat = (i + 1) * K := by
    have : ((i : Int) + 1) * (K : Int) = (((i + 1) * K : Nat) : Int) := by simp
    rw [this, Int.toNat_natCast]
  have e2 : ((i : Int) * (K : Int)).toNat = i * K := by
    have : (i : Int) * (K : Int) = ((i * K : Nat) : Int) := by simp
    rw [this, Int.toNat_natCast]
  rw [e1, e2]
  refine stretch l d i K ?_
  have h1 : (i + 1) * K ≤ R * K := Nat.mul_le_mul_right _ hi
  have h2 : ((R * K : Nat) : Int) = (l.length : Int) := by rw [hn]; simp
  omega

theorem atF_eq {r c : Int} {l : List Fr} (h : right r c l.length = true) {i k : Nat} (hi : i < r.toNat) (hk : k < c.toNat) : atF r c l i k = l.getD (i * c.toNat + k) ⟨0, 0, 0, false⟩ := by
  obtain ⟨r1, r2, c1, c2, hn⟩ := right_spec h
  unfold atF
  rw [if_pos ⟨h, by omega, by omega, by omega, by omega⟩]
  congr 1
  obtain ⟨K, rfl⟩ := Int.eq_ofNat_of_zero_le (show 0 ≤ c by omega)
  have : (i : Int) * (K : Int) + (k : Int) = ((i * K + k : Nat) : Int) := by simp
  rw [this, Int.toNat_natCast, Int.toNat_natCast]

end Go.Proofs.YtambpjbpdackfaaGreat.A.E


set_option linter.unusedVariables false
set_option linter.unusedSimpArgs false
set_option maxRecDepth 100000
namespace Go.Proofs.YtambpjbpdackfaaGreat.A
open Go Go.RowKit Go.Shelf

/-- A matrix applied to a row. -/
def applyF (r c : Int) (l v : List Fr) : List Fr := (allF r c l).map (dotF · v)

end Go.Proofs.YtambpjbpdackfaaGreat.A


set_option linter.unusedVariables false
set_option linter.unusedSimpArgs false
set_option maxRecDepth 100000
namespace Go.Proofs.YtambpjbpdackfaaGreat.A.E
open Go Go.RowKit Go.Shelf

/-- A matrix applied to a row. -/
def applyF (r c : Int) (l v : List Fr) : List Fr := (allF r c l).map (dotF · v)

theorem ok174 (ex ev : Bool) (r c : Int) (l v : List Fr) (hv : v.length ≤ 4398046511104) : Ok Tryz.prog 174 [matV ex r c (frs l), .sl ev (frs v)]
    (if right r c l.length = true ∧ (v.length : Int) = c then .tup [.sl false (frs (applyF r c l v)), tru true] else .tup [.sl false [], tru false]) := by
  refine ok_fn mixed Tryz.func174 (code := ?_) (h := h174) ?_ k174 ?_
  rotate_left
  · exact rfl
  unfold h174 initS
  simp -implicitDefEqProofs only [rkA, rkB, stepA, valA, simprocAttr, Tryz.ntmps174, Tryz.results174]
  refine call_fn rfl rfl rfl (ok72 ex r c (frs l)) ?_
  have e : (frs l).length = l.length := by simp
  have ev' : (frs v).length = v.length := by simp
  rw [e]
  cases hr : right r c l.length with
  | false => simp -implicitDefEqProofs only [rkA, rkB, stepA, valA, simprocAttr]
  | true =>
    obtain ⟨r1, r2, c1, c2, hn⟩ := right_spec hr
    simp -implicitDefEqProofs only [ev', rkA, rkB, stepA, valA, simprocAttr]
    refine gB_bool ?_ ?_ <;> intro hb
    · have hm : ¬ (v.length : Int) = c := by simpa using hb
      simp -implicitDefEqProofs only [hm, rkA, rkB, stepA, valA, simprocAttr]
    · have hm : (v.length : Int) = c := by simpa using hb
      clear hb
      simp -implicitDefEqProofs only [hm, rkA, rkB, stepA, valA, simprocAttr]
      refine call_fn rfl rfl rfl (ok75 ex r c l) ?_
      simp -implicitDefEqProofs only [rkA, rkB, stepA, valA, simprocAttr]
      have hal : (applyF r c l v).length = r.toNat := by simp [applyF, allF]
      have hll : l.length ≤ 256 := by
        have : r * c ≤ 16 * 16 := Int.mul_le_mul r2 c2 (by omega) (by omega)
        omega
      refine wp_rf' (items := rowsF r c l) rfl (it149 ex r c l) (fun sv i s => i ≤ r.toNat ∧ s = ⟨[], [(2, [nt r, nt c, .v (.sl ex (frs l))]), (3, [.v (.sl ev (frs v))]), (6, [.acc 1006 (frs ((applyF r c l v).take i))])], [], [(4, 0), (1006, i)], sv, 0, nomem⟩) ?_ ?_ ?_
      · simp -implicitDefEqProofs only [rkA, rkB, stepA, valA, simprocAttr]
        exact Nat.zero_le _
      · rintro i x' s' R hx ⟨hi, rfl⟩ hR
        obtain ⟨hlt, rfl, hxi⟩ := rowsF_all hr hx
        refine ⟨rfl, ?_⟩
        simp -implicitDefEqProofs only [rkA, rkB, stepA, valA, simprocAttr]
        have hra := rowF_length (r := r) (c := c) (l := l) i
        refine call_fn rfl rfl rfl (ok151 false ev (rowF r c l i) v (by omega) hv) ?_
        have hfit : fits 4 32 (frs ((applyF r c l v).take i)) [frV (dotF (rowF r c l i) v)] = true := fits_frs (l := [dotF (rowF r c l i) v]) (by simp only [List.length_cons, List.length_nil, List.length_take]; omega)
        have hl : (frs ((applyF r c l v).take i)).length = i := by simp; omega
        simp -implicitDefEqProofs only [hfit, hl, rkA, rkB, stepA, valA, simprocAttr]
        refine hR _ ⟨by omega, ?_⟩
        have hai : (applyF r c l v)[i]'(by omega) = dotF (rowF r c l i) v := by simp [applyF, allF]
        rw [List.take_succ_eq_append_getElem (by omega), hai]
        simp only [frs, List.map_append, List.map_cons, List.map_nil]
      · rintro s' ⟨hi, rfl⟩
        simp -implicitDefEqProofs only [rkA, rkB, stepA, valA, simprocAttr]
        rw [rowsF_length hr, List.take_of_length_le (by omega)]

end Go.Proofs.YtambpjbpdackfaaGreat.A.E


set_option linter.unusedVariables false
set_option linter.unusedSimpArgs false
set_option maxRecDepth 100000
namespace Go.Proofs.YtambpjbpdackfaaGreat.A.E
open Go Go.RowKit Go.Shelf

theorem methSub : Meth Tryz.prog 28 "Sub" 254 := by
  intro v xs w
  rfl

theorem ok214 (a b : Fr) : Ok Tryz.prog 214 [frV a, frV b] (frV (addF a b)) := by
  refine ok_fn mixed Tryz.func214 (code := ?_) (h := h214) ?_ k214 ?_
  rotate_left
  · exact rfl
  unfold h214 initS
  simp -implicitDefEqProofs only [rkA, rkB, stepA, valA, simprocAttr, Tryz.ntmps214, Tryz.results214]
  refine call_meth rfl rfl methAdd (ok63 a b) ?_
  simp -implicitDefEqProofs only [rkA, rkB, stepA, valA, simprocAttr]
theorem ok206 (a b : Fr) : Ok Tryz.prog 206 [frV a, frV b] (frV (subF a b)) := by
  refine ok_fn mixed Tryz.func206 (code := ?_) (h := h206) ?_ k206 ?_
  rotate_left
  · exact rfl
  unfold h206 initS
  simp -implicitDefEqProofs only [rkA, rkB, stepA, valA, simprocAttr, Tryz.ntmps206, Tryz.results206]
  refine call_meth rfl rfl methSub (ok254 a b) ?_
  simp -implicitDefEqProofs only [rkA, rkB, stepA, valA, simprocAttr]
theorem ok163 (ea eb : Bool) (a b : List Fr) (ha : a.length ≤ 4398046511104) (hb : b.length ≤ 4398046511104) : Ok Tryz.prog 163 [.sl ea (frs a), .sl eb (frs b)] (.sl false (frs (List.zipWith addF a b))) := by
  refine ok_fn mixed Tryz.func163 (code := ?_) (h := h163) ?_ k163 ?_
  rotate_left
  · exact rfl
  unfold h163 initS
  simp -implicitDefEqProofs only [rkA, rkB, stepA, valA, simprocAttr, Tryz.ntmps163, Tryz.results163]
  refine call_fn rfl rfl rfl (ok204 214 addF ok214 ea eb a b ha hb) ?_
  simp -implicitDefEqProofs only [rkA, rkB, stepA, valA, simprocAttr]
theorem ok152 (ea eb : Bool) (a b : List Fr) (ha : a.length ≤ 4398046511104) (hb : b.length ≤ 4398046511104) : Ok Tryz.prog 152 [.sl ea (frs a), .sl eb (frs b)] (.sl false (frs (List.zipWith subF a b))) := by
  refine ok_fn mixed Tryz.func152 (code := ?_) (h := h152) ?_ k152 ?_
  rotate_left
  · exact rfl
  unfold h152 initS
  simp -implicitDefEqProofs only [rkA, rkB, stepA, valA, simprocAttr, Tryz.ntmps152, Tryz.results152]
  refine call_fn rfl rfl rfl (ok204 206 subF ok206 ea eb a b ha hb) ?_
  simp -implicitDefEqProofs only [rkA, rkB, stepA, valA, simprocAttr]

/-- Number by number. -/
theorem ok220 (k : Nat) (F : Fr → Fr → Fr) (hF : ∀ (ea eb : Bool) (a b : List Fr), a.length ≤ 4398046511104 → b.length ≤ 4398046511104 → Ok Tryz.prog k [.sl ea (frs a), .sl eb (frs b)] (.sl false (frs (List.zipWith F a b)))) (ea eb : Bool) (r c r2 c2 : Int) (a b : List Fr) :
    Ok Tryz.prog 220 [matV ea r c (frs a), matV eb r2 c2 (frs b), .fn (.func k) []] (if right r c a.length = true ∧ right r2 c2 b.length = true ∧ r = r2 ∧ c = c2 then .tup [matV false r c (frs (List.zipWith F a b)), tru true] else .tup [matNil, tru false]) := by
  refine ok_fn mixed Tryz.func220 (code := ?_) (h := h220) ?_ k220 ?_
  rotate_left
  · exact rfl
  unfold h220 initS
  simp -implicitDefEqProofs only [rkA, rkB, stepA, valA, simprocAttr, Tryz.ntmps220, Tryz.results220]
  refine call_fn rfl rfl rfl (ok72 ea r c (frs a)) ?_
  have e : (frs a).length = a.length := by simp
  have e' : (frs b).length = b.length := by simp
  rw [e]
  cases hr : right r c a.length with
  | false => simp -implicitDefEqProofs only [rkA, rkB, stepA, valA, simprocAttr]
  | true =>
    simp -implicitDefEqProofs only [rkA, rkB, stepA, valA, simprocAttr]
    refine call_fn rfl rfl rfl (ok72 eb r2 c2 (frs b)) ?_
    rw [e']
    cases hr2 : right r2 c2 b.length with
    | false => simp -implicitDefEqProofs only [rkA, rkB, stepA, valA, simprocAttr]
    | true =>
      have l1 := right_le hr
      have l2 := right_le hr2
      simp -implicitDefEqProofs only [rkA, rkB, stepA, valA, simprocAttr]
      by_cases h1 : r = r2
      · subst h1
        simp -implicitDefEqProofs only [bne_self_eq_false, rkA, rkB, stepA, valA, simprocAttr]
        by_cases h2 : c = c2
        · subst h2
          simp -implicitDefEqProofs only [bne_self_eq_false, rkA, rkB, stepA, valA, simprocAttr]
          refine call_fn rfl rfl rfl (hF ea eb a b (by omega) (by omega)) ?_
          simp -implicitDefEqProofs only [rkA, rkB, stepA, valA, simprocAttr]
        · have hne : (c != c2) = true := by simp [h2]
          simp -implicitDefEqProofs only [hne, h2, rkA, rkB, stepA, valA, simprocAttr]
      · have hne : (r != r2) = true := by simp [h1]
        simp -implicitDefEqProofs only [hne, h1, rkA, rkB, stepA, valA, simprocAttr]

theorem ok219 (ea eb : Bool) (r c r2 c2 : Int) (a b : List Fr) : Ok Tryz.prog 219 [matV ea r c (frs a), matV eb r2 c2 (frs b)]
    (if right r c a.length = true ∧ right r2 c2 b.length = true ∧ r = r2 ∧ c = c2 then .tup [matV false r c (frs (List.zipWith addF a b)), tru true] else .tup [matNil, tru false]) := by
  refine ok_fn mixed Tryz.func219 (code := ?_) (h := h219) ?_ k219 ?_
  rotate_left
  · exact rfl
  unfold h219 initS
  simp -implicitDefEqProofs only [rkA, rkB, stepA, valA, simprocAttr, Tryz.ntmps219, Tryz.results219]
  refine call_fn rfl rfl rfl (ok220 163 addF ok163 ea eb r c r2 c2 a b) ?_
  split <;> simp -implicitDefEqProofs only [rkA, rkB, stepA, valA, simprocAttr]
theorem ok191 (ea eb : Bool) (r c r2 c2 : Int) (a b : List Fr) : Ok Tryz.prog 191 [matV ea r c (frs a), matV eb r2 c2 (frs b)]
    (if right r c a.length = true ∧ right r2 c2 b.length = true ∧ r = r2 ∧ c = c2 then .tup [matV false r c (frs (List.zipWith subF a b)), tru true] else .tup [matNil, tru false]) := by
  refine ok_fn mixed Tryz.func191 (code := ?_) (h := h191) ?_ k191 ?_
  rotate_left
  · exact rfl
  unfold h191 initS
  simp -implicitDefEqProofs only [rkA, rkB, stepA, valA, simprocAttr, Tryz.ntmps191, Tryz.results191]
  refine call_fn rfl rfl rfl (ok220 152 subF ok152 ea eb r c r2 c2 a b) ?_
  split <;> simp -implicitDefEqProofs only [rkA, rkB, stepA, valA, simprocAttr]

def besP (r c c2 : Int) (a b : List Fr) (n : Nat) : List Fr := (List.range n).flatMap fun (i : Nat) => rowF r c a (i : Int) ++ rowF r c2 b (i : Int)
def besF (r c c2 : Int) (a b : List Fr) : List Fr := besP r c c2 a b r.toNat
theorem besP_succ (r c c2 : Int) (a b : List Fr) (n : Nat) : besP r c c2 a b (n + 1) = besP r c c2 a b n ++ rowF r c a (n : Int) ++ rowF r c2 b (n : Int) := by
  simp [besP, List.range_succ]
theorem rowF_len {r c : Int} {l : List Fr} (h : right r c l.length = true) {i : Nat} (hi : i < r.toNat) : (rowF r c l i).length = c.toNat := by
  rw [rowF_eq ⟨0, 0, 0, false⟩ h hi]
  simp
theorem besP_length {r c c2 : Int} {a b : List Fr} (h : right r c a.length = true) (h2 : right r c2 b.length = true) : ∀ n, n ≤ r.toNat → (besP r c c2 a b n).length = n * (c.toNat + c2.toNat)
  | 0, _ => by simp [besP]
  | n + 1, hn => by
    rw [besP_succ, List.length_append, List.length_append, besP_length h h2 n (by omega), rowF_len h (by omega), rowF_len h2 (by omega), Nat.add_mul]
    omega
theorem right_bes {r c c2 : Int} {a b : List Fr} (h : right r c a.length = true) (h2 : right r c2 b.length = true) : right r (c + c2) (besF r c c2 a b).length = decide (c + c2 ≤ 16) := by
  obtain ⟨r1, r2, c1, c3, hn⟩ := right_spec h
  obtain ⟨_, _, d1, d2, hn2⟩ := right_spec h2
  have hl := besP_length h h2 r.toNat (Nat.le_refl _)
  have e1 : ((r.toNat * (c.toNat + c2.toNat) : Nat) : Int) = r * (c + c2) := by
    rw [Int.natCast_mul, Int.natCast_add, Int.toNat_of_nonneg (by omega), Int.toNat_of_nonneg (by omega), Int.toNat_of_nonneg (by omega)]
  have e2 : (((besF r c c2 a b).length : Int) == r * (c + c2)) = true := by
    rw [besF, hl, e1]
    simp
  have e3 : decide (1 ≤ r ∧ r ≤ 16) = true := by simp; omega
  simp only [right, e2, e3, Bool.true_and, Bool.and_true]
  congr 1
  simp only [eq_iff_iff]
  omega

theorem ok176 (ea eb : Bool) (r c r2 c2 : Int) (a b : List Fr) : Ok Tryz.prog 176 [matV ea r c (frs a), matV eb r2 c2 (frs b)]
    (if right r c a.length = true ∧ right r2 c2 b.length = true ∧ r = r2 ∧ c + c2 ≤ 16 then .tup [matV false r (c + c2) (frs (besF r c c2 a b)), tru true] else .tup [matNil, tru false]) := by
  refine ok_fn mixed Tryz.func176 (code := ?_) (h := h176) ?_ k176 ?_
  rotate_left
  · exact rfl
  unfold h176 initS
  simp -implicitDefEqProofs only [rkA, rkB, stepA, valA, simprocAttr, Tryz.ntmps176, Tryz.results176]
  refine call_fn rfl rfl rfl (ok72 ea r c (frs a)) ?_
  have e : (frs a).length = a.length := by simp
  have e' : (frs b).length = b.length := by simp
  rw [e]
  cases hr : right r c a.length with
  | false => simp -implicitDefEqProofs only [rkA, rkB, stepA, valA, simprocAttr]
  | true =>
    simp -implicitDefEqProofs only [rkA, rkB, stepA, valA, simprocAttr]
    refine call_fn rfl rfl rfl (ok72 eb r2 c2 (frs b)) ?_
    rw [e']
    cases hr2 : right r2 c2 b.length with
    | false => simp -implicitDefEqProofs only [rkA, rkB, stepA, valA, simprocAttr]
    | true =>
      have l1 := right_le hr
      have l2 := right_le hr2
      simp -implicitDefEqProofs only [rkA, rkB, stepA, valA, simprocAttr]
      by_cases h1 : r = r2
      · subst h1
        simp -implicitDefEqProofs only [bne_self_eq_false, rkA, rkB, stepA, valA, simprocAttr]
        refine call_fn rfl rfl rfl (ok75 ea r c a) ?_
        simp -implicitDefEqProofs only [rkA, rkB, stepA, valA, simprocAttr]
        obtain ⟨r1, r2, c1, c3, hn⟩ := right_spec hr
        obtain ⟨_, _, d1, d2, hn2⟩ := right_spec hr2
        have hbl : ∀ n, n ≤ r.toNat → (besP r c c2 a b n).length ≤ 512 := fun n hn => by
          rw [besP_length hr hr2 n hn]
          have : n * (c.toNat + c2.toNat) ≤ 16 * 32 := Nat.mul_le_mul (by omega) (by omega)
          omega
        refine wp_rf' (items := rowsF r c a) rfl (it149 ea r c a) (fun sv i s => i ≤ r.toNat ∧ s = ⟨[], [(2, [nt r, nt c, .v (.sl ea (frs a))]), (3, [nt r, nt c2, .v (.sl eb (frs b))]), (4, [nt 0, nt 0, .acc 3004 []]), (6, [.acc 1006 (frs (besP r c c2 a b i))])], [], [(1006, (besP r c c2 a b i).length), (3004, 0)], sv, 0, nomem⟩) ?_ ?_ ?_
        · simp -implicitDefEqProofs only [rkA, rkB, stepA, valA, simprocAttr]
          exact ⟨Nat.zero_le _, rfl⟩
        · rintro i x' s' R hx ⟨hi, rfl⟩ hR
          obtain ⟨hlt, rfl, hxi⟩ := rowsF_all hr hx
          refine ⟨rfl, ?_⟩
          simp -implicitDefEqProofs only [rkA, rkB, stepA, valA, simprocAttr]
          have k1 := rowF_len hr hlt
          have k2 := rowF_len hr2 hlt
          have k0 := hbl i hi
          have f1 : fits 4 32 (frs (besP r c c2 a b i)) (frs (rowF r c a i)) = true := fits_frs (by omega)
          have f2 : fits 4 32 (frs (besP r c c2 a b i) ++ frs (rowF r c a i)) (frs (rowF r c2 b i)) = true := by
            have : frs (besP r c c2 a b i) ++ frs (rowF r c a i) = frs (besP r c c2 a b i ++ rowF r c a i) := by simp
            rw [this]
            exact fits_frs (by simp only [List.length_append]; omega)
          have g0 : (frs (besP r c c2 a b i)).length = (besP r c c2 a b i).length := by simp
          simp -implicitDefEqProofs only [f1, g0, rkA, rkB, stepA, valA, simprocAttr]
          refine call_fn rfl rfl rfl (ok150 eb r c2 i b) ?_
          simp -implicitDefEqProofs only [f2, List.length_append, g0, rkA, rkB, stepA, valA, simprocAttr]
          refine hR _ ⟨by omega, ?_⟩
          rw [besP_succ]
          simp only [frs, List.map_append, List.length_append, List.append_assoc, List.length_map, Nat.add_assoc]
        · rintro s' ⟨hi, rfl⟩
          have w := wrapped (x := c + c2) (by omega) (by omega)
          simp -implicitDefEqProofs only [w, rkA, rkB, stepA, valA, simprocAttr]
          have hb2 := hbl r.toNat (Nat.le_refl _)
          rw [rowsF_length hr]
          refine call_fn rfl rfl rfl (ok17 r (c + c2) false (besP r c c2 a b r.toNat) (by omega)) ?_
          have hrb := right_bes hr hr2
          unfold besF at hrb ⊢
          rw [hrb]
          by_cases h16 : c + c2 ≤ 16
          · simp -implicitDefEqProofs only [h16, rkA, rkB, stepA, valA, simprocAttr]
          · simp -implicitDefEqProofs only [h16, rkA, rkB, stepA, valA, simprocAttr]
      · have hne : (r != r2) = true := by simp [h1]
        simp -implicitDefEqProofs only [hne, h1, rkA, rkB, stepA, valA, simprocAttr]

def mirF (r : Int) (l : List Fr) : List Fr := gridP (fun i k => atF r r l (max i k : Nat) (min i k : Nat)) r.toNat r.toNat 0
theorem ok65 (ex : Bool) (r c : Int) (l : List Fr) : Ok Tryz.prog 65 [matV ex r c (frs l)] (if right r c l.length = true ∧ r = c then .tup [matV false r c (frs (mirF r l)), tru true] else .tup [matNil, tru false]) := by
  refine ok_fn mixed Tryz.func65 (code := ?_) (h := h65) ?_ k65 ?_
  rotate_left
  · exact rfl
  unfold h65 initS
  simp -implicitDefEqProofs only [rkA, rkB, stepA, valA, simprocAttr, Tryz.ntmps65, Tryz.results65]
  refine call_fn rfl rfl rfl (ok72 ex r c (frs l)) ?_
  have e : (frs l).length = l.length := by simp
  rw [e]
  cases hr : right r c l.length with
  | false => simp -implicitDefEqProofs only [rkA, rkB, stepA, valA, simprocAttr]
  | true =>
    obtain ⟨r1, r2, c1, c2, hn⟩ := right_spec hr
    simp -implicitDefEqProofs only [rkA, rkB, stepA, valA, simprocAttr]
    by_cases h1 : r = c
    · subst h1
      simp -implicitDefEqProofs only [bne_self_eq_false, rkA, rkB, stepA, valA, simprocAttr]
      have hlen := gridP_length (fun i k => atF r r l (max i k : Nat) (min i k : Nat)) r.toNat
      refine wp_loop (fun m s => ∃ i : Nat, i + m = r.toNat ∧ s = ⟨[jk, .ptr 1 0, .ptr 2 0, jk, .ptr 4 0, jk, jk, jk, jk, jk, jk, jk, jk, jk, jk, jk, jk, jk, jk, jk, jk, jk, jk, jk, nt r, nt i, jk, jk, jk, jk, jk, jk, jk, jk, jk, jk, jk, jk, jk, jk, jk, jk, jk, jk, jk, jk, jk, jk, jk], [(1, [nt r, nt r, .v (.sl ex (frs l))]), (2, [nt 0, nt 0, .acc 3002 []]), (4, [nt r, nt r, .acc 15004 (frs (gridP (fun i k => atF r r l (max i k : Nat) (min i k : Nat)) r.toNat i 0))])], [],
        [(3002, 0), (3004, 0), (15004, (gridP (fun i k => atF r r l (max i k : Nat) (min i k : Nat)) r.toNat i 0).length)], [], 0, nomem⟩) r.toNat ?_ ?_
      · simp -implicitDefEqProofs only [rkA, rkB, stepA, valA, simprocAttr]
        exact ⟨0, by simp, rfl⟩
      rintro m s ⟨i, hi, rfl⟩
      simp -implicitDefEqProofs only [rkA, rkB, stepA, valA, simprocAttr]
      refine gB_dec ?_ ?_ <;> intro hc <;> simp -implicitDefEqProofs only [hc, rkA, rkB, stepA, valA, simprocAttr]
      · refine wp_loop (fun m s => ∃ k : Nat, k + m = r.toNat ∧ s = ⟨[jk, .ptr 1 0, .ptr 2 0, jk, .ptr 4 0, nt i, jk, jk, jk, jk, jk, jk, jk, jk, jk, jk, jk, jk, jk, jk, jk, jk, jk, jk, nt r, nt i, jk, jk, jk, nt r, nt k, jk, jk, jk, jk, jk, jk, jk, jk, jk, jk, jk, jk, jk, jk, jk, jk, jk, jk], [(1, [nt r, nt r, .v (.sl ex (frs l))]), (2, [nt 0, nt 0, .acc 3002 []]), (4, [nt r, nt r, .acc 15004 (frs (gridP (fun i k => atF r r l (max i k : Nat) (min i k : Nat)) r.toNat i k))])], [],
          [(3002, 0), (3004, 0), (15004, (gridP (fun i k => atF r r l (max i k : Nat) (min i k : Nat)) r.toNat i k).length)], [], 0, nomem⟩) r.toNat ?_ ?_
        · simp -implicitDefEqProofs only [rkA, rkB, stepA, valA, simprocAttr]
          exact ⟨0, by simp, rfl⟩
        rintro m' s ⟨k, hk, rfl⟩
        simp -implicitDefEqProofs only [rkA, rkB, stepA, valA, simprocAttr]
        refine gB_dec ?_ ?_ <;> intro hc2 <;> simp -implicitDefEqProofs only [hc2, rkA, rkB, stepA, valA, simprocAttr]
        · have hb : i * r.toNat + k ≤ 256 := by
            have : (i + 1) * r.toNat ≤ 16 * 16 := Nat.mul_le_mul (by omega) (by omega)
            rw [Nat.add_mul] at this
            omega
          have m1 : (if (i : Int) < (k : Int) then (k : Int) else (i : Int)) = ((max i k : Nat) : Int) := by split <;> omega
          have m2 : (if (k : Int) < (i : Int) then (k : Int) else (i : Int)) = ((min i k : Nat) : Int) := by split <;> omega
          simp only [m1, m2]
          refine call_fn rfl rfl rfl (ok89 ex r r (max i k : Nat) (min i k : Nat) l) ?_
          have hl1 := hlen i k
          have hfit : fits 4 32 (frs (gridP (fun i k => atF r r l (max i k : Nat) (min i k : Nat)) r.toNat i k)) [frV (atF r r l (max i k : Nat) (min i k : Nat))] = true := fits_frs (l := [atF r r l (max i k : Nat) (min i k : Nat)]) (by simp only [List.length_cons, List.length_nil]; omega)
          have hl : (frs (gridP (fun i k => atF r r l (max i k : Nat) (min i k : Nat)) r.toNat i k)).length = (gridP (fun i k => atF r r l (max i k : Nat) (min i k : Nat)) r.toNat i k).length := by simp
          have hw := wrapped (x := (k : Int) + 1) (by omega) (by omega)
          simp -implicitDefEqProofs only [hfit, hl, hw, rkA, rkB, stepA, valA, simprocAttr]
          refine loopK_of (m' := m' - 1) (by omega) ?_
          simp -implicitDefEqProofs only [rkA, rkB, stepA, valA, simprocAttr]
          refine ⟨k + 1, by omega, ?_⟩
          rw [gridP_succ]
          simp only [frs, List.map_append, List.map_cons, List.map_nil, List.length_append, List.length_cons, List.length_nil, Int.natCast_add, Int.natCast_one]
        · have hkr : k = r.toNat := by omega
          have hw := wrapped (x := (i : Int) + 1) (by omega) (by omega)
          simp -implicitDefEqProofs only [hw, rkA, rkB, stepA, valA, simprocAttr]
          refine loopK_of (m' := m - 1) (by omega) ?_
          simp -implicitDefEqProofs only [rkA, rkB, stepA, valA, simprocAttr]
          refine ⟨i + 1, by omega, ?_⟩
          rw [hkr, gridP_next]
          simp only [Int.natCast_add, Int.natCast_one]
      · have : i = r.toNat := by omega
        subst this
        simp only [mirF]
    · have hne : (r != c) = true := by simp [h1]
      simp -implicitDefEqProofs only [hne, h1, rkA, rkB, stepA, valA, simprocAttr]

end Go.Proofs.YtambpjbpdackfaaGreat.A.E


set_option linter.unusedVariables false
set_option linter.unusedSimpArgs false
set_option maxRecDepth 100000
namespace Go.Proofs.YtambpjbpdackfaaGreat.A
open Go Go.RowKit Go.Shelf

/-! ### Functions that hand new rows back -/
theorem frs_cells (l : List Fr) : ∀ e ∈ frs l, e.cells.length = 3 := fun e he => by
  obtain ⟨x, _, rfl⟩ := List.mem_map.1 he
  rfl
theorem RFs_frs : ∀ (l : List Fr), RFs (flat (frs l)) = true
  | [] => rfl
  | x :: l => by
    have h := RFs_frs l
    simp only [frs, List.map_cons, flat, List.flatMap_cons, PV.cells, List.cons_append, List.nil_append, RFs, RF, Bool.true_and] at h ⊢
    exact h

/-- A new matrix: its numbers lie in memory of their own. -/
def NewMat (r c : Int) (l : List PV) (x : PV) (m : Mem) : Prop := ∃ b cap q, l.length ≤ cap ∧ x = .tup [.agg [num r, num c, .s (.slice (some ⟨b, 0, none⟩) l.length cap)], tru true] ∧ m = nomem.put b (flat l ++ List.replicate q .junk)

theorem tell_row {m : Mem} {b cap q : Nat} {l : List Fr} (hm : m b = some (flat (frs l) ++ List.replicate q .junk)) (hc : (frs l).length ≤ cap) : Tell m (.s (.slice (some ⟨b, 0, none⟩) (frs l).length cap)) (.sl false (frs l)) := by
  refine .row hm (frs_cells l) rfl (by simp) hc (fun h => by cases h) ?_
  rw [List.drop_zero, List.take_left]
  exact Tells.same _ _

end Go.Proofs.YtambpjbpdackfaaGreat.A


set_option linter.unusedVariables false
set_option linter.unusedSimpArgs false
set_option maxRecDepth 100000
namespace Go.Proofs.YtambpjbpdackfaaGreat.A.E
open Go Go.RowKit Go.Shelf

theorem frs_cells (l : List Fr) : ∀ e ∈ frs l, e.cells.length = 4 := fun e he => by
  obtain ⟨x, _, rfl⟩ := List.mem_map.1 he
  rfl
theorem RFs_frs : ∀ (l : List Fr), RFs (flat (frs l)) = true
  | [] => rfl
  | x :: l => by
    have h := RFs_frs l
    simp only [frs, List.map_cons, flat, List.flatMap_cons, PV.cells, List.cons_append, List.nil_append, RFs, RF, Bool.true_and] at h ⊢
    exact h

theorem okn71 (ex : Bool) (l : List Fr) (hl : l ≠ []) (h : l.length ≤ 4398046511104) : OkN Tryz.prog 71 [.sl ex (frs l)] (frs l) := by
  have hfit : fits 4 32 [] (frs l) = true := by
    have := fits_frs (k := []) (l := l) (by simpa using h)
    simpa using this
  have he : (frs l).isEmpty = false := by cases l <;> simp_all
  refine okn_fn mixed Tryz.func71 (code := ?_) (h := hN71) ?_ kN71 rfl (RFs_frs l) ?_
  rotate_left
  · exact rfl
  unfold hN71 initS
  simp -implicitDefEqProofs only [rkA, rkB, stepA, valA, simprocAttr, Tryz.ntmps71, Tryz.results71]
  refine nilA_sl _ _ rfl fun b hb => ?_
  have hb' := hb he
  subst hb'
  simp -implicitDefEqProofs only [hfit, he, rkA, rkB, stepA, valA, simprocAttr]
  refine .inl ⟨7, ?_⟩
  simp -implicitDefEqProofs only [rkA, rkB, stepA, valA, simprocAttr]

theorem tell_row {m : Mem} {b cap q : Nat} {l : List Fr} (hm : m b = some (flat (frs l) ++ List.replicate q .junk)) (hc : (frs l).length ≤ cap) : Tell m (.s (.slice (some ⟨b, 0, none⟩) (frs l).length cap)) (.sl false (frs l)) := by
  refine .row hm (frs_cells l) rfl (by simp) hc (fun h => by cases h) ?_
  rw [List.drop_zero, List.take_left]
  exact Tells.same _ _

theorem okm17 (r c : Int) (ex : Bool) (l : List Fr) (hr : right r c l.length = true) : OkM Tryz.prog 17 [num r, num c, .sl ex (frs l)] nomem (NewMat r c (frs l)) := by
  have hn := right_le hr
  have hpos := right_spec hr
  have hl : l ≠ [] := by
    intro h
    subst h
    have h1 : r * c = 0 := by have := hpos.2.2.2.2; simpa using this.symm
    rcases Int.mul_eq_zero.1 h1 with h | h <;> omega
  refine okm_fn mixed Tryz.func17 (code := ?_) (h := hN17) ?_ kN17 ?_
  rotate_left
  · exact rfl
  unfold hN17 initS
  simp -implicitDefEqProofs only [rkA, rkB, stepA, valA, simprocAttr, Tryz.ntmps17, Tryz.results17]
  refine newRow_fn rfl rfl (Tells.same _ _) (okn71 ex l hl (by omega)) (RFs_frs l) (by simpa using hl) ?_
  intro b cap q hb hcap
  simp -implicitDefEqProofs only [rkA, rkB, stepA, valA, simprocAttr]
  have e : (frs l).length = l.length := by simp
  have h17 := ok72 false r c (frs l)
  rw [e, hr] at h17
  refine lend_fn rfl rfl (.cons (.agg (.cons (.same _) (.cons (.same _) (.cons (tell_row (Mem.put_same _ _ _) hcap) .nil)))) .nil) (h17) rfl ?_
  simp -implicitDefEqProofs only [rkA, rkB, stepA, valA, simprocAttr]
  exact ⟨_, rfl, b, cap, q, hcap, rfl, rfl⟩
end Go.Proofs.YtambpjbpdackfaaGreat.A.E


set_option linter.unusedVariables false
set_option linter.unusedSimpArgs false
set_option maxRecDepth 100000
namespace Go.Proofs.YtambpjbpdackfaaGreat.A
open Go Go.RowKit Go.Shelf

end Go.Proofs.YtambpjbpdackfaaGreat.A


set_option linter.unusedVariables false
set_option linter.unusedSimpArgs false
set_option maxRecDepth 100000
namespace Go.Proofs.YtambpjbpdackfaaGreat.A.E
open Go Go.RowKit Go.Shelf

/-- A square matrix, number by number. -/
theorem okm155 (n : Nat) (hn : 1 ≤ n ∧ n ≤ 16) (K : Nat) (caps : List PV) (g : Nat → Nat → Fr) (hg : ∀ i k : Nat, i < n → k < n → Ok Tryz.prog K (num i :: num k :: caps) (frV (g i k))) :
    OkM Tryz.prog 155 [num n, .fn (.func K) caps] nomem (NewMat n n (frs (gridP g n n 0))) := by
  have hlen := gridP_length g n
  have hbig : ∀ i k, i ≤ n → k ≤ n → i * n + k ≤ 272 := fun i k h1 h2 => by
    have : i * n ≤ 16 * 16 := Nat.mul_le_mul (by omega) (by omega)
    omega
  refine okm_fn mixed Tryz.func155 (code := ?_) (h := h155) ?_ k155 ?_
  rotate_left
  · exact rfl
  unfold h155 initS
  simp -implicitDefEqProofs only [rkA, rkB, stepA, valA, simprocAttr, Tryz.ntmps155, Tryz.results155]
  refine wp_loop (fun m s => ∃ i : Nat, i + m = n ∧ s = ⟨[.v (num n), .v (.fn (.func K) caps), jk, jk, .ptr 4 0, jk, .acc 6 (frs (gridP g n i 0)), jk, jk, .v (num n), nt i, jk, jk, jk, jk, jk, jk, jk, jk, jk, jk, jk, jk, jk, jk, jk, jk, jk, jk, jk, jk, jk], [(4, [nt 0, nt 0, .acc 3004 []])], [],
    [(6, (gridP g n i 0).length), (3004, 0)], [], 0, nomem⟩) n ?_ ?_
  · simp -implicitDefEqProofs only [rkA, rkB, stepA, valA, simprocAttr]
    exact ⟨0, by simp, rfl⟩
  rintro m s ⟨i, hi, rfl⟩
  simp -implicitDefEqProofs only [rkA, rkB, stepA, valA, simprocAttr]
  refine gB_dec ?_ ?_ <;> intro hc <;> simp -implicitDefEqProofs only [hc, rkA, rkB, stepA, valA, simprocAttr]
  · refine wp_loop (fun m s => ∃ k : Nat, k + m = n ∧ s = ⟨[.v (num n), .v (.fn (.func K) caps), jk, jk, .ptr 4 0, jk, .acc 6 (frs (gridP g n i k)), nt i, jk, .v (num n), nt i, jk, jk, .v (num n), nt k, jk, jk, jk, jk, jk, jk, jk, jk, jk, jk, jk, jk, jk, jk, jk, jk, jk], [(4, [nt 0, nt 0, .acc 3004 []])], [],
      [(6, (gridP g n i k).length), (3004, 0)], [], 0, nomem⟩) n ?_ ?_
    · simp -implicitDefEqProofs only [rkA, rkB, stepA, valA, simprocAttr]
      exact ⟨0, by simp, rfl⟩
    rintro m' s ⟨k, hk, rfl⟩
    simp -implicitDefEqProofs only [rkA, rkB, stepA, valA, simprocAttr]
    refine gB_dec ?_ ?_ <;> intro hc2 <;> simp -implicitDefEqProofs only [hc2, rkA, rkB, stepA, valA, simprocAttr]
    · refine call_fn rfl rfl rfl (hg i k (by omega) (by omega)) ?_
      have hl1 := hlen i k
      have hb := hbig i k (by omega) (by omega)
      have hfit : fits 4 32 (frs (gridP g n i k)) [frV (g i k)] = true := fits_frs (l := [g i k]) (by simp only [List.length_cons, List.length_nil]; omega)
      have hl : (frs (gridP g n i k)).length = (gridP g n i k).length := by simp
      have hw := wrapped (x := (k : Int) + 1) (by omega) (by omega)
      simp -implicitDefEqProofs only [hfit, hl, hw, rkA, rkB, stepA, valA, simprocAttr]
      refine loopK_of (m' := m' - 1) (by omega) ?_
      simp -implicitDefEqProofs only [rkA, rkB, stepA, valA, simprocAttr]
      refine ⟨k + 1, by omega, ?_⟩
      rw [gridP_succ]
      simp only [frs, List.map_append, List.map_cons, List.map_nil, List.length_append, List.length_cons, List.length_nil, Int.natCast_add, Int.natCast_one]
    · have hkr : k = n := by omega
      have hw := wrapped (x := (i : Int) + 1) (by omega) (by omega)
      simp -implicitDefEqProofs only [hw, rkA, rkB, stepA, valA, simprocAttr]
      refine loopK_of (m' := m - 1) (by omega) ?_
      simp -implicitDefEqProofs only [rkA, rkB, stepA, valA, simprocAttr]
      refine ⟨i + 1, by omega, ?_⟩
      rw [hkr, gridP_next]
      simp only [Int.natCast_add, Int.natCast_one]
  · have : i = n := by omega
    subst this
    have hr : right (i : Int) (i : Int) (gridP g i i 0).length = true := by
      rw [hlen, Nat.add_zero]
      simp only [right, Bool.and_eq_true, decide_eq_true_eq, beq_iff_eq]
      exact ⟨⟨by omega, by omega⟩, ⟨by omega, by omega⟩, Int.natCast_mul i i⟩
    refine lendNew_fn rfl rfl (Tells.same _ _) (okm17 i i false (gridP g i i 0) hr) ?_ ?_
    · rintro r m' ⟨b, cap, q, h1, rfl, rfl⟩
      refine ⟨rfl, fun c cells hc => ?_⟩
      by_cases e : c = b
      · subst e
        rw [Mem.put_same] at hc
        cases hc
        exact RFs_append (RFs_frs _) (RFs_junk q)
      · rw [Mem.put_other _ _ e] at hc
        cases hc
    · rintro r m' ⟨b, cap, q, h1, rfl, rfl⟩ hfr
      simp -implicitDefEqProofs only [rkA, rkB, stepA, valA, simprocAttr]
      exact ⟨_, rfl, b, cap, q, h1, rfl, rfl⟩
end Go.Proofs.YtambpjbpdackfaaGreat.A.E



set_option linter.unusedVariables false
set_option linter.unusedSimpArgs false
set_option maxRecDepth 100000
namespace Go.Proofs.YtambpjbpdackfaaGreat.A
open Go Go.RowKit Go.Shelf

/-! ### Products of two words, compared -/
abbrev prW (p : Nat) : PV := .agg [uw (p / 18446744073709551616), uw (p % 18446744073709551616)]
theorem eq_prW (p q : Nat) : cellsEq [some .u64, some .u64] [uw (p / 18446744073709551616), uw (p % 18446744073709551616)] [uw (q / 18446744073709551616), uw (q % 18446744073709551616)] = some (decide (p = q)) := by
  have e : (p = q) ↔ (((p / 18446744073709551616 : Nat) : Int) = ((q / 18446744073709551616 : Nat) : Int) ∧ ((p % 18446744073709551616 : Nat) : Int) = ((q % 18446744073709551616 : Nat) : Int)) := by omega
  unfold uw
  generalize ((p / 18446744073709551616 : Nat) : Int) = A at *
  generalize ((q / 18446744073709551616 : Nat) : Int) = B at *
  generalize ((p % 18446744073709551616 : Nat) : Int) = C at *
  generalize ((q % 18446744073709551616 : Nat) : Int) = D at *
  simp only [cellsEq, e]
  by_cases h1 : A = B <;> by_cases h2 : C = D <;> simp [h1, h2]
theorem ok183 (p q : Nat) : Ok Tryz.prog 183 [prW p, prW q] (tru (decide (p < q))) := by
  refine ok_fn mixed Tryz.func183 (code := ?_) (h := h183) ?_ k183 ?_
  rotate_left
  · exact rfl
  unfold h183 initS
  simp -implicitDefEqProofs (maxSteps := 10000000) only [rkA, rkB, stepA, valA, simprocAttr, Tryz.ntmps183, Tryz.results183]
  have e1 := Nat.div_add_mod p 18446744073709551616
  have e2 := Nat.div_add_mod q 18446744073709551616
  have l1 := Nat.mod_lt p (show 0 < 18446744073709551616 by omega)
  have l2 := Nat.mod_lt q (show 0 < 18446744073709551616 by omega)
  refine gB_dec ?_ ?_ <;> intro h1
  · have : p < q := by omega
    simp -implicitDefEqProofs (maxSteps := 10000000) only [this, h1, rkA, rkB, stepA, valA, simprocAttr]
  · simp -implicitDefEqProofs (maxSteps := 10000000) only [h1, rkA, rkB, stepA, valA, simprocAttr]
    refine gB_bool ?_ ?_ <;> intro h2 <;> simp -implicitDefEqProofs (maxSteps := 10000000) only [h2, rkA, rkB, stepA, valA, simprocAttr]
    · have h3 : ((p / 18446744073709551616 : Nat) : Int) = ((q / 18446744073709551616 : Nat) : Int) := by simpa using h2
      have : (((p % 18446744073709551616 : Nat) : Int) < ((q % 18446744073709551616 : Nat) : Int)) = (p < q) := by apply propext; omega
      simp only [this]
    · have h3 : ¬ ((p / 18446744073709551616 : Nat) : Int) = ((q / 18446744073709551616 : Nat) : Int) := by simpa using h2
      have : ¬ p < q := by omega
      simp -implicitDefEqProofs (maxSteps := 10000000) only [this, rkA, rkB, stepA, valA, simprocAttr]

def sgn2 (a b : Int) : Int := if a = 0 ∨ b = 0 then 0 else if (decide (a < 0) != decide (b < 0)) = true then -1 else 1
theorem ok182 (a b : Int) : Ok Tryz.prog 182 [num a, num b] (num (sgn2 a b)) := by
  refine ok_fn mixed Tryz.func182 (code := ?_) (h := h182) ?_ k182 ?_
  rotate_left
  · exact rfl
  unfold h182 initS
  simp -implicitDefEqProofs (maxSteps := 10000000) only [rkA, rkB, stepA, valA, simprocAttr, Tryz.ntmps182, Tryz.results182]
  unfold sgn2
  refine gB_bool ?_ ?_ <;> intro h1 <;> simp -implicitDefEqProofs (maxSteps := 10000000) only [h1, rkA, rkB, stepA, valA, simprocAttr]
  · have h1' : a = 0 := by simpa using h1
    rw [if_pos (.inl h1')]
  · have h1' : ¬ a = 0 := by simpa using h1
    refine gB_bool ?_ ?_ <;> intro h2 <;> simp -implicitDefEqProofs (maxSteps := 10000000) only [h2, rkA, rkB, stepA, valA, simprocAttr]
    · have h2' : b = 0 := by simpa using h2
      rw [if_pos (.inr h2')]
    · have h2' : ¬ b = 0 := by simpa using h2
      rw [if_neg (by omega)]
      refine gB_bool ?_ ?_ <;> intro h3 <;> simp -implicitDefEqProofs (maxSteps := 10000000) only [h3, rkA, rkB, stepA, valA, simprocAttr]
      · rw [show (decide (a < 0) != decide (b < 0)) = true from h3, if_pos rfl]
      · rw [show (decide (a < 0) != decide (b < 0)) = false from h3, if_neg (by simp)]

def cmpF (a b c d : Int) : Int :=
  if sgn2 a b < sgn2 c d ∨ (sgn2 a b = sgn2 c d ∧ 0 < sgn2 a b ∧ a.natAbs * b.natAbs < c.natAbs * d.natAbs) ∨ (sgn2 a b = sgn2 c d ∧ sgn2 a b < 0 ∧ c.natAbs * d.natAbs < a.natAbs * b.natAbs) then -1
  else if sgn2 c d < sgn2 a b ∨ (a.natAbs * b.natAbs ≠ c.natAbs * d.natAbs ∧ sgn2 a b ≠ 0) then 1 else 0
theorem natAbs_lt {n : Int} (h : rightW n = true) : n.natAbs < 18446744073709551616 := by
  unfold rightW at h
  rw [decide_eq_true_eq] at h
  omega
set_option maxHeartbeats 4000000 in
theorem ok114 (a b c d : Int) (ha : rightW a = true) (hb : rightW b = true) (hc : rightW c = true) (hd : rightW d = true) : Ok Tryz.prog 114 [num a, num b, num c, num d] (num (cmpF a b c d)) := by
  have w0 : IntKind.wrap .i64 ((0 : Int) + 1) = 1 := by decide
  have w1 : IntKind.wrap .i64 ((1 : Int) + 1) = 2 := by decide
  have w2 : IntKind.wrap .i64 ((2 : Int) + 1) = 3 := by decide
  have w3 : IntKind.wrap .i64 ((3 : Int) + 1) = 4 := by decide
  have n4 : ((4 : Nat) : Int) = 4 := rfl
  refine ok_fn mixed Tryz.func114 (code := ?_) (h := h114) ?_ k114 ?_
  rotate_left
  · exact rfl
  unfold h114 initS
  simp -implicitDefEqProofs (maxSteps := 10000000) only [rkA, rkB, stepA, valA, simprocAttr, Tryz.ntmps114, Tryz.results114]
  refine wp_loop (fun m s => ∃ k : Int, ((k = 0 ∧ m = 4) ∨ (k = 1 ∧ m = 3) ∨ (k = 2 ∧ m = 2) ∨ (k = 3 ∧ m = 1) ∨ (k = 4 ∧ m = 0)) ∧ s = ⟨[.v (num a), .v (num b), .v (num c), .v (num d), jk, jk, jk, jk, jk, jk, jk, jk, jk, jk, jk, jk, jk, jk, jk, jk, .v (.agg [num a, num b, num c, num d]), nt k, jk, jk, jk, jk, jk, jk, jk, jk, jk, jk, jk, jk, jk, jk, jk, jk, jk, jk, jk, jk, jk, jk, jk, jk, jk, jk, jk, jk, jk, jk, jk, jk, jk, jk, jk, jk, jk, jk, jk, jk, jk, jk, jk, jk, jk, jk, jk, jk, jk, jk, jk, jk, jk, jk, jk, jk, jk, jk, jk, jk, jk, jk, jk], [], [], [], [], 0, nomem⟩) 4 ?_ ?_
  · simp -implicitDefEqProofs (maxSteps := 10000000) only [rkA, rkB, stepA, valA, simprocAttr]
    exact ⟨0, by omega, rfl⟩
  rintro m s ⟨k, ⟨rfl, rfl⟩ | ⟨rfl, rfl⟩ | ⟨rfl, rfl⟩ | ⟨rfl, rfl⟩ | ⟨rfl, rfl⟩, rfl⟩
  · simp -implicitDefEqProofs (maxSteps := 10000000) only [n4, rkA, rkB, stepA, valA, simprocAttr]
    refine call_fn rfl rfl rfl (ok164' a) ?_
    simp -implicitDefEqProofs (maxSteps := 10000000) only [ha, w0, rkA, rkB, stepA, valA, simprocAttr]
    refine loopK_of (m' := 3) (by omega) ?_
    simp -implicitDefEqProofs (maxSteps := 10000000) only [rkA, rkB, stepA, valA, simprocAttr]
    exact ⟨1, by omega, rfl⟩
  · simp -implicitDefEqProofs (maxSteps := 10000000) only [n4, rkA, rkB, stepA, valA, simprocAttr]
    refine call_fn rfl rfl rfl (ok164' b) ?_
    simp -implicitDefEqProofs (maxSteps := 10000000) only [hb, w1, rkA, rkB, stepA, valA, simprocAttr]
    refine loopK_of (m' := 2) (by omega) ?_
    simp -implicitDefEqProofs (maxSteps := 10000000) only [rkA, rkB, stepA, valA, simprocAttr]
    exact ⟨2, by omega, rfl⟩
  · simp -implicitDefEqProofs (maxSteps := 10000000) only [n4, rkA, rkB, stepA, valA, simprocAttr]
    refine call_fn rfl rfl rfl (ok164' c) ?_
    simp -implicitDefEqProofs (maxSteps := 10000000) only [hc, w2, rkA, rkB, stepA, valA, simprocAttr]
    refine loopK_of (m' := 1) (by omega) ?_
    simp -implicitDefEqProofs (maxSteps := 10000000) only [rkA, rkB, stepA, valA, simprocAttr]
    exact ⟨3, by omega, rfl⟩
  · simp -implicitDefEqProofs (maxSteps := 10000000) only [n4, rkA, rkB, stepA, valA, simprocAttr]
    refine call_fn rfl rfl rfl (ok164' d) ?_
    simp -implicitDefEqProofs (maxSteps := 10000000) only [hd, w3, rkA, rkB, stepA, valA, simprocAttr]
    refine loopK_of (m' := 0) (by omega) ?_
    simp -implicitDefEqProofs (maxSteps := 10000000) only [rkA, rkB, stepA, valA, simprocAttr]
    exact ⟨4, by omega, rfl⟩
  · simp -implicitDefEqProofs (maxSteps := 10000000) only [rkA, rkB, stepA, valA, simprocAttr]
    refine call_fn rfl rfl rfl (ok182 a b) ?_
    simp -implicitDefEqProofs (maxSteps := 10000000) only [rkA, rkB, stepA, valA, simprocAttr]
    refine call_fn rfl rfl rfl (ok182 c d) ?_
    simp -implicitDefEqProofs (maxSteps := 10000000) only [rkA, rkB, stepA, valA, simprocAttr]
    refine call_fn rfl rfl rfl (ok180 a ha) ?_
    simp -implicitDefEqProofs (maxSteps := 10000000) only [rkA, rkB, stepA, valA, simprocAttr]
    refine call_fn rfl rfl rfl (ok180 b hb) ?_
    simp -implicitDefEqProofs (maxSteps := 10000000) only [rkA, rkB, stepA, valA, simprocAttr]
    refine call_fn rfl rfl rfl (ok179 _ _ (natAbs_lt ha) (natAbs_lt hb)) ?_
    simp -implicitDefEqProofs (maxSteps := 10000000) only [rkA, rkB, stepA, valA, simprocAttr]
    refine call_fn rfl rfl rfl (ok180 c hc) ?_
    simp -implicitDefEqProofs (maxSteps := 10000000) only [rkA, rkB, stepA, valA, simprocAttr]
    refine call_fn rfl rfl rfl (ok180 d hd) ?_
    simp -implicitDefEqProofs (maxSteps := 10000000) only [rkA, rkB, stepA, valA, simprocAttr]
    refine call_fn rfl rfl rfl (ok179 _ _ (natAbs_lt hc) (natAbs_lt hd)) ?_
    unfold cmpF
    generalize sgn2 a b = x
    generalize sgn2 c d = y
    generalize a.natAbs * b.natAbs = p
    generalize c.natAbs * d.natAbs = q
    generalize hF : (if x < y ∨ (x = y ∧ 0 < x ∧ p < q) ∨ (x = y ∧ x < 0 ∧ q < p) then (-1 : Int) else if y < x ∨ (p ≠ q ∧ x ≠ 0) then 1 else 0) = r
    simp -implicitDefEqProofs (maxSteps := 10000000) only [rkA, rkB, stepA, valA, simprocAttr]
    repeat' (first
      | (refine gB_bool ?_ ?_ <;> intro hx <;> simp -implicitDefEqProofs (maxSteps := 10000000) only [hx, eq_prW, rkA, rkB, stepA, valA, simprocAttr])
      | (refine call_fn rfl rfl rfl (ok183 p q) ?_; simp -implicitDefEqProofs (maxSteps := 10000000) only [rkA, rkB, stepA, valA, simprocAttr])
      | (refine call_fn rfl rfl rfl (ok183 q p) ?_; simp -implicitDefEqProofs (maxSteps := 10000000) only [rkA, rkB, stepA, valA, simprocAttr]))
    all_goals clear ha hb hc hd w0 w1 w2 w3 n4
    all_goals simp only [decide_eq_true_eq, decide_eq_false_iff_not, beq_iff_eq, beq_eq_false_iff_ne, bne_iff_ne, bne_eq_false_iff_eq, Bool.not_eq_true', Bool.not_eq_false'] at *
    all_goals first
      | (rw [← hF, if_pos (by omega)]; done)
      | (rw [← hF, if_neg (by omega), if_pos (by omega)]; done)
      | (rw [← hF, if_neg (by omega), if_neg (by omega)]; done)
      | (exfalso; omega)
end Go.Proofs.YtambpjbpdackfaaGreat.A


set_option linter.unusedVariables false
set_option linter.unusedSimpArgs false
set_option maxRecDepth 100000
namespace Go.Proofs.YtambpjbpdackfaaGreat.A
open Go Go.RowKit Go.Shelf

/-! ### Roots of whole numbers, bit by bit -/
def rtB (n K : Nat) : Nat → Nat
  | 0 => 0
  | j + 1 => if (rtB n K j + 2 ^ (K - 1 - j)) * (rtB n K j + 2 ^ (K - 1 - j)) ≤ n then rtB n K j + 2 ^ (K - 1 - j) else rtB n K j

theorem rtB_spec {n K : Nat} (hn : n < 2 ^ K * 2 ^ K) : ∀ j, j ≤ K → rtB n K j * rtB n K j ≤ n ∧ n < (rtB n K j + 2 ^ (K - j)) * (rtB n K j + 2 ^ (K - j)) ∧ (∃ q, rtB n K j = 2 ^ (K - j) * q) ∧ rtB n K j + 2 ^ (K - j) ≤ 2 ^ K
  | 0, _ => ⟨by simp [rtB], by simpa [rtB] using hn, ⟨0, by simp [rtB]⟩, by simp [rtB]⟩
  | j + 1, hj => by
    obtain ⟨h1, h2, ⟨q, hq⟩, h3⟩ := rtB_spec hn j (by omega)
    have e1 : K - j = (K - (j + 1)) + 1 := by omega
    have e2 : K - 1 - j = K - (j + 1) := by omega
    rw [e1, Nat.pow_succ] at h2 hq h3
    simp only [rtB, e2]
    generalize rtB n K j = r at *
    generalize 2 ^ (K - (j + 1)) = t at *
    split
    · rename_i hc
      refine ⟨hc, by rw [Nat.add_assoc, ← Nat.mul_two]; exact h2, ⟨2 * q + 1, ?_⟩, by omega⟩
      rw [hq, Nat.mul_add, Nat.mul_one, Nat.mul_assoc]
    · rename_i hc
      exact ⟨h1, by omega, ⟨2 * q, by rw [hq, Nat.mul_assoc]⟩, by omega⟩

theorem rtB_final {n K : Nat} (hn : n < 2 ^ K * 2 ^ K) : rtB n K K * rtB n K K ≤ n ∧ n < (rtB n K K + 1) * (rtB n K K + 1) ∧ rtB n K K < 2 ^ K := by
  obtain ⟨h1, h2, _, h3⟩ := rtB_spec hn K (Nat.le_refl _)
  rw [Nat.sub_self, Nat.pow_zero] at h2 h3
  exact ⟨h1, h2, by omega⟩

def rootI (n : Int) : Int := if rtB n.toNat 16 16 * rtB n.toNat 16 16 = n.toNat then (rtB n.toNat 16 16 : Int) else -1

def rootF (a : Fr) : Fr := if a.fine = false ∨ a.n < 0 ∨ rootI a.n < 0 ∨ rootI a.d < 0 then .wrong else newF (rootI a.n) (rootI a.d)
def signF (a : Fr) : Int := if a.fine = false then 0 else if a.n = 0 then 0 else if a.n < 0 then -1 else 1
end Go.Proofs.YtambpjbpdackfaaGreat.A



set_option linter.unusedVariables false
set_option linter.unusedSimpArgs false
set_option maxRecDepth 100000
namespace Go.Proofs.YtambpjbpdackfaaGreat.A
open Go Go.RowKit Go.Shelf

/-! ### Roots of products, bit by bit -/
def rtW (p : Nat) : Nat := rtB p 63 63
def upW (p : Nat) (mode : Int) : Bool := decide (rtW p * rtW p ≠ p) && (decide (mode = 2) || (decide (mode = 0) && decide (rtW p * (rtW p + 1) < p)))
def wRootN (p : Nat) (mode : Int) : Nat := if upW p mode = true then rtW p + 1 else rtW p
def wRootOk (a b mode : Int) : Bool := rightW a && (rightW b && (decide (0 ≤ mode ∧ mode ≤ 2) && !((decide (a ≠ 0) && decide (b ≠ 0)) && (decide (a < 0) != decide (b < 0)))))
def wRoot (a b mode : Int) : Int × Bool := if wRootOk a b mode = true then ((wRootN (a.natAbs * b.natAbs) mode : Int), true) else (0, false)
theorem rtB_step {n K j : Nat} (hn : n < 2 ^ K * 2 ^ K) (hj : j < K) : ∃ q, rtB n K j = q * 2 ^ (K - j) ∧ rtB n K j + 2 ^ (K - j) ≤ 2 ^ K := by
  obtain ⟨_, _, ⟨q, hq⟩, h4⟩ := rtB_spec hn j (by omega)
  exact ⟨q, by rw [hq, Nat.mul_comm], h4⟩
theorem abs_right {n : Int} (h : rightW n = true) : n.natAbs ≤ 4611686018427387903 := by
  unfold rightW at h
  rw [decide_eq_true_eq] at h
  omega
theorem wRoot_no {a b mode : Int} (h : wRootOk a b mode = false) : wRoot a b mode = (0, false) := by unfold wRoot; rw [h]; rfl
theorem wRoot_yes {a b mode : Int} (h : wRootOk a b mode = true) : wRoot a b mode = ((wRootN (a.natAbs * b.natAbs) mode : Int), true) := by unfold wRoot; rw [if_pos h]
theorem rtW_spec {p : Nat} (hp : p ≤ 4611686018427387903 * 4611686018427387903) : rtW p * rtW p ≤ p ∧ p < (rtW p + 1) * (rtW p + 1) ∧ rtW p ≤ 4611686018427387903 := by
  have hp2 : p < 2 ^ 63 * 2 ^ 63 := by omega
  obtain ⟨f1, f2, f3⟩ := rtB_final hp2
  refine ⟨f1, f2, ?_⟩
  have f1' : rtW p * rtW p ≤ p := f1
  rcases Nat.lt_or_ge 4611686018427387903 (rtW p) with h | h
  · have := Nat.mul_lt_mul'' h h
    omega
  · exact h
set_option maxHeartbeats 4000000 in
theorem ok262 (a b mode : Int) : Ok Tryz.prog 262 [num a, num b, num mode] (.tup [num (wRoot a b mode).1, tru (wRoot a b mode).2]) := by
  refine ok_fn mixed Tryz.func262 (code := ?_) (h := h262) ?_ k262 ?_
  rotate_left
  · exact rfl
  unfold h262 initS
  simp -implicitDefEqProofs (maxSteps := 10000000) only [rkA, rkB, stepA, valA, simprocAttr, Tryz.ntmps262, Tryz.results262]
  refine call_fn rfl rfl rfl (ok164' a) ?_
  cases ha : rightW a with
  | false =>
    rw [wRoot_no (by unfold wRootOk; rw [ha]; rfl)]
    simp -implicitDefEqProofs (maxSteps := 10000000) only [rkA, rkB, stepA, valA, simprocAttr]
  | true =>
    simp -implicitDefEqProofs (maxSteps := 10000000) only [rkA, rkB, stepA, valA, simprocAttr]
    refine call_fn rfl rfl rfl (ok164' b) ?_
    cases hb : rightW b with
    | false =>
      rw [wRoot_no (by unfold wRootOk; rw [ha, hb]; rfl)]
      simp -implicitDefEqProofs (maxSteps := 10000000) only [rkA, rkB, stepA, valA, simprocAttr]
    | true =>
      simp -implicitDefEqProofs (maxSteps := 10000000) only [rkA, rkB, stepA, valA, simprocAttr]
      refine call_fn rfl rfl rfl (ok178 mode) ?_
      by_cases hm : 0 ≤ mode ∧ mode ≤ 2
      · have hm' : decide (0 ≤ mode ∧ mode ≤ 2) = true := decide_eq_true hm
        have hb1 := abs_right ha
        have hb2 := abs_right hb
        have hp : a.natAbs * b.natAbs ≤ 4611686018427387903 * 4611686018427387903 := Nat.mul_le_mul hb1 hb2
        simp -implicitDefEqProofs (maxSteps := 10000000) only [hm', rkA, rkB, stepA, valA, simprocAttr]
        have cs : (a = 0) ∨ (a ≠ 0 ∧ b = 0) ∨ (a ≠ 0 ∧ b ≠ 0 ∧ (decide (a < 0) != decide (b < 0)) = true) ∨ (a ≠ 0 ∧ b ≠ 0 ∧ (decide (a < 0) != decide (b < 0)) = false) := by
          cases (decide (a < 0) != decide (b < 0)) <;> simp <;> omega
        rcases cs with h1 | ⟨h1, h2⟩ | ⟨h1, h2, h3⟩ | ⟨h1, h2, h3⟩
        rotate_left 2
        · have n1 : (a != 0) = true := by simpa using h1
          have n2 : (b != 0) = true := by simpa using h2
          rw [wRoot_no (by unfold wRootOk; rw [ha, hb, hm', h3, decide_eq_true h1, decide_eq_true h2]; rfl)]
          have n3 : (!(decide (a < 0) == decide (b < 0))) = true := h3
          simp -implicitDefEqProofs (maxSteps := 10000000) only [n1, n2, n3, rkA, rkB, stepA, valA, simprocAttr]
        have hr := wRoot_yes (a := a) (b := b) (mode := mode) (by unfold wRootOk; rw [ha, hb, hm', h3]; simp)
        have n1 : (a != 0) = true := by simpa using h1
        have n2 : (b != 0) = true := by simpa using h2
        have n3 : (!(decide (a < 0) == decide (b < 0))) = false := h3
        simp -implicitDefEqProofs (maxSteps := 10000000) only [n1, n2, n3, rkA, rkB, stepA, valA, simprocAttr]
        clear h1 h2 h3 n1 n2 n3
        rotate_left
        have hr := wRoot_yes (a := a) (b := b) (mode := mode) (by unfold wRootOk; rw [ha, hb, hm', decide_eq_false (p := a ≠ 0) (by simpa using h1)]; rfl)
        have n1 : (a != 0) = false := by simpa using h1
        simp -implicitDefEqProofs (maxSteps := 10000000) only [n1, rkA, rkB, stepA, valA, simprocAttr]
        clear h1 n1
        rotate_left
        have hr := wRoot_yes (a := a) (b := b) (mode := mode) (by unfold wRootOk; rw [ha, hb, hm', decide_eq_false (p := b ≠ 0) (by simpa using h2)]; simp)
        have n1 : (a != 0) = true := by simpa using h1
        have n2 : (b != 0) = false := by simpa using h2
        simp -implicitDefEqProofs (maxSteps := 10000000) only [n1, n2, rkA, rkB, stepA, valA, simprocAttr]
        clear h1 h2 n1 n2
        all_goals
          rw [hr]
          clear hr
          refine call_fn rfl rfl rfl (ok180 a ha) ?_
          simp -implicitDefEqProofs (maxSteps := 10000000) only [rkA, rkB, stepA, valA, simprocAttr]
          refine call_fn rfl rfl rfl (ok180 b hb) ?_
          simp -implicitDefEqProofs (maxSteps := 10000000) only [rkA, rkB, stepA, valA, simprocAttr]
          refine call_fn rfl rfl rfl (ok179 a.natAbs b.natAbs (by omega) (by omega)) ?_
          simp -implicitDefEqProofs (maxSteps := 10000000) only [rkA, rkB, stepA, valA, simprocAttr]
          generalize a.natAbs * b.natAbs = p at *
          have hp2 : p < 2 ^ 63 * 2 ^ 63 := by omega
          refine wp_loop (fun m s => ∃ j : Nat, j + m = 63 ∧ s = ⟨[jk, jk, .v (num mode), jk, jk, jk, jk, jk, .ptr 8 0, ut (rtB p 63 j), jk, jk, jk, jk, jk, jk, jk, jk, jk, jk, jk, jk, jk, jk, jk, jk, jk, jk, jk, jk, jk, jk, jk, jk, jk, jk, jk, jk, jk, jk, jk, jk, jk, jk, jk, jk, jk, nt j, jk, jk, jk, jk, jk, jk, jk, jk, jk, jk, jk, jk, jk, jk, jk, jk, jk, jk, jk, jk, jk, jk, jk, jk, jk, jk, jk, jk, jk, jk, jk, jk, jk, jk, jk, jk, jk, jk, jk, jk, jk, jk, jk],
            [(8, [ut (p / 18446744073709551616), ut (p % 18446744073709551616)])], [], [], [], 0, nomem⟩) 63 ?_ ?_
          · simp -implicitDefEqProofs (maxSteps := 10000000) only [rkA, rkB, stepA, valA, simprocAttr]
            exact ⟨0, rfl, rfl⟩
          rintro m s ⟨j, hj, rfl⟩
          simp -implicitDefEqProofs (maxSteps := 10000000) only [rkA, rkB, stepA, valA, simprocAttr]
          refine gB_dec ?_ ?_ <;> intro hc <;> simp -implicitDefEqProofs (maxSteps := 10000000) only [hc, rkA, rkB, stepA, valA, simprocAttr]
          · obtain ⟨q, hq, hq2⟩ := rtB_step hp2 (show j < 63 by omega)
            obtain ⟨t, ht⟩ : ∃ t, 63 - j = t + 1 := ⟨62 - j, by omega⟩
            have ht2 : 63 - 1 - j = t := by omega
            have hti : (62 : Int) - (j : Int) = ((t : Nat) : Int) := by omega
            have h0t : (0 : Int) ≤ ((t : Nat) : Int) := by omega
            have hwt := wrapped (x := ((t : Nat) : Int)) (by omega) (by omega)
            have hshl := shlN 1 (k := t) (by omega)
            rw [ht] at hq hq2
            have hpt : 2 ^ t < 2 ^ (t + 1) := Nat.pow_lt_pow_right (by omega) (by omega)
            have hpt2 : 2 ^ (t + 1) ≤ 2 ^ 63 := Nat.pow_le_pow_right (by omega) (by omega)
            have hor := orN (a := q) (b := 2 ^ t) (k := t + 1) hpt (by rw [← hq]; omega)
            rw [← hq] at hor
            rw [Nat.one_mul, Nat.mod_eq_of_lt (by omega)] at hshl
            have e1 : ((1 : Nat) : Int) = 1 := rfl
            rw [e1] at hshl
            have hx : rtB p 63 j + 2 ^ t < 18446744073709551616 := by omega
            simp -implicitDefEqProofs (maxSteps := 10000000) only [hti, h0t, hwt, Int.toNat_natCast, hshl, hor, rkA, rkB, stepA, valA, simprocAttr]
            refine call_fn rfl rfl rfl (ok179 (rtB p 63 j + 2 ^ t) (rtB p 63 j + 2 ^ t) hx hx) ?_
            simp -implicitDefEqProofs (maxSteps := 10000000) only [rkA, rkB, stepA, valA, simprocAttr]
            refine call_fn rfl rfl rfl (ok183 p ((rtB p 63 j + 2 ^ t) * (rtB p 63 j + 2 ^ t))) ?_
            have hstep : rtB p 63 (j + 1) = if (rtB p 63 j + 2 ^ t) * (rtB p 63 j + 2 ^ t) ≤ p then rtB p 63 j + 2 ^ t else rtB p 63 j := by rw [rtB, ht2]
            have hw2 := wrapped (x := (j : Int) + 1) (by omega) (by omega)
            by_cases hlt : p < (rtB p 63 j + 2 ^ t) * (rtB p 63 j + 2 ^ t)
            · rw [if_neg (by omega)] at hstep
              simp -implicitDefEqProofs (maxSteps := 10000000) only [hlt, hw2, rkA, rkB, stepA, valA, simprocAttr]
              refine loopK_of (m' := m - 1) (by omega) ?_
              simp -implicitDefEqProofs (maxSteps := 10000000) only [rkA, rkB, stepA, valA, simprocAttr]
              exact ⟨j + 1, by omega, by rw [hstep, show ((j + 1 : Nat) : Int) = (j : Int) + 1 from rfl]⟩
            · rw [if_pos (by omega)] at hstep
              simp -implicitDefEqProofs (maxSteps := 10000000) only [hlt, hw2, rkA, rkB, stepA, valA, simprocAttr]
              refine loopK_of (m' := m - 1) (by omega) ?_
              simp -implicitDefEqProofs (maxSteps := 10000000) only [rkA, rkB, stepA, valA, simprocAttr]
              exact ⟨j + 1, by omega, by rw [hstep, show ((j + 1 : Nat) : Int) = (j : Int) + 1 from rfl]⟩
          · have hj' : j = 63 := by omega
            subst hj'
            obtain ⟨f1, f2, f3⟩ := rtW_spec hp
            have er : rtB p 63 63 = rtW p := by unfold rtW; rfl
            rw [er]
            clear er hp2
            unfold wRootN upW
            generalize rtW p = r at *
            have h64 : r < 18446744073709551616 := by omega
            have h65 : r + 1 < 18446744073709551616 := by omega
            have hw1 := wrapN (n := r + 1) h65
            have ea : ((r : Nat) : Int) + 1 = ((r + 1 : Nat) : Int) := by simp
            refine call_fn rfl rfl rfl (ok179 (r) (r) h64 h64) ?_
            simp -implicitDefEqProofs (maxSteps := 10000000) only [eq_prW, ea, hw1, rkA, rkB, stepA, valA, simprocAttr]
            refine call_fn rfl rfl rfl (ok179 (r) (r + 1) h64 h65) ?_
            simp -implicitDefEqProofs (maxSteps := 10000000) only [rkA, rkB, stepA, valA, simprocAttr]
            refine call_fn rfl rfl rfl (ok183 (r * (r + 1)) p) ?_
            simp -implicitDefEqProofs (maxSteps := 10000000) only [rkA, rkB, stepA, valA, simprocAttr]
            have hwi : IntKind.wrap .i64 ((r : Nat) : Int) = ((r : Nat) : Int) := wrapped (by omega) (by omega)
            have hwi2 : IntKind.wrap .i64 ((r + 1 : Nat) : Int) = ((r + 1 : Nat) : Int) := wrapped (by omega) (by omega)
            by_cases q1 : r * r = p
            · have d1 : decide (r * r = p) = true := decide_eq_true q1
              have d2 : decide (r * r ≠ p) = false := decide_eq_false (by simpa using q1)
              simp -implicitDefEqProofs (maxSteps := 10000000) only [d1, d2, hwi, rkA, rkB, stepA, valA, simprocAttr]
            · have d1 : decide (r * r = p) = false := decide_eq_false q1
              have d2 : decide (r * r ≠ p) = true := decide_eq_true q1
              have m2 : (mode == 2) = decide (mode = 2) := by by_cases h : mode = 2 <;> simp [h]
              have m0 : (mode == 0) = decide (mode = 0) := by by_cases h : mode = 0 <;> simp [h]
              by_cases q2 : mode = 2
              · have d3 : decide (mode = 2) = true := decide_eq_true q2
                simp -implicitDefEqProofs (maxSteps := 10000000) only [d1, d2, d3, m2, rkA, rkB, stepA, valA, simprocAttr]
                simp -implicitDefEqProofs (maxSteps := 10000000) only [ea, hw1, hwi2, rkA, rkB, stepA, valA, simprocAttr]
              · have d3 : decide (mode = 2) = false := decide_eq_false q2
                by_cases q3 : mode = 0
                · have d4 : decide (mode = 0) = true := decide_eq_true q3
                  by_cases q4 : r * (r + 1) < p
                  · have d5 : decide (r * (r + 1) < p) = true := decide_eq_true q4
                    simp -implicitDefEqProofs (maxSteps := 10000000) only [d1, d2, d3, d4, d5, m2, m0, rkA, rkB, stepA, valA, simprocAttr]
                    simp -implicitDefEqProofs (maxSteps := 10000000) only [ea, hw1, hwi2, rkA, rkB, stepA, valA, simprocAttr]
                  · have d5 : decide (r * (r + 1) < p) = false := decide_eq_false q4
                    simp -implicitDefEqProofs (maxSteps := 10000000) only [d1, d2, d3, d4, d5, m2, m0, hwi, rkA, rkB, stepA, valA, simprocAttr]
                · have d4 : decide (mode = 0) = false := decide_eq_false q3
                  simp -implicitDefEqProofs (maxSteps := 10000000) only [d1, d2, d3, d4, m2, m0, hwi, rkA, rkB, stepA, valA, simprocAttr]
      · have hm' : decide (0 ≤ mode ∧ mode ≤ 2) = false := decide_eq_false hm
        rw [wRoot_no (by unfold wRootOk; rw [ha, hb, hm']; rfl)]
        simp -implicitDefEqProofs (maxSteps := 10000000) only [hm', rkA, rkB, stepA, valA, simprocAttr]
end Go.Proofs.YtambpjbpdackfaaGreat.A



set_option linter.unusedVariables false
set_option linter.unusedSimpArgs false
set_option maxRecDepth 100000
namespace Go.Proofs.YtambpjbpdackfaaGreat.A
open Go Go.RowKit Go.Shelf

/-! ### Roots of rounded numbers -/
def rtX (a mode : Int) : Int × Bool := toldF (wRoot a 16777216 mode).1 (wRoot a 16777216 mode).2 [a]
theorem ok259 (a mode : Int) : Ok Tryz.prog 259 [num a, num mode] (.tup [num (rtX a mode).1, tru (rtX a mode).2]) := by
  refine ok_fn mixed Tryz.func259 (code := ?_) (h := h259) ?_ k259 ?_
  rotate_left
  · exact rfl
  unfold h259 initS
  simp -implicitDefEqProofs (maxSteps := 10000000) only [rkA, rkB, stepA, valA, simprocAttr, Tryz.ntmps259, Tryz.results259]
  refine call_fn rfl rfl rfl (ok262 a 16777216 mode) ?_
  simp -implicitDefEqProofs (maxSteps := 10000000) only [rkA, rkB, stepA, valA, simprocAttr]
  refine call_fn rfl rfl rfl (ok192 _ _ [a] (by simp)) ?_
  simp -implicitDefEqProofs (maxSteps := 10000000) only [rkA, rkB, stepA, valA, simprocAttr, rtX]
theorem ok258 (x y m : Int) : Ok Tryz.prog 258 [num x, num y, num m] (.tup [num (rtX x m).1, tru (rtX x m).2]) := by
  refine ok_fn mixed Tryz.func258 (code := ?_) (h := h258) ?_ k258 ?_
  rotate_left
  · exact rfl
  unfold h258 initS
  simp -implicitDefEqProofs (maxSteps := 10000000) only [rkA, rkB, stepA, valA, simprocAttr, Tryz.ntmps258, Tryz.results258]
  refine call_fn rfl rfl rfl (ok259 x m) ?_
  simp -implicitDefEqProofs (maxSteps := 10000000) only [rkA, rkB, stepA, valA, simprocAttr]
end Go.Proofs.YtambpjbpdackfaaGreat.A
namespace Go.Proofs.YtambpjbpdackfaaGreat.A.E
open Go Go.RowKit Go.Shelf

/-! ### Roots, signs of enclosed numbers -/
def rootF (a : Fr) : Fr := madeE (fun x _ m => rtX x m) a a [(a.lo, a.lo), (a.hi, a.hi)]
theorem ok252 (a : Fr) : Ok Tryz.prog 252 [frV a] (frV (rootF a)) := by
  have h := ok137 _ (fun x _ m => rtX x m) (fun x y m => ok258 x y m) a a true [(a.lo, a.lo), (a.hi, a.hi)] (by simp) (by simp)
  refine ok_fn mixed Tryz.func252 (code := ?_) (h := h252) ?_ k252 ?_
  rotate_left
  · exact rfl
  unfold h252 initS
  simp -implicitDefEqProofs (maxSteps := 10000000) only [rkA, rkB, stepA, valA, simprocAttr, Tryz.ntmps252, Tryz.results252]
  refine call_fn rfl rfl rfl (h) ?_
  simp -implicitDefEqProofs (maxSteps := 10000000) only [rkA, rkB, stepA, valA, simprocAttr, rootF]
def negF (a : Fr) : Fr := subF (point 0) a
theorem ok251 (a : Fr) : Ok Tryz.prog 251 [frV a] (frV (negF a)) := by
  refine ok_fn mixed Tryz.func251 (code := ?_) (h := h251) ?_ k251 ?_
  rotate_left
  · exact rfl
  unfold h251 initS
  simp -implicitDefEqProofs (maxSteps := 10000000) only [rkA, rkB, stepA, valA, simprocAttr, Tryz.ntmps251, Tryz.results251]
  refine call_fn rfl rfl rfl (ok64 0) ?_
  simp -implicitDefEqProofs (maxSteps := 10000000) only [rkA, rkB, stepA, valA, simprocAttr]
  refine call_fn rfl rfl rfl (ok254 (point 0) a) ?_
  simp -implicitDefEqProofs (maxSteps := 10000000) only [rkA, rkB, stepA, valA, simprocAttr, negF]
def signF (a : Fr) : Int := if a.bad = true ∨ a.v = 0 then 0 else if a.v < 0 then -1 else 1
theorem ok253 (a : Fr) : Ok Tryz.prog 253 [frV a] (num (signF a)) := by
  refine ok_fn mixed Tryz.func253 (code := ?_) (h := h253) ?_ k253 ?_
  rotate_left
  · exact rfl
  unfold h253 initS
  simp -implicitDefEqProofs (maxSteps := 10000000) only [rkA, rkB, stepA, valA, simprocAttr, Tryz.ntmps253, Tryz.results253]
  cases hb : a.bad with
  | true =>
    have e : signF a = 0 := by unfold signF; rw [hb]; simp
    simp -implicitDefEqProofs (maxSteps := 10000000) only [e, rkA, rkB, stepA, valA, simprocAttr]
  | false =>
    simp -implicitDefEqProofs (maxSteps := 10000000) only [rkA, rkB, stepA, valA, simprocAttr]
    by_cases h0 : a.v = 0
    · have e : signF a = 0 := by unfold signF; rw [h0]; simp
      simp -implicitDefEqProofs (maxSteps := 10000000) only [e, h0, rkA, rkB, stepA, valA, simprocAttr]
    · have h0' : (a.v == 0) = false := by simpa using h0
      simp -implicitDefEqProofs (maxSteps := 10000000) only [h0, h0', rkA, rkB, stepA, valA, simprocAttr]
      refine gB_dec ?_ ?_ <;> intro h1 <;> simp -implicitDefEqProofs (maxSteps := 10000000) only [h1, rkA, rkB, stepA, valA, simprocAttr]
      · have e : signF a = -1 := by unfold signF; rw [hb, if_neg (by simp [h0]), if_pos h1]
        rw [e]
      · have e : signF a = 1 := by unfold signF; rw [hb, if_neg (by simp [h0]), if_neg h1]
        rw [e]
theorem methRoot : Meth Tryz.prog 28 "Root" 252 := by
  intro v xs w
  rfl
end Go.Proofs.YtambpjbpdackfaaGreat.A.E


set_option linter.unusedVariables false
set_option linter.unusedSimpArgs false
namespace Go.Proofs.YtambpjbpdackfaaGreat.A
open Go Go.RowKit Go.Shelf

theorem grid_getD {g : Nat → Nat → Int} {n N i k : Nat} (hi : i < N) (hk : k < n) : (gridP g n N 0).getD (i * n + k) 0 = g i k := by
  rw [List.getD_eq_getElem?_getD, gridP_get g n N i k hi hk, Option.getD_some]
end Go.Proofs.YtambpjbpdackfaaGreat.A


set_option linter.unusedVariables false
set_option linter.unusedSimpArgs false
set_option maxRecDepth 100000
namespace Go.Proofs.YtambpjbpdackfaaGreat.A
open Go Go.RowKit Go.Shelf

/-! ### The unit -/
def unitP (n k : Nat) : List Int := gridP (fun i j => if i = j ∧ i < k then 1 else 0) n n 0
theorem unitP_length (n k : Nat) : (unitP n k).length = n * n := by rw [unitP, gridP_length, Nat.add_zero]
theorem unitP_zero (n : Nat) : unitP n 0 = List.replicate (n * n) 0 := by
  refine (grid_of (by simp) fun i k hi hk => ?_).symm
  have := at_table hi hk
  rw [List.getElem?_replicate, if_pos this.1]
  simp
theorem table_inj {n i j k : Nat} (hi : i < n) (hj : j < n) (h : i * n + j = k * n + k) (hk : k < n) : i = k ∧ j = k := by
  have h1 : (i * n + j) / n = i := by rw [Nat.mul_comm, Nat.mul_add_div (by omega), Nat.div_eq_of_lt hj, Nat.add_zero]
  have h2 : (k * n + k) / n = k := by rw [Nat.mul_comm, Nat.mul_add_div (by omega), Nat.div_eq_of_lt hk, Nat.add_zero]
  rw [h, h2] at h1
  subst h1
  exact ⟨rfl, by omega⟩
theorem unitP_succ {n k : Nat} (hk : k < n) : (unitP n k).set (k * n + k) 1 = unitP n (k + 1) := by
  refine grid_of (by rw [List.length_set, unitP_length]) fun i j hi hj => ?_
  have hg : (unitP n k)[i * n + j]? = some (if i = j ∧ i < k then 1 else 0) := gridP_get _ _ _ _ _ hi hj
  rw [List.getElem?_set]
  have ht := at_table hk hk
  by_cases h : k * n + k = i * n + j
  · obtain ⟨rfl, rfl⟩ := table_inj hi hj h.symm hk
    rw [if_pos rfl, if_pos (by rw [unitP_length]; exact ht.1)]
    simp
  · rw [if_neg h, hg]
    congr 1
    by_cases h2 : i = j
    · subst h2
      have : i ≠ k := fun e => h (by rw [e])
      by_cases h3 : i < k
      · simp [h3, show i < k + 1 by omega]
      · simp [h3, show ¬ i < k + 1 by omega]
    · simp [h2]
theorem tovs_nums : ∀ (l : List Int), tovs (l.map fun z => nt z) = some (l.map num)
  | [] => rfl
  | z :: l => by
    simp only [List.map_cons, tovs, tov, tovs_nums l]
theorem one_nums (l : List Int) : (l.map num).all PV.one = true := by
  simp [PV.one]
theorem set_nums {l : List Int} {i : Nat} (h : i < l.length) (x : Int) : (l.map fun z => nt z).take i ++ (nt x :: (l.map fun z => nt z).drop (i + 1)) = (l.set i x).map fun z => nt z := by
  rw [List.map_set, List.set_eq_take_append_cons_drop, if_pos (by simpa using h)]

end Go.Proofs.YtambpjbpdackfaaGreat.A


set_option linter.unusedVariables false
set_option linter.unusedSimpArgs false
set_option maxRecDepth 100000
namespace Go.Proofs.YtambpjbpdackfaaGreat.A.E
open Go Go.RowKit Go.Shelf

theorem ok190 (n : Int) : Ok Tryz.prog 190 [num n] (if 1 ≤ n ∧ n ≤ 16 then .tup [matV false n n (frs ((unitP n.toNat n.toNat).map (newF · 1))), tru true] else .tup [matNil, tru false]) := by
  refine ok_fn mixed Tryz.func190 (code := ?_) (h := h190) ?_ k190 ?_
  rotate_left
  · exact rfl
  unfold h190 initS
  simp -implicitDefEqProofs only [rkA, rkB, stepA, valA, simprocAttr, Tryz.ntmps190, Tryz.results190]
  by_cases hn : 1 ≤ n ∧ n ≤ 16
  · rw [if_pos hn]
    obtain ⟨n1, n2⟩ := hn
    obtain ⟨N, rfl⟩ := Int.eq_ofNat_of_zero_le (show 0 ≤ n by omega)
    rw [Int.toNat_natCast]
    repeat' (refine gB_dec ?_ ?_ <;> intro hc <;> first | (exfalso; omega) | simp -implicitDefEqProofs only [hc, rkA, rkB, stepA, valA, simprocAttr])
    have s := side16 (n := N) (m := N) (by omega) (by omega)
    have cN : (N : Int) * (N : Int) = ((N * N : Nat) : Int) := by simp
    have wN := wrapped (x := ((N * N : Nat) : Int)) (by omega) (by omega)
    have hc1 : (0 : Int) ≤ ((N * N : Nat) : Int) := by omega
    have hc2 : ((N * N : Nat) : Int) * (8 : Int) ≤ 140737488355328 := by omega
    have hc3 : ((N * N : Nat) : Int) ≤ 16777216 := by omega
    have hk : (List.replicate (N * N) (nt 0)).map (TV.killPtr 16) = (unitP N 0).map fun z => nt z := by
      rw [List.map_replicate, unitP_zero, List.map_replicate]
      rfl
    simp -implicitDefEqProofs only [cN, wN, hc1, hc2, hc3, Int.toNat_natCast, hk, rkA, rkB, stepA, valA, simprocAttr]
    refine wp_loop (fun m s => ∃ k : Nat, k + m = N ∧ s = ⟨[nt N, jk, .ptr 2 0, jk, .own 16 (N * N), jk, jk, jk, jk, jk, jk, jk, jk, jk, jk, jk, jk, nt N, nt k, jk, jk, jk, jk, jk, jk, jk, jk, jk, jk, jk, jk, jk, jk, jk, jk], [(2, [nt 0, nt 0, .acc 3002 []]), (16, (unitP N k).map fun z => nt z)], [], [(3002, 0)], [], 0, nomem⟩) N ?_ ?_
    · simp -implicitDefEqProofs only [rkA, rkB, stepA, valA, simprocAttr]
      exact ⟨0, by simp, rfl⟩
    rintro m s' ⟨k, hkm, rfl⟩
    simp -implicitDefEqProofs only [rkA, rkB, stepA, valA, simprocAttr]
    refine gB_dec ?_ ?_ <;> intro hc <;> simp -implicitDefEqProofs only [hc, rkA, rkB, stepA, valA, simprocAttr]
    · have tt := at_table (i := k) (j := k) (n := N) (m := N) (by omega) (by omega)
      have c2 : (k : Int) * (N : Int) = ((k * N : Nat) : Int) := by simp
      have c3 : ((k * N : Nat) : Int) + (k : Int) = ((k * N + k : Nat) : Int) := by simp
      have w2 := wrapped (x := ((k * N : Nat) : Int)) (by omega) (by omega)
      have w3 := wrapped (x := ((k * N + k : Nat) : Int)) (by omega) (by omega)
      have w4 := wrapped (x := (k : Int) + 1) (by omega) (by omega)
      have n1 : (0 : Int) ≤ ((k * N + k : Nat) : Int) := by omega
      have n2 : ((k * N + k : Nat) : Int) < ((N * N : Nat) : Int) := by omega
      have hlen : k * N + k + 1 ≤ ((unitP N k).map fun z => nt z).length := by
        rw [List.length_map, unitP_length]
        omega
      have hset := set_nums (l := unitP N k) (i := k * N + k) (by rw [unitP_length]; exact tt.1) 1
      rw [unitP_succ (by omega)] at hset
      simp -implicitDefEqProofs only [c2, w2, c3, w3, n1, n2, Int.toNat_natCast, hlen, w4, hset, rkA, rkB, stepA, valA, simprocAttr]
      refine loopK_of (m' := m - 1) (by omega) ?_
      simp -implicitDefEqProofs only [rkA, rkB, stepA, valA, simprocAttr]
      exact ⟨k + 1, by omega, by simp only [Int.natCast_add, Int.natCast_one]⟩
    · have hkN : k = N := by omega
      subst hkN
      have hl : ((unitP k k).map num).length = k * k := by rw [List.length_map, unitP_length]
      simp -implicitDefEqProofs only [tovs_nums, one_nums, hl, rkA, rkB, stepA, valA, simprocAttr]
      have h12 := ok84 (k : Int) (k : Int) true (unitP k k) (by rw [unitP_length]; omega)
      rw [if_pos (right_nat (by omega) (by omega) (unitP_length k k))] at h12
      refine call_fn rfl rfl rfl (h12) ?_
      simp -implicitDefEqProofs only [rkA, rkB, stepA, valA, simprocAttr]
  · rw [if_neg hn]
    repeat' (refine gB_dec ?_ ?_ <;> intro hc <;> first | (exfalso; omega) | simp -implicitDefEqProofs only [hc, rkA, rkB, stepA, valA, simprocAttr])
end Go.Proofs.YtambpjbpdackfaaGreat.A.E



set_option linter.unusedVariables false
set_option linter.unusedSimpArgs false
set_option maxRecDepth 100000
namespace Go.Proofs.YtambpjbpdackfaaGreat.A
open Go Go.RowKit Go.Shelf

/-! ### Plain laws of products -/
theorem dotI_sum (a b : List Int) (many cols i k : Nat) : ∀ j, dotI a b many cols i k j = ((List.range j).map fun j => a.getD (i * many + j) 0 * b.getD (j * cols + k) 0).sum
  | 0 => rfl
  | j + 1 => by
    simp only [dotI, List.range_succ, List.map_append, List.sum_append, List.map_cons, List.map_nil, List.sum_cons, List.sum_nil]
    rw [dotI_sum a b many cols i k j]
    omega

theorem sum_congr {f g : Nat → Int} {n : Nat} (h : ∀ j, j < n → f j = g j) : ((List.range n).map f).sum = ((List.range n).map g).sum := by
  congr 1
  apply List.map_congr_left
  intro j hj
  exact h j (List.mem_range.1 hj)
theorem sum_mul (f : Nat → Int) (c : Int) : ∀ n, ((List.range n).map f).sum * c = ((List.range n).map fun j => f j * c).sum
  | 0 => by simp
  | n + 1 => by
    simp only [List.range_succ, List.map_append, List.sum_append, List.map_cons, List.map_nil, List.sum_cons, List.sum_nil, Int.add_mul]
    rw [sum_mul f c n]
    omega
theorem mul_sum' (f : Nat → Int) (c : Int) (n : Nat) : c * ((List.range n).map f).sum = ((List.range n).map fun j => c * f j).sum := by
  rw [Int.mul_comm, sum_mul]
  exact sum_congr fun j _ => Int.mul_comm _ _
theorem sum_add (f g : Nat → Int) : ∀ n, ((List.range n).map fun j => f j + g j).sum = ((List.range n).map f).sum + ((List.range n).map g).sum
  | 0 => rfl
  | n + 1 => by
    simp only [List.range_succ, List.map_append, List.sum_append, List.map_cons, List.map_nil, List.sum_cons, List.sum_nil]
    rw [sum_add f g n]
    omega
theorem sum_swap (f : Nat → Nat → Int) : ∀ n m, ((List.range n).map fun i => ((List.range m).map fun j => f i j).sum).sum = ((List.range m).map fun j => ((List.range n).map fun i => f i j).sum).sum
  | 0, m => by
    have : ∀ m : Nat, ((List.range m).map fun _ => (0 : Int)).sum = 0 := fun m => by
      induction m with
      | zero => rfl
      | succ m ih => simp [List.range_succ, ih]
    simp [this]
  | n + 1, m => by
    simp only [List.range_succ, List.map_append, List.sum_append, List.map_cons, List.map_nil, List.sum_cons, List.sum_nil, Int.add_zero]
    rw [sum_swap f n m, sum_add]

/-- Brackets do not matter. -/
theorem mul_assoc {a b c : List Int} {N : Nat} : mulI (mulI a b N N N) c N N N = mulI a (mulI b c N N N) N N N := by
  have hg : ∀ {x y : List Int} {i k : Nat}, i < N → k < N → (mulI x y N N N).getD (i * N + k) 0 = dotI x y N N i k N := fun hi hk => grid_getD hi hk
  show gridP _ N N 0 = gridP _ N N 0
  refine gridP_congr fun i k hi hk => ?_
  rw [dotI_sum, dotI_sum]
  have e1 : ((List.range N).map fun j => (mulI a b N N N).getD (i * N + j) 0 * c.getD (j * N + k) 0).sum = ((List.range N).map fun j => ((List.range N).map fun l => a.getD (i * N + l) 0 * b.getD (l * N + j) 0 * c.getD (j * N + k) 0).sum).sum :=
    sum_congr fun j hj => by rw [hg hi hj, dotI_sum, sum_mul]
  have e2 : ((List.range N).map fun l => a.getD (i * N + l) 0 * (mulI b c N N N).getD (l * N + k) 0).sum = ((List.range N).map fun l => ((List.range N).map fun j => a.getD (i * N + l) 0 * b.getD (l * N + j) 0 * c.getD (j * N + k) 0).sum).sum :=
    sum_congr fun l hl => by
      rw [hg hl hk, dotI_sum, mul_sum']
      exact sum_congr fun j _ => by rw [Int.mul_assoc]
  rw [e1, e2, sum_swap]

end Go.Proofs.YtambpjbpdackfaaGreat.A


set_option linter.unusedVariables false
set_option linter.unusedSimpArgs false
set_option maxRecDepth 100000
namespace Go.Proofs.YtambpjbpdackfaaGreat.A
open Go Go.RowKit Go.Shelf

/-! ### Division -/
theorem methDiv : Meth Tryz.prog 47 "Div" 265 := by
  intro v xs w
  rfl

def divF (a b : Fr) : Fr := if a.fine = false ∨ b.fine = false then .wrong else newF (a.n * b.d) (a.d * b.n)
/-! ### A row, scaled -/
/-! ### Squares -/
/-- A square. -/
def sqF (r : Int) (l : List Fr) : List Fr := mirF r (prodF r r r l (turnF r r l))
theorem prodF_len {r m c : Int} {a b : List Fr} : (prodF r m c a b).length = r.toNat * c.toNat := by
  unfold prodF
  simp only [List.length_flatMap, List.length_map, allF, List.length_range, List.map_map]
  have e : ∀ l : List Nat, (l.map ((fun _ => c.toNat) ∘ fun (i : Nat) => rowF r m a (i : Int))).sum = l.length * c.toNat := fun l => by
    induction l with
    | nil => simp
    | cons x l ih => rw [List.map_cons, List.sum_cons, ih, List.length_cons, Nat.add_mul, Nat.one_mul, Nat.add_comm]; rfl
  rw [e, List.length_range]
theorem right_sq {n : Nat} (hn : 1 ≤ n ∧ n ≤ 16) {l : List Fr} (h : l.length = n * n) : right (n : Int) (n : Int) l.length = true := right_nat hn hn h
end Go.Proofs.YtambpjbpdackfaaGreat.A


set_option linter.unusedVariables false
set_option linter.unusedSimpArgs false
set_option maxRecDepth 100000
namespace Go.Proofs.YtambpjbpdackfaaGreat.A.E
open Go Go.RowKit Go.Shelf

theorem methDiv : Meth Tryz.prog 28 "Div" 249 := by
  intro v xs w
  rfl

theorem ok153 (ex : Bool) (l : List Fr) (y : Fr) (h : l.length ≤ 4398046511104) : Ok Tryz.prog 153 [.sl ex (frs l), frV y] (.sl false (frs (l.map (mulF · y)))) := by
  refine ok_fn mixed Tryz.func153 (code := ?_) (h := h153) ?_ k153 ?_
  rotate_left
  · exact rfl
  unfold h153 initS
  simp -implicitDefEqProofs only [rkA, rkB, stepA, valA, simprocAttr, Tryz.ntmps153, Tryz.results153]
  refine wp_loop (fun m s => ∃ i : Nat, i + m = l.length ∧ s = ⟨[jk, jk, jk, .ptr 3 0, jk, .acc 5 (frs ((l.take i).map (mulF · y))), jk, jk, .v (.sl ex (frs l)), nt (frs l).length, nt i, jk, jk, jk, jk, jk, jk, jk, jk, jk, jk, jk, jk], [(3, [nt y.v, nt y.lo, nt y.hi, .v (tru y.bad)])], [], [(4, 0), (5, i)], [], 0, nomem⟩) l.length ?_ ?_
  · simp -implicitDefEqProofs only [rkA, rkB, stepA, valA, simprocAttr]
    exact ⟨0, by simp, rfl⟩
  rintro m s ⟨i, hi, rfl⟩
  simp -implicitDefEqProofs only [rkA, rkB, stepA, valA, simprocAttr]
  refine gB_dec ?_ ?_ <;> intro hc <;> simp -implicitDefEqProofs only [hc, rkA, rkB, stepA, valA, simprocAttr]
  · have hlt : i < l.length := by simpa using hc
    have h0 : (0 : Int) ≤ (i : Int) := by omega
    have hg : (frs l)[i]? = some (frV l[i]) := by simp [hlt]
    simp -implicitDefEqProofs only [h0, Int.toNat_natCast, hg, rkA, rkB, stepA, valA, simprocAttr]
    refine call_meth rfl rfl methMul (ok250 l[i] y) ?_
    have hfit : fits 4 32 (frs ((l.take i).map (mulF · y))) [frV (mulF l[i] y)] = true := fits_frs (l := [mulF l[i] y]) (by simp; omega)
    have hw := wrapped (x := (i : Int) + 1) (by omega) (by omega)
    have hl : (frs ((l.take i).map (mulF · y))).length = i := by simp; omega
    simp -implicitDefEqProofs only [hfit, hl, hw, rkA, rkB, stepA, valA, simprocAttr]
    refine loopK_of (m' := m - 1) (by omega) ?_
    simp -implicitDefEqProofs only [rkA, rkB, stepA, valA, simprocAttr]
    refine ⟨i + 1, by omega, ?_⟩
    rw [List.take_succ_eq_append_getElem hlt]
    simp only [frs, List.map_append, List.map_cons, List.map_nil, Int.natCast_add, Int.natCast_one]
  · have : l.length ≤ i := by simp only [List.length_map] at hc; omega
    rw [List.take_of_length_le this]

theorem ok154 (ex : Bool) (r c : Int) (l : List Fr) : Ok Tryz.prog 154 [matV ex r c (frs l)] (tru (right r c l.length && (r == c))) := by
  refine ok_fn mixed Tryz.func154 (code := ?_) (h := h154) ?_ k154 ?_
  rotate_left
  · exact rfl
  unfold h154 initS
  simp -implicitDefEqProofs only [rkA, rkB, stepA, valA, simprocAttr, Tryz.ntmps154, Tryz.results154]
  refine call_fn rfl rfl rfl (ok72 ex r c (frs l)) ?_
  have e : (frs l).length = l.length := by simp
  rw [e]
  cases hr : right r c l.length with
  | false => simp -implicitDefEqProofs only [rkA, rkB, stepA, valA, simprocAttr]
  | true => simp -implicitDefEqProofs only [rkA, rkB, stepA, valA, simprocAttr]

/-- A square. -/
def sqF (r : Int) (l : List Fr) : List Fr := mirF r (prodF r r r l (turnF r r l))
theorem prodF_len {r m c : Int} {a b : List Fr} : (prodF r m c a b).length = r.toNat * c.toNat := by
  unfold prodF
  simp only [List.length_flatMap, List.length_map, allF, List.length_range, List.map_map]
  have e : ∀ l : List Nat, (l.map ((fun _ => c.toNat) ∘ fun (i : Nat) => rowF r m a (i : Int))).sum = l.length * c.toNat := fun l => by
    induction l with
    | nil => simp
    | cons x l ih => rw [List.map_cons, List.sum_cons, ih, List.length_cons, Nat.add_mul, Nat.one_mul, Nat.add_comm]; rfl
  rw [e, List.length_range]
theorem right_sq {n : Nat} (hn : 1 ≤ n ∧ n ≤ 16) {l : List Fr} (h : l.length = n * n) : right (n : Int) (n : Int) l.length = true := right_nat hn hn h
theorem ok109 (n : Nat) (hn : 1 ≤ n ∧ n ≤ 16) (ex : Bool) (l : List Fr) (h : l.length = n * n) : Ok Tryz.prog 109 [matV ex n n (frs l)] (.tup [matV false n n (frs (sqF n l)), tru true]) := by
  have hr := right_sq hn h
  refine ok_fn mixed Tryz.func109 (code := ?_) (h := h109) ?_ k109 ?_
  rotate_left
  · exact rfl
  unfold h109 initS
  simp -implicitDefEqProofs only [rkA, rkB, stepA, valA, simprocAttr, Tryz.ntmps109, Tryz.results109]
  refine call_fn rfl rfl rfl (ok154 ex n n l) ?_
  simp -implicitDefEqProofs only [hr, beq_self_eq_true, rkA, rkB, stepA, valA, simprocAttr]
  have h25 := ok161 ex n n l
  rw [if_pos hr] at h25
  refine call_fn rfl rfl rfl (h25) ?_
  simp -implicitDefEqProofs only [rkA, rkB, stepA, valA, simprocAttr]
  have hrt := right_turn hr
  have h13 := ok175 ex false n n n n l (turnF n n l)
  rw [if_pos ⟨hr, hrt, rfl⟩] at h13
  refine call_fn rfl rfl rfl (h13) ?_
  simp -implicitDefEqProofs only [rkA, rkB, stepA, valA, simprocAttr]
  have h33 := ok65 false n n (prodF n n n l (turnF n n l))
  have hp : right (n : Int) (n : Int) (prodF n n n l (turnF n n l)).length = true := right_sq hn (by rw [prodF_len]; simp)
  rw [if_pos ⟨hp, rfl⟩] at h33
  refine call_fn rfl rfl rfl (h33) ?_
  simp -implicitDefEqProofs only [rkA, rkB, stepA, valA, simprocAttr, sqF]
end Go.Proofs.YtambpjbpdackfaaGreat.A.E


set_option linter.unusedVariables false
set_option linter.unusedSimpArgs false
set_option maxRecDepth 100000
namespace Go.Proofs.YtambpjbpdackfaaGreat.A
open Go Go.RowKit Go.Shelf

/-! ### Squares in memory, row by row -/
def rowM (n : Nat) (M : Nat → Nat → Fr) (i : Nat) : List Fr := (List.range n).map (M i)
def setM (M : Nat → Nat → Fr) (i k : Nat) (x : Fr) : Nat → Nat → Fr := fun a b => if a = i ∧ b = k then x else M a b
theorem rowM_length (n : Nat) (M : Nat → Nat → Fr) (i : Nat) : (rowM n M i).length = n := by simp [rowM]
theorem rowM_get {n : Nat} {M : Nat → Nat → Fr} {i k : Nat} (h : k < n) : (rowM n M i)[k]? = some (M i k) := by simp [rowM, h]
theorem rowM_set {n : Nat} {M : Nat → Nat → Fr} {i k : Nat} {x : Fr} (h : k < n) : (rowM n M i).set k x = rowM n (setM M i k x) i := by
  apply List.ext_getElem?
  intro j
  rw [List.getElem?_set]
  by_cases hj : j < n
  · by_cases e : k = j
    · subst e
      rw [if_pos rfl, if_pos (by rw [rowM_length]; exact h), rowM_get h]
      simp [setM]
    · rw [if_neg e, rowM_get hj, rowM_get hj]
      have : ¬ (j = k) := fun h => e h.symm
      simp [setM, this]
  · rw [if_neg (by omega), List.getElem?_eq_none (by rw [rowM_length]; omega), List.getElem?_eq_none (by rw [rowM_length]; omega)]
theorem rowM_other {n : Nat} {M : Nat → Nat → Fr} {i j k : Nat} {x : Fr} (h : j ≠ i) : rowM n (setM M i k x) j = rowM n M j := by
  simp [rowM, setM, h]

abbrev rawRow (c n : Nat) : PV := .s (.slice (some ⟨c, 0, none⟩) n n)
abbrev nilRow : PV := .s (.slice none 0 0)
/-- The rows' row: b of n are there. -/
def headR (n b : Nat) (c : Nat → Nat) : List PV := (List.range n).map fun j => if j < b then rawRow (c j) n else nilRow
theorem headR_length (n b : Nat) (c : Nat → Nat) : (headR n b c).length = n := by simp [headR]
structure RowsIn (m : Mem) (R : Nat) (c : Nat → Nat) (n b : Nat) (M : Nat → Nat → Fr) : Prop where
  head : m R = some (headR n b c)
  row : ∀ i, i < b → m (c i) = some (flat (frs (rowM n M i)))
  ne : ∀ i, i < b → c i ≠ R
  inj : ∀ i j, i < b → j < b → c i = c j → i = j

theorem ldM_fr {l : List Fr} {k : Nat} {x : Fr} (h : l[k]? = some x) : ldM true 3 (k * 3) (flat (frs l)) = some (.v (frV x)) := by
  have := ldM_elem (els := frs l) (sz := 3) (k := k) (e := frV x) (frs_cells l) (by simp [h]) []
  rwa [List.append_nil] at this
theorem RowsIn.store {m : Mem} {R : Nat} {c : Nat → Nat} {n b : Nat} {M : Nat → Nat → Fr} (h : RowsIn m R c n b M) {i k : Nat} (hi : i < b) (hk : k < n) (x : Fr) :
    RowsIn (m.put (c i) (flat (frs ((rowM n M i).set k x)))) R c n b (setM M i k x) where
  head := by rw [Mem.put_other _ _ (fun e => h.ne i hi e.symm)]; exact h.head
  row := fun j hj => by
    by_cases e : j = i
    · subst e
      rw [Mem.put_same, rowM_set hk]
    · rw [Mem.put_other _ _ (fun e' => e (h.inj j i hj hi e')), rowM_other e]
      exact h.row j hj
  ne := h.ne
  inj := h.inj

theorem tells_map {α : Type} {m : Mem} {f g : α → PV} : ∀ {l : List α}, (∀ x ∈ l, Tell m (f x) (g x)) → Tells m (l.map f) (l.map g)
  | [], _ => .nil
  | x :: l, h => .cons (h x (by simp)) (tells_map fun y hy => h y (by simp [hy]))

/-- The rows, as values. -/
abbrev rowsV (n : Nat) (M : Nat → Nat → Fr) : PV := .sl true ((List.range n).map fun i => .sl false (frs (rowM n M i)))
theorem flat_one {l : List PV} (h : ∀ x ∈ l, x.cells = [x]) : flat l = l := by
  induction l with
  | nil => rfl
  | cons x l ih =>
    have e1 := h x (by simp)
    have e2 := ih fun y hy => h y (by simp [hy])
    simp only [flat, List.flatMap_cons, e1] at e2 ⊢
    rw [e2]
    rfl
theorem RowsIn.tell {m : Mem} {R : Nat} {c : Nat → Nat} {n : Nat} {M : Nat → Nat → Fr} (h : RowsIn m R c n n M) : Tell m (rawRow R n) (rowsV n M) := by
  have hf : flat ((List.range n).map fun i => PV.sl false (frs (rowM n M i))) = (List.range n).map fun i => PV.sl false (frs (rowM n M i)) := flat_one fun x hx => by
    obtain ⟨i, _, rfl⟩ := List.mem_map.1 hx
    rfl
  refine .row (sz := 1) h.head (fun x hx => ?_) (by simp) (by rw [hf, headR_length]; simp) (Nat.le_refl _) (fun _ => rfl) ?_
  · obtain ⟨i, _, rfl⟩ := List.mem_map.1 hx
    rfl
  · rw [hf, List.drop_zero, List.take_of_length_le (by rw [headR_length]; simp)]
    refine tells_map fun i hi => ?_
    have hi' := List.mem_range.1 hi
    rw [if_pos hi']
    have e := h.row i hi'
    rw [← List.append_nil (flat _)] at e
    have := tell_row (m := m) (b := c i) (cap := n) (q := 0) (l := rowM n M i) e (by simp [rowM_length])
    simpa [rowM_length] using this

/-! ### The root of a square -/
theorem slice_to {l : List Fr} {ex : Bool} {k : Nat} (h : k ≤ l.length) : sliceA 3 (frs l) ex none (some k) none = some (.sl (exA none ex k (frs l).length) (frs (l.take k))) := by
  unfold sliceA
  have hc : ((frs l).all fun e => e.cells.length == 3) = true := by simp [PV.cells]
  simp only [Option.getD_some, Option.getD_none]
  rw [if_pos ⟨by omega, by simpa using h, by simp, hc⟩]
  simp [List.map_take]

theorem methRoot : Meth Tryz.prog 47 "Root" 270 := by
  intro v xs w
  rfl

/-- While the rows are made: noughts so far, zero values behind. -/
def zeroM (i k : Nat) : Nat → Nat → Fr := fun a b => if a < i ∨ a = i ∧ b < k then newF 0 1 else ⟨0, 0, false⟩

theorem flat_zeros : ∀ (n : Nat), (List.replicate n [num 0, num 0, tru false]).flatten = flat (frs (List.replicate n (⟨0, 0, false⟩ : Fr)))
  | 0 => rfl
  | n + 1 => by
    rw [List.replicate_succ, List.flatten_cons, flat_zeros n]
    rfl
theorem zero_row (n i : Nat) : rowM n (zeroM i 0) i = List.replicate n ⟨0, 0, false⟩ := by
  apply List.ext_getElem?
  intro j
  by_cases h : j < n
  · rw [rowM_get h]; simp [zeroM, h]
  · rw [List.getElem?_eq_none (by rw [rowM_length]; omega), List.getElem?_eq_none (by simp; omega)]
theorem RowsIn.grow {m : Mem} {R : Nat} {c : Nat → Nat} {n i b : Nat} (h : RowsIn m R c n i (zeroM i 0)) (hi : i < n) (hb : m b = none) :
    RowsIn ((m.put b (flat (frs (List.replicate n (⟨0, 0, false⟩ : Fr))))).put R (headR n (i + 1) (fun j => if j = i then b else c j))) R (fun j => if j = i then b else c j) n (i + 1) (zeroM i 0) := by
  have hRb : R ≠ b := fun e => by have := h.head; rw [e, hb] at this; cases this
  have hcb : ∀ j, j < i → c j ≠ b := fun j hj e => by have := h.row j hj; rw [e, hb] at this; cases this
  refine ⟨Mem.put_same _ _ _, fun j hj => ?_, fun j hj => ?_, fun j k hj hk => ?_⟩
  · by_cases e : j = i
    · subst e
      rw [if_pos rfl, Mem.put_other _ _ (fun e => hRb e.symm), Mem.put_same, zero_row]
    · rw [if_neg e, Mem.put_other _ _ (h.ne j (by omega)), Mem.put_other _ _ (hcb j (by omega))]
      exact h.row j (by omega)
  · by_cases e : j = i
    · rw [if_pos e]; exact fun e => hRb e.symm
    · rw [if_neg e]; exact h.ne j (by omega)
  · by_cases e : j = i <;> by_cases e' : k = i
    · intro _; omega
    · rw [if_pos e, if_neg e']
      exact fun h1 => absurd h1.symm (hcb k (by omega))
    · rw [if_neg e, if_pos e']
      exact fun h1 => absurd h1 (hcb j (by omega))
    · rw [if_neg e, if_neg e']
      exact h.inj j k (by omega) (by omega)
theorem RowsIn.congr {m : Mem} {R : Nat} {c : Nat → Nat} {n b : Nat} {M N : Nat → Nat → Fr} (h : RowsIn m R c n b M) (hMN : ∀ i k, i < b → k < n → M i k = N i k) : RowsIn m R c n b N :=
  ⟨h.head, fun i hi => by
    have e : rowM n N i = rowM n M i := by
      unfold rowM
      exact List.map_congr_left fun k hk => (hMN i k hi (List.mem_range.1 hk)).symm
    rw [e]
    exact h.row i hi, h.ne, h.inj⟩

end Go.Proofs.YtambpjbpdackfaaGreat.A


set_option linter.unusedVariables false
set_option linter.unusedSimpArgs false
set_option maxRecDepth 100000
namespace Go.Proofs.YtambpjbpdackfaaGreat.A.E
open Go Go.RowKit Go.Shelf

def rowM (n : Nat) (M : Nat → Nat → Fr) (i : Nat) : List Fr := (List.range n).map (M i)
def setM (M : Nat → Nat → Fr) (i k : Nat) (x : Fr) : Nat → Nat → Fr := fun a b => if a = i ∧ b = k then x else M a b
theorem rowM_length (n : Nat) (M : Nat → Nat → Fr) (i : Nat) : (rowM n M i).length = n := by simp [rowM]
theorem rowM_get {n : Nat} {M : Nat → Nat → Fr} {i k : Nat} (h : k < n) : (rowM n M i)[k]? = some (M i k) := by simp [rowM, h]
theorem rowM_set {n : Nat} {M : Nat → Nat → Fr} {i k : Nat} {x : Fr} (h : k < n) : (rowM n M i).set k x = rowM n (setM M i k x) i := by
  apply List.ext_getElem?
  intro j
  rw [List.getElem?_set]
  by_cases hj : j < n
  · by_cases e : k = j
    · subst e
      rw [if_pos rfl, if_pos (by rw [rowM_length]; exact h), rowM_get h]
      simp [setM]
    · rw [if_neg e, rowM_get hj, rowM_get hj]
      have : ¬ (j = k) := fun h => e h.symm
      simp [setM, this]
  · rw [if_neg (by omega), List.getElem?_eq_none (by rw [rowM_length]; omega), List.getElem?_eq_none (by rw [rowM_length]; omega)]
theorem rowM_other {n : Nat} {M : Nat → Nat → Fr} {i j k : Nat} {x : Fr} (h : j ≠ i) : rowM n (setM M i k x) j = rowM n M j := by
  simp [rowM, setM, h]

structure RowsIn (m : Mem) (R : Nat) (c : Nat → Nat) (n b : Nat) (M : Nat → Nat → Fr) : Prop where
  head : m R = some (headR n b c)
  row : ∀ i, i < b → m (c i) = some (flat (frs (rowM n M i)))
  ne : ∀ i, i < b → c i ≠ R
  inj : ∀ i j, i < b → j < b → c i = c j → i = j

theorem ldM_fr {l : List Fr} {k : Nat} {x : Fr} (h : l[k]? = some x) : ldM true 4 (k * 4) (flat (frs l)) = some (.v (frV x)) := by
  have := ldM_elem (els := frs l) (sz := 4) (k := k) (e := frV x) (frs_cells l) (by simp [h]) []
  rwa [List.append_nil] at this
theorem RowsIn.store {m : Mem} {R : Nat} {c : Nat → Nat} {n b : Nat} {M : Nat → Nat → Fr} (h : RowsIn m R c n b M) {i k : Nat} (hi : i < b) (hk : k < n) (x : Fr) :
    RowsIn (m.put (c i) (flat (frs ((rowM n M i).set k x)))) R c n b (setM M i k x) where
  head := by rw [Mem.put_other _ _ (fun e => h.ne i hi e.symm)]; exact h.head
  row := fun j hj => by
    by_cases e : j = i
    · subst e
      rw [Mem.put_same, rowM_set hk]
    · rw [Mem.put_other _ _ (fun e' => e (h.inj j i hj hi e')), rowM_other e]
      exact h.row j hj
  ne := h.ne
  inj := h.inj

/-- The rows, as values. -/
abbrev rowsV (n : Nat) (M : Nat → Nat → Fr) : PV := .sl true ((List.range n).map fun i => .sl false (frs (rowM n M i)))
theorem RowsIn.tell {m : Mem} {R : Nat} {c : Nat → Nat} {n : Nat} {M : Nat → Nat → Fr} (h : RowsIn m R c n n M) : Tell m (rawRow R n) (rowsV n M) := by
  have hf : flat ((List.range n).map fun i => PV.sl false (frs (rowM n M i))) = (List.range n).map fun i => PV.sl false (frs (rowM n M i)) := flat_one fun x hx => by
    obtain ⟨i, _, rfl⟩ := List.mem_map.1 hx
    rfl
  refine .row (sz := 1) h.head (fun x hx => ?_) (by simp) (by rw [hf, headR_length]; simp) (Nat.le_refl _) (fun _ => rfl) ?_
  · obtain ⟨i, _, rfl⟩ := List.mem_map.1 hx
    rfl
  · rw [hf, List.drop_zero, List.take_of_length_le (by rw [headR_length]; simp)]
    refine tells_map fun i hi => ?_
    have hi' := List.mem_range.1 hi
    rw [if_pos hi']
    have e := h.row i hi'
    rw [← List.append_nil (flat _)] at e
    have := tell_row (m := m) (b := c i) (cap := n) (q := 0) (l := rowM n M i) e (by simp [rowM_length])
    simpa [rowM_length] using this

theorem slice_to {l : List Fr} {ex : Bool} {k : Nat} (h : k ≤ l.length) : sliceA 4 (frs l) ex none (some k) none = some (.sl (exA none ex k (frs l).length) (frs (l.take k))) := by
  unfold sliceA
  have hc : ((frs l).all fun e => e.cells.length == 4) = true := by simp [PV.cells]
  simp only [Option.getD_some, Option.getD_none]
  rw [if_pos ⟨by omega, by simpa using h, by simp, hc⟩]
  simp [List.map_take]

/-- While the rows are made: noughts so far, zero values behind. -/
def zeroM (i k : Nat) : Nat → Nat → Fr := fun a b => if a < i ∨ a = i ∧ b < k then newF 0 1 else ⟨0, 0, 0, false⟩

theorem flat_zeros : ∀ (n : Nat), (List.replicate n [num 0, num 0, num 0, tru false]).flatten = flat (frs (List.replicate n (⟨0, 0, 0, false⟩ : Fr)))
  | 0 => rfl
  | n + 1 => by
    rw [List.replicate_succ, List.flatten_cons, flat_zeros n]
    rfl
theorem zero_row (n i : Nat) : rowM n (zeroM i 0) i = List.replicate n ⟨0, 0, 0, false⟩ := by
  apply List.ext_getElem?
  intro j
  by_cases h : j < n
  · rw [rowM_get h]; simp [zeroM, h]
  · rw [List.getElem?_eq_none (by rw [rowM_length]; omega), List.getElem?_eq_none (by simp; omega)]
theorem RowsIn.grow {m : Mem} {R : Nat} {c : Nat → Nat} {n i b : Nat} (h : RowsIn m R c n i (zeroM i 0)) (hi : i < n) (hb : m b = none) :
    RowsIn ((m.put b (flat (frs (List.replicate n (⟨0, 0, 0, false⟩ : Fr))))).put R (headR n (i + 1) (fun j => if j = i then b else c j))) R (fun j => if j = i then b else c j) n (i + 1) (zeroM i 0) := by
  have hRb : R ≠ b := fun e => by have := h.head; rw [e, hb] at this; cases this
  have hcb : ∀ j, j < i → c j ≠ b := fun j hj e => by have := h.row j hj; rw [e, hb] at this; cases this
  refine ⟨Mem.put_same _ _ _, fun j hj => ?_, fun j hj => ?_, fun j k hj hk => ?_⟩
  · by_cases e : j = i
    · subst e
      rw [if_pos rfl, Mem.put_other _ _ (fun e => hRb e.symm), Mem.put_same, zero_row]
    · rw [if_neg e, Mem.put_other _ _ (h.ne j (by omega)), Mem.put_other _ _ (hcb j (by omega))]
      exact h.row j (by omega)
  · by_cases e : j = i
    · rw [if_pos e]; exact fun e => hRb e.symm
    · rw [if_neg e]; exact h.ne j (by omega)
  · by_cases e : j = i <;> by_cases e' : k = i
    · intro _; omega
    · rw [if_pos e, if_neg e']
      exact fun h1 => absurd h1.symm (hcb k (by omega))
    · rw [if_neg e, if_pos e']
      exact fun h1 => absurd h1 (hcb j (by omega))
    · rw [if_neg e, if_neg e']
      exact h.inj j k (by omega) (by omega)
theorem RowsIn.congr {m : Mem} {R : Nat} {c : Nat → Nat} {n b : Nat} {M N : Nat → Nat → Fr} (h : RowsIn m R c n b M) (hMN : ∀ i k, i < b → k < n → M i k = N i k) : RowsIn m R c n b N :=
  ⟨h.head, fun i hi => by
    have e : rowM n N i = rowM n M i := by
      unfold rowM
      exact List.map_congr_left fun k hk => (hMN i k hi (List.mem_range.1 hk)).symm
    rw [e]
    exact h.row i hi, h.ne, h.inj⟩

end Go.Proofs.YtambpjbpdackfaaGreat.A.E


set_option linter.unusedVariables false
set_option linter.unusedSimpArgs false
set_option maxRecDepth 100000
namespace Go.Proofs.YtambpjbpdackfaaGreat.A.E
open Go Go.RowKit Go.Shelf

theorem ok155 (n : Nat) (hn : 1 ≤ n ∧ n ≤ 16) (K : Nat) (caps : List PV) (g : Nat → Nat → Fr) (hg : ∀ i k : Nat, i < n → k < n → Ok Tryz.prog K (num i :: num k :: caps) (frV (g i k))) :
    Ok Tryz.prog 155 [num n, .fn (.func K) caps] (.tup [matV false n n (frs (gridP g n n 0)), tru true]) := by
  refine Ok.ofM (okm155 n hn K caps g hg) ?_
  rintro r m ⟨b, cap, q, h1, rfl, rfl⟩
  have hl : (frs (gridP g n n 0)).length = (gridP g n n 0).length := by simp
  exact .tup (.cons (.agg (.cons (.same _) (.cons (.same _) (.cons (tell_row (Mem.put_same _ _ _) h1) .nil)))) (.cons (.same _) .nil))

def clearG (n : Nat) (l : List Fr) (i k : Nat) : Fr := if i < k then newF 0 1 else atF n n l i k
def clearF (n : Nat) (l : List Fr) : List Fr := gridP (clearG n l) n n 0
theorem ok156 (e : Bool) (n : Nat) (l : List Fr) (i k : Nat) : Ok Tryz.prog 156 [num i, num k, .vp [num 0, num 0, num 0, tru false], .vp [num n, num n, .sl e (frs l)]] (frV (clearG n l i k)) := by
  refine ok_fn mixed Tryz.func156 (code := ?_) (h := h156) ?_ k156 ?_
  rotate_left
  · exact rfl
  unfold h156 initS
  simp -implicitDefEqProofs only [rkA, rkB, stepA, valA, simprocAttr, Tryz.ntmps156, Tryz.results156]
  unfold clearG
  refine gB_dec ?_ ?_ <;> intro hc <;> simp -implicitDefEqProofs only [hc, rkA, rkB, stepA, valA, simprocAttr]
  · have : i < k := by omega
    refine call_meth rfl rfl methOf (ok107 ⟨0, 0, 0, false⟩ 0) ?_
    rw [if_pos this]
    simp -implicitDefEqProofs only [rkA, rkB, stepA, valA, simprocAttr]
  · have : ¬ i < k := by omega
    refine call_fn rfl rfl rfl (ok89 e n n i k l) ?_
    rw [if_neg this]
    simp -implicitDefEqProofs only [rkA, rkB, stepA, valA, simprocAttr]

theorem ok78 (n : Nat) (hn : 1 ≤ n ∧ n ≤ 16) (e : Bool) (l : List Fr) (h : l.length = n * n) : Ok Tryz.prog 78 [matV e n n (frs l)] (.tup [matV false n n (frs (clearF n l)), tru true]) := by
  have hr := right_sq hn h
  refine ok_fn mixed Tryz.func78 (code := ?_) (h := h78) ?_ k78 ?_
  rotate_left
  · exact rfl
  unfold h78 initS
  simp -implicitDefEqProofs only [rkA, rkB, stepA, valA, simprocAttr, Tryz.ntmps78, Tryz.results78]
  refine call_fn rfl rfl rfl (ok154 e n n l) ?_
  simp -implicitDefEqProofs only [hr, beq_self_eq_true, rkA, rkB, stepA, valA, simprocAttr]
  refine call_fn rfl rfl rfl (ok155 n hn _ _ (clearG n l) (fun i k _ _ => ok156 e n l i k)) ?_
  simp -implicitDefEqProofs only [rkA, rkB, stepA, valA, simprocAttr, clearF]

theorem rowF_get {r c : Int} {l : List Fr} (hr : right r c l.length = true) {i k : Nat} (hi : i < r.toNat) (hk : k < c.toNat) : (frs (rowF r c l i))[k]? = some (frV (atF r c l i k)) := by
  have h0 := rowF_eq ⟨0, 0, 0, false⟩ hr (i := i) hi
  have h1 := atF_eq hr (i := i) (k := k) hi hk
  rw [h0, List.getElem?_map, List.getElem?_map, List.getElem?_range hk, h1]
  rfl
end Go.Proofs.YtambpjbpdackfaaGreat.A.E


set_option linter.unusedVariables false
set_option linter.unusedSimpArgs false
set_option maxRecDepth 100000
namespace Go.Proofs.YtambpjbpdackfaaGreat.A
open Go Go.RowKit Go.Shelf

/-! ### Cleared -/
def clearG (n : Nat) (l : List Fr) (i k : Nat) : Fr := if i < k then newF 0 1 else atF n n l i k
def clearF (n : Nat) (l : List Fr) : List Fr := gridP (clearG n l) n n 0
/-! ### The diagonal -/
theorem rowF_get {r c : Int} {l : List Fr} (hr : right r c l.length = true) {i k : Nat} (hi : i < r.toNat) (hk : k < c.toNat) : (frs (rowF r c l i))[k]? = some (frV (atF r c l i k)) := by
  have h0 := rowF_eq ⟨0, 0, false⟩ hr (i := i) hi
  have h1 := atF_eq hr (i := i) (k := k) hi hk
  rw [h0, List.getElem?_map, List.getElem?_map, List.getElem?_range hk, h1]
  rfl
/-! ### Is it a triangle? -/
end Go.Proofs.YtambpjbpdackfaaGreat.A


set_option linter.unusedVariables false
set_option linter.unusedSimpArgs false
set_option maxRecDepth 100000
namespace Go.Proofs.YtambpjbpdackfaaGreat.A
open Go Go.RowKit Go.Shelf

/-! ### Rows in memory of their own -/
/-- Row i, in memory of its own. -/
def rowItem (r c : Int) (l : List Fr) (i : Nat) : Item := fun p m => ∃ b cap q, (frs (rowF r c l i)).length ≤ cap ∧ p = [num i, .s (.slice (some ⟨b, 0, none⟩) (frs (rowF r c l i)).length cap)] ∧ m = nomem.put b (flat (frs (rowF r c l i)) ++ List.replicate q .junk)
def rowItems (r c : Int) (l : List Fr) : List Item := (List.range r.toNat).map (rowItem r c l)
end Go.Proofs.YtambpjbpdackfaaGreat.A


set_option linter.unusedVariables false
set_option linter.unusedSimpArgs false
set_option maxRecDepth 100000
namespace Go.Proofs.YtambpjbpdackfaaGreat.A.E
open Go Go.RowKit Go.Shelf

theorem okn150 (ex : Bool) (r c : Int) (i : Nat) (l : List Fr) (hr : right r c l.length = true) (hi : i < r.toNat) : OkN Tryz.prog 150 [matV ex r c (frs l), num i] (frs (rowF r c l i)) := by
  obtain ⟨r1, r2, c1, c2, hn⟩ := right_spec hr
  have hlen := rowF_len hr hi
  have hrow : rowF r c l i = (l.take (((i : Int) + 1) * c).toNat).drop ((i : Int) * c).toNat := if_pos ⟨hr, by omega, by omega⟩
  have hne : rowF r c l i ≠ [] := fun h => by rw [h] at hlen; simp at hlen; omega
  rw [hrow] at hne ⊢
  refine okn_fn mixed Tryz.func150 (code := ?_) (h := hN150) ?_ kN150 rfl (RFs_frs _) ?_
  rotate_left
  · exact rfl
  unfold hN150 initS
  simp -implicitDefEqProofs only [rkA, rkB, stepA, valA, simprocAttr, Tryz.ntmps150, Tryz.results150]
  refine call_fn rfl rfl rfl (ok72 ex r c (frs l)) ?_
  have e : (frs l).length = l.length := by simp
  have g1 : ¬ (i : Int) < 0 := by omega
  have g2 : ¬ (i : Int) ≥ r := by omega
  obtain ⟨b1, b2, b3, b4, b5⟩ := at_bound (i := i) (k := 0) r2 ⟨c1, c2⟩ (by omega) (by omega)
  have b6 : ((i : Int) + 1) * c = i * c + c := by rw [Int.add_mul, Int.one_mul]
  have b7 : ((i : Int) + 1) * c ≤ r * c := Int.mul_le_mul_of_nonneg_right (by omega) (by omega)
  have w1 := wrapped (x := (i : Int) * c) (by omega) (by omega)
  have w2 := wrapped (x := (i : Int) + 1) (by omega) (by omega)
  have w3 := wrapped (x := ((i : Int) + 1) * c) (by omega) (by omega)
  have h3 : 0 ≤ ((i : Int) + 1) * c := by omega
  have hs := sl_frs (ex := ex) (l := l) (a := ((i : Int) * c).toNat) (b := (((i : Int) + 1) * c).toNat) (by omega) (by omega)
  simp -implicitDefEqProofs only [e, hr, g1, g2, w1, w2, w3, b1, h3, hs, rkA, rkB, stepA, valA, simprocAttr]
  refine newRow_fn rfl rfl (Tells.same _ _) (okn71 _ _ hne (by simp; omega)) (RFs_frs _) (by simpa using hne) ?_
  intro b cap q hb hcap
  simp -implicitDefEqProofs only [rkA, rkB, stepA, valA, simprocAttr]
  exact .inr ⟨_, rfl, .inr ⟨by simpa using hne, b, cap, q, hcap, rfl, rfl⟩⟩

/-- Row i, in memory of its own. -/
def rowItem (r c : Int) (l : List Fr) (i : Nat) : Item := fun p m => ∃ b cap q, (frs (rowF r c l i)).length ≤ cap ∧ p = [num i, .s (.slice (some ⟨b, 0, none⟩) (frs (rowF r c l i)).length cap)] ∧ m = nomem.put b (flat (frs (rowF r c l i)) ++ List.replicate q .junk)
def rowItems (r c : Int) (l : List Fr) : List Item := (List.range r.toNat).map (rowItem r c l)
theorem itm149 (ex : Bool) (r c : Int) (l : List Fr) (hr : right r c l.length = true) : IterOkM Tryz.prog (.fn (.func 149) [.vp [num r, num c, .sl ex (frs l)]]) (rowItems r c l) := by
  obtain ⟨r1, r2, c1, c2, hn⟩ := right_spec hr
  have hl : (rowItems r c l).length = r.toNat := by simp [rowItems]
  have e : (frs l).length = l.length := by simp
  have h17 := ok72 ex r c (frs l)
  rw [e, hr] at h17
  refine iterM_fn mixed Tryz.func149 (code := ?_) (h := hN149) ?_ kN149 ?_ ?_
  rotate_left
  · exact rfl
  · exact rfl
  intro yl
  unfold hN149 initS
  simp -implicitDefEqProofs only [rkA, rkB, stepA, valA, simprocAttr, Tryz.ntmps149]
  refine wp_loop (fun m s => ∃ i : Nat, i + m = (rowItems r c l).length ∧ s = ⟨[.v (.fn (.yield yl) []), .v (.vp [num r, num c, .sl ex (frs l)]), jk, nt i, jk, jk, jk, jk, jk, jk, jk, jk, jk, jk, jk, jk, jk, jk, jk, jk, jk], [], [], [], [], i, nomem⟩) (rowItems r c l).length ?_ ?_
  · simp -implicitDefEqProofs only [rkA, rkB, stepA, valA, simprocAttr]
    exact ⟨0, by simp, rfl⟩
  rintro m s ⟨i, hi, rfl⟩
  simp -implicitDefEqProofs only [rkA, rkB, stepA, valA, simprocAttr]
  refine call_fn rfl rfl rfl (h17) ?_
  simp -implicitDefEqProofs only [rkA, rkB, stepA, valA, simprocAttr]
  refine gB_dec ?_ ?_ <;> intro hc <;> simp -implicitDefEqProofs only [hc, rkA, rkB, stepA, valA, simprocAttr]
  · have hlt : i < r.toNat := by omega
    have hlen := rowF_len hr hlt
    have hne : frs (rowF r c l i) ≠ [] := fun h => by
      have := congrArg List.length h
      rw [List.length_map, hlen, List.length_nil] at this
      omega
    refine newRow_fn rfl rfl (Tells.same _ _) (okn150 ex r c i l hr hlt) (RFs_frs _) hne ?_
    intro b cap q hb hcap
    simp -implicitDefEqProofs only [rkA, rkB, stepA, valA, simprocAttr]
    have hx : (rowItems r c l)[i]? = some (rowItem r c l i) := by simp [rowItems, hlt]
    have hw := wrapped (x := (i : Int) + 1) (by omega) (by omega)
    refine call_yieldM rfl rfl rfl rfl hx ⟨b, cap, q, hcap, rfl, rfl⟩ ?_ ?_
    · simp -implicitDefEqProofs only [hw, rkA, rkB, stepA, valA, simprocAttr]
      refine loopK_of (m' := m - 1) (by omega) ?_
      simp -implicitDefEqProofs only [rkA, rkB, stepA, valA, simprocAttr]
      exact ⟨i + 1, by omega, by simp only [Int.natCast_add, Int.natCast_one]⟩
    · simp -implicitDefEqProofs only [rkA, rkB, stepA, valA, simprocAttr]
      exact .inr trivial
  · omega

theorem okn153 (ex : Bool) (l : List Fr) (y : Fr) (h : l.length ≤ 4398046511104) : OkN Tryz.prog 153 [.sl ex (frs l), frV y] (frs (l.map (mulF · y))) := by
  refine okn_fn mixed Tryz.func153 (code := ?_) (h := hN153) ?_ kN153 rfl (RFs_frs _) ?_
  rotate_left
  · exact rfl
  unfold hN153 initS
  simp -implicitDefEqProofs only [rkA, rkB, stepA, valA, simprocAttr, Tryz.ntmps153, Tryz.results153]
  refine wp_loop (fun m s => ∃ i : Nat, i + m = l.length ∧ s = ⟨[jk, jk, jk, .ptr 3 0, jk, .acc 5 (frs ((l.take i).map (mulF · y))), jk, jk, .v (.sl ex (frs l)), nt (frs l).length, nt i, jk, jk, jk, jk, jk, jk, jk, jk, jk, jk, jk, jk], [(3, [nt y.v, nt y.lo, nt y.hi, .v (tru y.bad)])], [], [(4, 0), (5, i)], [], 0, nomem⟩) l.length ?_ ?_
  · simp -implicitDefEqProofs only [rkA, rkB, stepA, valA, simprocAttr]
    exact ⟨0, by simp, rfl⟩
  rintro m s ⟨i, hi, rfl⟩
  simp -implicitDefEqProofs only [rkA, rkB, stepA, valA, simprocAttr]
  refine gB_dec ?_ ?_ <;> intro hc <;> simp -implicitDefEqProofs only [hc, rkA, rkB, stepA, valA, simprocAttr]
  · have hlt : i < l.length := by simpa using hc
    have h0 : (0 : Int) ≤ (i : Int) := by omega
    have hg : (frs l)[i]? = some (frV l[i]) := by simp [hlt]
    simp -implicitDefEqProofs only [h0, Int.toNat_natCast, hg, rkA, rkB, stepA, valA, simprocAttr]
    refine call_meth rfl rfl methMul (ok250 l[i] y) ?_
    have hfit : fits 4 32 (frs ((l.take i).map (mulF · y))) [frV (mulF l[i] y)] = true := fits_frs (l := [mulF l[i] y]) (by simp; omega)
    have hw := wrapped (x := (i : Int) + 1) (by omega) (by omega)
    have hl : (frs ((l.take i).map (mulF · y))).length = i := by simp; omega
    simp -implicitDefEqProofs only [hfit, hl, hw, rkA, rkB, stepA, valA, simprocAttr]
    refine loopK_of (m' := m - 1) (by omega) ?_
    simp -implicitDefEqProofs only [rkA, rkB, stepA, valA, simprocAttr]
    refine ⟨i + 1, by omega, ?_⟩
    rw [List.take_succ_eq_append_getElem hlt]
    simp only [frs, List.map_append, List.map_cons, List.map_nil, Int.natCast_add, Int.natCast_one]
  · have : i = l.length := by simp only [List.length_map] at hc; omega
    rw [List.take_of_length_le (by omega)]
    refine .inl ⟨5, ?_⟩
    simp -implicitDefEqProofs only [rkA, rkB, stepA, valA, simprocAttr]
    simp [this]
theorem okn204 (k : Nat) (F : Fr → Fr → Fr) (hF : ∀ x y, Ok Tryz.prog k [frV x, frV y] (frV (F x y))) (ea eb : Bool) (a b : List Fr) (ha : a.length ≤ 4398046511104) (hb : b.length ≤ 4398046511104) :
    OkN Tryz.prog 204 [.sl ea (frs a), .sl eb (frs b), .fn (.func k) []] (frs (List.zipWith F a b)) := by
  refine okn_fn mixed Tryz.func204 (code := ?_) (h := hN204) ?_ kN204 rfl (RFs_frs _) ?_
  rotate_left
  · exact rfl
  unfold hN204 initS
  simp -implicitDefEqProofs only [rkA, rkB, stepA, valA, simprocAttr, Tryz.ntmps204, Tryz.results204]
  refine call_fn rfl rfl rfl (ok221 ea eb a b) ?_
  simp -implicitDefEqProofs only [rkA, rkB, stepA, valA, simprocAttr]
  have hlz : (List.zipWith F a b).length = min a.length b.length := by simp
  have hpl : (pairsF a b).length = min a.length b.length := by simp [pairsF]
  refine wp_rf (items := pairsF a b) rfl (it229 ea eb a b ha hb) (fun i s => i ≤ (pairsF a b).length ∧ s = ⟨[], [(5, [.v (.fn (.func k) [])]), (7, [.acc 1007 (frs ((List.zipWith F a b).take i))])], [], [(6, 0), (1007, i)],
    [[.v (.sl ea (frs a)), .v (.sl eb (frs b)), .v (.fn (.func k) []), jk, jk, .ptr 5 0, .acc 6 [], .ptr 7 0, jk, jk, .v (.sl ea (frs a)), .v (.sl eb (frs b)), .v (.fn (.func 229) [.vp [.sl ea (frs a)], .vp [.sl eb (frs b)]]), jk, jk, jk, jk, jk, jk, jk, jk, jk, jk]], 0, nomem⟩) ?_ ?_ ?_
  · simp -implicitDefEqProofs only [rkA, rkB, stepA, valA, simprocAttr]
    exact Nat.zero_le _
  · rintro i x' s' R hx ⟨hi, rfl⟩ hR
    have hlt : i < (pairsF a b).length := (List.getElem?_eq_some_iff.1 hx).1
    have h1 : i < a.length := by omega
    have h2 : i < b.length := by omega
    have hx' : x' = [frV a[i], frV b[i]] := by
      rw [pairsF, List.getElem?_map, List.getElem?_eq_getElem (by simp; omega), Option.map_some, List.getElem_zip] at hx
      exact (Option.some.inj hx).symm
    subst hx'
    refine ⟨rfl, ?_⟩
    simp -implicitDefEqProofs only [rkA, rkB, stepA, valA, simprocAttr]
    refine call_fn rfl rfl rfl (hF a[i] b[i]) ?_
    have hfit : fits 4 32 (frs ((List.zipWith F a b).take i)) [frV (F a[i] b[i])] = true := fits_frs (l := [F a[i] b[i]]) (by simp; omega)
    have hl : (frs ((List.zipWith F a b).take i)).length = i := by simp; omega
    simp -implicitDefEqProofs only [hfit, hl, rkA, rkB, stepA, valA, simprocAttr]
    refine hR _ ⟨by omega, ?_⟩
    rw [List.take_succ_eq_append_getElem (by simp; omega)]
    simp only [frs, List.map_append, List.map_cons, List.map_nil, List.getElem_zipWith]
  · rintro s' ⟨hi, rfl⟩
    simp -implicitDefEqProofs only [rkA, rkB, stepA, valA, simprocAttr]
    rw [List.take_of_length_le (by simp; omega)]
    refine .inl ⟨1007, ?_⟩
    simp -implicitDefEqProofs only [rkA, rkB, stepA, valA, simprocAttr]
    simp [pairsF]
theorem okn152 (ea eb : Bool) (a b : List Fr) (ha : a.length ≤ 4398046511104) (hb : b.length ≤ 4398046511104) (h0 : 0 < a.length) (h1 : 0 < b.length) : OkN Tryz.prog 152 [.sl ea (frs a), .sl eb (frs b)] (frs (List.zipWith subF a b)) := by
  have hne : frs (List.zipWith subF a b) ≠ [] := fun h => by
    have := congrArg List.length h
    simp only [List.length_map, List.length_zipWith, List.length_nil] at this
    omega
  refine okn_fn mixed Tryz.func152 (code := ?_) (h := hN152) ?_ kN152 rfl (RFs_frs _) ?_
  rotate_left
  · exact rfl
  unfold hN152 initS
  simp -implicitDefEqProofs only [rkA, rkB, stepA, valA, simprocAttr, Tryz.ntmps152, Tryz.results152]
  refine newRow_fn rfl rfl (Tells.same _ _) (okn204 206 subF ok206 ea eb a b ha hb) (RFs_frs _) hne ?_
  intro c cap q hc hcap
  simp -implicitDefEqProofs only [rkA, rkB, stepA, valA, simprocAttr]
  exact .inr ⟨_, rfl, .inr ⟨hne, c, cap, q, hcap, rfl, rfl⟩⟩
end Go.Proofs.YtambpjbpdackfaaGreat.A.E


set_option linter.unusedVariables false
set_option linter.unusedSimpArgs false
set_option maxRecDepth 100000
namespace Go.Proofs.YtambpjbpdackfaaGreat.A
open Go Go.RowKit Go.Shelf

/-! ### Rows in memory: each in a block of its own -/
abbrev rawC (c cap : Nat → Nat) (w i : Nat) : PV := .s (.slice (some ⟨c i, 0, none⟩) w (cap i))
abbrev jnk (q : Nat) : List PV := List.replicate q .junk
structure RowsC (m : Mem) (c q : Nat → Nat) (n w : Nat) (M : Nat → Nat → Fr) : Prop where
  row : ∀ i, i < n → m (c i) = some (flat (frs (rowM w M i)) ++ jnk (q i))
  inj : ∀ i j, i < n → j < n → c i = c j → i = j
theorem flat_frs_drop {l : List Fr} {k : Nat} (post : List PV) (h : k ≤ l.length) : (flat (frs l) ++ post).drop (k * 3) = flat (frs (l.drop k)) ++ post := by
  have e : frs l = frs (l.take k) ++ frs (l.drop k) := by rw [← List.map_append, List.take_append_drop]
  have hl : (flat (frs (l.take k))).length = k * 3 := by
    rw [flat_length (frs_cells _), List.length_map, List.length_take, Nat.min_eq_left h]
  rw [e, flat_append, List.append_assoc, ← hl, List.drop_left]
theorem flat_frs_take {l : List Fr} {k : Nat} (post : List PV) (h : k ≤ l.length) : (flat (frs l) ++ post).take (k * 3) = flat (frs (l.take k)) := by
  have e : frs l = frs (l.take k) ++ frs (l.drop k) := by rw [← List.map_append, List.take_append_drop]
  have hl : (flat (frs (l.take k))).length = k * 3 := by
    rw [flat_length (frs_cells _), List.length_map, List.length_take, Nat.min_eq_left h]
  conv => lhs; rw [e, flat_append, List.append_assoc, ← hl, List.take_left]
/-- The rest of a row in memory, told as a value. -/
theorem tell_rest {m : Mem} {b cap k : Nat} {l : List Fr} {post : List PV} (hm : m b = some (flat (frs l) ++ post)) (hk : k ≤ l.length) (hc : l.length ≤ cap) : Tell m (.s (.slice (some ⟨b, k * 3, none⟩) (l.length - k) (cap - k))) (.sl false (frs (l.drop k))) := by
  have hd := flat_frs_drop (l := l) (k := k) post hk
  have hl3 : (flat (frs (l.drop k))).length = (l.length - k) * 3 := by rw [flat_length (frs_cells _), List.length_map, List.length_drop]
  refine .row hm (frs_cells _) (by simp) ?_ (by omega) (fun h => by cases h) ?_
  · rw [List.length_append, hl3, flat_length (frs_cells _), List.length_map, Nat.sub_mul]
    have : k * 3 ≤ l.length * 3 := Nat.mul_le_mul_right _ hk
    omega
  · rw [hd, List.take_left]
    exact Tells.same _ _

theorem ldM_frj {l : List Fr} {k : Nat} {x : Fr} {post : List PV} (h : l[k]? = some x) : ldM true 3 (k * 3) (flat (frs l) ++ post) = some (.v (frV x)) :=
  ldM_elem (els := frs l) (sz := 3) (k := k) (e := frV x) (frs_cells l) (by simp [h]) post
theorem stM_frj {l : List Fr} {k : Nat} {x : Fr} {post : List PV} (h : k < l.length) : stM 3 (k * 3) (flat (frs l) ++ post) (frV x) = some (flat (frs (l.set k x)) ++ post) := by
  have := stM_elem (els := frs l) (sz := 3) (k := k) (e := frV x) (frs_cells l) (by simpa using h) rfl rfl post
  rw [this]
  simp [frs, List.map_set]
theorem frs_ok (l : List Fr) : (frs l).all (fun e => e.ok && e.cells.length == 3) = true := by
  rw [List.all_eq_true]
  intro e he
  obtain ⟨x, _, rfl⟩ := List.mem_map.1 he
  rfl
theorem methSign : Meth Tryz.prog 47 "Sign" 271 := by
  intro v xs w
  rfl
theorem methNeg : Meth Tryz.prog 47 "Neg" 268 := by
  intro v xs w
  rfl

/-! ### One column folded -/
def xF (w : Nat) (M : Nat → Nat → Fr) (k : Nat) : List Fr := (rowM w M k).drop k
def normF (w : Nat) (M : Nat → Nat → Fr) (k : Nat) : Fr := if 0 ≤ signF (M k k) then negF (rootF (dotF (xF w M k) (xF w M k))) else rootF (dotF (xF w M k) (xF w M k))
def vA (w : Nat) (M : Nat → Nat → Fr) (k c : Nat) : Fr := if c = k then subF (M k k) (normF w M k) else M k c
def vF (w : Nat) (M : Nat → Nat → Fr) (k : Nat) : List Fr := ((List.range w).map (vA w M k)).drop k
def tF (w : Nat) (M : Nat → Nat → Fr) (k i : Nat) : Fr := divF (addF (dotF ((rowM w M i).drop k) (vF w M k)) (dotF ((rowM w M i).drop k) (vF w M k))) (dotF (vF w M k) (vF w M k))
def foldTo (w : Nat) (M : Nat → Nat → Fr) (k j : Nat) : Nat → Nat → Fr := fun a c => if k < a ∧ a < j ∧ k ≤ c then subF (M a c) (mulF (vA w M k c) (tF w M k a)) else M a c
/-- Row k's first numbers are noughts: so many of them. -/
def foldZ (w : Nat) (M : Nat → Nat → Fr) (k n z : Nat) : Nat → Nat → Fr := fun a c => if a = k then (if k ≤ c ∧ c < k + z then newF 0 1 else M k c) else foldTo w M k n a c
def foldF (w : Nat) (M : Nat → Nat → Fr) (k n : Nat) : Nat → Nat → Fr := fun a c => if a = k then (if c < k then M k c else if c = k then normF w M k else newF 0 1) else foldTo w M k n a c
theorem vF_set {w k : Nat} (hk : k < w) (M : Nat → Nat → Fr) : (xF w M k).set 0 (subF (M k k) (normF w M k)) = vF w M k := by
  unfold xF vF rowM
  apply List.ext_getElem?
  intro j
  rw [List.getElem?_set]
  by_cases hj : k + j < w
  · by_cases e : 0 = j
    · subst e
      rw [if_pos rfl, if_pos (by simp; omega)]
      simp [vA, hk]
    · rw [if_neg e]
      simp only [List.getElem?_drop, List.getElem?_map, List.getElem?_range hj, Option.map_some, vA]
      rw [if_neg (by omega)]
  · rw [if_neg (by omega), List.getElem?_eq_none (by simp; omega), List.getElem?_eq_none (by simp; omega)]
theorem vF_len {w k : Nat} (M : Nat → Nat → Fr) : (vF w M k).length = w - k := by simp [vF]
theorem xF_len {w k : Nat} (M : Nat → Nat → Fr) : (xF w M k).length = w - k := by simp [xF, rowM_length]
/-- One row folded. -/
theorem foldTo_row (w : Nat) (M : Nat → Nat → Fr) (k i : Nat) : rowM w (foldTo w M k i) i = rowM w M i := by
  unfold rowM
  refine List.map_congr_left fun j _ => ?_
  unfold foldTo
  rw [if_neg (by omega)]
theorem row_fold {w k i : Nat} (hki : k < i) (M : Nat → Nat → Fr) : (rowM w M i).take k ++ List.zipWith subF ((rowM w M i).drop k) ((vF w M k).map (mulF · (tF w M k i))) = rowM w (foldTo w M k (i + 1)) i := by
  apply List.ext_getElem?
  intro j
  by_cases hj : j < w
  · rw [rowM_get hj]
    by_cases hjk : j < k
    · rw [List.getElem?_append_left (by rw [List.length_take, rowM_length]; omega), List.getElem?_take_of_lt hjk, rowM_get hj]
      unfold foldTo
      rw [if_neg (by omega)]
    · have hl : ((rowM w M i).take k).length = k := by rw [List.length_take, rowM_length]; omega
      rw [List.getElem?_append_right (by omega), hl, List.getElem?_zipWith]
      simp only [vF, List.getElem?_map, List.getElem?_drop, show k + (j - k) = j by omega, rowM_get hj, List.getElem?_range hj, Option.map_some]
      unfold foldTo
      rw [if_pos (by omega)]
  · rw [List.getElem?_eq_none (by simp [rowM_length, vF_len]; omega), List.getElem?_eq_none (by rw [rowM_length]; omega)]
/-- One row more is folded. -/
theorem RowsC.fold {mm : Mem} {c q : Nat → Nat} {n w k i : Nat} {M : Nat → Nat → Fr} (h : RowsC mm c q n w (foldTo w M k i)) (hi : i < n) (hki : k < i) :
    RowsC (mm.put (c i) (flat (frs (rowM w (foldTo w M k (i + 1)) i)) ++ jnk (q i))) c q n w (foldTo w M k (i + 1)) := ⟨fun a ha => by
  by_cases e : a = i
  · subst e
    rw [Mem.put_same]
  · rw [Mem.put_other _ _ (fun e' => e (h.inj a i ha hi e')), h.row a ha]
    congr 3
    unfold rowM
    congr 1
    refine List.map_congr_left fun j _ => ?_
    unfold foldTo
    by_cases h1 : k < a ∧ a < i ∧ k ≤ j
    · rw [if_pos h1, if_pos (by omega)]
    · rw [if_neg h1, if_neg (by omega)], h.inj⟩
theorem foldTo_first (w : Nat) (M : Nat → Nat → Fr) (k : Nat) : foldTo w M k (k + 1) = M := by
  funext a c
  unfold foldTo
  rw [if_neg (by omega)]
theorem RowsC.congr {mm : Mem} {c q : Nat → Nat} {n w : Nat} {M N : Nat → Nat → Fr} (h : RowsC mm c q n w M) (hMN : ∀ a j, a < n → j < w → M a j = N a j) : RowsC mm c q n w N := ⟨fun a ha => by
  have e : rowM w N a = rowM w M a := by
    unfold rowM
    exact List.map_congr_left fun j hj => (hMN a j ha (List.mem_range.1 hj)).symm
  rw [e]
  exact h.row a ha, h.inj⟩
theorem RowsC.store {mm : Mem} {c q : Nat → Nat} {n w : Nat} {M : Nat → Nat → Fr} (h : RowsC mm c q n w M) {i k : Nat} (hi : i < n) (hk : k < w) (x : Fr) :
    RowsC (mm.put (c i) (flat (frs ((rowM w M i).set k x)) ++ jnk (q i))) c q n w (setM M i k x) := ⟨fun j hj => by
  by_cases e : j = i
  · subst e
    rw [Mem.put_same, rowM_set hk]
  · rw [Mem.put_other _ _ (fun e' => e (h.inj j i hj hi e')), rowM_other e]
    exact h.row j hj, h.inj⟩
theorem foldZ_step (w : Nat) (M : Nat → Nat → Fr) (k n z : Nat) : setM (foldZ w M k n z) k (k + z) (newF 0 1) = foldZ w M k n (z + 1) := by
  funext a j
  unfold setM foldZ
  by_cases e : a = k
  · subst e
    by_cases e2 : j = a + z
    · subst e2
      rw [if_pos ⟨rfl, rfl⟩, if_pos rfl, if_pos ⟨by omega, by omega⟩]
    · rw [if_neg (fun h => e2 h.2), if_pos rfl, if_pos rfl]
      by_cases h : a ≤ j ∧ j < a + z
      · rw [if_pos h, if_pos (by omega)]
      · rw [if_neg h, if_neg (by omega)]
  · rw [if_neg (fun h => e h.1), if_neg e, if_neg e]
end Go.Proofs.YtambpjbpdackfaaGreat.A


set_option linter.unusedVariables false
set_option linter.unusedSimpArgs false
set_option maxRecDepth 100000
namespace Go.Proofs.YtambpjbpdackfaaGreat.A.E
open Go Go.RowKit Go.Shelf

structure RowsC (m : Mem) (c q : Nat → Nat) (n w : Nat) (M : Nat → Nat → Fr) : Prop where
  row : ∀ i, i < n → m (c i) = some (flat (frs (rowM w M i)) ++ jnk (q i))
  inj : ∀ i j, i < n → j < n → c i = c j → i = j
theorem flat_frs_drop {l : List Fr} {k : Nat} (post : List PV) (h : k ≤ l.length) : (flat (frs l) ++ post).drop (k * 4) = flat (frs (l.drop k)) ++ post := by
  have e : frs l = frs (l.take k) ++ frs (l.drop k) := by rw [← List.map_append, List.take_append_drop]
  have hl : (flat (frs (l.take k))).length = k * 4 := by
    rw [flat_length (frs_cells _), List.length_map, List.length_take, Nat.min_eq_left h]
  rw [e, flat_append, List.append_assoc, ← hl, List.drop_left]
theorem flat_frs_take {l : List Fr} {k : Nat} (post : List PV) (h : k ≤ l.length) : (flat (frs l) ++ post).take (k * 4) = flat (frs (l.take k)) := by
  have e : frs l = frs (l.take k) ++ frs (l.drop k) := by rw [← List.map_append, List.take_append_drop]
  have hl : (flat (frs (l.take k))).length = k * 4 := by
    rw [flat_length (frs_cells _), List.length_map, List.length_take, Nat.min_eq_left h]
  conv => lhs; rw [e, flat_append, List.append_assoc, ← hl, List.take_left]
/-- The rest of a row in memory, told as a value. -/
theorem tell_rest {m : Mem} {b cap k : Nat} {l : List Fr} {post : List PV} (hm : m b = some (flat (frs l) ++ post)) (hk : k ≤ l.length) (hc : l.length ≤ cap) : Tell m (.s (.slice (some ⟨b, k * 4, none⟩) (l.length - k) (cap - k))) (.sl false (frs (l.drop k))) := by
  have hd := flat_frs_drop (l := l) (k := k) post hk
  have hl3 : (flat (frs (l.drop k))).length = (l.length - k) * 4 := by rw [flat_length (frs_cells _), List.length_map, List.length_drop]
  refine .row hm (frs_cells _) (by simp) ?_ (by omega) (fun h => by cases h) ?_
  · rw [List.length_append, hl3, flat_length (frs_cells _), List.length_map, Nat.sub_mul]
    have : k * 4 ≤ l.length * 4 := Nat.mul_le_mul_right _ hk
    omega
  · rw [hd, List.take_left]
    exact Tells.same _ _

theorem ldM_frj {l : List Fr} {k : Nat} {x : Fr} {post : List PV} (h : l[k]? = some x) : ldM true 4 (k * 4) (flat (frs l) ++ post) = some (.v (frV x)) :=
  ldM_elem (els := frs l) (sz := 4) (k := k) (e := frV x) (frs_cells l) (by simp [h]) post
theorem stM_frj {l : List Fr} {k : Nat} {x : Fr} {post : List PV} (h : k < l.length) : stM 4 (k * 4) (flat (frs l) ++ post) (frV x) = some (flat (frs (l.set k x)) ++ post) := by
  have := stM_elem (els := frs l) (sz := 4) (k := k) (e := frV x) (frs_cells l) (by simpa using h) rfl rfl post
  rw [this]
  simp [frs, List.map_set]
theorem frs_ok (l : List Fr) : (frs l).all (fun e => e.ok && e.cells.length == 4) = true := by
  rw [List.all_eq_true]
  intro e he
  obtain ⟨x, _, rfl⟩ := List.mem_map.1 he
  rfl
theorem methSign : Meth Tryz.prog 28 "Sign" 253 := by
  intro v xs w
  rfl
theorem methNeg : Meth Tryz.prog 28 "Neg" 251 := by
  intro v xs w
  rfl

def xF (w : Nat) (M : Nat → Nat → Fr) (k : Nat) : List Fr := (rowM w M k).drop k
def normF (w : Nat) (M : Nat → Nat → Fr) (k : Nat) : Fr := if 0 ≤ signF (M k k) then negF (rootF (dotF (xF w M k) (xF w M k))) else rootF (dotF (xF w M k) (xF w M k))
def vA (w : Nat) (M : Nat → Nat → Fr) (k c : Nat) : Fr := if c = k then subF (M k k) (normF w M k) else M k c
def vF (w : Nat) (M : Nat → Nat → Fr) (k : Nat) : List Fr := ((List.range w).map (vA w M k)).drop k
def tF (w : Nat) (M : Nat → Nat → Fr) (k i : Nat) : Fr := divF (addF (dotF ((rowM w M i).drop k) (vF w M k)) (dotF ((rowM w M i).drop k) (vF w M k))) (dotF (vF w M k) (vF w M k))
def foldTo (w : Nat) (M : Nat → Nat → Fr) (k j : Nat) : Nat → Nat → Fr := fun a c => if k < a ∧ a < j ∧ k ≤ c then subF (M a c) (mulF (vA w M k c) (tF w M k a)) else M a c
/-- Row k's first numbers are noughts: so many of them. -/
def foldZ (w : Nat) (M : Nat → Nat → Fr) (k n z : Nat) : Nat → Nat → Fr := fun a c => if a = k then (if k ≤ c ∧ c < k + z then newF 0 1 else M k c) else foldTo w M k n a c
def foldF (w : Nat) (M : Nat → Nat → Fr) (k n : Nat) : Nat → Nat → Fr := fun a c => if a = k then (if c < k then M k c else if c = k then normF w M k else newF 0 1) else foldTo w M k n a c
theorem vF_set {w k : Nat} (hk : k < w) (M : Nat → Nat → Fr) : (xF w M k).set 0 (subF (M k k) (normF w M k)) = vF w M k := by
  unfold xF vF rowM
  apply List.ext_getElem?
  intro j
  rw [List.getElem?_set]
  by_cases hj : k + j < w
  · by_cases e : 0 = j
    · subst e
      rw [if_pos rfl, if_pos (by simp; omega)]
      simp [vA, hk]
    · rw [if_neg e]
      simp only [List.getElem?_drop, List.getElem?_map, List.getElem?_range hj, Option.map_some, vA]
      rw [if_neg (by omega)]
  · rw [if_neg (by omega), List.getElem?_eq_none (by simp; omega), List.getElem?_eq_none (by simp; omega)]
theorem vF_len {w k : Nat} (M : Nat → Nat → Fr) : (vF w M k).length = w - k := by simp [vF]
theorem xF_len {w k : Nat} (M : Nat → Nat → Fr) : (xF w M k).length = w - k := by simp [xF, rowM_length]
/-- One row folded. -/
theorem foldTo_row (w : Nat) (M : Nat → Nat → Fr) (k i : Nat) : rowM w (foldTo w M k i) i = rowM w M i := by
  unfold rowM
  refine List.map_congr_left fun j _ => ?_
  unfold foldTo
  rw [if_neg (by omega)]
theorem row_fold {w k i : Nat} (hki : k < i) (M : Nat → Nat → Fr) : (rowM w M i).take k ++ List.zipWith subF ((rowM w M i).drop k) ((vF w M k).map (mulF · (tF w M k i))) = rowM w (foldTo w M k (i + 1)) i := by
  apply List.ext_getElem?
  intro j
  by_cases hj : j < w
  · rw [rowM_get hj]
    by_cases hjk : j < k
    · rw [List.getElem?_append_left (by rw [List.length_take, rowM_length]; omega), List.getElem?_take_of_lt hjk, rowM_get hj]
      unfold foldTo
      rw [if_neg (by omega)]
    · have hl : ((rowM w M i).take k).length = k := by rw [List.length_take, rowM_length]; omega
      rw [List.getElem?_append_right (by omega), hl, List.getElem?_zipWith]
      simp only [vF, List.getElem?_map, List.getElem?_drop, show k + (j - k) = j by omega, rowM_get hj, List.getElem?_range hj, Option.map_some]
      unfold foldTo
      rw [if_pos (by omega)]
  · rw [List.getElem?_eq_none (by simp [rowM_length, vF_len]; omega), List.getElem?_eq_none (by rw [rowM_length]; omega)]
/-- One row more is folded. -/
theorem RowsC.fold {mm : Mem} {c q : Nat → Nat} {n w k i : Nat} {M : Nat → Nat → Fr} (h : RowsC mm c q n w (foldTo w M k i)) (hi : i < n) (hki : k < i) :
    RowsC (mm.put (c i) (flat (frs (rowM w (foldTo w M k (i + 1)) i)) ++ jnk (q i))) c q n w (foldTo w M k (i + 1)) := ⟨fun a ha => by
  by_cases e : a = i
  · subst e
    rw [Mem.put_same]
  · rw [Mem.put_other _ _ (fun e' => e (h.inj a i ha hi e')), h.row a ha]
    congr 3
    unfold rowM
    congr 1
    refine List.map_congr_left fun j _ => ?_
    unfold foldTo
    by_cases h1 : k < a ∧ a < i ∧ k ≤ j
    · rw [if_pos h1, if_pos (by omega)]
    · rw [if_neg h1, if_neg (by omega)], h.inj⟩
theorem foldTo_first (w : Nat) (M : Nat → Nat → Fr) (k : Nat) : foldTo w M k (k + 1) = M := by
  funext a c
  unfold foldTo
  rw [if_neg (by omega)]
theorem RowsC.congr {mm : Mem} {c q : Nat → Nat} {n w : Nat} {M N : Nat → Nat → Fr} (h : RowsC mm c q n w M) (hMN : ∀ a j, a < n → j < w → M a j = N a j) : RowsC mm c q n w N := ⟨fun a ha => by
  have e : rowM w N a = rowM w M a := by
    unfold rowM
    exact List.map_congr_left fun j hj => (hMN a j ha (List.mem_range.1 hj)).symm
  rw [e]
  exact h.row a ha, h.inj⟩
theorem RowsC.store {mm : Mem} {c q : Nat → Nat} {n w : Nat} {M : Nat → Nat → Fr} (h : RowsC mm c q n w M) {i k : Nat} (hi : i < n) (hk : k < w) (x : Fr) :
    RowsC (mm.put (c i) (flat (frs ((rowM w M i).set k x)) ++ jnk (q i))) c q n w (setM M i k x) := ⟨fun j hj => by
  by_cases e : j = i
  · subst e
    rw [Mem.put_same, rowM_set hk]
  · rw [Mem.put_other _ _ (fun e' => e (h.inj j i hj hi e')), rowM_other e]
    exact h.row j hj, h.inj⟩
theorem foldZ_step (w : Nat) (M : Nat → Nat → Fr) (k n z : Nat) : setM (foldZ w M k n z) k (k + z) (newF 0 1) = foldZ w M k n (z + 1) := by
  funext a j
  unfold setM foldZ
  by_cases e : a = k
  · subst e
    by_cases e2 : j = a + z
    · subst e2
      rw [if_pos ⟨rfl, rfl⟩, if_pos rfl, if_pos ⟨by omega, by omega⟩]
    · rw [if_neg (fun h => e2 h.2), if_pos rfl, if_pos rfl]
      by_cases h : a ≤ j ∧ j < a + z
      · rw [if_pos h, if_pos (by omega)]
      · rw [if_neg h, if_neg (by omega)]
  · rw [if_neg (fun h => e h.1), if_neg e, if_neg e]
set_option maxHeartbeats 4000000 in
theorem okm76 (ex : Bool) (n w k : Nat) (hkn : k < n) (hnw : n ≤ w) (hw : w ≤ 16) (M : Nat → Nat → Fr) (c cap q : Nat → Nat) (hcap : ∀ i, i < n → w ≤ cap i) (m : Mem) (hm : RowsC m c q n w M) :
    OkM Tryz.prog 76 [.sl ex ((List.range n).map (rawC c cap w)), num k] m (fun _ m' => RowsC m' c q n w (foldF w M k n)) := by
  have h0 : (0 : Int) ≤ (k : Int) := by omega
  have g1 : ((List.range n).map (rawC c cap w))[k]? = some (rawC c cap w k) := by simp [hkn]
  have ck := hcap k hkn
  have ne : (cap k = k) = False := by simp; omega
  have s1 : (k ≤ w) = True := by simp; omega
  have s2 : (w ≤ cap k) = True := by simp; omega
  refine okm_fn mixed Tryz.func76 (code := ?_) (h := h76) ?_ k76 ?_
  rotate_left
  · exact rfl
  unfold h76 initS
  simp -implicitDefEqProofs only [rkA, rkB, stepA, valA, simprocAttr, Tryz.ntmps76, Tryz.results76]
  have im : (False → False) = True := by simp
  simp -implicitDefEqProofs only [h0, Int.toNat_natCast, g1, ne, s1, s2, im, addr_add, rkA, rkB, stepA, valA, simprocAttr]
  have hl : (rowM w M k).length = w := rowM_length _ _ _
  have hx : Tell m (.s (.slice (some ⟨c k, k * 4, none⟩) (w - k) (cap k - k))) (.sl false (frs (xF w M k))) := by
    have := tell_rest (m := m) (b := c k) (cap := cap k) (k := k) (l := rowM w M k) (hm.row k hkn) (by omega) (by omega)
    rwa [hl] at this
  have lx := xF_len (w := w) (k := k) M
  refine lend_fn rfl rfl (.cons hx (.cons hx .nil)) (ok151 false false _ _ (by omega) (by omega)) rfl ?_
  simp -implicitDefEqProofs only [rkA, rkB, stepA, valA, simprocAttr]
  refine call_meth rfl rfl methRoot (ok252 _) ?_
  have hw0 : (0 < ((w - k : Nat) : Int)) = True := by simp; omega
  have hrk := hm.row k hkn
  have hld := ldM_frj (post := jnk (q k)) (rowM_get (n := w) (M := M) (i := k) (k := k) (by omega))
  simp -implicitDefEqProofs only [hw0, Nat.add_zero, hrk, hld, rkA, rkB, stepA, valA, simprocAttr]
  refine call_meth rfl rfl methSign (ok253 _) ?_
  simp -implicitDefEqProofs only [rkA, rkB, stepA, valA, simprocAttr]
  refine gB_dec ?_ ?_ <;> intro hs <;> simp -implicitDefEqProofs only [hs, rkA, rkB, stepA, valA, simprocAttr]
  rotate_left
  have hp : rootF (dotF (xF w M k) (xF w M k)) = normF w M k := (if_neg hs).symm
  simp -implicitDefEqProofs only [hp, rkA, rkB, stepA, valA, simprocAttr]
  rotate_left
  refine call_meth rfl rfl methNeg (ok251 _) ?_
  have hp : negF (rootF (dotF (xF w M k) (xF w M k))) = normF w M k := (if_pos hs).symm
  simp -implicitDefEqProofs only [hp, rkA, rkB, stepA, valA, simprocAttr]
  all_goals
    refine new_make (T := 32) (N := 4) rfl rfl rfl rfl rfl (by omega) (by omega) (by omega) ?_
    intro b hb
    have hb' : m b = none := hb
    have hcb : ∀ i, i < n → c i ≠ b := fun i hi e => by have := hm.row i hi; rw [e, hb'] at this; cases this
    simp -implicitDefEqProofs only [Int.toNat_natCast, flat_zeros, rkA, rkB, stepA, valA, simprocAttr]
    have hxb := hx.mono (MemLe.put (flat (frs (List.replicate (w - k) (⟨0, 0, 0, false⟩ : Fr)))) hb')
    have lz : (flat (frs (List.replicate (w - k) (⟨0, 0, 0, false⟩ : Fr)))).length = (w - k) * 4 := by rw [flat_length (frs_cells _)]; simp
    have lfx : (flat (frs (xF w M k))).length = (w - k) * 4 := by rw [flat_length (frs_cells _)]; simp [lx]
    refine copy_of rfl rfl hxb (RFs_frs _) (Mem.put_same _ _ _) (frs_ok _) (by simp [lx]) (by rw [lz, lfx]; omega) ?_
    have hdr : (flat (frs (List.replicate (w - k) (⟨0, 0, 0, false⟩ : Fr)))).drop (flat (frs (xF w M k))).length = [] := List.drop_of_length_le (by rw [lz, lfx]; omega)
    have h00 : (0 : Int) < ((w - k : Nat) : Int) := by omega
    have gx0 : (xF w M k)[0]? = some (M k k) := by
      unfold xF
      rw [List.getElem?_drop]
      exact rowM_get (by omega)
    have hl0 := ldM_frj (post := []) (k := 0) gx0
    have hs0 := stM_frj (l := xF w M k) (k := 0) (x := subF (M k k) (normF w M k)) (post := []) (by omega)
    rw [Nat.zero_mul, List.append_nil] at hl0 hs0
    rw [List.append_nil, vF_set (by omega)] at hs0
    simp -implicitDefEqProofs only [hdr, Mem.put_same, h00, hl0, List.length_map, lx, rkA, rkB, stepA, valA, simprocAttr]
    refine call_meth rfl rfl methSub (ok254 _ _) ?_
    simp -implicitDefEqProofs only [Mem.put_same, h00, hs0, rkA, rkB, stepA, valA, simprocAttr]
    have hbm : (((m.put b (flat (frs (List.replicate (w - k) (⟨0, 0, 0, false⟩ : Fr))))).put b (flat (frs (xF w M k)))).put b (flat (frs (vF w M k)))) b = some (flat (frs (vF w M k))) := Mem.put_same _ _ _
    have hM1 : RowsC (((m.put b (flat (frs (List.replicate (w - k) (⟨0, 0, 0, false⟩ : Fr))))).put b (flat (frs (xF w M k)))).put b (flat (frs (vF w M k)))) c q n w (foldTo w M k (k + 1)) :=
      ⟨fun i hi => by
        rw [Mem.put_other _ _ (hcb i hi), Mem.put_other _ _ (hcb i hi), Mem.put_other _ _ (hcb i hi), foldTo_first]
        exact hm.row i hi, hm.inj⟩
    clear hxb hs0 hl0
    generalize ((m.put b _).put b _).put b _ = mm at hbm hM1 ⊢
    have hv : ∀ mm : Mem, mm b = some (flat (frs (vF w M k))) → Tell mm (.s (.slice (some ⟨b, 0, none⟩) (w - k) (w - k))) (.sl false (frs (vF w M k))) := fun mm hbm => by
      have := tell_row (m := mm) (b := b) (cap := w - k) (q := 0) (l := vF w M k) (by rw [hbm, List.replicate_zero, List.append_nil]) (by rw [List.length_map, vF_len]; omega)
      rwa [List.length_map, vF_len] at this
    have lv := vF_len (w := w) (k := k) M
    refine lend_fn rfl rfl (.cons (hv mm hbm) (.cons (hv mm hbm) .nil)) (ok151 false false _ _ (by omega) (by omega)) rfl ?_
    have hw1 := wrapped (x := ((k + 1 : Nat) : Int)) (by omega) (by omega)
    have hk1 : (k : Int) + 1 = ((k + 1 : Nat) : Int) := by simp
    simp -implicitDefEqProofs only [hw1, hk1, rkA, rkB, stepA, valA, simprocAttr]
    refine wp_loop (fun m s => ∃ (i : Nat) (mm : Mem), k < i ∧ i + m = n ∧ RowsC mm c q n w (foldTo w M k i) ∧ mm b = some (flat (frs (vF w M k))) ∧ s = ⟨[.v (.sl ex ((List.range n).map (rawC c cap w))), .v (num k), jk, jk, .v (.s (.slice (some ⟨c k, k * 4, none⟩) (w - k) (cap k - k))), .ptr 5 0, .v (.s (.slice (some ⟨b, 0, none⟩) (w - k) (w - k))), .ptr 7 0, nt i, jk, jk, jk, jk, jk, jk, jk, jk, jk, jk, jk, jk, jk, jk, jk, jk, jk, jk, jk, jk, jk, jk, jk, jk, jk, jk, jk, jk, jk, jk, jk, jk, jk, jk, jk, jk, jk, jk, jk, jk, jk, jk, jk, jk, jk, jk, jk, jk, jk, jk, jk, jk, jk, jk, jk, jk, jk, jk, jk, jk, jk, jk, jk, jk, jk, jk, jk, jk, jk, jk, jk, jk, jk, jk, jk, jk, jk, jk, jk, jk, jk, jk, jk, jk, jk, jk],
      [(5, [.v (num (normF w M k).v), .v (num (normF w M k).lo), .v (num (normF w M k).hi), .v (tru (normF w M k).bad)]), (7, [.v (num (dotF (vF w M k) (vF w M k)).v), .v (num (dotF (vF w M k) (vF w M k)).lo), .v (num (dotF (vF w M k) (vF w M k)).hi), .v (tru (dotF (vF w M k) (vF w M k)).bad)])], [], [], [], 0, mm⟩) (n - (k + 1)) ?_ ?_
    · simp -implicitDefEqProofs only [rkA, rkB, stepA, valA, simprocAttr]
      exact ⟨k + 1, mm, by omega, by omega, hM1, hbm, rfl⟩
    clear hM1 hbm mm
    rintro m' s ⟨i, mm, hki, him, hM, hbm, rfl⟩
    have li : ((List.range n).map (rawC c cap w)).length = n := by simp
    simp -implicitDefEqProofs only [li, rkA, rkB, stepA, valA, simprocAttr]
    refine gB_dec ?_ ?_ <;> intro hc <;> simp -implicitDefEqProofs only [hc, rkA, rkB, stepA, valA, simprocAttr]
    · have hi : i < n := by omega
      have h0i : (0 : Int) ≤ (i : Int) := by omega
      have gi : ((List.range n).map (rawC c cap w))[i]? = some (rawC c cap w i) := by simp [hi]
      have ci := hcap i hi
      have nei : (cap i = k) = False := by simp; omega
      have s2i : (w ≤ cap i) = True := by simp; omega
      simp -implicitDefEqProofs only [h0i, h0, Int.toNat_natCast, gi, nei, s1, s2i, im, addr_add, rkA, rkB, stepA, valA, simprocAttr]
      have hri := hM.row i hi
      rw [foldTo_row] at hri
      have hli : (rowM w M i).length = w := rowM_length _ _ _
      have hxi := tell_rest (m := mm) (b := c i) (cap := cap i) (k := k) (l := rowM w M i) hri (by omega) (by omega)
      rw [hli] at hxi
      have hdl : ((rowM w M i).drop k).length = w - k := by rw [List.length_drop, hli]
      refine lend_fn rfl rfl (.cons hxi (.cons (hv mm hbm) .nil)) (ok151 false false _ _ (by omega) (by omega)) rfl ?_
      simp -implicitDefEqProofs only [rkA, rkB, stepA, valA, simprocAttr]
      refine call_meth rfl rfl methAdd (ok63 _ _) ?_
      simp -implicitDefEqProofs only [rkA, rkB, stepA, valA, simprocAttr]
      refine call_meth rfl rfl methDiv (ok249 _ _) ?_
      have et : divF (addF (dotF ((rowM w M i).drop k) (vF w M k)) (dotF ((rowM w M i).drop k) (vF w M k))) (dotF (vF w M k) (vF w M k)) = tF w M k i := rfl
      simp -implicitDefEqProofs only [et, rkA, rkB, stepA, valA, simprocAttr]
      have ne2 : frs ((vF w M k).map (mulF · (tF w M k i))) ≠ [] := fun h => by
        have := congrArg List.length h
        simp only [List.length_map, lv, List.length_nil] at this
        omega
      have ne3 : frs (List.zipWith subF ((rowM w M i).drop k) ((vF w M k).map (mulF · (tF w M k i)))) ≠ [] := fun h => by
        have := congrArg List.length h
        simp only [List.length_map, List.length_zipWith, lv, hdl, List.length_nil] at this
        omega
      refine newRow_fn rfl rfl (.cons (hv mm hbm) (.cons (.same _) .nil)) (okn153 false _ _ (by omega)) (RFs_frs _) ne2 ?_
      intro b2 cap2 q2 hb2 hcap2
      have hb2' : mm b2 = none := hb2
      simp -implicitDefEqProofs only [rkA, rkB, stepA, valA, simprocAttr]
      refine newRow_fn rfl rfl (.cons (hxi.mono (MemLe.put _ hb2')) (.cons (tell_row (Mem.put_same _ _ _) hcap2) .nil)) (okn152 false false _ _ (by omega) (by rw [List.length_map]; omega) (by omega) (by rw [List.length_map]; omega)) (RFs_frs _) ne3 ?_
      intro b3 cap3 q3 hb3 hcap3
      simp -implicitDefEqProofs only [rkA, rkB, stepA, valA, simprocAttr]
      have hb3' : (mm.put b2 (flat (frs ((vF w M k).map (mulF · (tF w M k i)))) ++ List.replicate q2 .junk)) b3 = none := hb3
      have hle : ∀ x y, mm x = some y → ((mm.put b2 (flat (frs ((vF w M k).map (mulF · (tF w M k i)))) ++ List.replicate q2 .junk)).put b3 (flat (frs (List.zipWith subF ((rowM w M i).drop k) ((vF w M k).map (mulF · (tF w M k i))))) ++ List.replicate q3 PV.junk)) x = some y := fun x y h =>
        MemLe.put _ hb3' _ _ (MemLe.put _ hb2' _ _ h)
      have hrow3 : ((mm.put b2 (flat (frs ((vF w M k).map (mulF · (tF w M k i)))) ++ List.replicate q2 .junk)).put b3 (flat (frs (List.zipWith subF ((rowM w M i).drop k) ((vF w M k).map (mulF · (tF w M k i))))) ++ List.replicate q3 PV.junk)) b3 = some (flat (frs (List.zipWith subF ((rowM w M i).drop k) ((vF w M k).map (mulF · (tF w M k i))))) ++ List.replicate q3 PV.junk) := Mem.put_same _ _ _
      clear hb2 hb3 hb2' hb3' hxi
      generalize ((mm.put b2 _).put b3 _) = mm2 at hle hrow3 ⊢
      have hM2 : RowsC mm2 c q n w (foldTo w M k i) := ⟨fun a ha => hle _ _ (hM.row a ha), hM.inj⟩
      have hbm2 := hle _ _ hbm
      have hri2 := hle _ _ hri
      have lz : (List.zipWith subF ((rowM w M i).drop k) ((vF w M k).map (mulF · (tF w M k i)))).length = w - k := by rw [List.length_zipWith, List.length_map, hdl, lv, Nat.min_self]
      have lfz : (flat (frs (List.zipWith subF ((rowM w M i).drop k) ((vF w M k).map (mulF · (tF w M k i)))))).length = (w - k) * 4 := by rw [flat_length (frs_cells _), List.length_map, lz]
      have lfr : (flat (frs (rowM w M i))).length = w * 4 := by rw [flat_length (frs_cells _), List.length_map, hli]
      refine copy_of rfl rfl (tell_row hrow3 hcap3) (RFs_frs _) hri2 (frs_ok _) (by rw [List.length_map, lz]; omega) (by rw [List.length_append, lfz, lfr]; omega) ?_
      have hcells : (flat (frs (rowM w M i)) ++ jnk (q i)).take (k * 4) ++ flat (frs (List.zipWith subF ((rowM w M i).drop k) ((vF w M k).map (mulF · (tF w M k i))))) ++ (flat (frs (rowM w M i)) ++ jnk (q i)).drop (k * 4 + (flat (frs (List.zipWith subF ((rowM w M i).drop k) ((vF w M k).map (mulF · (tF w M k i)))))).length) = flat (frs (rowM w (foldTo w M k (i + 1)) i)) ++ jnk (q i) := by
        rw [flat_frs_take _ (by omega), lfz, ← flat_append, ← List.map_append, row_fold hki, show k * 4 + (w - k) * 4 = w * 4 by omega, ← lfr, List.drop_left]
      have hM3 := hM2.fold hi hki
      have hcb2 := hcb i hi
      have hbm3 : (mm2.put (c i) (flat (frs (rowM w (foldTo w M k (i + 1)) i)) ++ jnk (q i))) b = some (flat (frs (vF w M k))) := by rw [Mem.put_other _ _ (fun e => hcb2 e.symm)]; exact hbm2
      have hw2 := wrapped (x := (i : Int) + 1) (by omega) (by omega)
      simp -implicitDefEqProofs only [hcells, hw2, rkA, rkB, stepA, valA, simprocAttr]
      refine loopK_of (m' := m' - 1) (by omega) ?_
      simp -implicitDefEqProofs only [rkA, rkB, stepA, valA, simprocAttr]
      exact ⟨i + 1, _, by omega, by omega, hM3, hbm3, by simp only [Int.natCast_add, Int.natCast_one]⟩
    · have hin : i = n := by omega
      subst hin
      have hM0 : RowsC mm c q i w (foldZ w M k i 0) := hM.congr fun a j ha hj => by
        unfold foldZ
        by_cases e : a = k
        · subst e
          rw [if_pos rfl, if_neg (by omega)]
          unfold foldTo
          rw [if_neg (by omega)]
        · rw [if_neg e]
      clear hM hbm
      refine wp_loop (fun m s => ∃ (z : Nat) (mm : Mem), z + m = w - k ∧ RowsC mm c q i w (foldZ w M k i z) ∧ s = ⟨[jk, jk, jk, jk, .v (.s (.slice (some ⟨c k, k * 4, none⟩) (w - k) (cap k - k))), .ptr 5 0, jk, jk, jk, jk, jk, jk, jk, jk, jk, jk, jk, jk, jk, jk, jk, jk, jk, jk, jk, jk, jk, jk, jk, jk, jk, jk, jk, jk, jk, jk, jk, jk, jk, jk, jk, jk, jk, jk, jk, jk, jk, jk, jk, jk, jk, jk, jk, jk, jk, jk, jk, jk, jk, jk, jk, jk, jk, jk, jk, jk, jk, jk, jk, jk, jk, jk, jk, jk, jk, jk, jk, jk, jk, jk, jk, nt ((w - k : Nat) : Int), nt z, jk, jk, jk, jk, jk, jk, jk, jk, jk, jk, jk, jk],
        [(5, [.v (num (normF w M k).v), .v (num (normF w M k).lo), .v (num (normF w M k).hi), .v (tru (normF w M k).bad)]), (7, [.v (num (dotF (vF w M k) (vF w M k)).v), .v (num (dotF (vF w M k) (vF w M k)).lo), .v (num (dotF (vF w M k) (vF w M k)).hi), .v (tru (dotF (vF w M k) (vF w M k)).bad)])], [], [], [], 0, mm⟩) (w - k) ?_ ?_
      · simp -implicitDefEqProofs only [rkA, rkB, stepA, valA, simprocAttr]
        exact ⟨0, mm, by omega, hM0, rfl⟩
      clear hM0 mm
      rintro m' s ⟨z, mm, hzm, hM, rfl⟩
      simp -implicitDefEqProofs only [rkA, rkB, stepA, valA, simprocAttr]
      refine gB_dec ?_ ?_ <;> intro hc2 <;> simp -implicitDefEqProofs only [hc2, rkA, rkB, stepA, valA, simprocAttr]
      · refine call_meth rfl rfl methOf (ok107 _ 0) ?_
        have h0z : (0 : Int) ≤ (z : Int) := by omega
        have hrz := hM.row k hkn
        have hst := stM_frj (l := rowM w (foldZ w M k i z) k) (k := k + z) (x := newF 0 1) (post := jnk (q k)) (by rw [rowM_length]; omega)
        rw [Nat.add_mul] at hst
        have hsto := hM.store hkn (show k + z < w by omega) (newF 0 1)
        have hw2 := wrapped (x := (z : Int) + 1) (by omega) (by omega)
        simp -implicitDefEqProofs only [h0z, hc2, Int.toNat_natCast, addr_add, hrz, hst, hw2, rkA, rkB, stepA, valA, simprocAttr]
        refine loopK_of (m' := m' - 1) (by omega) ?_
        simp -implicitDefEqProofs only [rkA, rkB, stepA, valA, simprocAttr]
        rw [foldZ_step] at hsto
        exact ⟨z + 1, _, by omega, hsto, by simp only [Int.natCast_add, Int.natCast_one]⟩
      · have hz : z = w - k := by omega
        subst hz
        have hrz := hM.row k hkn
        have hst := stM_frj (l := rowM w (foldZ w M k i (w - k)) k) (k := k) (x := normF w M k) (post := jnk (q k)) (by rw [rowM_length]; omega)
        have hsto := hM.store hkn (show k < w by omega) (normF w M k)
        simp -implicitDefEqProofs only [hw0, Nat.add_zero, addr_add, hrz, hst, rkA, rkB, stepA, valA, simprocAttr]
        refine ⟨_, rfl, hsto.congr fun a j ha hj => ?_⟩
        unfold setM foldZ foldF
        by_cases e : a = k
        · subst e
          by_cases e2 : j = a
          · subst e2
            rw [if_pos ⟨rfl, rfl⟩, if_pos rfl, if_neg (by omega), if_pos rfl]
          · rw [if_neg (fun h => e2 h.2), if_pos rfl, if_pos rfl, if_neg e2]
            by_cases h : j < a
            · rw [if_neg (by omega), if_pos h]
            · rw [if_pos (by omega), if_neg h]
        · rw [if_neg (fun h => e h.1), if_neg e, if_neg e]
end Go.Proofs.YtambpjbpdackfaaGreat.A.E


set_option linter.unusedVariables false
set_option linter.unusedSimpArgs false
set_option maxRecDepth 100000
namespace Go.Proofs.YtambpjbpdackfaaGreat.A
open Go Go.RowKit Go.Shelf

/-- What is saved is named. -/
theorem gen_sv {P : Program} {its : Option (Nat × List Item)} {c : AC} {Q : XA → St → Prop} {tm : List TV} {bx : List (Nat × List TV)} {ro : List (Nat × List PV)} {tk : List (Nat × Nat)} {sv : List (List TV)} {it : Nat} {mm : Mem}
    (h : ∀ SV, SV = sv → wpA P its c Q ⟨tm, bx, ro, tk, SV, it, mm⟩) : wpA P its c Q ⟨tm, bx, ro, tk, sv, it, mm⟩ := h sv rfl

/-! ### No diagonal below 0 -/
def signG (n : Nat) (l : List Fr) (i k : Nat) : Fr := if k ≤ i ∧ signF (atF n n l k k) < 0 then negF (atF n n l i k) else atF n n l i k
def signsF (n : Nat) (l : List Fr) : List Fr := gridP (signG n l) n n 0
end Go.Proofs.YtambpjbpdackfaaGreat.A


set_option linter.unusedVariables false
set_option linter.unusedSimpArgs false
set_option maxRecDepth 100000
namespace Go.Proofs.YtambpjbpdackfaaGreat.A.E
open Go Go.RowKit Go.Shelf

def signG (n : Nat) (l : List Fr) (i k : Nat) : Fr := if k ≤ i ∧ signF (atF n n l k k) < 0 then negF (atF n n l i k) else atF n n l i k
def signsF (n : Nat) (l : List Fr) : List Fr := gridP (signG n l) n n 0
set_option maxHeartbeats 1000000 in
theorem ok77 (n : Nat) (hn : 1 ≤ n ∧ n ≤ 16) (e : Bool) (l : List Fr) (h : l.length = n * n) : Ok Tryz.prog 77 [matV e n n (frs l)] (.tup [matV false n n (frs (signsF n l)), tru true]) := by
  have hr := right_sq hn h
  refine ok_fn mixed Tryz.func77 (code := ?_) (h := h77) ?_ k77 ?_
  rotate_left
  · exact rfl
  unfold h77 initS
  simp -implicitDefEqProofs only [rkA, rkB, stepA, valA, simprocAttr, Tryz.ntmps77, Tryz.results77]
  have h17 := ok72 e n n (frs l)
  have el : (frs l).length = l.length := by simp
  rw [el, hr] at h17
  refine call_fn rfl rfl rfl (h17) ?_
  simp -implicitDefEqProofs only [bne_self_eq_false, rkA, rkB, stepA, valA, simprocAttr]
  refine call_fn rfl rfl rfl (ok75 e n n l) ?_
  simp -implicitDefEqProofs only [rkA, rkB, stepA, valA, simprocAttr]
  have hlen := gridP_length (signG n l) n
  refine wp_rf' (items := rowsF n n l) rfl (it149 e n n l) (fun sv i s => i ≤ n ∧ s = ⟨[], [(1, [nt n, nt n, .v (.sl e (frs l))]), (2, [nt 0, nt 0, .acc 3002 []]), (4, [.acc 1004 (frs (gridP (signG n l) n i 0))])], [], [(1004, (gridP (signG n l) n i 0).length), (3002, 0)], sv, 0, nomem⟩) ?_ ?_ ?_
  · simp -implicitDefEqProofs only [rkA, rkB, stepA, valA, simprocAttr]
    exact ⟨Nat.zero_le _, rfl⟩
  · rintro i x' s' R hx ⟨hi, rfl⟩ hR
    obtain ⟨hlt, rfl, hxi⟩ := rowsF_all hr hx
    have hlt' : i < n := by simpa using hlt
    refine ⟨rfl, ?_⟩
    simp -implicitDefEqProofs only [rkA, rkB, stepA, valA, simprocAttr]
    refine gen_sv fun SV hSV => ?_
    have hkill : List.map (fun l => List.map (TV.killPtr 8) l) SV = SV := by rw [hSV]; rfl
    have lr : (frs (rowF n n l i)).length = n := by rw [List.length_map, rowF_len hr hlt, Int.toNat_natCast]
    rw [lr]
    refine wp_loop (fun m s => ∃ k : Nat, k + m = n ∧ s = ⟨[jk, .ptr 1 0, jk, jk, .ptr 4 0, .v (num i), jk, jk, jk, jk, jk, jk, jk, jk, jk, jk, jk, jk, jk, jk, jk, jk, jk, jk, .v (.sl false (frs (rowF n n l i))), nt n, nt k, jk, jk, jk, jk, jk, jk, jk, jk, jk, jk, jk, jk, jk, jk, jk, jk, jk, jk, jk, jk, jk, jk, jk, jk, jk, jk, jk, jk, jk, jk, jk, jk],
      [(1, [nt n, nt n, .v (.sl e (frs l))]), (2, [nt 0, nt 0, .acc 3002 []]), (4, [.acc 1004 (frs (gridP (signG n l) n i k))])], [], [(1004, (gridP (signG n l) n i k).length), (3002, 0)], SV, 0, nomem⟩) n ?_ ?_
    · simp -implicitDefEqProofs only [rkA, rkB, stepA, valA, simprocAttr]
      exact ⟨0, by simp, rfl⟩
    rintro m s ⟨k, hk, rfl⟩
    simp -implicitDefEqProofs only [rkA, rkB, stepA, valA, simprocAttr]
    refine gB_dec ?_ ?_ <;> intro hc <;> simp -implicitDefEqProofs only [hc, rkA, rkB, stepA, valA, simprocAttr]
    · have hk' : k < n := by omega
      have h0k : (0 : Int) ≤ (k : Int) := by omega
      have hgk := rowF_get hr hlt (k := k) (by simpa using hk')
      have hfit : ∀ x : Fr, fits 4 32 (frs (gridP (signG n l) n i k)) [frV x] = true := fun x => fits_frs (l := [x]) (by
        have := hlen i k
        have := side16 (n := i) (m := n) (by omega) (by omega)
        simp only [List.length_cons, List.length_nil]
        omega)
      have hlg : (frs (gridP (signG n l) n i k)).length = (gridP (signG n l) n i k).length := by simp
      have hw := wrapped (x := (k : Int) + 1) (by omega) (by omega)
      simp -implicitDefEqProofs only [h0k, hc, Int.toNat_natCast, hgk, hkill, rkA, rkB, stepA, valA, simprocAttr]
      have fin : ∀ x : Fr, x = signG n l i k → frs (gridP (signG n l) n i k) ++ [frV x] = frs (gridP (signG n l) n i (k + 1)) ∧ (gridP (signG n l) n i k).length + 1 = (gridP (signG n l) n i (k + 1)).length := fun x hx => by
        rw [gridP_succ, hx]
        simp only [frs, List.map_append, List.map_cons, List.map_nil, List.length_append, List.length_cons, List.length_nil, and_self]
      refine gB_dec ?_ ?_ <;> intro hik
      · simp -implicitDefEqProofs only [hik, rkA, rkB, stepA, valA, simprocAttr]
        refine call_fn rfl rfl rfl (ok89 e n n k k l) ?_
        simp -implicitDefEqProofs only [rkA, rkB, stepA, valA, simprocAttr]
        refine call_meth rfl rfl methSign (ok253 _) ?_
        simp -implicitDefEqProofs only [rkA, rkB, stepA, valA, simprocAttr]
        refine gB_dec ?_ ?_ <;> intro hsg <;> simp -implicitDefEqProofs only [hsg, rkA, rkB, stepA, valA, simprocAttr]
        · refine call_meth rfl rfl methNeg (ok251 _) ?_
          obtain ⟨f1, f2⟩ := fin (negF (atF n n l i k)) (if_pos ⟨by omega, hsg⟩).symm
          simp -implicitDefEqProofs only [hfit, hlg, f1, f2, hw, rkA, rkB, stepA, valA, simprocAttr]
          refine loopK_of (m' := m - 1) (by omega) ?_
          simp -implicitDefEqProofs only [rkA, rkB, stepA, valA, simprocAttr]
          exact ⟨k + 1, by omega, by simp only [Int.natCast_add, Int.natCast_one]⟩
        · obtain ⟨f1, f2⟩ := fin (atF n n l i k) (if_neg (fun h => hsg h.2)).symm
          simp -implicitDefEqProofs only [hfit, hlg, f1, f2, hw, rkA, rkB, stepA, valA, simprocAttr]
          refine loopK_of (m' := m - 1) (by omega) ?_
          simp -implicitDefEqProofs only [rkA, rkB, stepA, valA, simprocAttr]
          exact ⟨k + 1, by omega, by simp only [Int.natCast_add, Int.natCast_one]⟩
      · simp -implicitDefEqProofs only [hik, rkA, rkB, stepA, valA, simprocAttr]
        obtain ⟨f1, f2⟩ := fin (atF n n l i k) (if_neg (fun h => hik (by omega))).symm
        simp -implicitDefEqProofs only [hfit, hlg, f1, f2, hw, rkA, rkB, stepA, valA, simprocAttr]
        refine loopK_of (m' := m - 1) (by omega) ?_
        simp -implicitDefEqProofs only [rkA, rkB, stepA, valA, simprocAttr]
        exact ⟨k + 1, by omega, by simp only [Int.natCast_add, Int.natCast_one]⟩
    · have hkn : k = n := by omega
      subst hSV
      refine hR _ ⟨by omega, ?_⟩
      rw [hkn, gridP_next]
  · rintro s' ⟨hi, rfl⟩
    simp -implicitDefEqProofs only [rkA, rkB, stepA, valA, simprocAttr]
    have hL : (gridP (signG n l) n n 0).length = n * n := by rw [hlen, Nat.add_zero]
    rw [rowsF_length hr, Int.toNat_natCast]
    have h34 := ok17 n n false (gridP (signG n l) n n 0) (by rw [hL]; have := side16 (n := n) (m := n) (by omega) (by omega); omega)
    rw [right_sq hn hL, if_pos rfl] at h34
    refine call_fn rfl rfl rfl (h34) ?_
    simp -implicitDefEqProofs only [rkA, rkB, stepA, valA, simprocAttr, signsF]
end Go.Proofs.YtambpjbpdackfaaGreat.A.E


set_option linter.unusedVariables false
set_option linter.unusedSimpArgs false
set_option maxRecDepth 100000
namespace Go.Proofs.YtambpjbpdackfaaGreat.A
open Go Go.RowKit Go.Shelf

theorem wp_rfM' {P : Program} {Q : XA → St → Prop} {tm : List TV} {bx : List (Nat × List TV)} {ro : List (Nat × List PV)} {tk : List (Nat × Nat)} {sv : List (List TV)} {it : Nat} {mm : Mem} {f : Operand} {ps : Array Nat} {g : List Gh} {a b : Hint} {x y : Code} {p : PV} {items : List Item} (hf : ev ⟨tm, bx, ro, tk, sv, it, mm⟩ f = some (.v p)) (hI : IterOkM P p items)
    (Inv : List (List TV) → Nat → St → Prop) (h0 : opt (ghs g ⟨[], bx, ro, tk, tm :: sv, it, mm⟩) (Inv (tm :: sv) 0))
    (hr : ∀ (i : Nat) (x' : Item) (p : List PV) (m : Mem) (s' : St) (R : St → Prop), items[i]? = some x' → Inv (tm :: sv) i s' → x' p m → (∀ c, (m c).isSome = true → s'.mm c = none) → (∀ s1, Inv (tm :: sv) (i + 1) s1 → R s1) → p.length = ps.toList.length ∧ wpA P none (acOf a x) (rfK P (acOf b y) (roundK g R Q)) (enterR ps.toList p { s' with mm := s'.mm.join m }))
    (hq : ∀ s', Inv (tm :: sv) items.length s' → Q .normal (leaveR s')) :
    wpA P none (acOf (.f g a b) (.rangeFunc f ps x y)) Q ⟨tm, bx, ro, tk, sv, it, mm⟩ := wp_rfM hf hI (Inv (tm :: sv)) h0 hr hq
theorem fits_raw (c cap : Nat → Nat) (w i : Nat) (x : PV) (hx : ∃ b k j, x = .s (.slice b k j)) (hi : i ≤ 100) : fits 1 24 ((List.range i).map (rawC c cap w)) [x] = true := by
  obtain ⟨b, k, j, rfl⟩ := hx
  have h1 : ((List.range i).map (rawC c cap w)).all (fun e => e.ok && e.cells.length == 1) = true := by
    rw [List.all_eq_true]
    intro e he
    obtain ⟨a, _, rfl⟩ := List.mem_map.1 he
    rfl
  unfold fits
  rw [h1]
  simp [PV.ok, PV.cells]
  exact ⟨rfl, by omega⟩
theorem raw_grow (c cap : Nat → Nat) (w i b z : Nat) : (List.range i).map (rawC c cap w) ++ [.s (.slice (some ⟨b, 0, none⟩) w z)] = (List.range (i + 1)).map (rawC (fun j => if j = i then b else c j) (fun j => if j = i then z else cap j) w) := by
  rw [List.range_succ, List.map_append, List.map_singleton]
  congr 1
  · refine List.map_congr_left fun j hj => ?_
    have := List.mem_range.1 hj
    simp only [rawC, show ¬ j = i by omega, if_false]
  · simp only [rawC, if_true]
theorem RowsC.grow {mm : Mem} {c q : Nat → Nat} {i w b z : Nat} {M : Nat → Nat → Fr} (h : RowsC mm c q i w M) (hb : mm b = none) :
    RowsC (mm.put b (flat (frs (rowM w M i)) ++ jnk z)) (fun j => if j = i then b else c j) (fun j => if j = i then z else q j) (i + 1) w M := by
  have hcb : ∀ j, j < i → c j ≠ b := fun j hj e => by have := h.row j hj; rw [e, hb] at this; cases this
  refine ⟨fun j hj => ?_, fun j k hj hk => ?_⟩
  · by_cases e : j = i
    · subst e
      simp only [if_true]
      rw [Mem.put_same]
    · simp only [e, if_false]
      rw [Mem.put_other _ _ (hcb j (by omega))]
      exact h.row j (by omega)
  · by_cases e : j = i <;> by_cases e' : k = i
    · intro _; omega
    · simp only [e, e', if_true, if_false]
      exact fun h1 => absurd h1.symm (hcb k (by omega))
    · simp only [e, e', if_true, if_false]
      exact fun h1 => absurd h1 (hcb j (by omega))
    · simp only [e, e', if_false]
      exact h.inj j k (by omega) (by omega)
/-- A row's first numbers in memory, told as a value. -/
theorem tell_first {m : Mem} {b cap k : Nat} {l : List Fr} {post : List PV} (hm : m b = some (flat (frs l) ++ post)) (hk : k ≤ l.length) (hc : l.length ≤ cap) : Tell m (.s (.slice (some ⟨b, 0, none⟩) k cap)) (.sl false (frs (l.take k))) := by
  have hd := flat_frs_take (l := l) (k := k) post hk
  have hl3 : (flat (frs (l.take k))).length = k * 3 := by rw [flat_length (frs_cells _), List.length_map, List.length_take, Nat.min_eq_left hk]
  refine .row hm (frs_cells _) (by simp [Nat.min_eq_left hk]) ?_ (by omega) (fun h => by cases h) ?_
  · rw [List.length_append, hl3, flat_length (frs_cells _), List.length_map]
    have : k * 3 ≤ l.length * 3 := Nat.mul_le_mul_right _ hk
    omega
  · rw [List.drop_zero, hl3, hd]
    exact Tells.same _ _

/-! ### All columns folded -/
def startF (n w : Nat) (l : List Fr) : Nat → Nat → Fr := fun i c => atF n w l i c
def foldsF (w n : Nat) (M : Nat → Nat → Fr) : Nat → Nat → Nat → Fr
  | 0 => M
  | k + 1 => foldF w (foldsF w n M k) k n
def triF (n w : Nat) (l : List Fr) : List Fr := clearF n (signsF n (gridP (foldsF w n (startF n w l) n) n n 0))
theorem row_start {n w : Nat} {l : List Fr} (hr : right n w l.length = true) {i : Nat} (hi : i < n) : rowF n w l i = rowM w (startF n w l) i := by
  rw [rowF_eq ⟨0, 0, false⟩ hr (by simpa using hi), Int.toNat_natCast, rowM]
  refine List.map_congr_left fun j hj => ?_
  rw [startF, atF_eq hr (by simpa using hi) (by simpa using hj), Int.toNat_natCast]
end Go.Proofs.YtambpjbpdackfaaGreat.A


