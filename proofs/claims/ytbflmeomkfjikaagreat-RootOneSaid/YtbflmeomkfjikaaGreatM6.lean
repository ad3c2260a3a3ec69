import Derived.Test.YtbflmeomkfjikaaGreatM5
import Derived.Test.YtbflmeomkfjikaaGreatM4
import Derived.Test.YtbflmeomkfjikaaGreatM3
set_option linter.unusedVariables false
set_option linter.unusedSimpArgs false
set_option maxRecDepth 100000
namespace Go.Proofs.YtbflmeomkfjikaaGreat.A
open Go Go.RowKit Go.Shelf

/-! ### slices.Concat -/
abbrev catV (rows : List (List Fr)) : List PV := rows.map fun r => .sl false (frs r)
theorem flatten_take_succ {α : Type} {l : List (List α)} {i : Nat} (h : i < l.length) : (l.take (i + 1)).flatten = (l.take i).flatten ++ l[i] := by
  rw [List.take_succ_eq_append_getElem h, List.flatten_append, List.flatten_singleton]
theorem flatten_take_le {α : Type} (l : List (List α)) (i : Nat) : (l.take i).flatten.length ≤ l.flatten.length := by
  conv => rhs; rw [← List.take_append_drop i l, List.flatten_append, List.length_append]
  omega
theorem RFs_replicate : ∀ k, RFs (List.replicate k PV.junk) = true
  | 0 => rfl
  | k + 1 => by rw [List.replicate_succ]; exact RFs_replicate k
theorem cells_put (L M : List PV) (K : Nat) : (L ++ List.replicate K PV.junk).take L.length ++ M ++ (L ++ List.replicate K PV.junk).drop (L.length + M.length) = (L ++ M) ++ List.replicate (K - M.length) PV.junk := by
  rw [List.take_append_of_le_length (Nat.le_refl _), List.take_length, List.drop_append, List.drop_of_length_le (by omega), List.nil_append, List.drop_replicate]
  congr 3
  omega
theorem cells_putF (A B : List Fr) {C : List Fr} (h : C = A ++ B) (K : Nat) : (flat (frs A) ++ List.replicate (K - (flat (frs A)).length) PV.junk).take (flat (frs A)).length ++ flat (frs B) ++ (flat (frs A) ++ List.replicate (K - (flat (frs A)).length) PV.junk).drop ((flat (frs A)).length + (flat (frs B)).length) = flat (frs C) ++ List.replicate (K - (flat (frs C)).length) PV.junk := by
  have e : flat (frs C) = flat (frs A) ++ flat (frs B) := by rw [h, frs, List.map_append, flat_append]
  rw [cells_put, e, List.length_append, Nat.sub_sub]
set_option maxHeartbeats 2000000 in
theorem okn121 (ex : Bool) (rows : List (List Fr)) (h0 : rows.flatten ≠ []) (h1 : rows.flatten.length ≤ 1000000) (h2 : rows.length ≤ 1000000) : OkN Tryz.prog 121 [.sl ex (catV rows)] (frs rows.flatten) := by
  have hlr : (catV rows).length = rows.length := by simp
  have hpos : 0 < rows.flatten.length := List.length_pos_iff.2 h0
  refine okn_fn mixed Tryz.func121 (code := ?_) (h := hN121) ?_ kN121 rfl (RFs_frs _) ?_
  rotate_left
  · exact rfl
  unfold hN121 initS
  simp -implicitDefEqProofs (maxSteps := 10000000) only [rkA, rkB, stepA, valA, simprocAttr, Tryz.ntmps121, Tryz.results121]
  refine wp_loop (fun m s => ∃ i, i + m = rows.length ∧ s = ⟨[.v (.sl ex (catV rows)), jk, jk, nt ((rows.take i).flatten.length : Nat), jk, jk, jk, jk, jk, .v (.sl ex (catV rows)), nt rows.length, nt i, jk, jk, jk, jk, jk, jk, jk, jk, jk, jk, jk, jk, jk, jk, jk, jk, jk, jk, jk, jk, jk, jk, jk, jk], [], [], [(2, 0)], [], 0, nomem⟩) rows.length ?_ ?_
  · simp -implicitDefEqProofs (maxSteps := 10000000) only [hlr, rkA, rkB, stepA, valA, simprocAttr]
    exact ⟨0, by simp, rfl⟩
  rintro m s ⟨i, hi, rfl⟩
  simp -implicitDefEqProofs (maxSteps := 10000000) only [rkA, rkB, stepA, valA, simprocAttr]
  refine gB_dec ?_ ?_ <;> intro hc <;> simp -implicitDefEqProofs (maxSteps := 10000000) only [hc, rkA, rkB, stepA, valA, simprocAttr]
  · have hlt : i < rows.length := by omega
    have h0i : (0 : Int) ≤ (i : Int) := by omega
    have hg : (catV rows)[i]? = some (.sl false (frs rows[i])) := by simp [hlt]
    have e1 := flatten_take_succ hlt
    have e2 := flatten_take_le rows (i + 1)
    have e3 : (rows.take (i + 1)).flatten.length = (rows.take i).flatten.length + rows[i].length := by rw [e1, List.length_append]
    have e4 : (frs rows[i]).length = rows[i].length := by simp
    have w1 : IntKind.wrap .i64 (((rows.take i).flatten.length : Nat) + (rows[i].length : Nat) : Int) = ((rows.take (i + 1)).flatten.length : Nat) := by rw [wrapped (by omega) (by omega)]; omega
    have w2 := wrapped (x := (i : Int) + 1) (by omega) (by omega)
    have g0 : ¬ (((rows.take (i + 1)).flatten.length : Nat) : Int) < 0 := by omega
    simp -implicitDefEqProofs (maxSteps := 10000000) only [h0i, Int.toNat_natCast, hg, e4, w1, w2, g0, rkA, rkB, stepA, valA, simprocAttr]
    refine loopK_of (m' := m - 1) (by omega) ?_
    simp -implicitDefEqProofs (maxSteps := 10000000) only [rkA, rkB, stepA, valA, simprocAttr]
    exact ⟨i + 1, by omega, by simp only [Int.natCast_add, Int.natCast_one]⟩
  · have ei : rows.take i = rows := List.take_of_length_le (by omega)
    simp only [ei]
    clear ei hc hi m
    refine lendNew_fn rfl rfl (Tells.same _ _) (okg160 rows.flatten.length (by omega) (by omega)) grown_rf ?_
    rintro r m' ⟨c, cap, hcap, rfl, rfl⟩ hfree
    simp -implicitDefEqProofs (maxSteps := 10000000) only [rkA, rkB, stepA, valA, simprocAttr]
    refine wp_loop (fun m s => ∃ (i : Nat) (mm : Mem), i + m = rows.length ∧ mm = nomem.put c (flat (frs (rows.take i).flatten) ++ List.replicate (cap * 3 - (flat (frs (rows.take i).flatten)).length) .junk) ∧
      s = ⟨[jk, jk, jk, jk, jk, jk, .v (.s (.slice (some ⟨c, 0, none⟩) (rows.take i).flatten.length cap)), jk, jk, jk, jk, jk, jk, jk, jk, jk, jk, jk, jk, jk, jk, jk, jk, jk, jk, .v (.sl ex (catV rows)), nt rows.length, nt i, jk, jk, jk, jk, jk, jk, jk, jk], [], [], [(2, 0)], [], 0, mm⟩) rows.length ?_ ?_
    · simp -implicitDefEqProofs (maxSteps := 10000000) only [hlr, rkA, rkB, stepA, valA, simprocAttr]
      exact ⟨0, _, by simp, rfl, rfl⟩
    rintro m s ⟨i, mm, hi, rfl, rfl⟩
    simp -implicitDefEqProofs (maxSteps := 10000000) only [rkA, rkB, stepA, valA, simprocAttr]
    refine gB_dec ?_ ?_ <;> intro hc <;> simp -implicitDefEqProofs (maxSteps := 10000000) only [hc, rkA, rkB, stepA, valA, simprocAttr]
    · have hlt : i < rows.length := by omega
      have h0i : (0 : Int) ≤ (i : Int) := by omega
      have hg : (catV rows)[i]? = some (.sl false (frs rows[i])) := by simp [hlt]
      have e1 := flatten_take_succ hlt
      have e2 := flatten_take_le rows (i + 1)
      have e3 : (rows.take (i + 1)).flatten.length = (rows.take i).flatten.length + rows[i].length := by rw [e1, List.length_append]
      have e4 : (frs rows[i]).length = rows[i].length := by simp
      have l1 : (flat (frs (rows.take i).flatten)).length = (rows.take i).flatten.length * 3 := by rw [flat_length (frs_cells _), List.length_map]
      have l2 : (flat (frs rows[i])).length = rows[i].length * 3 := by rw [flat_length (frs_cells _), List.length_map]
      have w2 := wrapped (x := (i : Int) + 1) (by omega) (by omega)
      have hmul : rows.flatten.length * 3 ≤ cap * 3 := Nat.mul_le_mul_right _ hcap
      have hput := cells_putF (rows.take i).flatten rows[i] e1 (cap * 3)
      simp -implicitDefEqProofs (maxSteps := 10000000) only [h0i, Int.toNat_natCast, hg, rkA, rkB, stepA, valA, simprocAttr]
      refine appIn_of rfl rfl (.same _) (RFs_frs _) (Mem.put_same _ _ _) (by rw [List.all_eq_true]; intro e he; obtain ⟨x, _, rfl⟩ := List.mem_map.1 he; rfl) (by rw [e4]; omega) (by simp only [List.length_append, List.length_replicate, l1, l2, Nat.zero_add]; omega) ?_
      rw [Nat.zero_add, ← l1, hput, e4, ← e3]
      simp -implicitDefEqProofs (maxSteps := 10000000) only [w2, rkA, rkB, stepA, valA, simprocAttr]
      refine loopK_of (m' := m - 1) (by omega) ?_
      simp -implicitDefEqProofs (maxSteps := 10000000) only [rkA, rkB, stepA, valA, simprocAttr]
      refine ⟨i + 1, _, by omega, rfl, ?_⟩
      simp only [Int.natCast_add, Int.natCast_one]
      congr 1
      funext d
      unfold Mem.put
      split <;> rfl
    · have ei : rows.take i = rows := List.take_of_length_le (by omega)
      rw [ei]
      refine .inr ⟨_, rfl, .inr ⟨by simpa using h0, c, cap, _, by rw [List.length_map]; exact hcap, by rw [List.length_map], rfl⟩⟩
end Go.Proofs.YtbflmeomkfjikaaGreat.A



set_option linter.unusedVariables false
set_option linter.unusedSimpArgs false
set_option maxRecDepth 100000
namespace Go.Proofs.YtbflmeomkfjikaaGreat.A.E
open Go Go.RowKit Go.Shelf

abbrev catV (rows : List (List Fr)) : List PV := rows.map fun r => .sl false (frs r)
theorem cells_putF (A B : List Fr) {C : List Fr} (h : C = A ++ B) (K : Nat) : (flat (frs A) ++ List.replicate (K - (flat (frs A)).length) PV.junk).take (flat (frs A)).length ++ flat (frs B) ++ (flat (frs A) ++ List.replicate (K - (flat (frs A)).length) PV.junk).drop ((flat (frs A)).length + (flat (frs B)).length) = flat (frs C) ++ List.replicate (K - (flat (frs C)).length) PV.junk := by
  have e : flat (frs C) = flat (frs A) ++ flat (frs B) := by rw [h, frs, List.map_append, flat_append]
  rw [cells_put, e, List.length_append, Nat.sub_sub]
set_option maxHeartbeats 2000000 in
theorem okn114 (ex : Bool) (rows : List (List Fr)) (h0 : rows.flatten ≠ []) (h1 : rows.flatten.length ≤ 1000000) (h2 : rows.length ≤ 1000000) : OkN Tryz.prog 114 [.sl ex (catV rows)] (frs rows.flatten) := by
  have hlr : (catV rows).length = rows.length := by simp
  have hpos : 0 < rows.flatten.length := List.length_pos_iff.2 h0
  refine okn_fn mixed Tryz.func114 (code := ?_) (h := hN114) ?_ kN114 rfl (RFs_frs _) ?_
  rotate_left
  · exact rfl
  unfold hN114 initS
  simp -implicitDefEqProofs (maxSteps := 10000000) only [rkA, rkB, stepA, valA, simprocAttr, Tryz.ntmps114, Tryz.results114]
  refine wp_loop (fun m s => ∃ i, i + m = rows.length ∧ s = ⟨[.v (.sl ex (catV rows)), jk, jk, nt ((rows.take i).flatten.length : Nat), jk, jk, jk, jk, jk, .v (.sl ex (catV rows)), nt rows.length, nt i, jk, jk, jk, jk, jk, jk, jk, jk, jk, jk, jk, jk, jk, jk, jk, jk, jk, jk, jk, jk, jk, jk, jk, jk], [], [], [(2, 0)], [], 0, nomem⟩) rows.length ?_ ?_
  · simp -implicitDefEqProofs (maxSteps := 10000000) only [hlr, rkA, rkB, stepA, valA, simprocAttr]
    exact ⟨0, by simp, rfl⟩
  rintro m s ⟨i, hi, rfl⟩
  simp -implicitDefEqProofs (maxSteps := 10000000) only [rkA, rkB, stepA, valA, simprocAttr]
  refine gB_dec ?_ ?_ <;> intro hc <;> simp -implicitDefEqProofs (maxSteps := 10000000) only [hc, rkA, rkB, stepA, valA, simprocAttr]
  · have hlt : i < rows.length := by omega
    have h0i : (0 : Int) ≤ (i : Int) := by omega
    have hg : (catV rows)[i]? = some (.sl false (frs rows[i])) := by simp [hlt]
    have e1 := flatten_take_succ hlt
    have e2 := flatten_take_le rows (i + 1)
    have e3 : (rows.take (i + 1)).flatten.length = (rows.take i).flatten.length + rows[i].length := by rw [e1, List.length_append]
    have e4 : (frs rows[i]).length = rows[i].length := by simp
    have w1 : IntKind.wrap .i64 (((rows.take i).flatten.length : Nat) + (rows[i].length : Nat) : Int) = ((rows.take (i + 1)).flatten.length : Nat) := by rw [wrapped (by omega) (by omega)]; omega
    have w2 := wrapped (x := (i : Int) + 1) (by omega) (by omega)
    have g0 : ¬ (((rows.take (i + 1)).flatten.length : Nat) : Int) < 0 := by omega
    simp -implicitDefEqProofs (maxSteps := 10000000) only [h0i, Int.toNat_natCast, hg, e4, w1, w2, g0, rkA, rkB, stepA, valA, simprocAttr]
    refine loopK_of (m' := m - 1) (by omega) ?_
    simp -implicitDefEqProofs (maxSteps := 10000000) only [rkA, rkB, stepA, valA, simprocAttr]
    exact ⟨i + 1, by omega, by simp only [Int.natCast_add, Int.natCast_one]⟩
  · have ei : rows.take i = rows := List.take_of_length_le (by omega)
    simp only [ei]
    clear ei hc hi m
    refine lendNew_fn rfl rfl (Tells.same _ _) (okg158 rows.flatten.length (by omega) (by omega)) grown_rf ?_
    rintro r m' ⟨c, cap, hcap, rfl, rfl⟩ hfree
    simp -implicitDefEqProofs (maxSteps := 10000000) only [rkA, rkB, stepA, valA, simprocAttr]
    refine wp_loop (fun m s => ∃ (i : Nat) (mm : Mem), i + m = rows.length ∧ mm = nomem.put c (flat (frs (rows.take i).flatten) ++ List.replicate (cap * 4 - (flat (frs (rows.take i).flatten)).length) .junk) ∧
      s = ⟨[jk, jk, jk, jk, jk, jk, .v (.s (.slice (some ⟨c, 0, none⟩) (rows.take i).flatten.length cap)), jk, jk, jk, jk, jk, jk, jk, jk, jk, jk, jk, jk, jk, jk, jk, jk, jk, jk, .v (.sl ex (catV rows)), nt rows.length, nt i, jk, jk, jk, jk, jk, jk, jk, jk], [], [], [(2, 0)], [], 0, mm⟩) rows.length ?_ ?_
    · simp -implicitDefEqProofs (maxSteps := 10000000) only [hlr, rkA, rkB, stepA, valA, simprocAttr]
      exact ⟨0, _, by simp, rfl, rfl⟩
    rintro m s ⟨i, mm, hi, rfl, rfl⟩
    simp -implicitDefEqProofs (maxSteps := 10000000) only [rkA, rkB, stepA, valA, simprocAttr]
    refine gB_dec ?_ ?_ <;> intro hc <;> simp -implicitDefEqProofs (maxSteps := 10000000) only [hc, rkA, rkB, stepA, valA, simprocAttr]
    · have hlt : i < rows.length := by omega
      have h0i : (0 : Int) ≤ (i : Int) := by omega
      have hg : (catV rows)[i]? = some (.sl false (frs rows[i])) := by simp [hlt]
      have e1 := flatten_take_succ hlt
      have e2 := flatten_take_le rows (i + 1)
      have e3 : (rows.take (i + 1)).flatten.length = (rows.take i).flatten.length + rows[i].length := by rw [e1, List.length_append]
      have e4 : (frs rows[i]).length = rows[i].length := by simp
      have l1 : (flat (frs (rows.take i).flatten)).length = (rows.take i).flatten.length * 4 := by rw [flat_length (frs_cells _), List.length_map]
      have l2 : (flat (frs rows[i])).length = rows[i].length * 4 := by rw [flat_length (frs_cells _), List.length_map]
      have w2 := wrapped (x := (i : Int) + 1) (by omega) (by omega)
      have hmul : rows.flatten.length * 4 ≤ cap * 4 := Nat.mul_le_mul_right _ hcap
      have hput := cells_putF (rows.take i).flatten rows[i] e1 (cap * 4)
      simp -implicitDefEqProofs (maxSteps := 10000000) only [h0i, Int.toNat_natCast, hg, rkA, rkB, stepA, valA, simprocAttr]
      refine appIn_of rfl rfl (.same _) (RFs_frs _) (Mem.put_same _ _ _) (by rw [List.all_eq_true]; intro e he; obtain ⟨x, _, rfl⟩ := List.mem_map.1 he; rfl) (by rw [e4]; omega) (by simp only [List.length_append, List.length_replicate, l1, l2, Nat.zero_add]; omega) ?_
      rw [Nat.zero_add, ← l1, hput, e4, ← e3]
      simp -implicitDefEqProofs (maxSteps := 10000000) only [w2, rkA, rkB, stepA, valA, simprocAttr]
      refine loopK_of (m' := m - 1) (by omega) ?_
      simp -implicitDefEqProofs (maxSteps := 10000000) only [rkA, rkB, stepA, valA, simprocAttr]
      refine ⟨i + 1, _, by omega, rfl, ?_⟩
      simp only [Int.natCast_add, Int.natCast_one]
      congr 1
      funext d
      unfold Mem.put
      split <;> rfl
    · have ei : rows.take i = rows := List.take_of_length_le (by omega)
      rw [ei]
      refine .inr ⟨_, rfl, .inr ⟨by simpa using h0, c, cap, _, by rw [List.length_map]; exact hcap, by rw [List.length_map], rfl⟩⟩
end Go.Proofs.YtbflmeomkfjikaaGreat.A.E



set_option linter.unusedVariables false
set_option linter.unusedSimpArgs false
set_option maxRecDepth 100000
namespace Go.Proofs.YtbflmeomkfjikaaGreat.A
open Go Go.RowKit Go.Shelf

/-! ### States -/
abbrev stV (ex ep : Bool) (x : List PV) (r c : Int) (l : List PV) : PV := .agg [.sl ex x, num r, num c, .sl ep l]
abbrev stNil : PV := .agg [.s (.slice none 0 0), num 0, num 0, .s (.slice none 0 0)]
def stRight (k : Nat) (r c : Int) (n : Nat) : Bool := decide (1 ≤ k ∧ k ≤ 4) && (right r c n && (r == k && c == k))
theorem stRight_nat {k n : Nat} {m : Nat} (h : m = n * n) : stRight k n n m = decide (1 ≤ k ∧ k ≤ 4 ∧ k = n) := by
  by_cases hk : 1 ≤ k ∧ k ≤ 4
  · by_cases e : k = n
    · subst e
      have := right_nat (R := k) (K := k) (n := m) (by omega) (by omega) h
      simp [stRight, hk, this]
    · have e2 : ((n : Int) == (k : Int)) = false := by simp; omega
      simp [stRight, e2, e]
  · have : ¬ (1 ≤ k ∧ k ≤ 4 ∧ k = n) := by omega
    simp [stRight, hk, this]

/-! ### A new state -/
/-! ### Turned -/
end Go.Proofs.YtbflmeomkfjikaaGreat.A



set_option linter.unusedVariables false
set_option linter.unusedSimpArgs false
set_option maxRecDepth 100000
namespace Go.Proofs.YtbflmeomkfjikaaGreat.A.E
open Go Go.RowKit Go.Shelf

abbrev stV (ex ep : Bool) (x : List PV) (r c : Int) (l : List PV) : PV := .agg [.sl ex x, num r, num c, .sl ep l]
end Go.Proofs.YtbflmeomkfjikaaGreat.A.E



set_option linter.unusedVariables false
set_option linter.unusedSimpArgs false
set_option maxRecDepth 100000
namespace Go.Proofs.YtbflmeomkfjikaaGreat.A
open Go Go.RowKit Go.Shelf

/-! ### root: may a state be? -/
theorem ok50 (ex ep : Bool) (x l : List Fr) (r c : Int) : Ok Tryz.prog 50 [stV ex ep (frs x) r c (frs l)] (tru (stRight x.length r c l.length)) := by
  refine ok_fn mixed Tryz.func50 (code := ?_) (h := h50) ?_ k50 ?_
  rotate_left
  · exact rfl
  unfold h50 initS
  simp -implicitDefEqProofs (maxSteps := 10000000) only [rkA, rkB, stepA, valA, simprocAttr, Tryz.ntmps50, Tryz.results50]
  have e : (frs x).length = x.length := by simp
  have e' : (frs l).length = l.length := by simp
  by_cases hx : 1 ≤ x.length ∧ x.length ≤ 4
  · have h1 : (1 : Int) ≤ (x.length : Int) := by omega
    have h2 : (x.length : Int) ≤ 4 := by omega
    simp -implicitDefEqProofs (maxSteps := 10000000) only [e, h1, h2, rkA, rkB, stepA, valA, simprocAttr]
    refine call_fn rfl rfl rfl (ok100 ep r c (frs l)) ?_
    rw [e']
    cases hr : right r c l.length with
    | false => simp -implicitDefEqProofs (maxSteps := 10000000) only [stRight, hx, hr, rkA, rkB, stepA, valA, simprocAttr]
    | true =>
      simp -implicitDefEqProofs (maxSteps := 10000000) only [rkA, rkB, stepA, valA, simprocAttr]
      cases h3 : (r == (x.length : Int)) with
      | false => simp -implicitDefEqProofs (maxSteps := 10000000) only [stRight, hx, hr, h3, rkA, rkB, stepA, valA, simprocAttr]
      | true => simp -implicitDefEqProofs (maxSteps := 10000000) only [stRight, hx, hr, h3, rkA, rkB, stepA, valA, simprocAttr]
  · have hs : stRight x.length r c l.length = false := by simp -implicitDefEqProofs (maxSteps := 10000000) only [stRight, hx, rkA, rkB, stepA, valA, simprocAttr]
    rw [hs]
    by_cases h1 : 1 ≤ x.length
    · have h1' : (1 : Int) ≤ (x.length : Int) := by omega
      have h2 : ¬ (x.length : Int) ≤ 4 := by omega
      simp -implicitDefEqProofs (maxSteps := 10000000) only [e, h1', h2, rkA, rkB, stepA, valA, simprocAttr]
    · have h1' : ¬ (1 : Int) ≤ (x.length : Int) := by omega
      simp -implicitDefEqProofs (maxSteps := 10000000) only [e, h1', rkA, rkB, stepA, valA, simprocAttr]

/-! ### Update -/
abbrev newsV' (e a : Fr) : PV := .agg [num e.n, num e.d, tru e.bad, num a.n, num a.d, tru a.bad]
/-- Behind t columns: the rows, what was gathered, and the spread. -/
def upK (n : Nat) (M : Nat → Nat → Fr) (W : Nat → Fr) (r : Fr) : Nat → (Nat → Nat → Fr) × (Nat → Fr) × Fr
  | 0 => (M, fun _ => newF 0 1, r)
  | t + 1 =>
    let p := upK n M W r t
    let j := n - 1 - t
    let b := addF p.2.2 (mulF (W j) (W j))
    (colM p.1 p.2.1 j (rootD p.2.2 b) (rootC (W j) p.2.2 b) n, colE p.1 p.2.1 j (W j) n, b)
theorem upK_succ {n j : Nat} (M : Nat → Nat → Fr) (W : Nat → Fr) (r : Fr) {t : Nat} (h : n - 1 - t = j) : upK n M W r (t + 1) =
    (colM (upK n M W r t).1 (upK n M W r t).2.1 j (rootD (upK n M W r t).2.2 (addF (upK n M W r t).2.2 (mulF (W j) (W j)))) (rootC (W j) (upK n M W r t).2.2 (addF (upK n M W r t).2.2 (mulF (W j) (W j)))) n,
      colE (upK n M W r t).1 (upK n M W r t).2.1 j (W j) n, addF (upK n M W r t).2.2 (mulF (W j) (W j))) := by
  subst h
  rfl
def dotsR (n : Nat) (l h : List Fr) (j : Nat) : Fr := dotF (rowF n n (turnF n n l) j) h
def upR (n : Nat) (l h : List Fr) (r : Fr) : (Nat → Nat → Fr) × (Nat → Fr) × Fr := upK n (startF n n l) (dotsR n l h) r n
def upRS (n : Nat) (l h : List Fr) (r : Fr) : List Fr := ((List.range n).map (rowM n (upR n l h r).1)).flatten
def upRK (n : Nat) (l h : List Fr) (r : Fr) : List Fr := (List.range n).map fun i => divF ((upR n l h r).2.1 i) (upR n l h r).2.2
def upRX (n : Nat) (x l h : List Fr) (r z : Fr) : List Fr := List.zipWith addF x ((upRK n l h r).map (mulF · (subF z (dotF h x))))
theorem upRS_len (n : Nat) (l h : List Fr) (r : Fr) : (upRS n l h r).length = n * n := by
  unfold upRS
  rw [List.length_flatten, List.map_map]
  have e : ∀ k : List Nat, (k.map (List.length ∘ rowM n (upR n l h r).1)).sum = k.length * n := fun k => by
    induction k with
    | nil => simp
    | cons x k ih => rw [List.map_cons, List.sum_cons, ih, List.length_cons, Nat.succ_mul, Nat.add_comm]; show k.length * n + (rowM n (upR n l h r).1 x).length = _; rw [rowM_length]
  rw [e, List.length_range]
/-- Rows in memory, told as values. -/
theorem tells_rows {m : Mem} {c cap q : Nat → Nat} {n w : Nat} {M : Nat → Nat → Fr} (ex : Bool) (h : RowsC m c q n w M) (hcap : ∀ i, i < n → w ≤ cap i) : Tell m (.sl ex ((List.range n).map (rawC c cap w))) (.sl ex (catV ((List.range n).map (rowM w M)))) := by
  have h1 : ∀ l : List Nat, ∀ x ∈ l.map (rawC c cap w), x.cells = [x] := fun l x hx => by
    obtain ⟨i, _, rfl⟩ := List.mem_map.1 hx
    rfl
  have h2 : ∀ l : List (List Fr), ∀ x ∈ catV l, x.cells = [x] := fun l x hx => by
    obtain ⟨i, _, rfl⟩ := List.mem_map.1 hx
    rfl
  refine .slIn (sz := 1) (fun x hx => by rw [h1 _ x hx]; rfl) (fun x hx => by rw [h2 _ x hx]; rfl) (by simp) ?_
  rw [flat_one (h1 _), flat_one (h2 _), catV, List.map_map]
  refine tells_map fun i hi => ?_
  have hi' := List.mem_range.1 hi
  have := tell_row (m := m) (b := c i) (cap := cap i) (q := q i) (l := rowM w M i) (h.row i hi') (by rw [List.length_map, rowM_length]; exact hcap i hi')
  rw [List.length_map, rowM_length] at this
  exact this
theorem newMat_rf {r c : Int} {l : List PV} (hl : RFs (flat l) = true) : ∀ x m', NewMat r c l x m' → RF x = true ∧ ∀ b cells, m' b = some cells → RFs cells = true := by
  rintro x m' ⟨b, cap, q, _, rfl, rfl⟩
  refine ⟨rfl, fun d cells hd => ?_⟩
  by_cases e : d = b
  · subst e
    rw [Mem.put_same] at hd
    cases hd
    exact RFs_append hl (RFs_replicate q)
  · rw [Mem.put_other _ _ e] at hd
    cases hd
set_option maxHeartbeats 4000000 in
theorem ok59 (ex ep eh : Bool) (n : Nat) (x l h : List Fr) (r z : Fr) (hn : 1 ≤ n ∧ n ≤ 4) (hx : x.length = n) (hl : l.length = n * n) (hh : h.length = n) :
    Ok Tryz.prog 59 [stV ex ep (frs x) n n (frs l), .sl eh (frs h), frV r, frV z] (.tup [stV false false (frs (upRX n x l h r z)) n n (frs (upRS n l h r)), newsV' (subF z (dotF h x)) (upR n l h r).2.2, tru true]) := by
  have hn' : 1 ≤ n ∧ n ≤ 16 := by omega
  have hr : right (n : Int) (n : Int) l.length = true := right_sq hn' hl
  refine okt_fn mixed Tryz.func59 (code := ?_) (h := h59) ?_ k59 ?_
  rotate_left
  · exact rfl
  unfold h59 initS
  simp -implicitDefEqProofs (maxSteps := 10000000) only [rkA, rkB, stepA, valA, simprocAttr, Tryz.ntmps59, Tryz.results59]
  have h6 := ok50 ex ep x l n n
  rw [stRight_nat hl, decide_eq_true (show 1 ≤ x.length ∧ x.length ≤ 4 ∧ x.length = n by omega)] at h6
  refine call_fn rfl rfl rfl (h6) ?_
  have lx : (frs x).length = n := by simp [hx]
  have lh : (frs h).length = n := by simp [hh]
  simp -implicitDefEqProofs (maxSteps := 10000000) only [lx, lh, bne_self_eq_false, rkA, rkB, stepA, valA, simprocAttr]
  refine call_fn rfl rfl rfl (ok98 ep n n l) ?_
  simp -implicitDefEqProofs (maxSteps := 10000000) only [rkA, rkB, stepA, valA, simprocAttr]
  refine wp_rfM' (items := rowItems n n l) rfl (itm150 ep n n l hr) (fun sv i s => i ≤ n ∧ ∃ mm c cap q, RowsC mm c q i n (startF n n l) ∧ (∀ a, a < i → n ≤ cap a) ∧ s = ⟨[], [(4, [.v (.sl ex (frs x)), nt n, nt n, .v (.sl ep (frs l))]), (5, [.v (.sl eh (frs h))]), (6, [nt r.n, nt r.d, .v (tru r.bad)]), (7, [nt z.n, nt z.d, .v (tru z.bad)]), (8, [.acc 1008 [], nt 0, nt 0, .acc 4008 []]), (9, [nt 0, nt 0, .v (tru false), nt 0, nt 0, .v (tru false)]), (12, [.acc 1012 ((List.range i).map (rawC c cap n))]), (13, [.acc 1013 []])], [], [(1008, 0), (1012, i), (1013, 0), (4008, 0)], sv, 0, mm⟩) ?_ ?_ ?_
  · simp -implicitDefEqProofs (maxSteps := 10000000) only [rkA, rkB, stepA, valA, simprocAttr]
    exact ⟨Nat.zero_le _, nomem, fun _ => 0, fun _ => 0, fun _ => 0, ⟨fun i h => by omega, fun i j h => by omega⟩, fun a h => by omega, rfl⟩
  · rintro i x' p m s' R hx' ⟨hi, mm, c, cap, q, hM, hcap, rfl⟩ hxm hfr hR
    have hlt : i < n := by
      have := (List.getElem?_eq_some_iff.1 hx').1
      simpa [rowItems] using this
    have hxe : x' = rowItem n n l i := by
      rw [rowItems, List.getElem?_map, List.getElem?_range (by simpa using hlt), Option.map_some] at hx'
      exact (Option.some.inj hx').symm
    subst hxe
    obtain ⟨b, cp, z', h1, rfl, rfl⟩ := hxm
    have hb : mm b = none := hfr b (by rw [Mem.put_same]; rfl)
    have lr : (frs (rowF n n l i)).length = n := by rw [List.length_map, row_start hr hlt, rowM_length]
    rw [lr] at h1
    rw [lr, row_start hr hlt]
    refine ⟨rfl, ?_⟩
    have hfit := fits_raw c cap n i (.s (.slice (some ⟨b, 0, none⟩) n cp)) ⟨_, _, _, rfl⟩ (by omega)
    have hll : ((List.range i).map (rawC c cap n)).length = i := by simp
    simp -implicitDefEqProofs (maxSteps := 10000000) only [hfit, hll, raw_grow, rkA, rkB, stepA, valA, simprocAttr]
    refine hR _ ⟨by omega, _, _, _, _, hM.grow (z := z') hb, fun a ha => ?_, rfl⟩
    by_cases e : a = i
    · simp only [e, if_true]; exact h1
    · simp only [e, if_false]; exact hcap a (by omega)
  rintro s' ⟨hi, mm, c, cap, q, hM, hcap, rfl⟩
  have li : (rowItems n n l).length = n := by simp [rowItems]
  rw [li] at hM hcap ⊢
  clear hi
  simp -implicitDefEqProofs (maxSteps := 10000000) only [rkA, rkB, stepA, valA, simprocAttr]
  have h25 := ok119 ep n n l
  rw [if_pos hr] at h25
  refine call_fn rfl rfl rfl (h25) ?_
  simp -implicitDefEqProofs (maxSteps := 10000000) only [rkA, rkB, stepA, valA, simprocAttr]
  have hrt := right_turn hr
  refine call_fn rfl rfl rfl (ok98 false n n (turnF n n l)) ?_
  simp -implicitDefEqProofs (maxSteps := 10000000) only [rkA, rkB, stepA, valA, simprocAttr]
  have lt : (rowsF n n (turnF n n l)).length = n := by rw [rowsF_length hrt, Int.toNat_natCast]
  refine wp_rf' (items := rowsF n n (turnF n n l)) rfl (it150 false n n (turnF n n l)) (fun sv i s => i ≤ n ∧ s = ⟨[], [(4, [.v (.sl ex (frs x)), nt n, nt n, .v (.sl ep (frs l))]), (5, [.v (.sl eh (frs h))]), (6, [nt r.n, nt r.d, .v (tru r.bad)]), (7, [nt z.n, nt z.d, .v (tru z.bad)]), (8, [.acc 1008 [], nt 0, nt 0, .acc 4008 []]), (9, [nt 0, nt 0, .v (tru false), nt 0, nt 0, .v (tru false)]), (12, [.acc 1012 ((List.range n).map (rawC c cap n))]), (13, [.acc 1013 (frs ((List.range i).map (dotsR n l h)))])], [], [(1008, 0), (1012, n), (1013, i), (4008, 0)], sv, 0, mm⟩) ?_ ?_ ?_
  · simp -implicitDefEqProofs (maxSteps := 10000000) only [rkA, rkB, stepA, valA, simprocAttr]
    exact Nat.zero_le _
  · rintro i x' s' R hx' ⟨hi, rfl⟩ hR
    obtain ⟨hlt, rfl, hxa⟩ := rowsF_all hrt hx'
    rw [Int.toNat_natCast] at hlt
    have hrl := rowF_len hrt (i := i) (by simpa using hlt)
    rw [Int.toNat_natCast] at hrl
    refine ⟨rfl, ?_⟩
    simp -implicitDefEqProofs (maxSteps := 10000000) only [rkA, rkB, stepA, valA, simprocAttr]
    refine call_fn rfl rfl rfl (ok76 false eh (rowF n n (turnF n n l) i) h (by omega) (by omega)) ?_
    have hd : dotF (rowF n n (turnF n n l) i) h = dotsR n l h i := rfl
    have hfit : fits 3 24 (frs ((List.range i).map (dotsR n l h))) [frV (dotsR n l h i)] = true := fits_frs (l := [dotsR n l h i]) (by simp; omega)
    have hll : (frs ((List.range i).map (dotsR n l h))).length = i := by simp
    simp -implicitDefEqProofs (maxSteps := 10000000) only [hd, hfit, hll, rkA, rkB, stepA, valA, simprocAttr]
    refine hR _ ⟨by omega, ?_⟩
    rw [List.range_succ, List.map_append]
    simp only [frs, List.map_append, List.map_cons, List.map_nil]
  rintro s' ⟨hi, rfl⟩
  rw [lt]
  clear hi
  simp -implicitDefEqProofs (maxSteps := 10000000) only [rkA, rkB, stepA, valA, simprocAttr]
  refine new_make (T := 24) (N := 3) rfl rfl rfl rfl rfl (by omega) (by omega) (by omega) ?_
  intro b hb
  have hb' : mm b = none := hb
  have hcb : ∀ i, i < n → c i ≠ b := fun i hi e => by have := hM.row i hi; rw [e, hb'] at this; cases this
  have n0 : (0 : Int) ≤ (n : Int) := by omega
  have n1 : (n : Int) * 8 ≤ 140737488355328 := by omega
  have n2 : (n : Int) ≤ 16777216 := by omega
  simp -implicitDefEqProofs (maxSteps := 10000000) only [Int.toNat_natCast, flat_zeros, n0, n1, n2, rkA, rkB, stepA, valA, simprocAttr]
  have h35 := ok39 true (List.replicate n 0) (by simp; omega)
  rw [List.map_replicate, List.map_replicate] at h35
  refine call_fn rfl rfl rfl (h35) ?_
  simp -implicitDefEqProofs (maxSteps := 10000000) only [rkA, rkB, stepA, valA, simprocAttr]
  have lz : (flat (frs (List.replicate n (⟨0, 0, false⟩ : Fr)))).length = n * 3 := by rw [flat_length (frs_cells _)]; simp
  have lf : (flat (frs (List.replicate n (newF 0 1)))).length = n * 3 := by rw [flat_length (frs_cells _)]; simp
  refine copy_of (ys := frs (List.replicate n (newF 0 1))) rfl rfl (.same _) (RFs_frs _) (Mem.put_same _ _ _) (frs_ok _) (by simp) (by rw [lz, lf]; omega) ?_
  have hdr : (flat (frs (List.replicate n (⟨0, 0, false⟩ : Fr)))).drop (flat (frs (List.replicate n (newF 0 1)))).length = [] := List.drop_of_length_le (by rw [lz, lf]; omega)
  have hM2 : RowsC ((mm.put b (flat (frs (List.replicate n (⟨0, 0, false⟩ : Fr))))).put b (flat (frs (List.replicate n (newF 0 1))))) c q n n (startF n n l) := (hM.other hcb).other hcb
  have hrep : List.replicate n (newF 0 1) = (List.range n).map (fun _ => newF 0 1) := by
    apply List.ext_getElem?
    intro i
    by_cases hi : i < n
    · simp [hi]
    · rw [List.getElem?_eq_none (by simp; omega), List.getElem?_eq_none (by simp; omega)]
  have hE2 : ((mm.put b (flat (frs (List.replicate n (⟨0, 0, false⟩ : Fr))))).put b (flat (frs (List.replicate n (newF 0 1))))) b = some (flat (frs ((List.range n).map (upK n (startF n n l) (dotsR n l h) r 0).2.1))) := by
    rw [Mem.put_same, hrep]
    rfl
  generalize hmm : (mm.put b (flat (frs (List.replicate n (⟨0, 0, false⟩ : Fr))))).put b (flat (frs (List.replicate n (newF 0 1)))) = mm1 at hM2 hE2
  have w1 := wrapped (x := (n : Int) - 1) (by omega) (by omega)
  simp -implicitDefEqProofs (maxSteps := 10000000) only [Nat.zero_add, hdr, List.append_nil, hmm, w1, rkA, rkB, stepA, valA, simprocAttr]
  clear hmm hb hb' hM hrep hdr lz lf
  refine wp_loop (fun m s => ∃ (t : Nat) (mm : Mem) (A : Fr), t + m = n ∧ A = (upK n (startF n n l) (dotsR n l h) r t).2.2 ∧ RowsC mm c q n n (upK n (startF n n l) (dotsR n l h) r t).1 ∧ mm b = some (flat (frs ((List.range n).map (upK n (startF n n l) (dotsR n l h) r t).2.1))) ∧
    s = ⟨[jk, jk, jk, jk, .ptr 4 0, .ptr 5 0, jk, .ptr 7 0, .ptr 8 0, .ptr 9 0, jk, nt n, .ptr 12 0, .ptr 13 0, jk, jk, jk, jk, .v (.s (.slice (some ⟨b, 0, none⟩) n n)), .ptr 19 0, nt ((m : Int) - 1), jk, jk, jk, jk, jk, jk, jk, jk, jk, jk, jk, jk, jk, jk, jk, jk, jk, jk, jk, jk, jk, jk, jk, jk, jk, jk, jk, jk, jk, jk, jk, jk, jk, jk, jk, jk, jk, jk, jk, jk, jk, jk, jk, jk, jk, jk, jk, jk, jk, jk, jk, jk, jk, jk, jk, jk, jk, jk, jk, jk, jk, jk, jk, jk, jk, jk, jk, jk, jk, jk, jk, jk, jk, jk, jk, jk, jk, jk, jk, jk, jk, jk, jk, jk, jk, jk, jk, jk, jk, jk, jk, jk, jk, jk, jk, jk, jk, jk, jk, jk, jk, jk, jk, jk, jk, jk, jk, jk, jk, jk, jk, jk, jk, jk, jk, jk, jk, jk, jk, jk, jk],
      [(4, [.v (.sl ex (frs x)), nt n, nt n, .v (.sl ep (frs l))]), (5, [.v (.sl eh (frs h))]), (6, [nt r.n, nt r.d, .v (tru r.bad)]), (7, [nt z.n, nt z.d, .v (tru z.bad)]), (8, [.acc 1008 [], nt 0, nt 0, .acc 4008 []]), (9, [nt 0, nt 0, .v (tru false), nt 0, nt 0, .v (tru false)]), (12, [.acc 1012 ((List.range n).map (rawC c cap n))]), (13, [.acc 1013 (frs ((List.range n).map (dotsR n l h)))]), (19, [nt A.n, nt A.d, .v (tru A.bad)])], [], [(1008, 0), (1012, n), (1013, n), (4008, 0)], [], 0, mm⟩) n ?_ ?_
  · simp -implicitDefEqProofs (maxSteps := 10000000) only [rkA, rkB, stepA, valA, simprocAttr]
    exact ⟨0, mm1, r, by omega, rfl, hM2, hE2, rfl⟩
  clear hM2 hE2 mm1
  rintro m s ⟨t, mm, A, htm, hA, hM, hE, rfl⟩
  simp -implicitDefEqProofs (maxSteps := 10000000) only [rkA, rkB, stepA, valA, simprocAttr]
  refine gB_dec ?_ ?_ <;> intro hc <;> simp -implicitDefEqProofs (maxSteps := 10000000) only [hc, rkA, rkB, stepA, valA, simprocAttr]
  · obtain ⟨j, rfl⟩ : ∃ j, m = j + 1 := ⟨m - 1, by omega⟩
    have hj : j < n := by omega
    have ej : ((j + 1 : Nat) : Int) - 1 = (j : Int) := by omega
    have h0j : (0 : Int) ≤ (j : Int) := by omega
    have gw : (frs ((List.range n).map (dotsR n l h)))[j]? = some (frV (dotsR n l h j)) := by simp [hj]
    simp -implicitDefEqProofs (maxSteps := 10000000) only [ej, h0j, Int.toNat_natCast, gw, rkA, rkB, stepA, valA, simprocAttr]
    refine call_meth rfl rfl methMul (ok213 _ _) ?_
    simp -implicitDefEqProofs (maxSteps := 10000000) only [rkA, rkB, stepA, valA, simprocAttr]
    refine call_meth rfl rfl methAdd (ok210 _ _) ?_
    simp -implicitDefEqProofs (maxSteps := 10000000) only [h0j, Int.toNat_natCast, gw, rkA, rkB, stepA, valA, simprocAttr]
    generalize hB : addF A (mulF (dotsR n l h j) (dotsR n l h j)) = B
    refine mem_fn rfl rfl rfl (okm120 false n j hj (by omega) _ _ (dotsR n l h j) A B c cap q hcap b mm hM hE hcb) ?_
    rintro r' m' ⟨hM', hE'⟩
    have w2 := wrapped (x := (j : Int) - 1) (by omega) (by omega)
    simp -implicitDefEqProofs (maxSteps := 10000000) only [w2, rkA, rkB, stepA, valA, simprocAttr]
    refine loopK_of (m' := j) (by omega) ?_
    simp -implicitDefEqProofs (maxSteps := 10000000) only [rkA, rkB, stepA, valA, simprocAttr]
    have hup := upK_succ (startF n n l) (dotsR n l h) r (show n - 1 - t = j by omega)
    rw [← hA, hB] at hup
    exact ⟨t + 1, m', B, by omega, by rw [hup], by rw [hup]; exact hM', by rw [hup]; exact hE', rfl⟩
  · have ht : t = n := by omega
    rw [ht] at hA hM hE
    refine call_fn rfl rfl rfl (ok76 eh ex h x (by omega) (by omega)) ?_
    simp -implicitDefEqProofs (maxSteps := 10000000) only [rkA, rkB, stepA, valA, simprocAttr]
    refine call_meth rfl rfl methSub (ok218 _ _) ?_
    generalize hz : subF z (dotF h x) = Z
    generalize hU : upK n (startF n n l) (dotsR n l h) r n = U at hA hM hE
    have hUR : upR n l h r = U := hU
    simp -implicitDefEqProofs (maxSteps := 10000000) only [rkA, rkB, stepA, valA, simprocAttr]
    have hkl : ((List.range n).map fun i => divF (U.2.1 i) A).length = n := by simp
    refine wp_loop (fun m s => ∃ (i : Nat), i + m = n ∧
      s = ⟨[jk, jk, jk, jk, .ptr 4 0, jk, jk, jk, .ptr 8 0, .ptr 9 0, jk, nt n, .ptr 12 0, jk, jk, jk, jk, jk, jk, .ptr 19 0, jk, jk, .ptr 22 0, .acc 23 (frs ((List.range i).map fun i => divF (U.2.1 i) A)), jk, jk, jk, jk, jk, jk, jk, jk, jk, jk, jk, jk, jk, jk, jk, jk, jk, jk, jk, jk, jk, jk, jk, jk, jk, jk, jk, jk, jk, jk, jk, jk, jk, jk, jk, jk, jk, jk, jk, jk, jk, jk, jk, jk, jk, jk, jk, jk, jk, jk, jk, jk, jk, jk, jk, jk, jk, jk, jk, jk, jk, jk, jk, jk, jk, jk, jk, jk, jk, jk, jk, jk, jk, jk, jk, jk, jk, jk, jk, jk, jk, jk, jk, jk, jk, jk, .v (.s (.slice (some ⟨b, 0, none⟩) n n)), nt n, nt i, jk, jk, jk, jk, jk, jk, jk, jk, jk, jk, jk, jk, jk, jk, jk, jk, jk, jk, jk, jk, jk, jk, jk, jk, jk, jk, jk, jk, jk],
        [(4, [.v (.sl ex (frs x)), nt n, nt n, .v (.sl ep (frs l))]), (5, [.v (.sl eh (frs h))]), (6, [nt r.n, nt r.d, .v (tru r.bad)]), (7, [nt z.n, nt z.d, .v (tru z.bad)]), (8, [.acc 1008 [], nt 0, nt 0, .acc 4008 []]), (9, [nt 0, nt 0, .v (tru false), nt 0, nt 0, .v (tru false)]), (12, [.acc 1012 ((List.range n).map (rawC c cap n))]), (13, [.acc 1013 (frs ((List.range n).map (dotsR n l h)))]), (19, [nt A.n, nt A.d, .v (tru A.bad)]), (22, [nt Z.n, nt Z.d, .v (tru Z.bad), nt A.n, nt A.d, .v (tru A.bad)])], [], [(23, i), (1008, 0), (1012, n), (1013, n), (4008, 0)], [], 0, mm⟩) n ?_ ?_
    · simp -implicitDefEqProofs (maxSteps := 10000000) only [rkA, rkB, stepA, valA, simprocAttr]
      exact ⟨0, by omega, rfl⟩
    rintro m s ⟨i, him, rfl⟩
    simp -implicitDefEqProofs (maxSteps := 10000000) only [rkA, rkB, stepA, valA, simprocAttr]
    refine gB_dec ?_ ?_ <;> intro hc <;> simp -implicitDefEqProofs (maxSteps := 10000000) only [hc, rkA, rkB, stepA, valA, simprocAttr]
    · have hi : i < n := by omega
      have h0i : (0 : Int) ≤ (i : Int) := by omega
      have hin : (i : Int) < (n : Int) := by omega
      have hle : ((List.range n).map U.2.1)[i]? = some (U.2.1 i) := by simp [hi]
      have hlde := ldM_fr hle
      simp -implicitDefEqProofs (maxSteps := 10000000) only [h0i, hin, Int.toNat_natCast, addr_add, Nat.zero_add, hE, hlde, rkA, rkB, stepA, valA, simprocAttr]
      refine call_meth rfl rfl methDiv (ok211 _ _) ?_
      have hfit : fits 3 24 (frs ((List.range i).map fun i => divF (U.2.1 i) A)) [frV (divF (U.2.1 i) A)] = true := fits_frs (l := [divF (U.2.1 i) A]) (by simp; omega)
      have hll : (frs ((List.range i).map fun i => divF (U.2.1 i) A)).length = i := by simp
      have hw := wrapped (x := (i : Int) + 1) (by omega) (by omega)
      simp -implicitDefEqProofs (maxSteps := 10000000) only [hfit, hll, hw, rkA, rkB, stepA, valA, simprocAttr]
      refine loopK_of (m' := m - 1) (by omega) ?_
      simp -implicitDefEqProofs (maxSteps := 10000000) only [rkA, rkB, stepA, valA, simprocAttr]
      refine ⟨i + 1, by omega, ?_⟩
      rw [List.range_succ, List.map_append]
      simp only [frs, List.map_append, List.map_cons, List.map_nil, Int.natCast_add, Int.natCast_one]
    · have hin : i = n := by omega
      rw [hin]
      have hcat : ((List.range n).map (rowM n U.1)).flatten = upRS n l h r := by rw [upRS, hUR]
      have hcl := upRS_len n l h r
      have hsq := side16 (n := n) (m := n) (by omega) (by omega)
      have hpos : 0 < n * n := Nat.mul_pos (by omega) (by omega)
      have hne : upRS n l h r ≠ [] := fun e => by rw [e] at hcl; simp at hcl; omega
      have hcc := okn121 false ((List.range n).map (rowM n U.1)) (by rw [hcat]; exact hne) (by rw [hcat, hcl]; omega) (by simp; omega)
      rw [hcat] at hcc
      refine newRow_fn rfl rfl (.cons (tells_rows false hM hcap) .nil) hcc (RFs_frs _) (by simpa using hne) ?_
      intro c2 cap2 q2 hc2 hcap2
      simp -implicitDefEqProofs (maxSteps := 10000000) only [rkA, rkB, stepA, valA, simprocAttr]
      have hrs : right (n : Int) (n : Int) (upRS n l h r).length = true := right_sq hn' hcl
      refine lendNew_fn rfl rfl (.cons (.same _) (.cons (.same _) (.cons (tell_row (Mem.put_same _ _ _) hcap2) .nil))) (okm71 n n false (upRS n l h r) hrs) (newMat_rf (RFs_frs _)) ?_
      rintro y m' ⟨b3, cap3, q3, hcap3, rfl, rfl⟩ hfr
      simp -implicitDefEqProofs (maxSteps := 10000000) only [rkA, rkB, stepA, valA, simprocAttr]
      have hk : ((List.range n).map fun i => divF (U.2.1 i) A) = upRK n l h r := by rw [upRK, hUR, ← hA]
      have hkl : (upRK n l h r).length = n := by simp [upRK]
      rw [hk]
      refine call_fn rfl rfl rfl (ok123 false (upRK n l h r) Z (by omega)) ?_
      simp -implicitDefEqProofs (maxSteps := 10000000) only [rkA, rkB, stepA, valA, simprocAttr]
      refine call_fn rfl rfl rfl (ok122 ex false x ((upRK n l h r).map (mulF · Z)) (by omega) (by simp; omega)) ?_
      simp -implicitDefEqProofs (maxSteps := 10000000) only [rkA, rkB, stepA, valA, simprocAttr]
      refine ⟨_, rfl, ?_⟩
      rw [upRX, hz, hUR, ← hA]
      exact .tup (.cons (.agg (.cons (.same _) (.cons (.same _) (.cons (.same _) (.cons (tell_row (Mem.put_same _ _ _) hcap3) .nil))))) (.cons (.same _) (.cons (.same _) .nil)))
end Go.Proofs.YtbflmeomkfjikaaGreat.A



set_option linter.unusedVariables false
set_option linter.unusedSimpArgs false
set_option maxRecDepth 100000
namespace Go.Proofs.YtbflmeomkfjikaaGreat.A.E
open Go Go.RowKit Go.Shelf

theorem ok62 (ex ep : Bool) (x l : List Fr) (r c : Int) : Ok Tryz.prog 62 [stV ex ep (frs x) r c (frs l)] (tru (stRight x.length r c l.length)) := by
  refine ok_fn mixed Tryz.func62 (code := ?_) (h := h62) ?_ k62 ?_
  rotate_left
  · exact rfl
  unfold h62 initS
  simp -implicitDefEqProofs (maxSteps := 10000000) only [rkA, rkB, stepA, valA, simprocAttr, Tryz.ntmps62, Tryz.results62]
  have e : (frs x).length = x.length := by simp
  have e' : (frs l).length = l.length := by simp
  by_cases hx : 1 ≤ x.length ∧ x.length ≤ 4
  · have h1 : (1 : Int) ≤ (x.length : Int) := by omega
    have h2 : (x.length : Int) ≤ 4 := by omega
    simp -implicitDefEqProofs (maxSteps := 10000000) only [e, h1, h2, rkA, rkB, stepA, valA, simprocAttr]
    refine call_fn rfl rfl rfl (ok88 ep r c (frs l)) ?_
    rw [e']
    cases hr : right r c l.length with
    | false => simp -implicitDefEqProofs (maxSteps := 10000000) only [stRight, hx, hr, rkA, rkB, stepA, valA, simprocAttr]
    | true =>
      simp -implicitDefEqProofs (maxSteps := 10000000) only [rkA, rkB, stepA, valA, simprocAttr]
      cases h3 : (r == (x.length : Int)) with
      | false => simp -implicitDefEqProofs (maxSteps := 10000000) only [stRight, hx, hr, h3, rkA, rkB, stepA, valA, simprocAttr]
      | true => simp -implicitDefEqProofs (maxSteps := 10000000) only [stRight, hx, hr, h3, rkA, rkB, stepA, valA, simprocAttr]
  · have hs : stRight x.length r c l.length = false := by simp -implicitDefEqProofs (maxSteps := 10000000) only [stRight, hx, rkA, rkB, stepA, valA, simprocAttr]
    rw [hs]
    by_cases h1 : 1 ≤ x.length
    · have h1' : (1 : Int) ≤ (x.length : Int) := by omega
      have h2 : ¬ (x.length : Int) ≤ 4 := by omega
      simp -implicitDefEqProofs (maxSteps := 10000000) only [e, h1', h2, rkA, rkB, stepA, valA, simprocAttr]
    · have h1' : ¬ (1 : Int) ≤ (x.length : Int) := by omega
      simp -implicitDefEqProofs (maxSteps := 10000000) only [e, h1', rkA, rkB, stepA, valA, simprocAttr]

abbrev newsV' (e a : Fr) : PV := .agg [num e.v, num e.lo, num e.hi, tru e.bad, num a.v, num a.lo, num a.hi, tru a.bad]
/-- Behind t columns: the rows, what was gathered, and the spread. -/
def upK (n : Nat) (M : Nat → Nat → Fr) (W : Nat → Fr) (r : Fr) : Nat → (Nat → Nat → Fr) × (Nat → Fr) × Fr
  | 0 => (M, fun _ => newF 0 1, r)
  | t + 1 =>
    let p := upK n M W r t
    let j := n - 1 - t
    let b := addF p.2.2 (mulF (W j) (W j))
    (colM p.1 p.2.1 j (rootD p.2.2 b) (rootC (W j) p.2.2 b) n, colE p.1 p.2.1 j (W j) n, b)
theorem upK_succ {n j : Nat} (M : Nat → Nat → Fr) (W : Nat → Fr) (r : Fr) {t : Nat} (h : n - 1 - t = j) : upK n M W r (t + 1) =
    (colM (upK n M W r t).1 (upK n M W r t).2.1 j (rootD (upK n M W r t).2.2 (addF (upK n M W r t).2.2 (mulF (W j) (W j)))) (rootC (W j) (upK n M W r t).2.2 (addF (upK n M W r t).2.2 (mulF (W j) (W j)))) n,
      colE (upK n M W r t).1 (upK n M W r t).2.1 j (W j) n, addF (upK n M W r t).2.2 (mulF (W j) (W j))) := by
  subst h
  rfl
def dotsR (n : Nat) (l h : List Fr) (j : Nat) : Fr := dotF (rowF n n (turnF n n l) j) h
def upR (n : Nat) (l h : List Fr) (r : Fr) : (Nat → Nat → Fr) × (Nat → Fr) × Fr := upK n (startF n n l) (dotsR n l h) r n
def upRS (n : Nat) (l h : List Fr) (r : Fr) : List Fr := ((List.range n).map (rowM n (upR n l h r).1)).flatten
def upRK (n : Nat) (l h : List Fr) (r : Fr) : List Fr := (List.range n).map fun i => divF ((upR n l h r).2.1 i) (upR n l h r).2.2
def upRX (n : Nat) (x l h : List Fr) (r z : Fr) : List Fr := List.zipWith addF x ((upRK n l h r).map (mulF · (subF z (dotF h x))))
theorem upRS_len (n : Nat) (l h : List Fr) (r : Fr) : (upRS n l h r).length = n * n := by
  unfold upRS
  rw [List.length_flatten, List.map_map]
  have e : ∀ k : List Nat, (k.map (List.length ∘ rowM n (upR n l h r).1)).sum = k.length * n := fun k => by
    induction k with
    | nil => simp
    | cons x k ih => rw [List.map_cons, List.sum_cons, ih, List.length_cons, Nat.succ_mul, Nat.add_comm]; show k.length * n + (rowM n (upR n l h r).1 x).length = _; rw [rowM_length]
  rw [e, List.length_range]
/-- Rows in memory, told as values. -/
theorem tells_rows {m : Mem} {c cap q : Nat → Nat} {n w : Nat} {M : Nat → Nat → Fr} (ex : Bool) (h : RowsC m c q n w M) (hcap : ∀ i, i < n → w ≤ cap i) : Tell m (.sl ex ((List.range n).map (rawC c cap w))) (.sl ex (catV ((List.range n).map (rowM w M)))) := by
  have h1 : ∀ l : List Nat, ∀ x ∈ l.map (rawC c cap w), x.cells = [x] := fun l x hx => by
    obtain ⟨i, _, rfl⟩ := List.mem_map.1 hx
    rfl
  have h2 : ∀ l : List (List Fr), ∀ x ∈ catV l, x.cells = [x] := fun l x hx => by
    obtain ⟨i, _, rfl⟩ := List.mem_map.1 hx
    rfl
  refine .slIn (sz := 1) (fun x hx => by rw [h1 _ x hx]; rfl) (fun x hx => by rw [h2 _ x hx]; rfl) (by simp) ?_
  rw [flat_one (h1 _), flat_one (h2 _), catV, List.map_map]
  refine tells_map fun i hi => ?_
  have hi' := List.mem_range.1 hi
  have := tell_row (m := m) (b := c i) (cap := cap i) (q := q i) (l := rowM w M i) (h.row i hi') (by rw [List.length_map, rowM_length]; exact hcap i hi')
  rw [List.length_map, rowM_length] at this
  exact this
set_option maxHeartbeats 4000000 in
theorem ok55 (ex ep eh : Bool) (n : Nat) (x l h : List Fr) (r z : Fr) (hn : 1 ≤ n ∧ n ≤ 4) (hx : x.length = n) (hl : l.length = n * n) (hh : h.length = n) :
    Ok Tryz.prog 55 [stV ex ep (frs x) n n (frs l), .sl eh (frs h), frV r, frV z] (.tup [stV false false (frs (upRX n x l h r z)) n n (frs (upRS n l h r)), newsV' (subF z (dotF h x)) (upR n l h r).2.2, tru true]) := by
  have hn' : 1 ≤ n ∧ n ≤ 16 := by omega
  have hr : right (n : Int) (n : Int) l.length = true := right_sq hn' hl
  refine okt_fn mixed Tryz.func55 (code := ?_) (h := h55) ?_ k55 ?_
  rotate_left
  · exact rfl
  unfold h55 initS
  simp -implicitDefEqProofs (maxSteps := 10000000) only [rkA, rkB, stepA, valA, simprocAttr, Tryz.ntmps55, Tryz.results55]
  have h6 := ok62 ex ep x l n n
  rw [stRight_nat hl, decide_eq_true (show 1 ≤ x.length ∧ x.length ≤ 4 ∧ x.length = n by omega)] at h6
  refine call_fn rfl rfl rfl (h6) ?_
  have lx : (frs x).length = n := by simp [hx]
  have lh : (frs h).length = n := by simp [hh]
  simp -implicitDefEqProofs (maxSteps := 10000000) only [lx, lh, bne_self_eq_false, rkA, rkB, stepA, valA, simprocAttr]
  refine call_fn rfl rfl rfl (ok90 ep n n l) ?_
  simp -implicitDefEqProofs (maxSteps := 10000000) only [rkA, rkB, stepA, valA, simprocAttr]
  refine wp_rfM' (items := rowItems n n l) rfl (itm142 ep n n l hr) (fun sv i s => i ≤ n ∧ ∃ mm c cap q, RowsC mm c q i n (startF n n l) ∧ (∀ a, a < i → n ≤ cap a) ∧ s = ⟨[], [(4, [.v (.sl ex (frs x)), nt n, nt n, .v (.sl ep (frs l))]), (5, [.v (.sl eh (frs h))]), (6, [nt r.v, nt r.lo, nt r.hi, .v (tru r.bad)]), (7, [nt z.v, nt z.lo, nt z.hi, .v (tru z.bad)]), (8, [.acc 1008 [], nt 0, nt 0, .acc 4008 []]), (9, [nt 0, nt 0, nt 0, .v (tru false), nt 0, nt 0, nt 0, .v (tru false)]), (12, [.acc 1012 ((List.range i).map (rawC c cap n))]), (13, [.acc 1013 []])], [], [(1008, 0), (1012, i), (1013, 0), (4008, 0)], sv, 0, mm⟩) ?_ ?_ ?_
  · simp -implicitDefEqProofs (maxSteps := 10000000) only [rkA, rkB, stepA, valA, simprocAttr]
    exact ⟨Nat.zero_le _, nomem, fun _ => 0, fun _ => 0, fun _ => 0, ⟨fun i h => by omega, fun i j h => by omega⟩, fun a h => by omega, rfl⟩
  · rintro i x' p m s' R hx' ⟨hi, mm, c, cap, q, hM, hcap, rfl⟩ hxm hfr hR
    have hlt : i < n := by
      have := (List.getElem?_eq_some_iff.1 hx').1
      simpa [rowItems] using this
    have hxe : x' = rowItem n n l i := by
      rw [rowItems, List.getElem?_map, List.getElem?_range (by simpa using hlt), Option.map_some] at hx'
      exact (Option.some.inj hx').symm
    subst hxe
    obtain ⟨b, cp, z', h1, rfl, rfl⟩ := hxm
    have hb : mm b = none := hfr b (by rw [Mem.put_same]; rfl)
    have lr : (frs (rowF n n l i)).length = n := by rw [List.length_map, row_start hr hlt, rowM_length]
    rw [lr] at h1
    rw [lr, row_start hr hlt]
    refine ⟨rfl, ?_⟩
    have hfit := fits_raw c cap n i (.s (.slice (some ⟨b, 0, none⟩) n cp)) ⟨_, _, _, rfl⟩ (by omega)
    have hll : ((List.range i).map (rawC c cap n)).length = i := by simp
    simp -implicitDefEqProofs (maxSteps := 10000000) only [hfit, hll, raw_grow, rkA, rkB, stepA, valA, simprocAttr]
    refine hR _ ⟨by omega, _, _, _, _, hM.grow (z := z') hb, fun a ha => ?_, rfl⟩
    by_cases e : a = i
    · simp only [e, if_true]; exact h1
    · simp only [e, if_false]; exact hcap a (by omega)
  rintro s' ⟨hi, mm, c, cap, q, hM, hcap, rfl⟩
  have li : (rowItems n n l).length = n := by simp [rowItems]
  rw [li] at hM hcap ⊢
  clear hi
  simp -implicitDefEqProofs (maxSteps := 10000000) only [rkA, rkB, stepA, valA, simprocAttr]
  have h25 := ok107 ep n n l
  rw [if_pos hr] at h25
  refine call_fn rfl rfl rfl (h25) ?_
  simp -implicitDefEqProofs (maxSteps := 10000000) only [rkA, rkB, stepA, valA, simprocAttr]
  have hrt := right_turn hr
  refine call_fn rfl rfl rfl (ok90 false n n (turnF n n l)) ?_
  simp -implicitDefEqProofs (maxSteps := 10000000) only [rkA, rkB, stepA, valA, simprocAttr]
  have lt : (rowsF n n (turnF n n l)).length = n := by rw [rowsF_length hrt, Int.toNat_natCast]
  refine wp_rf' (items := rowsF n n (turnF n n l)) rfl (it142 false n n (turnF n n l)) (fun sv i s => i ≤ n ∧ s = ⟨[], [(4, [.v (.sl ex (frs x)), nt n, nt n, .v (.sl ep (frs l))]), (5, [.v (.sl eh (frs h))]), (6, [nt r.v, nt r.lo, nt r.hi, .v (tru r.bad)]), (7, [nt z.v, nt z.lo, nt z.hi, .v (tru z.bad)]), (8, [.acc 1008 [], nt 0, nt 0, .acc 4008 []]), (9, [nt 0, nt 0, nt 0, .v (tru false), nt 0, nt 0, nt 0, .v (tru false)]), (12, [.acc 1012 ((List.range n).map (rawC c cap n))]), (13, [.acc 1013 (frs ((List.range i).map (dotsR n l h)))])], [], [(1008, 0), (1012, n), (1013, i), (4008, 0)], sv, 0, mm⟩) ?_ ?_ ?_
  · simp -implicitDefEqProofs (maxSteps := 10000000) only [rkA, rkB, stepA, valA, simprocAttr]
    exact Nat.zero_le _
  · rintro i x' s' R hx' ⟨hi, rfl⟩ hR
    obtain ⟨hlt, rfl, hxa⟩ := rowsF_all hrt hx'
    rw [Int.toNat_natCast] at hlt
    have hrl := rowF_len hrt (i := i) (by simpa using hlt)
    rw [Int.toNat_natCast] at hrl
    refine ⟨rfl, ?_⟩
    simp -implicitDefEqProofs (maxSteps := 10000000) only [rkA, rkB, stepA, valA, simprocAttr]
    refine call_fn rfl rfl rfl (ok81 false eh (rowF n n (turnF n n l) i) h (by omega) (by omega)) ?_
    have hd : dotF (rowF n n (turnF n n l) i) h = dotsR n l h i := rfl
    have hfit : fits 4 32 (frs ((List.range i).map (dotsR n l h))) [frV (dotsR n l h i)] = true := fits_frs (l := [dotsR n l h i]) (by simp; omega)
    have hll : (frs ((List.range i).map (dotsR n l h))).length = i := by simp
    simp -implicitDefEqProofs (maxSteps := 10000000) only [hd, hfit, hll, rkA, rkB, stepA, valA, simprocAttr]
    refine hR _ ⟨by omega, ?_⟩
    rw [List.range_succ, List.map_append]
    simp only [frs, List.map_append, List.map_cons, List.map_nil]
  rintro s' ⟨hi, rfl⟩
  rw [lt]
  clear hi
  simp -implicitDefEqProofs (maxSteps := 10000000) only [rkA, rkB, stepA, valA, simprocAttr]
  refine new_make (T := 32) (N := 4) rfl rfl rfl rfl rfl (by omega) (by omega) (by omega) ?_
  intro b hb
  have hb' : mm b = none := hb
  have hcb : ∀ i, i < n → c i ≠ b := fun i hi e => by have := hM.row i hi; rw [e, hb'] at this; cases this
  have n0 : (0 : Int) ≤ (n : Int) := by omega
  have n1 : (n : Int) * 8 ≤ 140737488355328 := by omega
  have n2 : (n : Int) ≤ 16777216 := by omega
  simp -implicitDefEqProofs (maxSteps := 10000000) only [Int.toNat_natCast, flat_zeros, n0, n1, n2, rkA, rkB, stepA, valA, simprocAttr]
  have h35 := ok43 true (List.replicate n 0) (by simp; omega)
  rw [List.map_replicate, List.map_replicate] at h35
  refine call_fn rfl rfl rfl (h35) ?_
  simp -implicitDefEqProofs (maxSteps := 10000000) only [rkA, rkB, stepA, valA, simprocAttr]
  have lz : (flat (frs (List.replicate n (⟨0, 0, 0, false⟩ : Fr)))).length = n * 4 := by rw [flat_length (frs_cells _)]; simp
  have lf : (flat (frs (List.replicate n (newF 0 1)))).length = n * 4 := by rw [flat_length (frs_cells _)]; simp
  refine copy_of (ys := frs (List.replicate n (newF 0 1))) rfl rfl (.same _) (RFs_frs _) (Mem.put_same _ _ _) (frs_ok _) (by simp) (by rw [lz, lf]; omega) ?_
  have hdr : (flat (frs (List.replicate n (⟨0, 0, 0, false⟩ : Fr)))).drop (flat (frs (List.replicate n (newF 0 1)))).length = [] := List.drop_of_length_le (by rw [lz, lf]; omega)
  have hM2 : RowsC ((mm.put b (flat (frs (List.replicate n (⟨0, 0, 0, false⟩ : Fr))))).put b (flat (frs (List.replicate n (newF 0 1))))) c q n n (startF n n l) := (hM.other hcb).other hcb
  have hrep : List.replicate n (newF 0 1) = (List.range n).map (fun _ => newF 0 1) := by
    apply List.ext_getElem?
    intro i
    by_cases hi : i < n
    · simp [hi]
    · rw [List.getElem?_eq_none (by simp; omega), List.getElem?_eq_none (by simp; omega)]
  have hE2 : ((mm.put b (flat (frs (List.replicate n (⟨0, 0, 0, false⟩ : Fr))))).put b (flat (frs (List.replicate n (newF 0 1))))) b = some (flat (frs ((List.range n).map (upK n (startF n n l) (dotsR n l h) r 0).2.1))) := by
    rw [Mem.put_same, hrep]
    rfl
  generalize hmm : (mm.put b (flat (frs (List.replicate n (⟨0, 0, 0, false⟩ : Fr))))).put b (flat (frs (List.replicate n (newF 0 1)))) = mm1 at hM2 hE2
  have w1 := wrapped (x := (n : Int) - 1) (by omega) (by omega)
  simp -implicitDefEqProofs (maxSteps := 10000000) only [Nat.zero_add, hdr, List.append_nil, hmm, w1, rkA, rkB, stepA, valA, simprocAttr]
  clear hmm hb hb' hM hrep hdr lz lf
  refine wp_loop (fun m s => ∃ (t : Nat) (mm : Mem) (A : Fr), t + m = n ∧ A = (upK n (startF n n l) (dotsR n l h) r t).2.2 ∧ RowsC mm c q n n (upK n (startF n n l) (dotsR n l h) r t).1 ∧ mm b = some (flat (frs ((List.range n).map (upK n (startF n n l) (dotsR n l h) r t).2.1))) ∧
    s = ⟨[jk, jk, jk, jk, .ptr 4 0, .ptr 5 0, jk, .ptr 7 0, .ptr 8 0, .ptr 9 0, jk, nt n, .ptr 12 0, .ptr 13 0, jk, jk, jk, jk, .v (.s (.slice (some ⟨b, 0, none⟩) n n)), .ptr 19 0, nt ((m : Int) - 1), jk, jk, jk, jk, jk, jk, jk, jk, jk, jk, jk, jk, jk, jk, jk, jk, jk, jk, jk, jk, jk, jk, jk, jk, jk, jk, jk, jk, jk, jk, jk, jk, jk, jk, jk, jk, jk, jk, jk, jk, jk, jk, jk, jk, jk, jk, jk, jk, jk, jk, jk, jk, jk, jk, jk, jk, jk, jk, jk, jk, jk, jk, jk, jk, jk, jk, jk, jk, jk, jk, jk, jk, jk, jk, jk, jk, jk, jk, jk, jk, jk, jk, jk, jk, jk, jk, jk, jk, jk, jk, jk, jk, jk, jk, jk, jk, jk, jk, jk, jk, jk, jk, jk, jk, jk, jk, jk, jk, jk, jk, jk, jk, jk, jk, jk, jk, jk, jk, jk, jk, jk],
      [(4, [.v (.sl ex (frs x)), nt n, nt n, .v (.sl ep (frs l))]), (5, [.v (.sl eh (frs h))]), (6, [nt r.v, nt r.lo, nt r.hi, .v (tru r.bad)]), (7, [nt z.v, nt z.lo, nt z.hi, .v (tru z.bad)]), (8, [.acc 1008 [], nt 0, nt 0, .acc 4008 []]), (9, [nt 0, nt 0, nt 0, .v (tru false), nt 0, nt 0, nt 0, .v (tru false)]), (12, [.acc 1012 ((List.range n).map (rawC c cap n))]), (13, [.acc 1013 (frs ((List.range n).map (dotsR n l h)))]), (19, [nt A.v, nt A.lo, nt A.hi, .v (tru A.bad)])], [], [(1008, 0), (1012, n), (1013, n), (4008, 0)], [], 0, mm⟩) n ?_ ?_
  · simp -implicitDefEqProofs (maxSteps := 10000000) only [rkA, rkB, stepA, valA, simprocAttr]
    exact ⟨0, mm1, r, by omega, rfl, hM2, hE2, rfl⟩
  clear hM2 hE2 mm1
  rintro m s ⟨t, mm, A, htm, hA, hM, hE, rfl⟩
  simp -implicitDefEqProofs (maxSteps := 10000000) only [rkA, rkB, stepA, valA, simprocAttr]
  refine gB_dec ?_ ?_ <;> intro hc <;> simp -implicitDefEqProofs (maxSteps := 10000000) only [hc, rkA, rkB, stepA, valA, simprocAttr]
  · obtain ⟨j, rfl⟩ : ∃ j, m = j + 1 := ⟨m - 1, by omega⟩
    have hj : j < n := by omega
    have ej : ((j + 1 : Nat) : Int) - 1 = (j : Int) := by omega
    have h0j : (0 : Int) ≤ (j : Int) := by omega
    have gw : (frs ((List.range n).map (dotsR n l h)))[j]? = some (frV (dotsR n l h j)) := by simp [hj]
    simp -implicitDefEqProofs (maxSteps := 10000000) only [ej, h0j, Int.toNat_natCast, gw, rkA, rkB, stepA, valA, simprocAttr]
    refine call_meth rfl rfl methMul (ok45 _ _) ?_
    simp -implicitDefEqProofs (maxSteps := 10000000) only [rkA, rkB, stepA, valA, simprocAttr]
    refine call_meth rfl rfl methAdd (ok227 _ _) ?_
    simp -implicitDefEqProofs (maxSteps := 10000000) only [h0j, Int.toNat_natCast, gw, rkA, rkB, stepA, valA, simprocAttr]
    generalize hB : addF A (mulF (dotsR n l h j) (dotsR n l h j)) = B
    refine mem_fn rfl rfl rfl (okm113 false n j hj (by omega) _ _ (dotsR n l h j) A B c cap q hcap b mm hM hE hcb) ?_
    rintro r' m' ⟨hM', hE'⟩
    have w2 := wrapped (x := (j : Int) - 1) (by omega) (by omega)
    simp -implicitDefEqProofs (maxSteps := 10000000) only [w2, rkA, rkB, stepA, valA, simprocAttr]
    refine loopK_of (m' := j) (by omega) ?_
    simp -implicitDefEqProofs (maxSteps := 10000000) only [rkA, rkB, stepA, valA, simprocAttr]
    have hup := upK_succ (startF n n l) (dotsR n l h) r (show n - 1 - t = j by omega)
    rw [← hA, hB] at hup
    exact ⟨t + 1, m', B, by omega, by rw [hup], by rw [hup]; exact hM', by rw [hup]; exact hE', rfl⟩
  · have ht : t = n := by omega
    rw [ht] at hA hM hE
    refine call_fn rfl rfl rfl (ok81 eh ex h x (by omega) (by omega)) ?_
    simp -implicitDefEqProofs (maxSteps := 10000000) only [rkA, rkB, stepA, valA, simprocAttr]
    refine call_meth rfl rfl methSub (ok97 _ _) ?_
    generalize hz : subF z (dotF h x) = Z
    generalize hU : upK n (startF n n l) (dotsR n l h) r n = U at hA hM hE
    have hUR : upR n l h r = U := hU
    simp -implicitDefEqProofs (maxSteps := 10000000) only [rkA, rkB, stepA, valA, simprocAttr]
    have hkl : ((List.range n).map fun i => divF (U.2.1 i) A).length = n := by simp
    refine wp_loop (fun m s => ∃ (i : Nat), i + m = n ∧
      s = ⟨[jk, jk, jk, jk, .ptr 4 0, jk, jk, jk, .ptr 8 0, .ptr 9 0, jk, nt n, .ptr 12 0, jk, jk, jk, jk, jk, jk, .ptr 19 0, jk, jk, .ptr 22 0, .acc 23 (frs ((List.range i).map fun i => divF (U.2.1 i) A)), jk, jk, jk, jk, jk, jk, jk, jk, jk, jk, jk, jk, jk, jk, jk, jk, jk, jk, jk, jk, jk, jk, jk, jk, jk, jk, jk, jk, jk, jk, jk, jk, jk, jk, jk, jk, jk, jk, jk, jk, jk, jk, jk, jk, jk, jk, jk, jk, jk, jk, jk, jk, jk, jk, jk, jk, jk, jk, jk, jk, jk, jk, jk, jk, jk, jk, jk, jk, jk, jk, jk, jk, jk, jk, jk, jk, jk, jk, jk, jk, jk, jk, jk, jk, jk, jk, .v (.s (.slice (some ⟨b, 0, none⟩) n n)), nt n, nt i, jk, jk, jk, jk, jk, jk, jk, jk, jk, jk, jk, jk, jk, jk, jk, jk, jk, jk, jk, jk, jk, jk, jk, jk, jk, jk, jk, jk, jk],
        [(4, [.v (.sl ex (frs x)), nt n, nt n, .v (.sl ep (frs l))]), (5, [.v (.sl eh (frs h))]), (6, [nt r.v, nt r.lo, nt r.hi, .v (tru r.bad)]), (7, [nt z.v, nt z.lo, nt z.hi, .v (tru z.bad)]), (8, [.acc 1008 [], nt 0, nt 0, .acc 4008 []]), (9, [nt 0, nt 0, nt 0, .v (tru false), nt 0, nt 0, nt 0, .v (tru false)]), (12, [.acc 1012 ((List.range n).map (rawC c cap n))]), (13, [.acc 1013 (frs ((List.range n).map (dotsR n l h)))]), (19, [nt A.v, nt A.lo, nt A.hi, .v (tru A.bad)]), (22, [nt Z.v, nt Z.lo, nt Z.hi, .v (tru Z.bad), nt A.v, nt A.lo, nt A.hi, .v (tru A.bad)])], [], [(23, i), (1008, 0), (1012, n), (1013, n), (4008, 0)], [], 0, mm⟩) n ?_ ?_
    · simp -implicitDefEqProofs (maxSteps := 10000000) only [rkA, rkB, stepA, valA, simprocAttr]
      exact ⟨0, by omega, rfl⟩
    rintro m s ⟨i, him, rfl⟩
    simp -implicitDefEqProofs (maxSteps := 10000000) only [rkA, rkB, stepA, valA, simprocAttr]
    refine gB_dec ?_ ?_ <;> intro hc <;> simp -implicitDefEqProofs (maxSteps := 10000000) only [hc, rkA, rkB, stepA, valA, simprocAttr]
    · have hi : i < n := by omega
      have h0i : (0 : Int) ≤ (i : Int) := by omega
      have hin : (i : Int) < (n : Int) := by omega
      have hle : ((List.range n).map U.2.1)[i]? = some (U.2.1 i) := by simp [hi]
      have hlde := ldM_fr hle
      simp -implicitDefEqProofs (maxSteps := 10000000) only [h0i, hin, Int.toNat_natCast, addr_add, Nat.zero_add, hE, hlde, rkA, rkB, stepA, valA, simprocAttr]
      refine call_meth rfl rfl methDiv (ok228 _ _) ?_
      have hfit : fits 4 32 (frs ((List.range i).map fun i => divF (U.2.1 i) A)) [frV (divF (U.2.1 i) A)] = true := fits_frs (l := [divF (U.2.1 i) A]) (by simp; omega)
      have hll : (frs ((List.range i).map fun i => divF (U.2.1 i) A)).length = i := by simp
      have hw := wrapped (x := (i : Int) + 1) (by omega) (by omega)
      simp -implicitDefEqProofs (maxSteps := 10000000) only [hfit, hll, hw, rkA, rkB, stepA, valA, simprocAttr]
      refine loopK_of (m' := m - 1) (by omega) ?_
      simp -implicitDefEqProofs (maxSteps := 10000000) only [rkA, rkB, stepA, valA, simprocAttr]
      refine ⟨i + 1, by omega, ?_⟩
      rw [List.range_succ, List.map_append]
      simp only [frs, List.map_append, List.map_cons, List.map_nil, Int.natCast_add, Int.natCast_one]
    · have hin : i = n := by omega
      rw [hin]
      have hcat : ((List.range n).map (rowM n U.1)).flatten = upRS n l h r := by rw [upRS, hUR]
      have hcl := upRS_len n l h r
      have hsq := side16 (n := n) (m := n) (by omega) (by omega)
      have hpos : 0 < n * n := Nat.mul_pos (by omega) (by omega)
      have hne : upRS n l h r ≠ [] := fun e => by rw [e] at hcl; simp at hcl; omega
      have hcc := okn114 false ((List.range n).map (rowM n U.1)) (by rw [hcat]; exact hne) (by rw [hcat, hcl]; omega) (by simp; omega)
      rw [hcat] at hcc
      refine newRow_fn rfl rfl (.cons (tells_rows false hM hcap) .nil) hcc (RFs_frs _) (by simpa using hne) ?_
      intro c2 cap2 q2 hc2 hcap2
      simp -implicitDefEqProofs (maxSteps := 10000000) only [rkA, rkB, stepA, valA, simprocAttr]
      have hrs : right (n : Int) (n : Int) (upRS n l h r).length = true := right_sq hn' hcl
      refine lendNew_fn rfl rfl (.cons (.same _) (.cons (.same _) (.cons (tell_row (Mem.put_same _ _ _) hcap2) .nil))) (okm26 n n false (upRS n l h r) hrs) (newMat_rf (RFs_frs _)) ?_
      rintro y m' ⟨b3, cap3, q3, hcap3, rfl, rfl⟩ hfr
      simp -implicitDefEqProofs (maxSteps := 10000000) only [rkA, rkB, stepA, valA, simprocAttr]
      have hk : ((List.range n).map fun i => divF (U.2.1 i) A) = upRK n l h r := by rw [upRK, hUR, ← hA]
      have hkl : (upRK n l h r).length = n := by simp [upRK]
      rw [hk]
      refine call_fn rfl rfl rfl (ok116 false (upRK n l h r) Z (by omega)) ?_
      simp -implicitDefEqProofs (maxSteps := 10000000) only [rkA, rkB, stepA, valA, simprocAttr]
      refine call_fn rfl rfl rfl (ok115 ex false x ((upRK n l h r).map (mulF · Z)) (by omega) (by simp; omega)) ?_
      simp -implicitDefEqProofs (maxSteps := 10000000) only [rkA, rkB, stepA, valA, simprocAttr]
      refine ⟨_, rfl, ?_⟩
      rw [upRX, hz, hUR, ← hA]
      exact .tup (.cons (.agg (.cons (.same _) (.cons (.same _) (.cons (.same _) (.cons (tell_row (Mem.put_same _ _ _) hcap3) .nil))))) (.cons (.same _) (.cons (.same _) .nil)))
end Go.Proofs.YtbflmeomkfjikaaGreat.A.E


set_option linter.unusedVariables false
set_option linter.unusedSimpArgs false
set_option maxRecDepth 100000
namespace Go.Proofs.YtbflmeomkfjikaaGreat.A
open Go Go.RowKit Go.Shelf

/-! ### The document's answers, of whole numbers -/
/-! ### What the document fixes of a root -/
end Go.Proofs.YtbflmeomkfjikaaGreat.A



set_option linter.unusedVariables false
set_option linter.unusedSimpArgs false
set_option maxRecDepth 100000
namespace Go.Proofs.YtbflmeomkfjikaaGreat.A
open Go Go.RowKit Go.Shelf

/-! ### Predict -/
end Go.Proofs.YtbflmeomkfjikaaGreat.A



set_option linter.unusedVariables false
set_option linter.unusedSimpArgs false
set_option maxRecDepth 100000
namespace Go.Proofs.YtbflmeomkfjikaaGreat.A
open Go Go.RowKit Go.Shelf

/-! ### Update -/
section
variable (n : Nat) (x p h : List Fr) (r z : Fr)
end
end Go.Proofs.YtbflmeomkfjikaaGreat.A


set_option linter.unusedVariables false
set_option linter.unusedSimpArgs false
set_option maxRecDepth 100000
namespace Go.Proofs.YtbflmeomkfjikaaGreat.A
open Go Go.RowKit Go.Shelf

/-! ### Fractions as numbers -/
def Fr.val (x : Fr) : Rat := (x.n : Rat) / (x.d : Rat)
theorem cast_ne {d : Int} (h : d ≠ 0) : (d : Rat) ≠ 0 := by
  intro e
  exact h (Rat.intCast_inj.1 (by simpa using e))
theorem val_div {n d m e k : Int} (hd : d ≠ 0) (he : e ≠ 0) (h : n * e = m * d) : (n : Rat) / d = (m : Rat) / e := by
  have h1 := cast_ne hd
  have h2 := cast_ne he
  have h3 : (n : Rat) * e = (m : Rat) * d := by
    rw [← Rat.intCast_mul, ← Rat.intCast_mul, h]
  grind
theorem div_val {n d m e : Int} (hd : d ≠ 0) (he : e ≠ 0) (h : (n : Rat) / d = (m : Rat) / e) : n * e = m * d := by
  have h1 := cast_ne hd
  have h2 := cast_ne he
  have h3 : (n : Rat) * e = (m : Rat) * d := by grind
  rw [← Rat.intCast_mul, ← Rat.intCast_mul] at h3
  exact Rat.intCast_inj.1 h3

/-- What New tells, where it is not Bad. -/
theorem newF_spec {n d : Int} (h : (newF n d).bad = false) : d ≠ 0 ∧ 0 < (newF n d).d ∧ (newF n d).n * d = n * (newF n d).d ∧ Int.gcd (newF n d).n (newF n d).d = 1 ∧ (newF n d).d ≤ 1073741824 ∧ (newF n d).n ≤ 1073741824 ∧ -1073741824 ≤ (newF n d).n := by
  unfold newF at h ⊢
  by_cases h1 : n > 1152921504606846976 ∨ n < -1152921504606846976 ∨ d > 1152921504606846976 ∨ d < -1152921504606846976 ∨ d = 0
  · rw [if_pos h1] at h; cases h
  rw [if_neg h1] at h ⊢
  simp only at h ⊢
  have hd : d ≠ 0 := by omega
  have key : ∀ m e : Int, 0 < e → m * d = n * e → ∀ x : Fr, x = (if m.tdiv (Int.gcd m e : Int) > 1073741824 ∨ m.tdiv (Int.gcd m e : Int) < -1073741824 ∨ e.tdiv (Int.gcd m e : Int) > 1073741824 then Fr.wrong else ⟨m.tdiv (Int.gcd m e : Int), e.tdiv (Int.gcd m e : Int), false⟩) → x.bad = false →
      d ≠ 0 ∧ 0 < x.d ∧ x.n * d = n * x.d ∧ Int.gcd x.n x.d = 1 ∧ x.d ≤ 1073741824 ∧ x.n ≤ 1073741824 ∧ -1073741824 ≤ x.n := by
    intro m e he hme x hx hb
    have hg : 0 < Int.gcd m e := Int.gcd_pos_of_ne_zero_right m (by omega)
    obtain ⟨m', hm'⟩ := Int.gcd_dvd_left m e
    obtain ⟨e', he'⟩ := Int.gcd_dvd_right m e
    generalize hk : Int.gcd m e = k at *
    have hk0 : (k : Int) ≠ 0 := by omega
    have q1 : m.tdiv (k : Int) = m' := by rw [hm', Int.mul_tdiv_cancel_left _ hk0]
    have q2 : e.tdiv (k : Int) = e' := by rw [he', Int.mul_tdiv_cancel_left _ hk0]
    rw [q1, q2] at hx
    have hcop : Int.gcd m' e' = 1 := by
      have h3 : Int.gcd ((k : Int) * m') ((k : Int) * e') = k * Int.gcd m' e' := by
        rw [Int.gcd_mul_left]; simp
      rw [← hm', ← he', hk] at h3
      have : k * 1 = k * Int.gcd m' e' := by omega
      exact (Nat.eq_of_mul_eq_mul_left hg this).symm
    have he0 : 0 < e' := by
      have h4 : 0 < (k : Int) * e' := by rw [← he']; exact he
      exact Int.pos_of_mul_pos_right h4 (by omega)
    split at hx
    · rw [hx] at hb; cases hb
    · rename_i hns
      subst hx
      refine ⟨hd, he0, ?_, hcop, by simp only; omega, by simp only; omega, by simp only; omega⟩
      simp only
      rw [hm', he'] at hme
      have : (k : Int) * (m' * d) = (k : Int) * (n * e') := by
        rw [← Int.mul_assoc, hme, ← Int.mul_assoc, ← Int.mul_assoc, Int.mul_comm (k : Int) n]
      exact Int.eq_of_mul_eq_mul_left hk0 this
  by_cases hneg : d < 0
  · simp only [hneg, if_true] at h ⊢
    exact key (-n) (-d) (by omega) (by rw [Int.neg_mul, Int.mul_neg]) _ rfl h
  · simp only [hneg, if_false] at h ⊢
    exact key n d (by omega) rfl _ rfl h

theorem newF_low {n d : Int} (hd : 0 < d) (hg : Int.gcd n d = 1) (h1 : n ≤ 1073741824) (h2 : -1073741824 ≤ n) (h3 : d ≤ 1073741824) : newF n d = ⟨n, d, false⟩ := by
  unfold newF
  rw [if_neg (by omega)]
  simp only [show ¬ d < 0 by omega, if_false, hg]
  rw [if_neg (by simp; omega)]
  simp
theorem fine_of {x : Fr} (hb : x.bad = false) (hd : 0 < x.d) (hg : Int.gcd x.n x.d = 1) (h1 : x.n ≤ 1073741824) (h2 : -1073741824 ≤ x.n) (h3 : x.d ≤ 1073741824) : x.fine = true := by
  unfold Fr.fine
  rw [newF_low hd hg h1 h2 h3]
  simp [hb]
  omega
theorem fine_low {x : Fr} (h : x.fine = true) : x.bad = false ∧ 0 < x.d ∧ Int.gcd x.n x.d = 1 := by
  obtain ⟨h1, h2, h3, h4, h5⟩ := Fr.fine_spec h
  refine ⟨h1, by omega, ?_⟩
  have hn : newF x.n x.d = x := by
    unfold Fr.fine at h
    simp only [Bool.and_eq_true, beq_iff_eq, decide_eq_true_eq] at h
    obtain ⟨n, d, b⟩ := x
    obtain ⟨_, k1, k2, k3, _⟩ := h
    generalize newF n d = y at *
    obtain ⟨n', d', b'⟩ := y
    simp only at k1 k2 k3
    rw [k1, k2, k3]
  have hb : (newF x.n x.d).bad = false := by rw [hn]; exact h1
  obtain ⟨_, _, _, g, _⟩ := newF_spec hb
  rw [hn] at g
  exact g
theorem newF_fine {n d : Int} (h : (newF n d).bad = false) : (newF n d).fine = true ∧ (newF n d).val = (n : Rat) / (d : Rat) ∧ d ≠ 0 := by
  obtain ⟨h1, h2, h3, h4, h5, h6, h7⟩ := newF_spec h
  exact ⟨fine_of h h2 h4 h6 h7 h5, val_div (k := 0) (by omega) h1 h3, h1⟩
theorem dvd_cop {a b c : Int} (h : a ∣ b * c) (g : Int.gcd b a = 1) : a ∣ c := by
  rw [← Int.natAbs_dvd_natAbs] at h ⊢
  rw [Int.natAbs_mul] at h
  refine Nat.Coprime.dvd_of_dvd_mul_left ?_ h
  rw [Int.gcd_comm] at g
  exact g
/-- What stands for the same number is the same. -/
theorem fine_inj {a b : Fr} (ha : a.fine = true) (hb : b.fine = true) (h : a.val = b.val) : a = b := by
  obtain ⟨a1, a2, a3⟩ := fine_low ha
  obtain ⟨b1, b2, b3⟩ := fine_low hb
  have e := div_val (by omega) (by omega) h
  have c1 : a.d ∣ b.d := by
    have : a.d ∣ a.n * b.d := ⟨b.n, by rw [e, Int.mul_comm]⟩
    exact dvd_cop this a3
  have c2 : b.d ∣ a.d := by
    have : b.d ∣ b.n * a.d := ⟨a.n, by rw [← e, Int.mul_comm]⟩
    exact dvd_cop this b3
  have hd : a.d = b.d := Int.dvd_antisymm (by omega) (by omega) c1 c2
  rw [hd] at e
  have hn : a.n = b.n := Int.eq_of_mul_eq_mul_right (by omega) e
  obtain ⟨n, d, x⟩ := a
  obtain ⟨n', d', x'⟩ := b
  simp only at hd hn a1 b1
  rw [hd, hn, a1, b1]
theorem fine_bad {a : Fr} (h : a.fine = true) : a.bad = false := (Fr.fine_spec h).1

/-- x stands for the number v. -/
def Is (x : Fr) (v : Rat) : Prop := x.fine = true ∧ x.val = v
theorem Is.inj {a b : Fr} {v : Rat} (ha : Is a v) (hb : Is b v) : a = b := fine_inj ha.1 hb.1 (ha.2.trans hb.2.symm)
theorem fine_ne {a : Fr} (h : a.fine = true) : (a.d : Rat) ≠ 0 := cast_ne (by have := (Fr.fine_spec h).2.1; omega)
theorem two_fine {a b : Fr} {x : Fr} (h : (if a.fine = false ∨ b.fine = false then Fr.wrong else x).bad = false) : a.fine = true ∧ b.fine = true ∧ x.bad = false := by
  by_cases h1 : a.fine = false ∨ b.fine = false
  · rw [if_pos h1] at h; cases h
  · rw [if_neg h1] at h
    simp only [not_or, Bool.not_eq_false] at h1
    exact ⟨h1.1, h1.2, h⟩
theorem mulF_is {a b : Fr} (h : (mulF a b).bad = false) : a.fine = true ∧ b.fine = true ∧ Is (mulF a b) (a.val * b.val) := by
  have h0 := h
  unfold mulF at h
  obtain ⟨ha, hb, hx⟩ := two_fine h
  obtain ⟨f1, f2, f3⟩ := newF_fine hx
  have e : mulF a b = newF (a.n * b.n) (a.d * b.d) := by unfold mulF; rw [if_neg (by simp [ha, hb])]
  refine ⟨ha, hb, by rw [e]; exact f1, ?_⟩
  rw [e, f2]
  have h1 := fine_ne ha
  have h2 := fine_ne hb
  simp only [Fr.val, Rat.intCast_mul]
  grind
theorem addF_is {a b : Fr} (h : (addF a b).bad = false) : a.fine = true ∧ b.fine = true ∧ Is (addF a b) (a.val + b.val) := by
  unfold addF at h
  obtain ⟨ha, hb, hx⟩ := two_fine h
  obtain ⟨f1, f2, f3⟩ := newF_fine hx
  have e : addF a b = newF ((a.n * b.d + b.n * a.d).tdiv (Int.gcd (a.n * b.d + b.n * a.d) (a.d * b.d))) ((a.d * b.d).tdiv (Int.gcd (a.n * b.d + b.n * a.d) (a.d * b.d))) := by
    unfold addF; rw [if_neg (by simp [ha, hb])]
  have h1 := fine_ne ha
  have h2 := fine_ne hb
  refine ⟨ha, hb, by rw [e]; exact f1, ?_⟩
  rw [e, f2]
  have hd1 := (Fr.fine_spec ha).2.1
  have hd2 := (Fr.fine_spec hb).2.1
  have hdd : 0 < a.d * b.d := Int.mul_pos (by omega) (by omega)
  generalize hD : a.d * b.d = D at *
  generalize hN : a.n * b.d + b.n * a.d = Nn at *
  have hg : 0 < Int.gcd Nn D := Int.gcd_pos_of_ne_zero_right _ (by omega)
  obtain ⟨m', hm'⟩ := Int.gcd_dvd_left Nn D
  obtain ⟨e', he'⟩ := Int.gcd_dvd_right Nn D
  have hk0 : ((Int.gcd Nn D : Nat) : Int) ≠ 0 := by omega
  generalize hk : ((Int.gcd Nn D : Nat) : Int) = k at *
  have q1 : Nn.tdiv k = m' := by rw [hm', Int.mul_tdiv_cancel_left _ hk0]
  have q2 : D.tdiv k = e' := by rw [he', Int.mul_tdiv_cancel_left _ hk0]
  rw [q1, q2]
  have he0 : e' ≠ 0 := fun e0 => by rw [e0, Int.mul_zero] at he'; omega
  have h3 : (m' : Rat) / (e' : Rat) = (Nn : Rat) / (D : Rat) := by
    refine val_div (k := 0) he0 (by omega) ?_
    rw [hm', he', Int.mul_comm k e', ← Int.mul_assoc, Int.mul_comm k m']
    rw [Int.mul_assoc, Int.mul_assoc, Int.mul_comm e' k, Int.mul_comm k e']
  rw [h3, ← hN, ← hD]
  simp only [Fr.val, Rat.intCast_mul, Rat.intCast_add]
  grind
theorem negF_is {a : Fr} (h : (negF a).bad = false) : a.fine = true ∧ Is (negF a) (-a.val) := by
  unfold negF at h
  by_cases ha : a.fine = false
  · rw [if_pos ha] at h; cases h
  · rw [if_neg ha] at h
    simp only [Bool.not_eq_false] at ha
    obtain ⟨f1, f2, f3⟩ := newF_fine h
    have e : negF a = newF (-a.n) a.d := by unfold negF; rw [if_neg (by simp [ha])]
    refine ⟨ha, by rw [e]; exact f1, ?_⟩
    rw [e, f2]
    simp only [Fr.val, Rat.intCast_neg]
    grind
theorem subF_is {a b : Fr} (h : (subF a b).bad = false) : a.fine = true ∧ b.fine = true ∧ Is (subF a b) (a.val - b.val) := by
  unfold subF at h
  obtain ⟨h1, h2, h3⟩ := addF_is h
  obtain ⟨h4, h5⟩ := negF_is (fine_bad h2)
  refine ⟨h1, h4, h3.1, ?_⟩
  have e : (subF a b).val = a.val + (negF b).val := h3.2
  rw [e, h5.2]
  grind
theorem whole_is {n : Int} (h : few n) : Is (newF n 1) (n : Rat) := by
  rw [newF_whole h]
  refine ⟨fine_whole h, ?_⟩
  simp only [Fr.val]
  have : ((1 : Int) : Rat) = 1 := rfl
  rw [this]
  grind
end Go.Proofs.YtbflmeomkfjikaaGreat.A


set_option linter.unusedVariables false
set_option linter.unusedSimpArgs false
set_option maxRecDepth 100000
namespace Go.Proofs.YtbflmeomkfjikaaGreat.A
open Go Go.RowKit Go.Shelf

/-! ### Sums of numbers -/
/-! ### Dots -/
abbrev dz : Fr := ⟨0, 0, false⟩
/-! ### Products, entry by entry -/
end Go.Proofs.YtbflmeomkfjikaaGreat.A


set_option linter.unusedVariables false
set_option linter.unusedSimpArgs false
set_option maxRecDepth 100000
namespace Go.Proofs.YtbflmeomkfjikaaGreat.A
open Go Go.RowKit Go.Shelf

/-! ### Plain laws of clearing -/
/-! ### The function TriClears -/
end Go.Proofs.YtbflmeomkfjikaaGreat.A


set_option linter.unusedVariables false
set_option linter.unusedSimpArgs false
set_option maxRecDepth 100000
namespace Go.Proofs.YtbflmeomkfjikaaGreat.A
open Go Go.RowKit Go.Shelf

/-! ### Plain laws of squares -/
end Go.Proofs.YtbflmeomkfjikaaGreat.A



set_option linter.unusedVariables false
set_option linter.unusedSimpArgs false
set_option maxRecDepth 100000
namespace Go.Proofs.YtbflmeomkfjikaaGreat.A
open Go Go.RowKit Go.Shelf

/-! ### Nothing's triangles -/
/-! ### Plain laws of clearing, of whole numbers -/
/-! ### The function TriTells -/
end Go.Proofs.YtbflmeomkfjikaaGreat.A



set_option linter.unusedVariables false
set_option linter.unusedSimpArgs false
set_option maxRecDepth 100000
namespace Go.Proofs.YtbflmeomkfjikaaGreat.A
open Go Go.RowKit Go.Shelf

/-! ### root: new states, and what they stand for -/
theorem clearF_len (n : Nat) (l : List Fr) : (clearF n l).length = n * n := by rw [clearF, gridP_length, Nat.add_zero]
theorem ok49 (ex er : Bool) (x l : List Fr) (n : Nat) (hn : 1 ≤ n ∧ n ≤ 16) (hl : l.length = n * n) (hx : x.length ≤ 5864062014805) :
    Ok Tryz.prog 49 [.sl ex (frs x), matV er n n (frs l)] (if 1 ≤ x.length ∧ x.length ≤ 4 ∧ x.length = n then .tup [stV false false (frs x) n n (frs (clearF n l)), tru true] else .tup [stNil, tru false]) := by
  refine ok_fn mixed Tryz.func49 (code := ?_) (h := h49) ?_ k49 ?_
  rotate_left
  · exact rfl
  unfold h49 initS
  simp -implicitDefEqProofs (maxSteps := 10000000) only [rkA, rkB, stepA, valA, simprocAttr, Tryz.ntmps49, Tryz.results49]
  refine call_fn rfl rfl rfl (ok40 n hn er l hl) ?_
  simp -implicitDefEqProofs (maxSteps := 10000000) only [rkA, rkB, stepA, valA, simprocAttr]
  refine call_fn rfl rfl rfl (ok109 ex x hx) ?_
  simp -implicitDefEqProofs (maxSteps := 10000000) only [rkA, rkB, stepA, valA, simprocAttr]
  refine call_fn rfl rfl rfl (ok50 false false x (clearF n l) n n) ?_
  rw [stRight_nat (clearF_len n l)]
  by_cases h : 1 ≤ x.length ∧ x.length ≤ 4 ∧ x.length = n
  · rw [if_pos h, decide_eq_true h]
    simp -implicitDefEqProofs (maxSteps := 10000000) only [rkA, rkB, stepA, valA, simprocAttr]
  · rw [if_neg h, decide_eq_false h]
    simp -implicitDefEqProofs (maxSteps := 10000000) only [rkA, rkB, stepA, valA, simprocAttr]
end Go.Proofs.YtbflmeomkfjikaaGreat.A



set_option linter.unusedVariables false
set_option linter.unusedSimpArgs false
set_option maxRecDepth 100000
namespace Go.Proofs.YtbflmeomkfjikaaGreat.A.E
open Go Go.RowKit Go.Shelf

theorem clearF_len (n : Nat) (l : List Fr) : (clearF n l).length = n * n := by rw [clearF, gridP_length, Nat.add_zero]
theorem ok54 (ex er : Bool) (x l : List Fr) (n : Nat) (hn : 1 ≤ n ∧ n ≤ 16) (hl : l.length = n * n) (hx : x.length ≤ 4398046511104) :
    Ok Tryz.prog 54 [.sl ex (frs x), matV er n n (frs l)] (if 1 ≤ x.length ∧ x.length ≤ 4 ∧ x.length = n then .tup [stV false false (frs x) n n (frs (clearF n l)), tru true] else .tup [stNil, tru false]) := by
  refine ok_fn mixed Tryz.func54 (code := ?_) (h := h54) ?_ k54 ?_
  rotate_left
  · exact rfl
  unfold h54 initS
  simp -implicitDefEqProofs (maxSteps := 10000000) only [rkA, rkB, stepA, valA, simprocAttr, Tryz.ntmps54, Tryz.results54]
  refine call_fn rfl rfl rfl (ok92 n hn er l hl) ?_
  simp -implicitDefEqProofs (maxSteps := 10000000) only [rkA, rkB, stepA, valA, simprocAttr]
  refine call_fn rfl rfl rfl (ok87 ex x hx) ?_
  simp -implicitDefEqProofs (maxSteps := 10000000) only [rkA, rkB, stepA, valA, simprocAttr]
  refine call_fn rfl rfl rfl (ok62 false false x (clearF n l) n n) ?_
  rw [stRight_nat (clearF_len n l)]
  by_cases h : 1 ≤ x.length ∧ x.length ≤ 4 ∧ x.length = n
  · rw [if_pos h, decide_eq_true h]
    simp -implicitDefEqProofs (maxSteps := 10000000) only [rkA, rkB, stepA, valA, simprocAttr]
  · rw [if_neg h, decide_eq_false h]
    simp -implicitDefEqProofs (maxSteps := 10000000) only [rkA, rkB, stepA, valA, simprocAttr]
theorem ok57 (ex ep : Bool) (x l : List Fr) (n : Nat) (hl : l.length = n * n) :
    Ok Tryz.prog 57 [stV ex ep (frs x) n n (frs l)] (if 1 ≤ x.length ∧ x.length ≤ 4 ∧ x.length = n then matV false n n (frs (sqF n l)) else matNil) := by
  refine ok_fn mixed Tryz.func57 (code := ?_) (h := h57) ?_ k57 ?_
  rotate_left
  · exact rfl
  unfold h57 initS
  simp -implicitDefEqProofs (maxSteps := 10000000) only [rkA, rkB, stepA, valA, simprocAttr, Tryz.ntmps57, Tryz.results57]
  refine call_fn rfl rfl rfl (ok62 ex ep x l n n) ?_
  rw [stRight_nat hl]
  by_cases h : 1 ≤ x.length ∧ x.length ≤ 4 ∧ x.length = n
  · rw [if_pos h, decide_eq_true h]
    simp -implicitDefEqProofs (maxSteps := 10000000) only [rkA, rkB, stepA, valA, simprocAttr]
    refine call_fn rfl rfl rfl (ok46 n (by omega) ep l hl) ?_
    simp -implicitDefEqProofs (maxSteps := 10000000) only [rkA, rkB, stepA, valA, simprocAttr]
  · rw [if_neg h, decide_eq_false h]
    simp -implicitDefEqProofs (maxSteps := 10000000) only [rkA, rkB, stepA, valA, simprocAttr]
end Go.Proofs.YtbflmeomkfjikaaGreat.A.E


set_option linter.unusedVariables false
set_option linter.unusedSimpArgs false
set_option maxRecDepth 100000
namespace Go.Proofs.YtbflmeomkfjikaaGreat.A.E
open Go Go.RowKit Go.Shelf

/-! ### Whole numbers, enclosed: points -/
abbrev whole (n : Int) : Fr := ⟨n * 16777216, n * 16777216, n * 16777216, false⟩
def few (n : Int) : Prop := -67108864 ≤ n ∧ n ≤ 67108864
theorem natAbs_U (a : Int) : (a * 16777216).natAbs = a.natAbs * 16777216 := by rw [Int.natAbs_mul]; rfl
theorem signed_abs {x : Int} {b : Bool} (h : x = 0 ∨ b = decide (x < 0)) : (if b = true then -((x.natAbs : Nat) : Int) else ((x.natAbs : Nat) : Int)) = x := by
  rcases h with rfl | rfl
  · simp
  · by_cases h : x < 0
    · simp only [h, decide_true, if_true]
      omega
    · simp only [h, decide_false, Bool.false_eq_true, if_false]
      omega
theorem minus_mul (a b : Int) : a * b = 0 ∨ (decide (a < 0) != decide (b < 0)) = decide (a * b < 0) := by
  rcases Int.lt_trichotomy a 0 with ha | rfl | ha
  · rcases Int.lt_trichotomy b 0 with hb | rfl | hb
    · right
      have := Int.mul_pos_of_neg_of_neg ha hb
      rw [decide_eq_true ha, decide_eq_true hb, decide_eq_false (by omega)]; rfl
    · left; simp
    · right
      have := Int.mul_neg_of_neg_of_pos ha hb
      rw [decide_eq_true ha, decide_eq_false (by omega), decide_eq_true this]; rfl
  · left; simp
  · rcases Int.lt_trichotomy b 0 with hb | rfl | hb
    · right
      have := Int.mul_neg_of_pos_of_neg ha hb
      rw [decide_eq_false (by omega), decide_eq_true hb, decide_eq_true this]; rfl
    · left; simp
    · right
      have := Int.mul_pos ha hb
      rw [decide_eq_false (by omega), decide_eq_false (by omega), decide_eq_false (by omega)]; rfl
theorem U_lt (a : Int) : (a * 16777216 < 0) = (a < 0) := by apply propext; omega
theorem of_exact {n : Int} (h : few n) : mdF n 16777216 1 0 = (n * 16777216, true) := by
  have h1U : (1 : Int).natAbs = 1 := rfl
  have hU : (16777216 : Int).natAbs = 16777216 := rfl
  have hN : mdN n 16777216 1 0 = n.natAbs * 16777216 := by
    unfold mdN
    rw [h1U, hU, Nat.div_one, Nat.mod_one]
    simp [moreF]
  unfold few at h
  have hok : mdOk n 16777216 1 0 = true := by
    unfold mdOk rightW
    rw [hN]
    simp only [Bool.and_eq_true, decide_eq_true_eq]
    refine ⟨by omega, by omega, by omega, by omega, by omega, ?_⟩
    omega
  unfold mdF
  rw [hok, if_pos rfl, hN]
  congr 1
  have hs : minus3 n 16777216 1 = decide (n * 16777216 < 0) := by
    unfold minus3
    simp [U_lt]
  rw [hs]
  have h1 := signed_abs (x := n * 16777216) (b := decide (n * 16777216 < 0)) (.inr rfl)
  rw [natAbs_U] at h1
  exact h1
theorem rightX_U {n : Int} (h : few n) : rightX (n * 16777216) = true := by
  unfold few at h
  unfold rightX
  rw [decide_eq_true_eq]
  omega
theorem newF_whole {n : Int} (h : few n) : newF n 1 = whole n := by
  have e : ofX n = (n * 16777216, true) := by
    unfold ofX toldF
    rw [of_exact h]
    simp [rightX_U h]
  unfold newF point
  rw [e]
  simp [rightX_U h]
theorem fine_whole {n : Int} (h : few n) : (whole n).fine = true := by
  unfold Fr.fine
  simp [rightX_U h]
end Go.Proofs.YtbflmeomkfjikaaGreat.A.E



set_option linter.unusedVariables false
set_option linter.unusedSimpArgs false
set_option maxRecDepth 100000
namespace Go.Proofs.YtbflmeomkfjikaaGreat.A.E
open Go Go.RowKit Go.Shelf

/-! ### Is a fraction enclosed? -/
def enclB (x : Fr) (n d : Int) : Bool := x.fine && (decide (1 ≤ d) && (rightW n && (rightW d && (decide (cmpF x.lo d n 16777216 ≤ 0) && decide (cmpF n 16777216 x.hi d ≤ 0)))))
theorem rightXW {n : Int} (h : rightX n = true) : rightW n = true := by
  unfold rightX at h
  unfold rightW
  rw [decide_eq_true_eq] at h ⊢
  omega
theorem fine_lohi {x : Fr} (h : x.fine = true) : rightX x.lo = true ∧ rightX x.hi = true := by
  unfold Fr.fine at h
  simp only [Bool.and_eq_true] at h
  exact ⟨h.2.1, h.2.2.1⟩
theorem ok25 (x : Fr) (n d : Int) : Ok Tryz.prog 25 [frV x, num n, num d] (tru (enclB x n d)) := by
  refine ok_fn mixed Tryz.func25 (code := ?_) (h := h25) ?_ k25 ?_
  rotate_left
  · exact rfl
  unfold h25 initS
  simp -implicitDefEqProofs (maxSteps := 10000000) only [rkA, rkB, stepA, valA, simprocAttr, Tryz.ntmps25, Tryz.results25]
  refine call_fn rfl rfl rfl (ok84 x) ?_
  unfold enclB
  cases hf : x.fine with
  | false => simp -implicitDefEqProofs (maxSteps := 10000000) only [rkA, rkB, stepA, valA, simprocAttr]
  | true =>
    obtain ⟨hlo, hhi⟩ := fine_lohi hf
    simp -implicitDefEqProofs (maxSteps := 10000000) only [rkA, rkB, stepA, valA, simprocAttr]
    refine gB_dec ?_ ?_ <;> intro h1
    · have : ¬ 1 ≤ d := by omega
      simp -implicitDefEqProofs (maxSteps := 10000000) only [h1, this, rkA, rkB, stepA, valA, simprocAttr]
    · have h1' : 1 ≤ d := by omega
      simp -implicitDefEqProofs (maxSteps := 10000000) only [h1, h1', rkA, rkB, stepA, valA, simprocAttr]
      refine call_fn rfl rfl rfl (ok85' n) ?_
      cases hn : rightW n with
      | false => simp -implicitDefEqProofs (maxSteps := 10000000) only [rkA, rkB, stepA, valA, simprocAttr]
      | true =>
        simp -implicitDefEqProofs (maxSteps := 10000000) only [rkA, rkB, stepA, valA, simprocAttr]
        refine call_fn rfl rfl rfl (ok85' d) ?_
        cases hd : rightW d with
        | false => simp -implicitDefEqProofs (maxSteps := 10000000) only [rkA, rkB, stepA, valA, simprocAttr]
        | true =>
          simp -implicitDefEqProofs (maxSteps := 10000000) only [rkA, rkB, stepA, valA, simprocAttr]
          refine call_fn rfl rfl rfl (ok86 x.lo d n 16777216 (rightXW hlo) hd hn (by decide)) ?_
          simp -implicitDefEqProofs (maxSteps := 10000000) only [rkA, rkB, stepA, valA, simprocAttr]
          refine gB_dec ?_ ?_ <;> intro h2 <;> simp -implicitDefEqProofs (maxSteps := 10000000) only [h2, rkA, rkB, stepA, valA, simprocAttr]
          refine call_fn rfl rfl rfl (ok86 n 16777216 x.hi d hn (by decide) (rightXW hhi) hd) ?_
          simp -implicitDefEqProofs (maxSteps := 10000000) only [rkA, rkB, stepA, valA, simprocAttr]
/-! ### Products of whole numbers -/
end Go.Proofs.YtbflmeomkfjikaaGreat.A.E



set_option linter.unusedVariables false
set_option linter.unusedSimpArgs false
set_option maxRecDepth 100000
namespace Go.Proofs.YtbflmeomkfjikaaGreat.A.E
open Go Go.RowKit Go.Shelf

/-! ### What the document fixes of one number, behind layer 10 -/
theorem ok48 : Ok Tryz.prog 48 [] (tru true) := by
  refine ok_fn mixed Tryz.func48 (code := ?_) (h := h48) ?_ k48 ?_
  rotate_left
  · exact rfl
  unfold h48 initS
  simp -implicitDefEqProofs (maxSteps := 10000000) only [rkA, rkB, stepA, valA, simprocAttr, Tryz.ntmps48, Tryz.results48]
  have h1 := ok19 1 1 true [1] (by simp)
  rw [if_pos (by decide)] at h1
  refine call_fn rfl rfl rfl (h1) ?_
  have h2 := ok39 true [0] (by simp)
  have h3 := ok39 true [1] (by simp)
  have u1 : A.upRX 1 ([0].map (A.newF · 1)) (A.clearF 1 ([1].map (A.newF · 1))) ([1].map (A.newF · 1)) (A.newF 3 1) (A.newF 4 1) = [A.newF 1 1] := by decide +kernel
  have u2 : (A.upR 1 (A.clearF 1 ([1].map (A.newF · 1))) ([1].map (A.newF · 1)) (A.newF 3 1)).2.2 = A.newF 4 1 := by decide +kernel
  generalize hR : [1].map (A.newF · 1) = R at *
  have lR : R.length = 1 := by subst hR; rfl
  simp -implicitDefEqProofs (maxSteps := 10000000) only [rkA, rkB, stepA, valA, simprocAttr]
  refine call_fn rfl rfl rfl (h2) ?_
  generalize hX : [0].map (A.newF · 1) = X at *
  have lX : X.length = 1 := by subst hX; rfl
  simp -implicitDefEqProofs (maxSteps := 10000000) only [rkA, rkB, stepA, valA, simprocAttr]
  have h4 := ok49 false false X R 1 (by omega) (by omega) (by omega)
  rw [if_pos (by omega)] at h4
  refine call_fn rfl rfl rfl (h4) ?_
  simp -implicitDefEqProofs (maxSteps := 10000000) only [rkA, rkB, stepA, valA, simprocAttr]
  refine call_fn rfl rfl rfl (h3) ?_
  simp -implicitDefEqProofs (maxSteps := 10000000) only [rkA, rkB, stepA, valA, simprocAttr]
  refine call_fn rfl rfl rfl (ok44 3 1) ?_
  simp -implicitDefEqProofs (maxSteps := 10000000) only [rkA, rkB, stepA, valA, simprocAttr]
  refine call_fn rfl rfl rfl (ok44 4 1) ?_
  simp -implicitDefEqProofs (maxSteps := 10000000) only [rkA, rkB, stepA, valA, simprocAttr]
  have h5 := ok59 false false false 1 X (A.clearF 1 R) R (A.newF 3 1) (A.newF 4 1) (by omega) lX (A.clearF_len 1 R) lR
  rw [u1, u2] at h5
  refine call_fn rfl rfl rfl (h5) ?_
  simp -implicitDefEqProofs (maxSteps := 10000000) only [A.frs, rkA, rkB, stepA, valA, simprocAttr]
  have e1 := ok22 1 1 true [1] (by simp)
  rw [if_pos (by decide)] at e1
  refine call_fn rfl rfl rfl (e1) ?_
  have e2 := ok43 true [0] (by simp)
  have e3 := ok43 true [1] (by simp)
  have v1 : enclB (atF 1 1 (sqF 1 (upRS 1 (clearF 1 ([1].map (newF · 1))) ([1].map (newF · 1)) (point 50331648))) 0 0) 3 4 = true := by decide +kernel
  generalize hQ : [1].map (newF · 1) = Q at *
  have lQ : Q.length = 1 := by subst hQ; rfl
  simp -implicitDefEqProofs (maxSteps := 10000000) only [rkA, rkB, stepA, valA, simprocAttr]
  refine call_fn rfl rfl rfl (e2) ?_
  generalize hY : [0].map (newF · 1) = Y at *
  have lY : Y.length = 1 := by subst hY; rfl
  simp -implicitDefEqProofs (maxSteps := 10000000) only [rkA, rkB, stepA, valA, simprocAttr]
  have e4 := ok54 false false Y Q 1 (by omega) (by omega) (by omega)
  rw [if_pos (by omega)] at e4
  refine call_fn rfl rfl rfl (e4) ?_
  simp -implicitDefEqProofs (maxSteps := 10000000) only [rkA, rkB, stepA, valA, simprocAttr]
  refine call_fn rfl rfl rfl (e3) ?_
  simp -implicitDefEqProofs (maxSteps := 10000000) only [rkA, rkB, stepA, valA, simprocAttr]
  refine call_fn rfl rfl rfl (ok53 50331648) ?_
  simp -implicitDefEqProofs (maxSteps := 10000000) only [rkA, rkB, stepA, valA, simprocAttr]
  refine call_fn rfl rfl rfl (ok53 67108864) ?_
  simp -implicitDefEqProofs (maxSteps := 10000000) only [rkA, rkB, stepA, valA, simprocAttr]
  have e5 := ok55 false false false 1 Y (clearF 1 Q) Q (point 50331648) (point 67108864) (by omega) lY (clearF_len 1 Q) lQ
  refine call_fn rfl rfl rfl (e5) ?_
  simp -implicitDefEqProofs (maxSteps := 10000000) only [rkA, rkB, stepA, valA, simprocAttr]
  refine call_fn rfl rfl rfl (ok44 4 1) ?_
  simp -implicitDefEqProofs (maxSteps := 10000000) only [A.eq_fr, rkA, rkB, stepA, valA, simprocAttr]
  refine call_fn rfl rfl rfl (ok44 1 1) ?_
  have lw : (frs (upRX 1 Y (clearF 1 Q) Q (point 50331648) (point 67108864))).length = 1 := by simp [upRX, upRK, lY]
  simp -implicitDefEqProofs (maxSteps := 10000000) only [A.eq_fr, lw, rkA, rkB, stepA, valA, simprocAttr]
  have e6 := ok57 false false (upRX 1 Y (clearF 1 Q) Q (point 50331648) (point 67108864)) (upRS 1 (clearF 1 Q) Q (point 50331648)) 1 (upRS_len _ _ _ _)
  have lw' : (upRX 1 Y (clearF 1 Q) Q (point 50331648) (point 67108864)).length = 1 := by simpa using lw
  rw [if_pos (by omega)] at e6
  refine call_fn rfl rfl rfl (e6) ?_
  simp -implicitDefEqProofs (maxSteps := 10000000) only [rkA, rkB, stepA, valA, simprocAttr]
  refine call_fn rfl rfl rfl (ok35 false 1 1 0 0 (sqF 1 (upRS 1 (clearF 1 Q) Q (point 50331648)))) ?_
  simp -implicitDefEqProofs (maxSteps := 10000000) only [rkA, rkB, stepA, valA, simprocAttr]
  refine call_fn rfl rfl rfl (ok25 (atF 1 1 (sqF 1 (upRS 1 (clearF 1 Q) Q (point 50331648))) 0 0) 3 4) ?_
  rw [v1]
  simp -implicitDefEqProofs (maxSteps := 10000000) only [rkA, rkB, stepA, valA, simprocAttr]
  have h7 := ok50 false false X (A.clearF 1 R) 1 1
  have hs : stRight X.length 1 1 (A.clearF 1 R).length = true := by rw [A.clearF_len, lX]; decide +kernel
  rw [hs] at h7
  refine call_fn rfl rfl rfl (h7) ?_
  simp -implicitDefEqProofs (maxSteps := 10000000) only [rkA, rkB, stepA, valA, simprocAttr]
end Go.Proofs.YtbflmeomkfjikaaGreat.A.E



set_option linter.unusedVariables false
set_option linter.unusedSimpArgs false
set_option maxRecDepth 100000
namespace Go.Proofs.YtbflmeomkfjikaaGreat.A.E
open Go Go.RowKit Go.Shelf

/-! ### The function RootNew -/
end Go.Proofs.YtbflmeomkfjikaaGreat.A.E



set_option linter.unusedVariables false
set_option linter.unusedSimpArgs false
set_option maxRecDepth 100000
namespace Go.Proofs.YtbflmeomkfjikaaGreat.A.E
open Go Go.RowKit Go.Shelf

/-! ### root: one tick on -/
end Go.Proofs.YtbflmeomkfjikaaGreat.A.E


set_option linter.unusedVariables false
set_option linter.unusedSimpArgs false
set_option maxRecDepth 100000
namespace Go.Proofs.YtbflmeomkfjikaaGreat.A.E
open Go Go.RowKit Go.Shelf

/-! ### Rounding: what is told of a product, divided -/
theorem minus3_of (a b c : Int) (hc : c ≠ 0) : a * b = 0 ∨ minus3 a b c = decide ((if c < 0 then -(a * b) else a * b) < 0) := by
  rcases minus_mul a b with h | h
  · exact .inl h
  · by_cases h0 : a * b = 0
    · exact .inl h0
    · right
      unfold minus3
      rw [h]
      by_cases hc0 : c < 0
      · rw [if_pos hc0, decide_eq_true hc0]
        by_cases hx : a * b < 0
        · rw [decide_eq_true hx, decide_eq_false (by omega)]; rfl
        · rw [decide_eq_false hx, decide_eq_true (by omega)]; rfl
      · rw [if_neg hc0, decide_eq_false hc0]
        by_cases hx : a * b < 0
        · rw [decide_eq_true hx]; rfl
        · rw [decide_eq_false hx]; rfl
theorem md_spec {a b c mode : Int} (h : (mdF a b c mode).2 = true) : ∃ Y C : Int, 0 < C ∧ ((c = C ∧ Y = a * b) ∨ (c = -C ∧ Y = -(a * b))) ∧
    (mdF a b c mode).1 * C < Y + C ∧ Y < (mdF a b c mode).1 * C + C ∧ (mode = 1 → (mdF a b c mode).1 * C ≤ Y) ∧ (mode = 2 → Y ≤ (mdF a b c mode).1 * C) := by
  unfold mdF at h ⊢
  split at h
  · rename_i hok
    rw [if_pos hok]
    have hc : c ≠ 0 := by
      unfold mdOk at hok
      simp only [Bool.and_eq_true, decide_eq_true_eq] at hok
      exact hok.2.2.2.1
    refine ⟨if c < 0 then -(a * b) else a * b, (c.natAbs : Int), by omega, by split <;> omega, ?_⟩
    have hm := minus3_of a b c hc
    have hP : (if c < 0 then -(a * b) else a * b).natAbs = a.natAbs * b.natAbs := by
      rw [← Int.natAbs_mul]
      split <;> omega
    have h0 : a * b = 0 → (if c < 0 then -(a * b) else a * b) = 0 := fun h => by rw [h]; split <;> rfl
    generalize (if c < 0 then -(a * b) else a * b) = Y at *
    unfold mdN
    have hCp : 0 < c.natAbs := by omega
    generalize c.natAbs = C at *
    generalize a.natAbs * b.natAbs = P at *
    have hd := Nat.div_add_mod P C
    have hr := Nat.mod_lt P hCp
    have hmo : moreF mode (P / C) (P % C) C (minus3 a b c) = true → P % C ≠ 0 := fun h h0 => by
      unfold moreF at h
      rw [if_pos h0] at h
      cases h
    have hm1 : mode = 1 → moreF mode (P / C) (P % C) C (minus3 a b c) = (decide (P % C ≠ 0) && minus3 a b c) := fun h => by
      unfold moreF
      subst h
      by_cases h0 : P % C = 0
      · simp [h0]
      · simp [h0]
    have hm2 : mode = 2 → moreF mode (P / C) (P % C) C (minus3 a b c) = (decide (P % C ≠ 0) && !minus3 a b c) := fun h => by
      unfold moreF
      subst h
      by_cases h0 : P % C = 0
      · simp [h0]
      · simp [h0]
    generalize moreF mode (P / C) (P % C) C (minus3 a b c) = mo at *
    generalize minus3 a b c = mi at *
    generalize P / C = D at *
    generalize P % C = r at *
    have hT : ((D : Int)) * (C : Int) = ((C * D : Nat) : Int) := by rw [Nat.mul_comm, Int.natCast_mul]
    have hT1 : ((D : Int) + 1) * (C : Int) = ((C * D : Nat) : Int) + C := by rw [Int.add_mul, hT, Int.one_mul]
    generalize C * D = T at *
    have hmi : P = 0 ∨ mi = decide (Y < 0) := by
      rcases hm with h | h
      · have := h0 h
        left; omega
      · exact .inr h
    clear hm h0 h hok
    have hm1' : mode = 1 → (mo = true ↔ r ≠ 0 ∧ mi = true) := fun h => by rw [hm1 h]; simp
    have hm2' : mode = 2 → (mo = true ↔ r ≠ 0 ∧ mi = false) := fun h => by rw [hm2 h]; simp
    clear hm1 hm2
    have hmi' : P = 0 ∨ (mi = true ↔ Y < 0) := by
      rcases hmi with h | h
      · exact .inl h
      · right; rw [h, decide_eq_true_eq]
    clear hmi
    cases mo <;> cases mi
    all_goals simp only [if_true, if_false, Bool.false_eq_true, Nat.add_zero, Int.natCast_add, Int.natCast_one, Int.neg_mul, hT, hT1, true_iff, false_iff, reduceCtorEq, and_true, and_false, iff_true, iff_false, not_true_eq_false, not_false_eq_true, Int.natCast_zero, Int.add_zero]
    all_goals simp only [Bool.false_eq_true, reduceCtorEq, false_implies, true_implies, forall_const, true_iff, false_iff, and_true, and_false, iff_true, iff_false, not_true_eq_false, not_false_eq_true, Int.not_lt, ne_eq, Decidable.not_not, false_and, not_and, true_and] at hmo hmi' hm1' hm2'
    all_goals refine ⟨by omega, by omega, fun h => ?_, fun h => ?_⟩
    all_goals first
      | omega
      | (have := hm1' h; omega)
      | (have := hm2' h; omega)
      | exact (hm1' h).elim
      | exact (hm2' h).elim
  · cases h

/-! ### What is made of values and of pairs of bounds -/
theorem minL_foldl : ∀ (l : List Int) (x : Int), l.foldl (fun m y => if y < m then y else m) x ≤ x ∧ (∀ y ∈ l, l.foldl (fun m y => if y < m then y else m) x ≤ y) ∧ (l.foldl (fun m y => if y < m then y else m) x = x ∨ l.foldl (fun m y => if y < m then y else m) x ∈ l)
  | [], x => ⟨Int.le_refl _, by simp, .inl rfl⟩
  | z :: l, x => by
    rw [List.foldl_cons]
    have ht : (if z < x then z else x) ≤ x ∧ (if z < x then z else x) ≤ z ∧ ((if z < x then z else x) = x ∨ (if z < x then z else x) = z) := by split <;> omega
    generalize (if z < x then z else x) = t at ht ⊢
    obtain ⟨h1, h2, h3⟩ := minL_foldl l t
    refine ⟨by omega, fun y hy => ?_, ?_⟩
    · rcases List.mem_cons.1 hy with rfl | hy
      · omega
      · exact h2 y hy
    · rcases h3 with h3 | h3
      · rw [h3]
        rcases ht.2.2 with e | e
        · exact .inl e
        · right; rw [e]; simp
      · right; exact List.mem_cons_of_mem _ h3
theorem maxL_foldl : ∀ (l : List Int) (x : Int), x ≤ l.foldl (fun m y => if m < y then y else m) x ∧ (∀ y ∈ l, y ≤ l.foldl (fun m y => if m < y then y else m) x) ∧ (l.foldl (fun m y => if m < y then y else m) x = x ∨ l.foldl (fun m y => if m < y then y else m) x ∈ l)
  | [], x => ⟨Int.le_refl _, by simp, .inl rfl⟩
  | z :: l, x => by
    rw [List.foldl_cons]
    have ht : x ≤ (if x < z then z else x) ∧ z ≤ (if x < z then z else x) ∧ ((if x < z then z else x) = x ∨ (if x < z then z else x) = z) := by split <;> omega
    generalize (if x < z then z else x) = t at ht ⊢
    obtain ⟨h1, h2, h3⟩ := maxL_foldl l t
    refine ⟨by omega, fun y hy => ?_, ?_⟩
    · rcases List.mem_cons.1 hy with rfl | hy
      · omega
      · exact h2 y hy
    · rcases h3 with h3 | h3
      · rw [h3]
        rcases ht.2.2 with e | e
        · exact .inl e
        · right; rw [e]; simp
      · right; exact List.mem_cons_of_mem _ h3
theorem minL_le {l : List Int} {y : Int} (h : y ∈ l) : minL l ≤ y := by
  cases l with
  | nil => cases h
  | cons x l =>
    rcases List.mem_cons.1 h with rfl | h
    · exact (minL_foldl l y).1
    · exact (minL_foldl l x).2.1 y h
theorem le_maxL {l : List Int} {y : Int} (h : y ∈ l) : y ≤ maxL l := by
  cases l with
  | nil => cases h
  | cons x l =>
    rcases List.mem_cons.1 h with rfl | h
    · exact (maxL_foldl l y).1
    · exact (maxL_foldl l x).2.1 y h
theorem minL_mem {l : List Int} (h : l ≠ []) : minL l ∈ l := by
  cases l with
  | nil => exact absurd rfl h
  | cons x l =>
    rcases (minL_foldl l x).2.2 with e | e
    · have e' : minL (x :: l) = x := e
      rw [e']; simp
    · exact List.mem_cons_of_mem _ e
theorem maxL_mem {l : List Int} (h : l ≠ []) : maxL l ∈ l := by
  cases l with
  | nil => exact absurd rfl h
  | cons x l =>
    rcases (maxL_foldl l x).2.2 with e | e
    · have e' : maxL (x :: l) = x := e
      rw [e']; simp
    · exact List.mem_cons_of_mem _ e
theorem made_is {F : Int → Int → Int → Int × Bool} {a b : Fr} {ps : List (Int × Int)} (h : (madeE F a b ps).bad = false) : a.fine = true ∧ b.fine = true ∧ (F a.v b.v 0).2 = true ∧ (∀ p ∈ ps, (F p.1 p.2 1).2 = true ∧ (F p.1 p.2 2).2 = true) ∧
    madeE F a b ps = ⟨(F a.v b.v 0).1, minL (ps.map fun p => (F p.1 p.2 1).1), maxL (ps.map fun p => (F p.1 p.2 2).1), false⟩ := by
  unfold madeE at h ⊢
  split at h
  · rename_i hc
    rw [if_pos hc]
    obtain ⟨h1, h2, h3⟩ := hc
    rw [Bool.and_eq_true] at h1
    refine ⟨h2, h3, h1.1, fun p hp => ?_, rfl⟩
    have := List.all_eq_true.1 h1.2 p hp
    unfold okP at this
    exact Bool.and_eq_true_iff.1 this
  · cases h
theorem told_is {n : Int} {is : Bool} {l : List Int} (h : (toldF n is l).2 = true) : is = true ∧ (toldF n is l).1 = n ∧ rightX n = true := by
  unfold toldF at h ⊢
  split at h
  · rename_i hc
    rw [if_pos hc]
    exact ⟨hc.1, rfl, List.all_eq_true.1 hc.2 n (by simp)⟩
  · cases h
theorem fine_is {x : Fr} : x.fine = true ↔ x.bad = false ∧ rightX x.lo = true ∧ rightX x.hi = true ∧ x.lo ≤ x.v ∧ x.v ≤ x.hi := by
  unfold Fr.fine
  simp only [Bool.and_eq_true, Bool.not_eq_true', decide_eq_true_eq]

/-! ### To enclose -/
def Enc (x : Fr) (v : Rat) : Prop := x.fine = true ∧ (x.lo : Rat) ≤ v * 16777216 ∧ v * 16777216 ≤ (x.hi : Rat)
/-- Of what is made: every bound told is rounded to its side. -/
theorem made_enc {F : Int → Int → Int → Int × Bool} {a b : Fr} {ps : List (Int × Int)} {w : Rat} (h : (madeE F a b ps).bad = false)
    (hr : ∀ x y m, (F x y m).2 = true → rightX (F x y m).1 = true)
    (hlo : ∃ p ∈ ps, ((F p.1 p.2 1).1 : Rat) ≤ w * 16777216) (hhi : ∃ p ∈ ps, w * 16777216 ≤ ((F p.1 p.2 2).1 : Rat))
    (hlv : ∃ p ∈ ps, (F p.1 p.2 1).1 ≤ (F a.v b.v 0).1) (hvh : ∃ p ∈ ps, (F a.v b.v 0).1 ≤ (F p.1 p.2 2).1) : Enc (madeE F a b ps) w := by
  obtain ⟨h1, h2, h3, h4, h5⟩ := made_is h
  rw [h5]
  have hne : ps ≠ [] := fun e => by obtain ⟨p, hp, _⟩ := hlo; rw [e] at hp; cases hp
  have hml := minL_mem (l := ps.map fun p => (F p.1 p.2 1).1) (by simpa using hne)
  have hmh := maxL_mem (l := ps.map fun p => (F p.1 p.2 2).1) (by simpa using hne)
  have lo_le : ∀ p ∈ ps, minL (ps.map fun p => (F p.1 p.2 1).1) ≤ (F p.1 p.2 1).1 := fun p hp => minL_le (List.mem_map.2 ⟨p, hp, rfl⟩)
  have le_hi : ∀ p ∈ ps, (F p.1 p.2 2).1 ≤ maxL (ps.map fun p => (F p.1 p.2 2).1) := fun p hp => le_maxL (List.mem_map.2 ⟨p, hp, rfl⟩)
  refine ⟨fine_is.2 ⟨rfl, ?_, ?_, ?_, ?_⟩, ?_, ?_⟩
  · obtain ⟨p, hp, e⟩ := List.mem_map.1 hml
    show rightX (minL _) = true
    rw [← e]; exact hr _ _ _ (h4 p hp).1
  · obtain ⟨p, hp, e⟩ := List.mem_map.1 hmh
    show rightX (maxL _) = true
    rw [← e]; exact hr _ _ _ (h4 p hp).2
  · obtain ⟨p, hp, e⟩ := hlv
    exact Int.le_trans (lo_le p hp) e
  · obtain ⟨p, hp, e⟩ := hvh
    exact Int.le_trans e (le_hi p hp)
  · obtain ⟨p, hp, e⟩ := hlo
    exact Rat.le_trans (Rat.intCast_le_intCast.2 (lo_le p hp)) e
  · obtain ⟨p, hp, e⟩ := hhi
    exact Rat.le_trans e (Rat.intCast_le_intCast.2 (le_hi p hp))

theorem add_spec {x y : Int} (h : (addX x y).2 = true) : (addX x y).1 = x + y ∧ rightX (x + y) = true := by
  unfold addX at h ⊢
  split at h
  · rename_i hc
    rw [if_pos hc]
    exact (told_is h).2
  · cases h
theorem sub_spec {x y : Int} (h : (subX x y).2 = true) : (subX x y).1 = x - y ∧ rightX (x - y) = true := by
  unfold subX at h ⊢
  split at h
  · rename_i hc
    rw [if_pos hc]
    exact (told_is h).2
  · cases h
theorem addF_enc {a b : Fr} {v w : Rat} (ha : a.bad = false → Enc a v) (hb : b.bad = false → Enc b w) (h : (addF a b).bad = false) : Enc (addF a b) (v + w) := by
  unfold addF at h ⊢
  obtain ⟨h1, h2, h3, h4, h5⟩ := made_is h
  obtain ⟨fa, la, ua⟩ := ha (fine_is.1 h1).1
  obtain ⟨fb, lb, ub⟩ := hb (fine_is.1 h2).1
  have p1 := h4 (a.lo, b.lo) (by simp)
  have p2 := h4 (a.hi, b.hi) (by simp)
  have s1 : (addX a.lo b.lo).1 = a.lo + b.lo := (add_spec p1.1).1
  have s2 : (addX a.hi b.hi).1 = a.hi + b.hi := (add_spec p2.1).1
  have s0 : (addX a.v b.v).1 = a.v + b.v := (add_spec h3).1
  have oa := (fine_is.1 h1).2.2.2
  have ob := (fine_is.1 h2).2.2.2
  refine made_enc h (fun x y m hxy => ?_) ⟨_, List.mem_cons_self .., ?_⟩ ⟨(a.hi, b.hi), by simp, ?_⟩ ⟨(a.lo, b.lo), by simp, ?_⟩ ⟨(a.hi, b.hi), by simp, ?_⟩
  · have := add_spec hxy
    show rightX (addX x y).1 = true
    rw [this.1]; exact this.2
  · show ((addX a.lo b.lo).1 : Rat) ≤ _
    rw [s1, Rat.intCast_add]
    grind
  · show _ ≤ ((addX a.hi b.hi).1 : Rat)
    rw [s2, Rat.intCast_add]
    grind
  · show (addX a.lo b.lo).1 ≤ (addX a.v b.v).1
    omega
  · show (addX a.v b.v).1 ≤ (addX a.hi b.hi).1
    omega
theorem subF_enc {a b : Fr} {v w : Rat} (ha : a.bad = false → Enc a v) (hb : b.bad = false → Enc b w) (h : (subF a b).bad = false) : Enc (subF a b) (v - w) := by
  unfold subF at h ⊢
  obtain ⟨h1, h2, h3, h4, h5⟩ := made_is h
  obtain ⟨fa, la, ua⟩ := ha (fine_is.1 h1).1
  obtain ⟨fb, lb, ub⟩ := hb (fine_is.1 h2).1
  have p1 := h4 (a.lo, b.hi) (by simp)
  have p2 := h4 (a.hi, b.lo) (by simp)
  have s1 : (subX a.lo b.hi).1 = a.lo - b.hi := (sub_spec p1.1).1
  have s2 : (subX a.hi b.lo).1 = a.hi - b.lo := (sub_spec p2.1).1
  have s0 : (subX a.v b.v).1 = a.v - b.v := (sub_spec h3).1
  have oa := (fine_is.1 h1).2.2.2
  have ob := (fine_is.1 h2).2.2.2
  refine made_enc h (fun x y m hxy => ?_) ⟨_, List.mem_cons_self .., ?_⟩ ⟨(a.hi, b.lo), by simp, ?_⟩ ⟨(a.lo, b.hi), by simp, ?_⟩ ⟨(a.hi, b.lo), by simp, ?_⟩
  · have := sub_spec hxy
    show rightX (subX x y).1 = true
    rw [this.1]; exact this.2
  · show ((subX a.lo b.hi).1 : Rat) ≤ _
    rw [s1, Rat.intCast_sub]
    grind
  · show _ ≤ ((subX a.hi b.lo).1 : Rat)
    rw [s2, Rat.intCast_sub]
    grind
  · show (subX a.lo b.hi).1 ≤ (subX a.v b.v).1
    omega
  · show (subX a.v b.v).1 ≤ (subX a.hi b.lo).1
    omega

/-! ### Corners -/
theorem corner_lo {l h m n x y : Rat} (h1 : l ≤ x) (h2 : x ≤ h) (h3 : m ≤ y) (h4 : y ≤ n) : l * m ≤ x * y ∨ l * n ≤ x * y ∨ h * m ≤ x * y ∨ h * n ≤ x * y := by
  rcases Rat.le_total (a := 0) (b := y) with hy | hy
  · have k1 := Rat.mul_nonneg (show 0 ≤ x - l by grind) hy
    rcases Rat.le_total (a := 0) (b := l) with hl | hl
    · have k2 := Rat.mul_nonneg hl (show 0 ≤ y - m by grind)
      left; grind
    · have k2 := Rat.mul_nonneg (show 0 ≤ -l by grind) (show 0 ≤ n - y by grind)
      right; left; grind
  · have k1 := Rat.mul_nonneg (show 0 ≤ h - x by grind) (show 0 ≤ -y by grind)
    rcases Rat.le_total (a := 0) (b := h) with hl | hl
    · have k2 := Rat.mul_nonneg hl (show 0 ≤ y - m by grind)
      right; right; left; grind
    · have k2 := Rat.mul_nonneg (show 0 ≤ -h by grind) (show 0 ≤ n - y by grind)
      right; right; right; grind
theorem corner_hi {l h m n x y : Rat} (h1 : l ≤ x) (h2 : x ≤ h) (h3 : m ≤ y) (h4 : y ≤ n) : x * y ≤ l * m ∨ x * y ≤ l * n ∨ x * y ≤ h * m ∨ x * y ≤ h * n := by
  have := corner_lo (l := -h) (h := -l) (m := m) (n := n) (x := -x) (y := y) (by grind) (by grind) h3 h4
  rcases this with h | h | h | h
  · right; right; left; grind
  · right; right; right; grind
  · left; grind
  · right; left; grind

/-! ### Products and quotients -/
theorem mul_told {x y m : Int} (h : (mulX x y m).2 = true) : (mdF x y 16777216 m).2 = true ∧ (mulX x y m).1 = (mdF x y 16777216 m).1 ∧ rightX (mulX x y m).1 = true := by
  unfold mulX at h ⊢
  obtain ⟨h1, h2, h3⟩ := told_is h
  exact ⟨h1, h2, by rw [h2]; exact h3⟩
theorem mul_spec {x y m : Int} (h : (mulX x y m).2 = true) : (mulX x y m).1 * 16777216 < x * y + 16777216 ∧ x * y < (mulX x y m).1 * 16777216 + 16777216 ∧ (m = 1 → (mulX x y m).1 * 16777216 ≤ x * y) ∧ (m = 2 → x * y ≤ (mulX x y m).1 * 16777216) := by
  obtain ⟨h1, h2, h3⟩ := mul_told h
  obtain ⟨Y, C, hC, hcY, k⟩ := md_spec h1
  have : C = 16777216 ∧ Y = x * y := by
    rcases hcY with ⟨e1, e2⟩ | ⟨e1, e2⟩
    · exact ⟨e1.symm, e2⟩
    · omega
  rw [this.1, this.2] at k
  rw [h2]
  exact k
theorem corner_loI {l h m n x y : Int} (h1 : l ≤ x) (h2 : x ≤ h) (h3 : m ≤ y) (h4 : y ≤ n) : l * m ≤ x * y ∨ l * n ≤ x * y ∨ h * m ≤ x * y ∨ h * n ≤ x * y := by
  have := corner_lo (Rat.intCast_le_intCast.2 h1) (Rat.intCast_le_intCast.2 h2) (Rat.intCast_le_intCast.2 h3) (Rat.intCast_le_intCast.2 h4)
  simpa only [← Rat.intCast_mul, Rat.intCast_le_intCast] using this
theorem corner_hiI {l h m n x y : Int} (h1 : l ≤ x) (h2 : x ≤ h) (h3 : m ≤ y) (h4 : y ≤ n) : x * y ≤ l * m ∨ x * y ≤ l * n ∨ x * y ≤ h * m ∨ x * y ≤ h * n := by
  have := corner_hi (Rat.intCast_le_intCast.2 h1) (Rat.intCast_le_intCast.2 h2) (Rat.intCast_le_intCast.2 h3) (Rat.intCast_le_intCast.2 h4)
  simpa only [← Rat.intCast_mul, Rat.intCast_le_intCast] using this
theorem mulF_enc {a b : Fr} {v w : Rat} (ha : a.bad = false → Enc a v) (hb : b.bad = false → Enc b w) (h : (mulF a b).bad = false) : Enc (mulF a b) (v * w) := by
  unfold mulF at h ⊢
  obtain ⟨h1, h2, h3, h4, h5⟩ := made_is h
  obtain ⟨fa, la, ua⟩ := ha (fine_is.1 h1).1
  obtain ⟨fb, lb, ub⟩ := hb (fine_is.1 h2).1
  have oa := (fine_is.1 h1).2.2.2
  have ob := (fine_is.1 h2).2.2.2
  have s0 := mul_spec h3
  have lo : ∀ p ∈ allP a b, ((p.1 * p.2 : Int) : Rat) ≤ (v * 16777216) * (w * 16777216) → ((mulX p.1 p.2 1).1 : Rat) ≤ v * w * 16777216 := fun p hp hle => by
    have k := (mul_spec (h4 p hp).1).2.2.1 rfl
    have k' : ((mulX p.1 p.2 1).1 : Rat) * 16777216 ≤ ((p.1 * p.2 : Int) : Rat) := by
      have := Rat.intCast_le_intCast.2 k
      rw [Rat.intCast_mul] at this
      exact this
    grind
  have hi : ∀ p ∈ allP a b, (v * 16777216) * (w * 16777216) ≤ ((p.1 * p.2 : Int) : Rat) → v * w * 16777216 ≤ ((mulX p.1 p.2 2).1 : Rat) := fun p hp hle => by
    have k := (mul_spec (h4 p hp).2).2.2.2 rfl
    have k' : ((p.1 * p.2 : Int) : Rat) ≤ ((mulX p.1 p.2 2).1 : Rat) * 16777216 := by
      have := Rat.intCast_le_intCast.2 k
      rw [Rat.intCast_mul (mulX p.1 p.2 2).1 16777216] at this
      exact this
    grind
  have lv : ∀ p ∈ allP a b, p.1 * p.2 ≤ a.v * b.v → (mulX p.1 p.2 1).1 ≤ (mulX a.v b.v 0).1 := fun p hp hle => by
    have k := (mul_spec (h4 p hp).1).2.2.1 rfl
    omega
  have vh : ∀ p ∈ allP a b, a.v * b.v ≤ p.1 * p.2 → (mulX a.v b.v 0).1 ≤ (mulX p.1 p.2 2).1 := fun p hp hle => by
    have k := (mul_spec (h4 p hp).2).2.2.2 rfl
    omega
  have m1 : (a.lo, b.lo) ∈ allP a b := by simp [allP]
  have m2 : (a.lo, b.hi) ∈ allP a b := by simp [allP]
  have m3 : (a.hi, b.lo) ∈ allP a b := by simp [allP]
  have m4 : (a.hi, b.hi) ∈ allP a b := by simp [allP]
  refine made_enc h (fun x y m hxy => (mul_told hxy).2.2) ?_ ?_ ?_ ?_
  · have := corner_lo la ua lb ub
    simp only [← Rat.intCast_mul] at this
    rcases this with k | k | k | k
    · exact ⟨_, m1, lo _ m1 k⟩
    · exact ⟨_, m2, lo _ m2 k⟩
    · exact ⟨_, m3, lo _ m3 k⟩
    · exact ⟨_, m4, lo _ m4 k⟩
  · have := corner_hi la ua lb ub
    simp only [← Rat.intCast_mul] at this
    rcases this with k | k | k | k
    · exact ⟨_, m1, hi _ m1 k⟩
    · exact ⟨_, m2, hi _ m2 k⟩
    · exact ⟨_, m3, hi _ m3 k⟩
    · exact ⟨_, m4, hi _ m4 k⟩
  · rcases corner_loI oa.1 oa.2 ob.1 ob.2 with k | k | k | k
    · exact ⟨_, m1, lv _ m1 k⟩
    · exact ⟨_, m2, lv _ m2 k⟩
    · exact ⟨_, m3, lv _ m3 k⟩
    · exact ⟨_, m4, lv _ m4 k⟩
  · rcases corner_hiI oa.1 oa.2 ob.1 ob.2 with k | k | k | k
    · exact ⟨_, m1, vh _ m1 k⟩
    · exact ⟨_, m2, vh _ m2 k⟩
    · exact ⟨_, m3, vh _ m3 k⟩
    · exact ⟨_, m4, vh _ m4 k⟩

theorem whole_enc {n : Int} (h : few n) : Enc (newF n 1) (n : Rat) := by
  rw [newF_whole h]
  refine ⟨fine_whole h, ?_, ?_⟩
  · show ((n * 16777216 : Int) : Rat) ≤ _
    rw [Rat.intCast_mul]
    exact Rat.le_refl
  · show _ ≤ ((n * 16777216 : Int) : Rat)
    rw [Rat.intCast_mul]
    exact Rat.le_refl
end Go.Proofs.YtbflmeomkfjikaaGreat.A.E



set_option linter.unusedVariables false
set_option linter.unusedSimpArgs false
set_option maxRecDepth 100000
namespace Go.Proofs.YtbflmeomkfjikaaGreat.A.E
open Go Go.RowKit Go.Shelf

end Go.Proofs.YtbflmeomkfjikaaGreat.A.E



set_option linter.unusedVariables false
set_option linter.unusedSimpArgs false
set_option maxRecDepth 100000
namespace Go.Proofs.YtbflmeomkfjikaaGreat.A.E
open Go Go.RowKit Go.Shelf

section
variable (n : Nat) (x p h : List Fr) (r z : Fr)
end
end Go.Proofs.YtbflmeomkfjikaaGreat.A.E


set_option linter.unusedVariables false
set_option linter.unusedSimpArgs false
set_option maxRecDepth 100000
namespace Go.Proofs.YtbflmeomkfjikaaGreat.A.E
open Go Go.RowKit Go.Shelf

/-! ### Enclosed numbers beside fractions: whatever both tell, the one encloses the other -/
def Rl (x : Fr) (y : A.Fr) : Prop := x.fine = true → y.fine = true → Enc x y.val
theorem made_fine {F : Int → Int → Int → Int × Bool} {a b : Fr} {ps : List (Int × Int)} (h : (madeE F a b ps).fine = true) : a.fine = true ∧ b.fine = true :=
  ⟨(made_is (fine_is.1 h).1).1, (made_is (fine_is.1 h).1).2.1⟩
theorem Rl.add {a b : Fr} {a' b' : A.Fr} (ha : Rl a a') (hb : Rl b b') : Rl (addF a b) (A.addF a' b') := fun hx hy => by
  obtain ⟨h1, h2⟩ := made_fine hx
  obtain ⟨k1, k2, k3⟩ := A.addF_is (fine_bad hy)
  rw [k3.2]
  exact addF_enc (fun _ => ha h1 k1) (fun _ => hb h2 k2) (fine_is.1 hx).1
theorem Rl.sub {a b : Fr} {a' b' : A.Fr} (ha : Rl a a') (hb : Rl b b') : Rl (subF a b) (A.subF a' b') := fun hx hy => by
  obtain ⟨h1, h2⟩ := made_fine hx
  obtain ⟨k1, k2, k3⟩ := A.subF_is (fine_bad hy)
  rw [k3.2]
  exact subF_enc (fun _ => ha h1 k1) (fun _ => hb h2 k2) (fine_is.1 hx).1
theorem Rl.mul {a b : Fr} {a' b' : A.Fr} (ha : Rl a a') (hb : Rl b b') : Rl (mulF a b) (A.mulF a' b') := fun hx hy => by
  obtain ⟨h1, h2⟩ := made_fine hx
  obtain ⟨k1, k2, k3⟩ := A.mulF_is (fine_bad hy)
  rw [k3.2]
  exact mulF_enc (fun _ => ha h1 k1) (fun _ => hb h2 k2) (fine_is.1 hx).1
theorem Rl.whole {n : Int} (h : few n) : Rl (newF n 1) (A.newF n 1) := fun hx hy => by
  have hf : A.few n := by unfold A.few; unfold few at h; omega
  rw [(A.whole_is hf).2]
  exact whole_enc h
theorem Rl.dz : Rl ⟨0, 0, 0, false⟩ ⟨0, 0, false⟩ := fun _ hy => absurd hy (by decide)

def RL (l : List Fr) (l' : List A.Fr) : Prop := l.length = l'.length ∧ ∀ k, Rl (l.getD k ⟨0, 0, 0, false⟩) (l'.getD k ⟨0, 0, false⟩)
theorem RL.nil : RL [] [] := ⟨rfl, fun k => Rl.dz⟩
theorem RL.cons {x : Fr} {y : A.Fr} {l : List Fr} {l' : List A.Fr} (h : Rl x y) (hl : RL l l') : RL (x :: l) (y :: l') := ⟨by simp [hl.1], fun k => by
  cases k with
  | zero => exact h
  | succ k => exact hl.2 k⟩
theorem RL.uncons {x : Fr} {y : A.Fr} {l : List Fr} {l' : List A.Fr} (h : RL (x :: l) (y :: l')) : Rl x y ∧ RL l l' := ⟨h.2 0, by simpa using h.1, fun k => h.2 (k + 1)⟩
theorem RL.induct {P : List Fr → List A.Fr → Prop} (h0 : P [] []) (hs : ∀ x y l l', Rl x y → RL l l' → P l l' → P (x :: l) (y :: l')) : ∀ {l : List Fr} {l' : List A.Fr}, RL l l' → P l l'
  | [], [], _ => h0
  | [], _ :: _, h => absurd h.1 (by simp)
  | _ :: _, [], h => absurd h.1 (by simp)
  | x :: l, y :: l', h => hs x y l l' h.uncons.1 h.uncons.2 (RL.induct h0 hs h.uncons.2)
theorem RL.map {f : Fr → Fr} {f' : A.Fr → A.Fr} (hf : ∀ x y, Rl x y → Rl (f x) (f' y)) {l : List Fr} {l' : List A.Fr} (h : RL l l') : RL (l.map f) (l'.map f') :=
  RL.induct (P := fun l l' => RL (l.map f) (l'.map f')) RL.nil (fun x y l l' h1 _ ih => RL.cons (hf x y h1) ih) h
theorem RL.zip {f : Fr → Fr → Fr} {f' : A.Fr → A.Fr → A.Fr} (hf : ∀ x y u v, Rl x y → Rl u v → Rl (f x u) (f' y v)) {l : List Fr} {l' : List A.Fr} (h : RL l l') : ∀ {m : List Fr} {m' : List A.Fr}, RL m m' → RL (List.zipWith f l m) (List.zipWith f' l' m') := by
  refine RL.induct (P := fun l l' => ∀ {m : List Fr} {m' : List A.Fr}, RL m m' → RL (List.zipWith f l m) (List.zipWith f' l' m')) (fun _ => by simpa using RL.nil) (fun x y l l' h1 _ ih m m' hm => ?_) h
  cases m with
  | nil =>
    cases m' with
    | nil => exact RL.nil
    | cons _ _ => exact absurd hm.1 (by simp)
  | cons u m =>
    cases m' with
    | nil => exact absurd hm.1 (by simp)
    | cons v m' => exact RL.cons (hf x y u v h1 hm.uncons.1) (ih hm.uncons.2)
theorem RL.range {g : Nat → Fr} {g' : Nat → A.Fr} (hg : ∀ i, Rl (g i) (g' i)) (l : List Nat) : RL (l.map g) (l.map g') := by
  induction l with
  | nil => exact RL.nil
  | cons x l ih => exact RL.cons (hg x) ih
theorem RL.append {l m : List Fr} {l' m' : List A.Fr} (h : RL l l') (hm : RL m m') : RL (l ++ m) (l' ++ m') :=
  RL.induct (P := fun l l' => RL (l ++ m) (l' ++ m')) hm (fun x y l l' h1 _ ih => RL.cons h1 ih) h
theorem RL.flatMap {g : Nat → List Fr} {g' : Nat → List A.Fr} (hg : ∀ i, RL (g i) (g' i)) (l : List Nat) : RL (l.flatMap g) (l.flatMap g') := by
  induction l with
  | nil => exact RL.nil
  | cons x l ih =>
    rw [List.flatMap_cons, List.flatMap_cons]
    exact RL.append (hg x) ih
theorem RL.take {l : List Fr} {l' : List A.Fr} (h : RL l l') : ∀ n, RL (l.take n) (l'.take n) := by
  refine RL.induct (P := fun l l' => ∀ n, RL (l.take n) (l'.take n)) (fun n => by simpa using RL.nil) (fun x y l l' h1 _ ih n => ?_) h
  cases n with
  | zero => exact RL.nil
  | succ n => exact RL.cons h1 (ih n)
theorem RL.drop {l : List Fr} {l' : List A.Fr} (h : RL l l') : ∀ n, RL (l.drop n) (l'.drop n) := by
  refine RL.induct (P := fun l l' => ∀ n, RL (l.drop n) (l'.drop n)) (fun n => by simpa using RL.nil) (fun x y l l' h1 h2 ih n => ?_) h
  cases n with
  | zero => exact RL.cons h1 h2
  | succ n => exact ih n
section
variable {n : Nat} {x p h : List Fr} {x' p' h' : List A.Fr} {r z : Fr} {r' z' : A.Fr}
end
end Go.Proofs.YtbflmeomkfjikaaGreat.A.E



set_option linter.unusedVariables false
set_option linter.unusedSimpArgs false
set_option maxRecDepth 100000
namespace Go.Proofs.YtbflmeomkfjikaaGreat.A.E
open Go Go.RowKit Go.Shelf

/-! ### What is not Bad is fine -/
/-! ### Enclosed numbers that enclose -/
end Go.Proofs.YtbflmeomkfjikaaGreat.A.E



set_option linter.unusedVariables false
set_option linter.unusedSimpArgs false
set_option maxRecDepth 100000
namespace Go.Proofs.YtbflmeomkfjikaaGreat.A
open Go Go.RowKit Go.Shelf

end Go.Proofs.YtbflmeomkfjikaaGreat.A



set_option linter.unusedVariables false
set_option linter.unusedSimpArgs false
set_option maxRecDepth 100000
namespace Go.Proofs.YtbflmeomkfjikaaGreat.A
open Go Go.RowKit Go.Shelf

/-! ### The function JosephWrong -/
end Go.Proofs.YtbflmeomkfjikaaGreat.A


set_option linter.unusedVariables false
set_option linter.unusedSimpArgs false
set_option maxRecDepth 100000
namespace Go.Proofs.YtbflmeomkfjikaaGreat.A
open Go Go.RowKit Go.Shelf

/-! ### Plain laws of what stays -/
end Go.Proofs.YtbflmeomkfjikaaGreat.A



set_option linter.unusedVariables false
set_option linter.unusedSimpArgs false
set_option maxRecDepth 100000
namespace Go.Proofs.YtbflmeomkfjikaaGreat.A
open Go Go.RowKit Go.Shelf

/-! ### Cases -/
end Go.Proofs.YtbflmeomkfjikaaGreat.A



set_option linter.unusedVariables false
set_option linter.unusedSimpArgs false
set_option maxRecDepth 100000
namespace Go.Proofs.YtbflmeomkfjikaaGreat.A
open Go Go.RowKit Go.Shelf

/-! ### The function JosephStill -/
end Go.Proofs.YtbflmeomkfjikaaGreat.A


set_option linter.unusedVariables false
set_option linter.unusedSimpArgs false
set_option maxRecDepth 100000
namespace Go.Proofs.YtbflmeomkfjikaaGreat.A.E
open Go Go.RowKit Go.Shelf

abbrev dz : Fr := ⟨0, 0, 0, false⟩
end Go.Proofs.YtbflmeomkfjikaaGreat.A.E



set_option linter.unusedVariables false
set_option linter.unusedSimpArgs false
set_option maxRecDepth 100000
namespace Go.Proofs.YtbflmeomkfjikaaGreat.A.E
open Go Go.RowKit Go.Shelf

/-! ### Behind an update: what stands above the diagonal -/
/-! ### Both steps of a problem -/
section
variable (n : Nat) (x root f g h : List Int) (r z : Int)
end
end Go.Proofs.YtbflmeomkfjikaaGreat.A.E



set_option linter.unusedVariables false
set_option linter.unusedSimpArgs false
set_option maxRecDepth 100000
namespace Go.Proofs.YtbflmeomkfjikaaGreat.A.E
open Go Go.RowKit Go.Shelf

/-! ### The function RootStays -/
end Go.Proofs.YtbflmeomkfjikaaGreat.A.E



set_option linter.unusedVariables false
set_option linter.unusedSimpArgs false
set_option maxRecDepth 100000
namespace Go.Proofs.YtbflmeomkfjikaaGreat.A.E
open Go Go.RowKit Go.Shelf

/-! ### The function RootOne -/
section
variable (s h r : Int)
def oneL : List Fr := clearF 1 [newF s 1]
def oneP : Fr := atF 1 1 (sqF 1 (upRS 1 (oneL s) [newF h 1] (newF r 1))) 0 0
def oneA : Fr := (upR 1 (oneL s) [newF h 1] (newF r 1)).2.2
def oneX : List Fr := upRX 1 [point 0] (oneL s) [newF h 1] (newF r 1) (newF 1 1)
def oneB : Bool := enclB (oneP s h r) (s * s * r) (s * s * h * h + r) && (enclB (oneA s h r) (s * s * h * h + r) 1 && enclB ((oneX s h r).getD 0 dz) (s * s * h) (s * s * h * h + r))
end
theorem one_all : ((List.range 5).all fun a => (List.range 5).all fun b => (List.range 5).all fun c => oneB ((a : Int) + 1) ((b : Int) + 1) ((c : Int) + 1)) = true := by decide +kernel
theorem one_at {s h r : Int} (hs : 1 ≤ s ∧ s ≤ 5) (hh : 1 ≤ h ∧ h ≤ 5) (hr : 1 ≤ r ∧ r ≤ 5) : oneB s h r = true := by
  have key := one_all
  simp only [List.all_eq_true, List.mem_range] at key
  have := key (s - 1).toNat (by omega) (h - 1).toNat (by omega) (r - 1).toNat (by omega)
  rwa [show ((s - 1).toNat : Int) + 1 = s by omega, show ((h - 1).toNat : Int) + 1 = h by omega, show ((r - 1).toNat : Int) + 1 = r by omega] at this
theorem oneX_len (s h r : Int) : (oneX s h r).length = 1 := by
  rw [oneX, upRX, List.length_zipWith, List.length_map, upRK]
  rfl
set_option maxHeartbeats 2000000 in
theorem RootOne_ok (s h r : Int) : Ok Tryz.prog 12 [num s, num h, num r] (tru true) := by
  refine ok_fn mixed Tryz.func12 (code := ?_) (h := h12) ?_ k12 ?_
  rotate_left
  · exact rfl
  unfold h12 initS
  simp -implicitDefEqProofs (maxSteps := 10000000) only [rkA, rkB, stepA, valA, simprocAttr, Tryz.ntmps12, Tryz.results12]
  by_cases hb : (1 ≤ s ∧ s ≤ 5) ∧ (1 ≤ h ∧ h ≤ 5) ∧ (1 ≤ r ∧ r ≤ 5)
  · obtain ⟨hs, hh, hr⟩ := hb
    have g1 : ¬ s < 1 := by omega
    have g2 : ¬ s > 5 := by omega
    have g3 : ¬ h < 1 := by omega
    have g4 : ¬ h > 5 := by omega
    have g5 : ¬ r < 1 := by omega
    have g6 : ¬ r > 5 := by omega
    obtain ⟨k1, k23⟩ := Bool.and_eq_true_iff.1 (one_at hs hh hr)
    obtain ⟨k2, k3⟩ := Bool.and_eq_true_iff.1 k23
    have b1 : 1 ≤ s * s ∧ s * s ≤ 25 := by
      have h1 := Int.mul_le_mul hs.2 hs.2 (by omega) (by omega)
      have h2 := Int.mul_le_mul hs.1 hs.1 (by omega) (by omega)
      omega
    have b2 : 1 ≤ s * s * h ∧ s * s * h ≤ 125 := by
      have h1 := Int.mul_le_mul b1.2 hh.2 (by omega) (by omega)
      have h2 := Int.mul_le_mul b1.1 hh.1 (by omega) (by omega)
      omega
    have b3 : 1 ≤ s * s * h * h ∧ s * s * h * h ≤ 625 := by
      have h1 := Int.mul_le_mul b2.2 hh.2 (by omega) (by omega)
      have h2 := Int.mul_le_mul b2.1 hh.1 (by omega) (by omega)
      omega
    have b4 : 1 ≤ s * s * r ∧ s * s * r ≤ 125 := by
      have h1 := Int.mul_le_mul b1.2 hr.2 (by omega) (by omega)
      have h2 := Int.mul_le_mul b1.1 hr.1 (by omega) (by omega)
      omega
    have w1 := wrapped (x := s * s) (by omega) (by omega)
    have w2 := wrapped (x := s * s * h) (by omega) (by omega)
    have w3 := wrapped (x := s * s * h * h) (by omega) (by omega)
    have w4 := wrapped (x := s * s * r) (by omega) (by omega)
    have w5 := wrapped (x := s * s * h * h + r) (by omega) (by omega)
    simp -implicitDefEqProofs (maxSteps := 10000000) only [g1, g2, g3, g4, g5, g6, rkA, rkB, stepA, valA, simprocAttr]
    have hA := ok22 1 1 true [s] (by simp)
    rw [if_pos (show right 1 1 [s].length = true from rfl)] at hA
    refine call_fn rfl rfl rfl (hA) ?_
    simp -implicitDefEqProofs (maxSteps := 10000000) only [rkA, rkB, stepA, valA, simprocAttr]
    refine call_fn rfl rfl rfl (ok53 0) ?_
    simp -implicitDefEqProofs (maxSteps := 10000000) only [rkA, rkB, stepA, valA, simprocAttr]
    have h7 := ok54 true false [point 0] [newF s 1] 1 (by omega) rfl (by simp)
    rw [if_pos (by simp)] at h7
    refine call_fn rfl rfl rfl (h7) ?_
    simp -implicitDefEqProofs (maxSteps := 10000000) only [rkA, rkB, stepA, valA, simprocAttr]
    refine call_fn rfl rfl rfl (ok56 (point 0) h) ?_
    simp -implicitDefEqProofs (maxSteps := 10000000) only [rkA, rkB, stepA, valA, simprocAttr]
    refine call_fn rfl rfl rfl (ok56 (point 0) r) ?_
    simp -implicitDefEqProofs (maxSteps := 10000000) only [rkA, rkB, stepA, valA, simprocAttr]
    refine call_fn rfl rfl rfl (ok56 (point 0) 1) ?_
    simp -implicitDefEqProofs (maxSteps := 10000000) only [rkA, rkB, stepA, valA, simprocAttr]
    have h10 := ok55 false false true 1 [point 0] (clearF 1 [newF s 1]) [newF h 1] (newF r 1) (newF 1 1) (by omega) rfl (clearF_len _ _) rfl
    have lS : (frs (upRS 1 (clearF 1 [newF s 1]) [newF h 1] (newF r 1))).length = 1 := by rw [List.length_map, upRS_len]
    have lX := oneX_len s h r
    refine call_fn rfl rfl rfl (h10) ?_
    simp -implicitDefEqProofs (maxSteps := 10000000) only [lS, bne_self_eq_false, rkA, rkB, stepA, valA, simprocAttr]
    have h22 := ok57 false false (oneX s h r) (upRS 1 (clearF 1 [newF s 1]) [newF h 1] (newF r 1)) 1 (upRS_len _ _ _ _)
    rw [if_pos (by rw [lX]; omega)] at h22
    refine call_fn rfl rfl rfl (h22) ?_
    simp -implicitDefEqProofs (maxSteps := 10000000) only [rkA, rkB, stepA, valA, simprocAttr]
    refine call_fn rfl rfl rfl (ok35 false 1 1 0 0 (sqF 1 (upRS 1 (clearF 1 [newF s 1]) [newF h 1] (newF r 1)))) ?_
    simp -implicitDefEqProofs (maxSteps := 10000000) only [w1, w2, w3, w4, w5, rkA, rkB, stepA, valA, simprocAttr]
    have k1' := ok25 (oneP s h r) (s * s * r) (s * s * h * h + r)
    rw [k1] at k1'
    refine call_fn rfl rfl rfl (k1') ?_
    simp -implicitDefEqProofs (maxSteps := 10000000) only [rkA, rkB, stepA, valA, simprocAttr]
    have k2' := ok25 (oneA s h r) (s * s * h * h + r) 1
    rw [k2] at k2'
    refine call_fn rfl rfl rfl (k2') ?_
    have hx0 : (frs (oneX s h r))[0]? = some (frV ((oneX s h r).getD 0 dz)) := by
      rw [List.getElem?_map, List.getD_eq_getElem?_getD, List.getElem?_eq_getElem (by omega)]
      rfl
    have hx0' : (frs (upRX 1 [point 0] (clearF 1 [newF s 1]) [newF h 1] (newF r 1) (newF 1 1)))[0]? = some (frV ((oneX s h r).getD 0 dz)) := hx0
    simp -implicitDefEqProofs (maxSteps := 10000000) only [hx0', w1, w2, w3, w4, w5, rkA, rkB, stepA, valA, simprocAttr]
    have k3' := ok25 ((oneX s h r).getD 0 dz) (s * s * h) (s * s * h * h + r)
    rw [k3] at k3'
    refine call_fn rfl rfl rfl (k3') ?_
    simp -implicitDefEqProofs (maxSteps := 10000000) only [rkA, rkB, stepA, valA, simprocAttr]
    refine call_fn rfl rfl rfl (ok48) ?_
    simp -implicitDefEqProofs (maxSteps := 10000000) only [rkA, rkB, stepA, valA, simprocAttr]
  · have key : s < 1 ∨ (¬ s < 1 ∧ (s > 5 ∨ (¬ s > 5 ∧ (h < 1 ∨ (¬ h < 1 ∧ (h > 5 ∨ (¬ h > 5 ∧ (r < 1 ∨ (¬ r < 1 ∧ r > 5))))))))) := by omega
    rcases key with g | ⟨g, g' | ⟨g', g2 | ⟨g2, g3 | ⟨g3, g4 | ⟨g4, g5⟩⟩⟩⟩⟩
    · simp -implicitDefEqProofs (maxSteps := 10000000) only [g, rkA, rkB, stepA, valA, simprocAttr]
      refine call_fn rfl rfl rfl (ok48) ?_
      simp -implicitDefEqProofs (maxSteps := 10000000) only [rkA, rkB, stepA, valA, simprocAttr]
    · simp -implicitDefEqProofs (maxSteps := 10000000) only [g, g', rkA, rkB, stepA, valA, simprocAttr]
      refine call_fn rfl rfl rfl (ok48) ?_
      simp -implicitDefEqProofs (maxSteps := 10000000) only [rkA, rkB, stepA, valA, simprocAttr]
    · simp -implicitDefEqProofs (maxSteps := 10000000) only [g, g', g2, rkA, rkB, stepA, valA, simprocAttr]
      refine call_fn rfl rfl rfl (ok48) ?_
      simp -implicitDefEqProofs (maxSteps := 10000000) only [rkA, rkB, stepA, valA, simprocAttr]
    · simp -implicitDefEqProofs (maxSteps := 10000000) only [g, g', g2, g3, rkA, rkB, stepA, valA, simprocAttr]
      refine call_fn rfl rfl rfl (ok48) ?_
      simp -implicitDefEqProofs (maxSteps := 10000000) only [rkA, rkB, stepA, valA, simprocAttr]
    · simp -implicitDefEqProofs (maxSteps := 10000000) only [g, g', g2, g3, g4, rkA, rkB, stepA, valA, simprocAttr]
      refine call_fn rfl rfl rfl (ok48) ?_
      simp -implicitDefEqProofs (maxSteps := 10000000) only [rkA, rkB, stepA, valA, simprocAttr]
    · simp -implicitDefEqProofs (maxSteps := 10000000) only [g, g', g2, g3, g4, g5, rkA, rkB, stepA, valA, simprocAttr]
      refine call_fn rfl rfl rfl (ok48) ?_
      simp -implicitDefEqProofs (maxSteps := 10000000) only [rkA, rkB, stepA, valA, simprocAttr]
end Go.Proofs.YtbflmeomkfjikaaGreat.A.E


