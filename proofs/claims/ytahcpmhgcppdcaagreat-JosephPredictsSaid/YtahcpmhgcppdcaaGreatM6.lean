import Derived.Test.YtahcpmhgcppdcaaGreatM5
import Derived.Test.YtahcpmhgcppdcaaGreatM3
import Derived.SizedLaws
set_option linter.unusedVariables false
set_option linter.unusedSimpArgs false
set_option maxRecDepth 100000
namespace Go.Proofs.YtahcpmhgcppdcaaGreat.A.E
open Go Go.RowKit Go.Shelf

theorem methSub : Meth Tryz.prog 24 "Sub" 242 := by
  intro v xs w
  rfl

theorem ok136 (a b : Fr) : Ok Tryz.prog 136 [frV a, frV b] (frV (addF a b)) := by
  refine ok_fn mixed Tryz.func136 (code := ?_) (h := h136) ?_ k136 ?_
  rotate_left
  · exact rfl
  unfold h136 initS
  simp -implicitDefEqProofs only [rkA, rkB, stepA, valA, simprocAttr, Tryz.ntmps136, Tryz.results136]
  refine call_meth rfl rfl methAdd (ok53 a b) ?_
  simp -implicitDefEqProofs only [rkA, rkB, stepA, valA, simprocAttr]
theorem ok74 (ea eb : Bool) (a b : List Fr) (ha : a.length ≤ 4398046511104) (hb : b.length ≤ 4398046511104) : Ok Tryz.prog 74 [.sl ea (frs a), .sl eb (frs b)] (.sl false (frs (List.zipWith addF a b))) := by
  refine ok_fn mixed Tryz.func74 (code := ?_) (h := h74) ?_ k74 ?_
  rotate_left
  · exact rfl
  unfold h74 initS
  simp -implicitDefEqProofs only [rkA, rkB, stepA, valA, simprocAttr, Tryz.ntmps74, Tryz.results74]
  refine call_fn rfl rfl rfl (ok130 136 addF ok136 ea eb a b ha hb) ?_
  simp -implicitDefEqProofs only [rkA, rkB, stepA, valA, simprocAttr]
/-- Number by number. -/
theorem ok133 (k : Nat) (F : Fr → Fr → Fr) (hF : ∀ (ea eb : Bool) (a b : List Fr), a.length ≤ 4398046511104 → b.length ≤ 4398046511104 → Ok Tryz.prog k [.sl ea (frs a), .sl eb (frs b)] (.sl false (frs (List.zipWith F a b)))) (ea eb : Bool) (r c r2 c2 : Int) (a b : List Fr) :
    Ok Tryz.prog 133 [matV ea r c (frs a), matV eb r2 c2 (frs b), .fn (.func k) []] (if right r c a.length = true ∧ right r2 c2 b.length = true ∧ r = r2 ∧ c = c2 then .tup [matV false r c (frs (List.zipWith F a b)), tru true] else .tup [matNil, tru false]) := by
  refine ok_fn mixed Tryz.func133 (code := ?_) (h := h133) ?_ k133 ?_
  rotate_left
  · exact rfl
  unfold h133 initS
  simp -implicitDefEqProofs only [rkA, rkB, stepA, valA, simprocAttr, Tryz.ntmps133, Tryz.results133]
  refine call_fn rfl rfl rfl (ok65 ea r c (frs a)) ?_
  have e : (frs a).length = a.length := by simp
  have e' : (frs b).length = b.length := by simp
  rw [e]
  cases hr : right r c a.length with
  | false => simp -implicitDefEqProofs only [rkA, rkB, stepA, valA, simprocAttr]
  | true =>
    simp -implicitDefEqProofs only [rkA, rkB, stepA, valA, simprocAttr]
    refine call_fn rfl rfl rfl (ok65 eb r2 c2 (frs b)) ?_
    rw [e']
    cases hr2 : right r2 c2 b.length with
    | false => simp -implicitDefEqProofs only [rkA, rkB, stepA, valA, simprocAttr]
    | true =>
      have l1 := right_le hr
      have l2 := right_le hr2
      simp -implicitDefEqProofs only [rkA, rkB, stepA, valA, simprocAttr]
      by_cases h1 : r = r2
      · subst h1
        simp -implicitDefEqProofs only [bne_self_eq_false, rkA, rkB, stepA, valA, simprocAttr]
        by_cases h2 : c = c2
        · subst h2
          simp -implicitDefEqProofs only [bne_self_eq_false, rkA, rkB, stepA, valA, simprocAttr]
          refine call_fn rfl rfl rfl (hF ea eb a b (by omega) (by omega)) ?_
          simp -implicitDefEqProofs only [rkA, rkB, stepA, valA, simprocAttr]
        · have hne : (c != c2) = true := by simp [h2]
          simp -implicitDefEqProofs only [hne, h2, rkA, rkB, stepA, valA, simprocAttr]
      · have hne : (r != r2) = true := by simp [h1]
        simp -implicitDefEqProofs only [hne, h1, rkA, rkB, stepA, valA, simprocAttr]

theorem ok135 (ea eb : Bool) (r c r2 c2 : Int) (a b : List Fr) : Ok Tryz.prog 135 [matV ea r c (frs a), matV eb r2 c2 (frs b)]
    (if right r c a.length = true ∧ right r2 c2 b.length = true ∧ r = r2 ∧ c = c2 then .tup [matV false r c (frs (List.zipWith addF a b)), tru true] else .tup [matNil, tru false]) := by
  refine ok_fn mixed Tryz.func135 (code := ?_) (h := h135) ?_ k135 ?_
  rotate_left
  · exact rfl
  unfold h135 initS
  simp -implicitDefEqProofs only [rkA, rkB, stepA, valA, simprocAttr, Tryz.ntmps135, Tryz.results135]
  refine call_fn rfl rfl rfl (ok133 74 addF ok74 ea eb r c r2 c2 a b) ?_
  split <;> simp -implicitDefEqProofs only [rkA, rkB, stepA, valA, simprocAttr]
def mirF (r : Int) (l : List Fr) : List Fr := gridP (fun i k => atF r r l (max i k : Nat) (min i k : Nat)) r.toNat r.toNat 0
theorem ok55 (ex : Bool) (r c : Int) (l : List Fr) : Ok Tryz.prog 55 [matV ex r c (frs l)] (if right r c l.length = true ∧ r = c then .tup [matV false r c (frs (mirF r l)), tru true] else .tup [matNil, tru false]) := by
  refine ok_fn mixed Tryz.func55 (code := ?_) (h := h55) ?_ k55 ?_
  rotate_left
  · exact rfl
  unfold h55 initS
  simp -implicitDefEqProofs only [rkA, rkB, stepA, valA, simprocAttr, Tryz.ntmps55, Tryz.results55]
  refine call_fn rfl rfl rfl (ok65 ex r c (frs l)) ?_
  have e : (frs l).length = l.length := by simp
  rw [e]
  cases hr : right r c l.length with
  | false => simp -implicitDefEqProofs only [rkA, rkB, stepA, valA, simprocAttr]
  | true =>
    obtain ⟨r1, r2, c1, c2, hn⟩ := right_spec hr
    simp -implicitDefEqProofs only [rkA, rkB, stepA, valA, simprocAttr]
    by_cases h1 : r = c
    · subst h1
      simp -implicitDefEqProofs only [bne_self_eq_false, rkA, rkB, stepA, valA, simprocAttr]
      have hlen := gridP_length (fun i k => atF r r l (max i k : Nat) (min i k : Nat)) r.toNat
      refine wp_loop (fun m s => ∃ i : Nat, i + m = r.toNat ∧ s = ⟨[jk, .ptr 1 0, .ptr 2 0, jk, .ptr 4 0, jk, jk, jk, jk, jk, jk, jk, jk, jk, jk, jk, jk, jk, jk, jk, jk, jk, jk, jk, nt r, nt i, jk, jk, jk, jk, jk, jk, jk, jk, jk, jk, jk, jk, jk, jk, jk, jk, jk, jk, jk, jk, jk, jk, jk], [(1, [nt r, nt r, .v (.sl ex (frs l))]), (2, [nt 0, nt 0, .acc 3002 []]), (4, [nt r, nt r, .acc 15004 (frs (gridP (fun i k => atF r r l (max i k : Nat) (min i k : Nat)) r.toNat i 0))])], [],
        [(3002, 0), (3004, 0), (15004, (gridP (fun i k => atF r r l (max i k : Nat) (min i k : Nat)) r.toNat i 0).length)], [], 0, nomem⟩) r.toNat ?_ ?_
      · simp -implicitDefEqProofs only [rkA, rkB, stepA, valA, simprocAttr]
        exact ⟨0, by simp, rfl⟩
      rintro m s ⟨i, hi, rfl⟩
      simp -implicitDefEqProofs only [rkA, rkB, stepA, valA, simprocAttr]
      refine gB_dec ?_ ?_ <;> intro hc <;> simp -implicitDefEqProofs only [hc, rkA, rkB, stepA, valA, simprocAttr]
      · refine wp_loop (fun m s => ∃ k : Nat, k + m = r.toNat ∧ s = ⟨[jk, .ptr 1 0, .ptr 2 0, jk, .ptr 4 0, nt i, jk, jk, jk, jk, jk, jk, jk, jk, jk, jk, jk, jk, jk, jk, jk, jk, jk, jk, nt r, nt i, jk, jk, jk, nt r, nt k, jk, jk, jk, jk, jk, jk, jk, jk, jk, jk, jk, jk, jk, jk, jk, jk, jk, jk], [(1, [nt r, nt r, .v (.sl ex (frs l))]), (2, [nt 0, nt 0, .acc 3002 []]), (4, [nt r, nt r, .acc 15004 (frs (gridP (fun i k => atF r r l (max i k : Nat) (min i k : Nat)) r.toNat i k))])], [],
          [(3002, 0), (3004, 0), (15004, (gridP (fun i k => atF r r l (max i k : Nat) (min i k : Nat)) r.toNat i k).length)], [], 0, nomem⟩) r.toNat ?_ ?_
        · simp -implicitDefEqProofs only [rkA, rkB, stepA, valA, simprocAttr]
          exact ⟨0, by simp, rfl⟩
        rintro m' s ⟨k, hk, rfl⟩
        simp -implicitDefEqProofs only [rkA, rkB, stepA, valA, simprocAttr]
        refine gB_dec ?_ ?_ <;> intro hc2 <;> simp -implicitDefEqProofs only [hc2, rkA, rkB, stepA, valA, simprocAttr]
        · have hb : i * r.toNat + k ≤ 256 := by
            have : (i + 1) * r.toNat ≤ 16 * 16 := Nat.mul_le_mul (by omega) (by omega)
            rw [Nat.add_mul] at this
            omega
          have m1 : (if (i : Int) < (k : Int) then (k : Int) else (i : Int)) = ((max i k : Nat) : Int) := by split <;> omega
          have m2 : (if (k : Int) < (i : Int) then (k : Int) else (i : Int)) = ((min i k : Nat) : Int) := by split <;> omega
          simp only [m1, m2]
          refine call_fn rfl rfl rfl (ok117 ex r r (max i k : Nat) (min i k : Nat) l) ?_
          have hl1 := hlen i k
          have hfit : fits 4 32 (frs (gridP (fun i k => atF r r l (max i k : Nat) (min i k : Nat)) r.toNat i k)) [frV (atF r r l (max i k : Nat) (min i k : Nat))] = true := fits_frs (l := [atF r r l (max i k : Nat) (min i k : Nat)]) (by simp only [List.length_cons, List.length_nil]; omega)
          have hl : (frs (gridP (fun i k => atF r r l (max i k : Nat) (min i k : Nat)) r.toNat i k)).length = (gridP (fun i k => atF r r l (max i k : Nat) (min i k : Nat)) r.toNat i k).length := by simp
          have hw := wrapped (x := (k : Int) + 1) (by omega) (by omega)
          simp -implicitDefEqProofs only [hfit, hl, hw, rkA, rkB, stepA, valA, simprocAttr]
          refine loopK_of (m' := m' - 1) (by omega) ?_
          simp -implicitDefEqProofs only [rkA, rkB, stepA, valA, simprocAttr]
          refine ⟨k + 1, by omega, ?_⟩
          rw [gridP_succ]
          simp only [frs, List.map_append, List.map_cons, List.map_nil, List.length_append, List.length_cons, List.length_nil, Int.natCast_add, Int.natCast_one]
        · have hkr : k = r.toNat := by omega
          have hw := wrapped (x := (i : Int) + 1) (by omega) (by omega)
          simp -implicitDefEqProofs only [hw, rkA, rkB, stepA, valA, simprocAttr]
          refine loopK_of (m' := m - 1) (by omega) ?_
          simp -implicitDefEqProofs only [rkA, rkB, stepA, valA, simprocAttr]
          refine ⟨i + 1, by omega, ?_⟩
          rw [hkr, gridP_next]
          simp only [Int.natCast_add, Int.natCast_one]
      · have : i = r.toNat := by omega
        subst this
        simp only [mirF]
    · have hne : (r != c) = true := by simp [h1]
      simp -implicitDefEqProofs only [hne, h1, rkA, rkB, stepA, valA, simprocAttr]

end Go.Proofs.YtahcpmhgcppdcaaGreat.A.E


set_option linter.unusedVariables false
set_option linter.unusedSimpArgs false
set_option maxRecDepth 100000
namespace Go.Proofs.YtahcpmhgcppdcaaGreat.A
open Go Go.RowKit Go.Shelf

theorem grid_of {α : Type} {g : Nat → Nat → α} {n N : Nat} {l : List α} (hl : l.length = N * n) (h : ∀ i k, i < N → k < n → l[i * n + k]? = some (g i k)) : l = gridP g n N 0 := by
  have hg := gridP_length g n N 0
  apply List.ext_getElem?
  intro j
  by_cases hj : j < N * n
  · have hn : 0 < n := by
      rcases Nat.eq_zero_or_pos n with h0 | h0
      · subst h0; simp at hj
      · exact h0
    have h1 : j / n < N := Nat.div_lt_of_lt_mul (by rwa [Nat.mul_comm] at hj)
    have h2 : j % n < n := Nat.mod_lt _ hn
    have h3 : j / n * n + j % n = j := by rw [Nat.mul_comm]; exact Nat.div_add_mod j n
    have e1 := h _ _ h1 h2
    have e2 := gridP_get g n N _ _ h1 h2
    rw [h3] at e1 e2
    rw [e1, e2]
  · rw [List.getElem?_eq_none (by omega), List.getElem?_eq_none (by omega)]
theorem gridP_congr {α : Type} {g f : Nat → Nat → α} {n N : Nat} (h : ∀ i k, i < N → k < n → g i k = f i k) : gridP g n N 0 = gridP f n N 0 := by
  rw [gridP_zero, gridP_zero]
  apply flatMap_same
  intro i hi
  apply List.map_congr_left
  intro k hk
  exact h i k (List.mem_range.1 hi) (List.mem_range.1 hk)

section
variable (a b : List Int) (R K : Nat)
end

section
variable {a b : List Int} {R K : Nat}
theorem right_nat (hR : 1 ≤ R ∧ R ≤ 16) (hK : 1 ≤ K ∧ K ≤ 16) {n : Nat} (hl : n = R * K) : right (R : Int) (K : Int) n = true := by
  simp only [right, Bool.and_eq_true, decide_eq_true_eq, beq_iff_eq]
  refine ⟨by omega, by omega, ?_⟩
  rw [hl]
  simp
end
end Go.Proofs.YtahcpmhgcppdcaaGreat.A


set_option linter.unusedVariables false
set_option linter.unusedSimpArgs false
namespace Go.Proofs.YtahcpmhgcppdcaaGreat.A
open Go Go.RowKit Go.Shelf

theorem grid_getD {g : Nat → Nat → Int} {n N i k : Nat} (hi : i < N) (hk : k < n) : (gridP g n N 0).getD (i * n + k) 0 = g i k := by
  rw [List.getD_eq_getElem?_getD, gridP_get g n N i k hi hk, Option.getD_some]
end Go.Proofs.YtahcpmhgcppdcaaGreat.A


set_option linter.unusedVariables false
set_option linter.unusedSimpArgs false
set_option maxRecDepth 100000
namespace Go.Proofs.YtahcpmhgcppdcaaGreat.A
open Go Go.RowKit Go.Shelf

/-! ### The unit -/
def unitP (n k : Nat) : List Int := gridP (fun i j => if i = j ∧ i < k then 1 else 0) n n 0
theorem unitP_length (n k : Nat) : (unitP n k).length = n * n := by rw [unitP, gridP_length, Nat.add_zero]
theorem unitP_zero (n : Nat) : unitP n 0 = List.replicate (n * n) 0 := by
  refine (grid_of (by simp) fun i k hi hk => ?_).symm
  have := at_table hi hk
  rw [List.getElem?_replicate, if_pos this.1]
  simp
theorem table_inj {n i j k : Nat} (hi : i < n) (hj : j < n) (h : i * n + j = k * n + k) (hk : k < n) : i = k ∧ j = k := by
  have h1 : (i * n + j) / n = i := by rw [Nat.mul_comm, Nat.mul_add_div (by omega), Nat.div_eq_of_lt hj, Nat.add_zero]
  have h2 : (k * n + k) / n = k := by rw [Nat.mul_comm, Nat.mul_add_div (by omega), Nat.div_eq_of_lt hk, Nat.add_zero]
  rw [h, h2] at h1
  subst h1
  exact ⟨rfl, by omega⟩
theorem unitP_succ {n k : Nat} (hk : k < n) : (unitP n k).set (k * n + k) 1 = unitP n (k + 1) := by
  refine grid_of (by rw [List.length_set, unitP_length]) fun i j hi hj => ?_
  have hg : (unitP n k)[i * n + j]? = some (if i = j ∧ i < k then 1 else 0) := gridP_get _ _ _ _ _ hi hj
  rw [List.getElem?_set]
  have ht := at_table hk hk
  by_cases h : k * n + k = i * n + j
  · obtain ⟨rfl, rfl⟩ := table_inj hi hj h.symm hk
    rw [if_pos rfl, if_pos (by rw [unitP_length]; exact ht.1)]
    simp
  · rw [if_neg h, hg]
    congr 1
    by_cases h2 : i = j
    · subst h2
      have : i ≠ k := fun e => h (by rw [e])
      by_cases h3 : i < k
      · simp [h3, show i < k + 1 by omega]
      · simp [h3, show ¬ i < k + 1 by omega]
    · simp [h2]
theorem tovs_nums : ∀ (l : List Int), tovs (l.map fun z => nt z) = some (l.map num)
  | [] => rfl
  | z :: l => by
    simp only [List.map_cons, tovs, tov, tovs_nums l]
theorem one_nums (l : List Int) : (l.map num).all PV.one = true := by
  simp [PV.one]
theorem set_nums {l : List Int} {i : Nat} (h : i < l.length) (x : Int) : (l.map fun z => nt z).take i ++ (nt x :: (l.map fun z => nt z).drop (i + 1)) = (l.set i x).map fun z => nt z := by
  rw [List.map_set, List.set_eq_take_append_cons_drop, if_pos (by simpa using h)]

theorem ok142 (n : Int) : Ok Tryz.prog 142 [num n] (if 1 ≤ n ∧ n ≤ 16 then .tup [matV false n n (frs ((unitP n.toNat n.toNat).map (newF · 1))), tru true] else .tup [matNil, tru false]) := by
  refine ok_fn mixed Tryz.func142 (code := ?_) (h := h142) ?_ k142 ?_
  rotate_left
  · exact rfl
  unfold h142 initS
  simp -implicitDefEqProofs only [rkA, rkB, stepA, valA, simprocAttr, Tryz.ntmps142, Tryz.results142]
  by_cases hn : 1 ≤ n ∧ n ≤ 16
  · rw [if_pos hn]
    obtain ⟨n1, n2⟩ := hn
    obtain ⟨N, rfl⟩ := Int.eq_ofNat_of_zero_le (show 0 ≤ n by omega)
    rw [Int.toNat_natCast]
    repeat' (refine gB_dec ?_ ?_ <;> intro hc <;> first | (exfalso; omega) | simp -implicitDefEqProofs only [hc, rkA, rkB, stepA, valA, simprocAttr])
    have s := side16 (n := N) (m := N) (by omega) (by omega)
    have cN : (N : Int) * (N : Int) = ((N * N : Nat) : Int) := by simp
    have wN := wrapped (x := ((N * N : Nat) : Int)) (by omega) (by omega)
    have hc1 : (0 : Int) ≤ ((N * N : Nat) : Int) := by omega
    have hc2 : ((N * N : Nat) : Int) * (8 : Int) ≤ 140737488355328 := by omega
    have hc3 : ((N * N : Nat) : Int) ≤ 16777216 := by omega
    have hk : (List.replicate (N * N) (nt 0)).map (TV.killPtr 16) = (unitP N 0).map fun z => nt z := by
      rw [List.map_replicate, unitP_zero, List.map_replicate]
      rfl
    simp -implicitDefEqProofs only [cN, wN, hc1, hc2, hc3, Int.toNat_natCast, hk, rkA, rkB, stepA, valA, simprocAttr]
    refine wp_loop (fun m s => ∃ k : Nat, k + m = N ∧ s = ⟨[nt N, jk, .ptr 2 0, jk, .own 16 (N * N), jk, jk, jk, jk, jk, jk, jk, jk, jk, jk, jk, jk, nt N, nt k, jk, jk, jk, jk, jk, jk, jk, jk, jk, jk, jk, jk, jk, jk, jk, jk], [(2, [nt 0, nt 0, .acc 3002 []]), (16, (unitP N k).map fun z => nt z)], [], [(3002, 0)], [], 0, nomem⟩) N ?_ ?_
    · simp -implicitDefEqProofs only [rkA, rkB, stepA, valA, simprocAttr]
      exact ⟨0, by simp, rfl⟩
    rintro m s' ⟨k, hkm, rfl⟩
    simp -implicitDefEqProofs only [rkA, rkB, stepA, valA, simprocAttr]
    refine gB_dec ?_ ?_ <;> intro hc <;> simp -implicitDefEqProofs only [hc, rkA, rkB, stepA, valA, simprocAttr]
    · have tt := at_table (i := k) (j := k) (n := N) (m := N) (by omega) (by omega)
      have c2 : (k : Int) * (N : Int) = ((k * N : Nat) : Int) := by simp
      have c3 : ((k * N : Nat) : Int) + (k : Int) = ((k * N + k : Nat) : Int) := by simp
      have w2 := wrapped (x := ((k * N : Nat) : Int)) (by omega) (by omega)
      have w3 := wrapped (x := ((k * N + k : Nat) : Int)) (by omega) (by omega)
      have w4 := wrapped (x := (k : Int) + 1) (by omega) (by omega)
      have n1 : (0 : Int) ≤ ((k * N + k : Nat) : Int) := by omega
      have n2 : ((k * N + k : Nat) : Int) < ((N * N : Nat) : Int) := by omega
      have hlen : k * N + k + 1 ≤ ((unitP N k).map fun z => nt z).length := by
        rw [List.length_map, unitP_length]
        omega
      have hset := set_nums (l := unitP N k) (i := k * N + k) (by rw [unitP_length]; exact tt.1) 1
      rw [unitP_succ (by omega)] at hset
      simp -implicitDefEqProofs only [c2, w2, c3, w3, n1, n2, Int.toNat_natCast, hlen, w4, hset, rkA, rkB, stepA, valA, simprocAttr]
      refine loopK_of (m' := m - 1) (by omega) ?_
      simp -implicitDefEqProofs only [rkA, rkB, stepA, valA, simprocAttr]
      exact ⟨k + 1, by omega, by simp only [Int.natCast_add, Int.natCast_one]⟩
    · have hkN : k = N := by omega
      subst hkN
      have hl : ((unitP k k).map num).length = k * k := by rw [List.length_map, unitP_length]
      simp -implicitDefEqProofs only [tovs_nums, one_nums, hl, rkA, rkB, stepA, valA, simprocAttr]
      have h12 := ok75 (k : Int) (k : Int) true (unitP k k) (by rw [unitP_length]; omega)
      rw [if_pos (right_nat (by omega) (by omega) (unitP_length k k))] at h12
      refine call_fn rfl rfl rfl (h12) ?_
      simp -implicitDefEqProofs only [rkA, rkB, stepA, valA, simprocAttr]
  · rw [if_neg hn]
    repeat' (refine gB_dec ?_ ?_ <;> intro hc <;> first | (exfalso; omega) | simp -implicitDefEqProofs only [hc, rkA, rkB, stepA, valA, simprocAttr])
end Go.Proofs.YtahcpmhgcppdcaaGreat.A


set_option linter.unusedVariables false
set_option linter.unusedSimpArgs false
set_option maxRecDepth 100000
namespace Go.Proofs.YtahcpmhgcppdcaaGreat.A.E
open Go Go.RowKit Go.Shelf

end Go.Proofs.YtahcpmhgcppdcaaGreat.A.E



set_option linter.unusedVariables false
set_option linter.unusedSimpArgs false
set_option maxRecDepth 100000
namespace Go.Proofs.YtahcpmhgcppdcaaGreat.A
open Go Go.RowKit Go.Shelf

/-! ### Plain laws of products -/
theorem dotI_sum (a b : List Int) (many cols i k : Nat) : ∀ j, dotI a b many cols i k j = ((List.range j).map fun j => a.getD (i * many + j) 0 * b.getD (j * cols + k) 0).sum
  | 0 => rfl
  | j + 1 => by
    simp only [dotI, List.range_succ, List.map_append, List.sum_append, List.map_cons, List.map_nil, List.sum_cons, List.sum_nil]
    rw [dotI_sum a b many cols i k j]
    omega

theorem sum_congr {f g : Nat → Int} {n : Nat} (h : ∀ j, j < n → f j = g j) : ((List.range n).map f).sum = ((List.range n).map g).sum := by
  congr 1
  apply List.map_congr_left
  intro j hj
  exact h j (List.mem_range.1 hj)
theorem sum_mul (f : Nat → Int) (c : Int) : ∀ n, ((List.range n).map f).sum * c = ((List.range n).map fun j => f j * c).sum
  | 0 => by simp
  | n + 1 => by
    simp only [List.range_succ, List.map_append, List.sum_append, List.map_cons, List.map_nil, List.sum_cons, List.sum_nil, Int.add_mul]
    rw [sum_mul f c n]
    omega
theorem mul_sum' (f : Nat → Int) (c : Int) (n : Nat) : c * ((List.range n).map f).sum = ((List.range n).map fun j => c * f j).sum := by
  rw [Int.mul_comm, sum_mul]
  exact sum_congr fun j _ => Int.mul_comm _ _
theorem sum_add (f g : Nat → Int) : ∀ n, ((List.range n).map fun j => f j + g j).sum = ((List.range n).map f).sum + ((List.range n).map g).sum
  | 0 => rfl
  | n + 1 => by
    simp only [List.range_succ, List.map_append, List.sum_append, List.map_cons, List.map_nil, List.sum_cons, List.sum_nil]
    rw [sum_add f g n]
    omega
theorem sum_swap (f : Nat → Nat → Int) : ∀ n m, ((List.range n).map fun i => ((List.range m).map fun j => f i j).sum).sum = ((List.range m).map fun j => ((List.range n).map fun i => f i j).sum).sum
  | 0, m => by
    have : ∀ m : Nat, ((List.range m).map fun _ => (0 : Int)).sum = 0 := fun m => by
      induction m with
      | zero => rfl
      | succ m ih => simp [List.range_succ, ih]
    simp [this]
  | n + 1, m => by
    simp only [List.range_succ, List.map_append, List.sum_append, List.map_cons, List.map_nil, List.sum_cons, List.sum_nil, Int.add_zero]
    rw [sum_swap f n m, sum_add]

/-- Brackets do not matter. -/
theorem mul_assoc {a b c : List Int} {N : Nat} : mulI (mulI a b N N N) c N N N = mulI a (mulI b c N N N) N N N := by
  have hg : ∀ {x y : List Int} {i k : Nat}, i < N → k < N → (mulI x y N N N).getD (i * N + k) 0 = dotI x y N N i k N := fun hi hk => grid_getD hi hk
  show gridP _ N N 0 = gridP _ N N 0
  refine gridP_congr fun i k hi hk => ?_
  rw [dotI_sum, dotI_sum]
  have e1 : ((List.range N).map fun j => (mulI a b N N N).getD (i * N + j) 0 * c.getD (j * N + k) 0).sum = ((List.range N).map fun j => ((List.range N).map fun l => a.getD (i * N + l) 0 * b.getD (l * N + j) 0 * c.getD (j * N + k) 0).sum).sum :=
    sum_congr fun j hj => by rw [hg hi hj, dotI_sum, sum_mul]
  have e2 : ((List.range N).map fun l => a.getD (i * N + l) 0 * (mulI b c N N N).getD (l * N + k) 0).sum = ((List.range N).map fun l => ((List.range N).map fun j => a.getD (i * N + l) 0 * b.getD (l * N + j) 0 * c.getD (j * N + k) 0).sum).sum :=
    sum_congr fun l hl => by
      rw [hg hl hk, dotI_sum, mul_sum']
      exact sum_congr fun j _ => by rw [Int.mul_assoc]
  rw [e1, e2, sum_swap]

end Go.Proofs.YtahcpmhgcppdcaaGreat.A


set_option linter.unusedVariables false
set_option linter.unusedSimpArgs false
set_option maxRecDepth 100000
namespace Go.Proofs.YtahcpmhgcppdcaaGreat.A
open Go Go.RowKit Go.Shelf

/-! ### Division -/
theorem methDiv : Meth Tryz.prog 109 "Div" 254 := by
  intro v xs w
  rfl

def divF (a b : Fr) : Fr := if a.fine = false ∨ b.fine = false then .wrong else newF (a.n * b.d) (a.d * b.n)
theorem ok263 (a b : Fr) (ha : a.fine = true) (hb : b.fine = true) : Ok Tryz.prog 263 [.vp [num a.n, num a.d, tru a.bad], .vp [num b.n, num b.d, tru b.bad]] (.tup [num (a.n * b.d), num (a.d * b.n)]) := by
  obtain ⟨a1, a2, a3, a4, a5⟩ := Fr.fine_spec ha
  obtain ⟨b1, b2, b3, b4, b5⟩ := Fr.fine_spec hb
  have p1 := prod_le (x := a.n) (y := b.d) ⟨a5, a4⟩ (by omega)
  have p3 := prod_le (x := a.d) (y := b.n) (by omega) ⟨b5, b4⟩
  have w1 := wrapped (x := a.n * b.d) (by omega) (by omega)
  have w3 := wrapped (x := a.d * b.n) (by omega) (by omega)
  refine ok_fn mixed Tryz.func263 (code := ?_) (h := h263) ?_ k263 ?_
  rotate_left
  · exact rfl
  unfold h263 initS
  simp -implicitDefEqProofs only [rkA, rkB, stepA, valA, simprocAttr, Tryz.ntmps263, Tryz.results263]
  simp -implicitDefEqProofs only [w1, w3, rkA, rkB, stepA, valA, simprocAttr]
theorem ok254 (a b : Fr) : Ok Tryz.prog 254 [frV a, frV b] (frV (divF a b)) := by
  refine ok_fn mixed Tryz.func254 (code := ?_) (h := h254) ?_ k254 ?_
  rotate_left
  · exact rfl
  unfold h254 initS
  simp -implicitDefEqProofs only [rkA, rkB, stepA, valA, simprocAttr, Tryz.ntmps254, Tryz.results254]
  refine call_fn rfl rfl rfl (ok262 a b 263 _ _ _ (fun ha hb => ok263 a b ha hb)) ?_
  simp -implicitDefEqProofs only [rkA, rkB, stepA, valA, simprocAttr]
  simp [divF]

/-! ### A row, scaled -/
theorem ok145 (ex : Bool) (l : List Fr) (y : Fr) (h : l.length ≤ 5864062014805) : Ok Tryz.prog 145 [.sl ex (frs l), frV y] (.sl false (frs (l.map (mulF · y)))) := by
  refine ok_fn mixed Tryz.func145 (code := ?_) (h := h145) ?_ k145 ?_
  rotate_left
  · exact rfl
  unfold h145 initS
  simp -implicitDefEqProofs only [rkA, rkB, stepA, valA, simprocAttr, Tryz.ntmps145, Tryz.results145]
  refine wp_loop (fun m s => ∃ i : Nat, i + m = l.length ∧ s = ⟨[jk, jk, jk, .ptr 3 0, jk, .acc 5 (frs ((l.take i).map (mulF · y))), jk, jk, .v (.sl ex (frs l)), nt (frs l).length, nt i, jk, jk, jk, jk, jk, jk, jk, jk, jk, jk, jk, jk], [(3, [nt y.n, nt y.d, .v (tru y.bad)])], [], [(4, 0), (5, i)], [], 0, nomem⟩) l.length ?_ ?_
  · simp -implicitDefEqProofs only [rkA, rkB, stepA, valA, simprocAttr]
    exact ⟨0, by simp, rfl⟩
  rintro m s ⟨i, hi, rfl⟩
  simp -implicitDefEqProofs only [rkA, rkB, stepA, valA, simprocAttr]
  refine gB_dec ?_ ?_ <;> intro hc <;> simp -implicitDefEqProofs only [hc, rkA, rkB, stepA, valA, simprocAttr]
  · have hlt : i < l.length := by simpa using hc
    have h0 : (0 : Int) ≤ (i : Int) := by omega
    have hg : (frs l)[i]? = some (frV l[i]) := by simp [hlt]
    simp -implicitDefEqProofs only [h0, Int.toNat_natCast, hg, rkA, rkB, stepA, valA, simprocAttr]
    refine call_meth rfl rfl methMul (ok256 l[i] y) ?_
    have hfit : fits 3 24 (frs ((l.take i).map (mulF · y))) [frV (mulF l[i] y)] = true := fits_frs (l := [mulF l[i] y]) (by simp; omega)
    have hw := wrapped (x := (i : Int) + 1) (by omega) (by omega)
    have hl : (frs ((l.take i).map (mulF · y))).length = i := by simp; omega
    simp -implicitDefEqProofs only [hfit, hl, hw, rkA, rkB, stepA, valA, simprocAttr]
    refine loopK_of (m' := m - 1) (by omega) ?_
    simp -implicitDefEqProofs only [rkA, rkB, stepA, valA, simprocAttr]
    refine ⟨i + 1, by omega, ?_⟩
    rw [List.take_succ_eq_append_getElem hlt]
    simp only [frs, List.map_append, List.map_cons, List.map_nil, Int.natCast_add, Int.natCast_one]
  · have : l.length ≤ i := by simp only [List.length_map] at hc; omega
    rw [List.take_of_length_le this]

/-! ### Squares -/
theorem ok185 (ex : Bool) (r c : Int) (l : List Fr) : Ok Tryz.prog 185 [matV ex r c (frs l)] (tru (right r c l.length && (r == c))) := by
  refine ok_fn mixed Tryz.func185 (code := ?_) (h := h185) ?_ k185 ?_
  rotate_left
  · exact rfl
  unfold h185 initS
  simp -implicitDefEqProofs only [rkA, rkB, stepA, valA, simprocAttr, Tryz.ntmps185, Tryz.results185]
  refine call_fn rfl rfl rfl (ok151 ex r c (frs l)) ?_
  have e : (frs l).length = l.length := by simp
  rw [e]
  cases hr : right r c l.length with
  | false => simp -implicitDefEqProofs only [rkA, rkB, stepA, valA, simprocAttr]
  | true => simp -implicitDefEqProofs only [rkA, rkB, stepA, valA, simprocAttr]

/-- A square. -/
def sqF (r : Int) (l : List Fr) : List Fr := mirF r (prodF r r r l (turnF r r l))
theorem prodF_len {r m c : Int} {a b : List Fr} : (prodF r m c a b).length = r.toNat * c.toNat := by
  unfold prodF
  simp only [List.length_flatMap, List.length_map, allF, List.length_range, List.map_map]
  have e : ∀ l : List Nat, (l.map ((fun _ => c.toNat) ∘ fun (i : Nat) => rowF r m a (i : Int))).sum = l.length * c.toNat := fun l => by
    induction l with
    | nil => simp
    | cons x l ih => rw [List.map_cons, List.sum_cons, ih, List.length_cons, Nat.add_mul, Nat.one_mul, Nat.add_comm]; rfl
  rw [e, List.length_range]
theorem right_sq {n : Nat} (hn : 1 ≤ n ∧ n ≤ 16) {l : List Fr} (h : l.length = n * n) : right (n : Int) (n : Int) l.length = true := right_nat hn hn h
theorem ok138 (n : Nat) (hn : 1 ≤ n ∧ n ≤ 16) (ex : Bool) (l : List Fr) (h : l.length = n * n) : Ok Tryz.prog 138 [matV ex n n (frs l)] (.tup [matV false n n (frs (sqF n l)), tru true]) := by
  have hr := right_sq hn h
  refine ok_fn mixed Tryz.func138 (code := ?_) (h := h138) ?_ k138 ?_
  rotate_left
  · exact rfl
  unfold h138 initS
  simp -implicitDefEqProofs only [rkA, rkB, stepA, valA, simprocAttr, Tryz.ntmps138, Tryz.results138]
  refine call_fn rfl rfl rfl (ok185 ex n n l) ?_
  simp -implicitDefEqProofs only [hr, beq_self_eq_true, rkA, rkB, stepA, valA, simprocAttr]
  have h25 := ok146 ex n n l
  rw [if_pos hr] at h25
  refine call_fn rfl rfl rfl (h25) ?_
  simp -implicitDefEqProofs only [rkA, rkB, stepA, valA, simprocAttr]
  have hrt := right_turn hr
  have h13 := ok143 ex false n n n n l (turnF n n l)
  rw [if_pos ⟨hr, hrt, rfl⟩] at h13
  refine call_fn rfl rfl rfl (h13) ?_
  simp -implicitDefEqProofs only [rkA, rkB, stepA, valA, simprocAttr]
  have h33 := ok186 false n n (prodF n n n l (turnF n n l))
  have hp : right (n : Int) (n : Int) (prodF n n n l (turnF n n l)).length = true := right_sq hn (by rw [prodF_len]; simp)
  rw [if_pos ⟨hp, rfl⟩] at h33
  refine call_fn rfl rfl rfl (h33) ?_
  simp -implicitDefEqProofs only [rkA, rkB, stepA, valA, simprocAttr, sqF]
end Go.Proofs.YtahcpmhgcppdcaaGreat.A


set_option linter.unusedVariables false
set_option linter.unusedSimpArgs false
set_option maxRecDepth 100000
namespace Go.Proofs.YtahcpmhgcppdcaaGreat.A.E
open Go Go.RowKit Go.Shelf

theorem methDiv : Meth Tryz.prog 24 "Div" 236 := by
  intro v xs w
  rfl

theorem ok153 (ex : Bool) (r c : Int) (l : List Fr) : Ok Tryz.prog 153 [matV ex r c (frs l)] (tru (right r c l.length && (r == c))) := by
  refine ok_fn mixed Tryz.func153 (code := ?_) (h := h153) ?_ k153 ?_
  rotate_left
  · exact rfl
  unfold h153 initS
  simp -implicitDefEqProofs only [rkA, rkB, stepA, valA, simprocAttr, Tryz.ntmps153, Tryz.results153]
  refine call_fn rfl rfl rfl (ok65 ex r c (frs l)) ?_
  have e : (frs l).length = l.length := by simp
  rw [e]
  cases hr : right r c l.length with
  | false => simp -implicitDefEqProofs only [rkA, rkB, stepA, valA, simprocAttr]
  | true => simp -implicitDefEqProofs only [rkA, rkB, stepA, valA, simprocAttr]

/-- A square. -/
def sqF (r : Int) (l : List Fr) : List Fr := mirF r (prodF r r r l (turnF r r l))
theorem prodF_len {r m c : Int} {a b : List Fr} : (prodF r m c a b).length = r.toNat * c.toNat := by
  unfold prodF
  simp only [List.length_flatMap, List.length_map, allF, List.length_range, List.map_map]
  have e : ∀ l : List Nat, (l.map ((fun _ => c.toNat) ∘ fun (i : Nat) => rowF r m a (i : Int))).sum = l.length * c.toNat := fun l => by
    induction l with
    | nil => simp
    | cons x l ih => rw [List.map_cons, List.sum_cons, ih, List.length_cons, Nat.add_mul, Nat.one_mul, Nat.add_comm]; rfl
  rw [e, List.length_range]
theorem right_sq {n : Nat} (hn : 1 ≤ n ∧ n ≤ 16) {l : List Fr} (h : l.length = n * n) : right (n : Int) (n : Int) l.length = true := right_nat hn hn h
theorem ok89 (n : Nat) (hn : 1 ≤ n ∧ n ≤ 16) (ex : Bool) (l : List Fr) (h : l.length = n * n) : Ok Tryz.prog 89 [matV ex n n (frs l)] (.tup [matV false n n (frs (sqF n l)), tru true]) := by
  have hr := right_sq hn h
  refine ok_fn mixed Tryz.func89 (code := ?_) (h := h89) ?_ k89 ?_
  rotate_left
  · exact rfl
  unfold h89 initS
  simp -implicitDefEqProofs only [rkA, rkB, stepA, valA, simprocAttr, Tryz.ntmps89, Tryz.results89]
  refine call_fn rfl rfl rfl (ok153 ex n n l) ?_
  simp -implicitDefEqProofs only [hr, beq_self_eq_true, rkA, rkB, stepA, valA, simprocAttr]
  have h25 := ok72 ex n n l
  rw [if_pos hr] at h25
  refine call_fn rfl rfl rfl (h25) ?_
  simp -implicitDefEqProofs only [rkA, rkB, stepA, valA, simprocAttr]
  have hrt := right_turn hr
  have h13 := ok69 ex false n n n n l (turnF n n l)
  rw [if_pos ⟨hr, hrt, rfl⟩] at h13
  refine call_fn rfl rfl rfl (h13) ?_
  simp -implicitDefEqProofs only [rkA, rkB, stepA, valA, simprocAttr]
  have h33 := ok55 false n n (prodF n n n l (turnF n n l))
  have hp : right (n : Int) (n : Int) (prodF n n n l (turnF n n l)).length = true := right_sq hn (by rw [prodF_len]; simp)
  rw [if_pos ⟨hp, rfl⟩] at h33
  refine call_fn rfl rfl rfl (h33) ?_
  simp -implicitDefEqProofs only [rkA, rkB, stepA, valA, simprocAttr, sqF]
end Go.Proofs.YtahcpmhgcppdcaaGreat.A.E



set_option linter.unusedVariables false
set_option linter.unusedSimpArgs false
set_option maxRecDepth 100000
namespace Go.Proofs.YtahcpmhgcppdcaaGreat.A
open Go Go.RowKit Go.Shelf

/-! ### States -/
abbrev stV (ex ep : Bool) (x : List PV) (r c : Int) (l : List PV) : PV := .agg [.sl ex x, num r, num c, .sl ep l]
abbrev stNil : PV := .agg [.s (.slice none 0 0), num 0, num 0, .s (.slice none 0 0)]
theorem Cs.st_nil {I : Imm} {xs ys : List PV} {vs : List Value} (h : Cs I (stNil :: xs) vs) (k : ∀ us, Cs I xs us → Cs I ys us) : Cs I (stV false false (frs []) 0 0 (frs []) :: ys) vs := by
  have key : ∀ us, Cs I [.s (.slice none 0 0), num 0, num 0, .s (.slice none 0 0)] us → Cs I [.sl false [], num 0, num 0, .sl false []] us := fun us h => Cs.nil_of h fun us h => Cs.keep h fun us h => Cs.keep h fun us h => Cs.nil_of h fun us h => h
  cases h with | cons h1 h2 => cases h1 with | agg hl => exact .cons (.agg (key _ hl)) (k _ h2)

def stRight (k : Nat) (r c : Int) (n : Nat) : Bool := decide (1 ≤ k ∧ k ≤ 4) && (right r c n && (r == k && c == k))
theorem ok81 (ex ep : Bool) (x l : List Fr) (r c : Int) : Ok Tryz.prog 81 [stV ex ep (frs x) r c (frs l)] (tru (stRight x.length r c l.length)) := by
  refine ok_fn mixed Tryz.func81 (code := ?_) (h := h81) ?_ k81 ?_
  rotate_left
  · exact rfl
  unfold h81 initS
  simp -implicitDefEqProofs (maxSteps := 10000000) only [rkA, rkB, stepA, valA, simprocAttr, Tryz.ntmps81, Tryz.results81]
  have e : (frs x).length = x.length := by simp
  have e' : (frs l).length = l.length := by simp
  by_cases hx : 1 ≤ x.length ∧ x.length ≤ 4
  · have h1 : (1 : Int) ≤ (x.length : Int) := by omega
    have h2 : (x.length : Int) ≤ 4 := by omega
    simp -implicitDefEqProofs (maxSteps := 10000000) only [e, h1, h2, rkA, rkB, stepA, valA, simprocAttr]
    refine call_fn rfl rfl rfl (ok151 ep r c (frs l)) ?_
    rw [e']
    cases hr : right r c l.length with
    | false => simp -implicitDefEqProofs (maxSteps := 10000000) only [stRight, hx, hr, rkA, rkB, stepA, valA, simprocAttr]
    | true =>
      simp -implicitDefEqProofs (maxSteps := 10000000) only [rkA, rkB, stepA, valA, simprocAttr]
      cases h3 : (r == (x.length : Int)) with
      | false => simp -implicitDefEqProofs (maxSteps := 10000000) only [stRight, hx, hr, h3, rkA, rkB, stepA, valA, simprocAttr]
      | true => simp -implicitDefEqProofs (maxSteps := 10000000) only [stRight, hx, hr, h3, rkA, rkB, stepA, valA, simprocAttr]
  · have hs : stRight x.length r c l.length = false := by simp -implicitDefEqProofs (maxSteps := 10000000) only [stRight, hx, rkA, rkB, stepA, valA, simprocAttr]
    rw [hs]
    by_cases h1 : 1 ≤ x.length
    · have h1' : (1 : Int) ≤ (x.length : Int) := by omega
      have h2 : ¬ (x.length : Int) ≤ 4 := by omega
      simp -implicitDefEqProofs (maxSteps := 10000000) only [e, h1', h2, rkA, rkB, stepA, valA, simprocAttr]
    · have h1' : ¬ (1 : Int) ≤ (x.length : Int) := by omega
      simp -implicitDefEqProofs (maxSteps := 10000000) only [e, h1', rkA, rkB, stepA, valA, simprocAttr]

theorem stRight_nat {k n : Nat} {m : Nat} (h : m = n * n) : stRight k n n m = decide (1 ≤ k ∧ k ≤ 4 ∧ k = n) := by
  by_cases hk : 1 ≤ k ∧ k ≤ 4
  · by_cases e : k = n
    · subst e
      have := right_nat (R := k) (K := k) (n := m) (by omega) (by omega) h
      simp [stRight, hk, this]
    · have e2 : ((n : Int) == (k : Int)) = false := by simp; omega
      simp [stRight, e2, e]
  · have : ¬ (1 ≤ k ∧ k ≤ 4 ∧ k = n) := by omega
    simp [stRight, hk, this]

theorem sqF_len (n : Nat) (l : List Fr) : (sqF n l).length = n * n := by
  rw [sqF, mirF, gridP_length]
  simp
/-! ### A new state -/
theorem ok76 (ex er : Bool) (x l : List Fr) (n : Nat) (hn : 1 ≤ n ∧ n ≤ 16) (hl : l.length = n * n) (hx : x.length ≤ 5864062014805) :
    Ok Tryz.prog 76 [.sl ex (frs x), matV er n n (frs l)] (if 1 ≤ x.length ∧ x.length ≤ 4 ∧ x.length = n then .tup [stV false false (frs x) n n (frs (sqF n l)), tru true] else .tup [stNil, tru false]) := by
  refine ok_fn mixed Tryz.func76 (code := ?_) (h := h76) ?_ k76 ?_
  rotate_left
  · exact rfl
  unfold h76 initS
  simp -implicitDefEqProofs (maxSteps := 10000000) only [rkA, rkB, stepA, valA, simprocAttr, Tryz.ntmps76, Tryz.results76]
  refine call_fn rfl rfl rfl (ok138 n hn er l hl) ?_
  simp -implicitDefEqProofs (maxSteps := 10000000) only [rkA, rkB, stepA, valA, simprocAttr]
  refine call_fn rfl rfl rfl (ok139 ex x hx) ?_
  simp -implicitDefEqProofs (maxSteps := 10000000) only [rkA, rkB, stepA, valA, simprocAttr]
  refine call_fn rfl rfl rfl (ok81 false false x (sqF n l) n n) ?_
  rw [stRight_nat (sqF_len n l)]
  by_cases h : 1 ≤ x.length ∧ x.length ≤ 4 ∧ x.length = n
  · rw [if_pos h, decide_eq_true h]
    simp -implicitDefEqProofs (maxSteps := 10000000) only [rkA, rkB, stepA, valA, simprocAttr]
  · rw [if_neg h, decide_eq_false h]
    simp -implicitDefEqProofs (maxSteps := 10000000) only [rkA, rkB, stepA, valA, simprocAttr]

/-! ### Turned -/
def turnedF (n : Nat) (m p q : List Fr) : List Fr := mirF n (List.zipWith addF (prodF n n n (prodF n n n m p) (turnF n n m)) q)
theorem turnedF_len (n : Nat) (m p q : List Fr) : (turnedF n m p q).length = n * n := by
  rw [turnedF, mirF, gridP_length]
  simp
theorem ok147 (n : Nat) (hn : 1 ≤ n ∧ n ≤ 16) (e1 e2 e3 : Bool) (m p q : List Fr) (hm : m.length = n * n) (hp : p.length = n * n) (hq : q.length = n * n) :
    Ok Tryz.prog 147 [matV e1 n n (frs m), matV e2 n n (frs p), matV e3 n n (frs q)] (.tup [matV false n n (frs (turnedF n m p q)), tru true]) := by
  have rm := right_sq hn hm
  have rp := right_sq hn hp
  have rq := right_sq hn hq
  have rt := right_turn rm
  refine ok_fn mixed Tryz.func147 (code := ?_) (h := h147) ?_ k147 ?_
  rotate_left
  · exact rfl
  unfold h147 initS
  simp -implicitDefEqProofs (maxSteps := 10000000) only [rkA, rkB, stepA, valA, simprocAttr, Tryz.ntmps147, Tryz.results147]
  have h13 := ok143 e1 e2 n n n n m p
  rw [if_pos ⟨rm, rp, rfl⟩] at h13
  refine call_fn rfl rfl rfl (h13) ?_
  simp -implicitDefEqProofs (maxSteps := 10000000) only [rkA, rkB, stepA, valA, simprocAttr]
  have h25 := ok146 e1 n n m
  rw [if_pos rm] at h25
  refine call_fn rfl rfl rfl (h25) ?_
  simp -implicitDefEqProofs (maxSteps := 10000000) only [rkA, rkB, stepA, valA, simprocAttr]
  have r1 : right (n : Int) (n : Int) (prodF n n n m p).length = true := right_sq hn (by rw [prodF_len]; simp)
  have h13' := ok143 false false n n n n (prodF n n n m p) (turnF n n m)
  rw [if_pos ⟨r1, rt, rfl⟩] at h13'
  refine call_fn rfl rfl rfl (h13') ?_
  simp -implicitDefEqProofs (maxSteps := 10000000) only [rkA, rkB, stepA, valA, simprocAttr]
  have l2 : (prodF n n n (prodF n n n m p) (turnF n n m)).length = n * n := by rw [prodF_len]; simp
  have r2 := right_sq hn l2
  have h27 := ok192 false e3 n n n n (prodF n n n (prodF n n n m p) (turnF n n m)) q
  rw [if_pos ⟨r2, rq, rfl, rfl⟩] at h27
  refine call_fn rfl rfl rfl (h27) ?_
  simp -implicitDefEqProofs (maxSteps := 10000000) only [rkA, rkB, stepA, valA, simprocAttr]
  have h33 := ok186 false n n (List.zipWith addF (prodF n n n (prodF n n n m p) (turnF n n m)) q)
  rw [if_pos ⟨right_sq hn (by rw [List.length_zipWith, l2, hq, Nat.min_self]), rfl⟩] at h33
  refine call_fn rfl rfl rfl (h33) ?_
  simp -implicitDefEqProofs (maxSteps := 10000000) only [rkA, rkB, stepA, valA, simprocAttr, turnedF]
end Go.Proofs.YtahcpmhgcppdcaaGreat.A



set_option linter.unusedVariables false
set_option linter.unusedSimpArgs false
set_option maxRecDepth 100000
namespace Go.Proofs.YtahcpmhgcppdcaaGreat.A.E
open Go Go.RowKit Go.Shelf

abbrev stV (ex ep : Bool) (x : List PV) (r c : Int) (l : List PV) : PV := .agg [.sl ex x, num r, num c, .sl ep l]
theorem Cs.st_nil {I : Imm} {xs ys : List PV} {vs : List Value} (h : Cs I (stNil :: xs) vs) (k : ∀ us, Cs I xs us → Cs I ys us) : Cs I (stV false false (frs []) 0 0 (frs []) :: ys) vs := by
  have key : ∀ us, Cs I [.s (.slice none 0 0), num 0, num 0, .s (.slice none 0 0)] us → Cs I [.sl false [], num 0, num 0, .sl false []] us := fun us h => Cs.nil_of h fun us h => Cs.keep h fun us h => Cs.keep h fun us h => Cs.nil_of h fun us h => h
  cases h with | cons h1 h2 => cases h1 with | agg hl => exact .cons (.agg (key _ hl)) (k _ h2)

theorem ok20 (ex ep : Bool) (x l : List Fr) (r c : Int) : Ok Tryz.prog 20 [stV ex ep (frs x) r c (frs l)] (tru (stRight x.length r c l.length)) := by
  refine ok_fn mixed Tryz.func20 (code := ?_) (h := h20) ?_ k20 ?_
  rotate_left
  · exact rfl
  unfold h20 initS
  simp -implicitDefEqProofs (maxSteps := 10000000) only [rkA, rkB, stepA, valA, simprocAttr, Tryz.ntmps20, Tryz.results20]
  have e : (frs x).length = x.length := by simp
  have e' : (frs l).length = l.length := by simp
  by_cases hx : 1 ≤ x.length ∧ x.length ≤ 4
  · have h1 : (1 : Int) ≤ (x.length : Int) := by omega
    have h2 : (x.length : Int) ≤ 4 := by omega
    simp -implicitDefEqProofs (maxSteps := 10000000) only [e, h1, h2, rkA, rkB, stepA, valA, simprocAttr]
    refine call_fn rfl rfl rfl (ok65 ep r c (frs l)) ?_
    rw [e']
    cases hr : right r c l.length with
    | false => simp -implicitDefEqProofs (maxSteps := 10000000) only [stRight, hx, hr, rkA, rkB, stepA, valA, simprocAttr]
    | true =>
      simp -implicitDefEqProofs (maxSteps := 10000000) only [rkA, rkB, stepA, valA, simprocAttr]
      cases h3 : (r == (x.length : Int)) with
      | false => simp -implicitDefEqProofs (maxSteps := 10000000) only [stRight, hx, hr, h3, rkA, rkB, stepA, valA, simprocAttr]
      | true => simp -implicitDefEqProofs (maxSteps := 10000000) only [stRight, hx, hr, h3, rkA, rkB, stepA, valA, simprocAttr]
  · have hs : stRight x.length r c l.length = false := by simp -implicitDefEqProofs (maxSteps := 10000000) only [stRight, hx, rkA, rkB, stepA, valA, simprocAttr]
    rw [hs]
    by_cases h1 : 1 ≤ x.length
    · have h1' : (1 : Int) ≤ (x.length : Int) := by omega
      have h2 : ¬ (x.length : Int) ≤ 4 := by omega
      simp -implicitDefEqProofs (maxSteps := 10000000) only [e, h1', h2, rkA, rkB, stepA, valA, simprocAttr]
    · have h1' : ¬ (1 : Int) ≤ (x.length : Int) := by omega
      simp -implicitDefEqProofs (maxSteps := 10000000) only [e, h1', rkA, rkB, stepA, valA, simprocAttr]

theorem sqF_len (n : Nat) (l : List Fr) : (sqF n l).length = n * n := by
  rw [sqF, mirF, gridP_length]
  simp
def turnedF (n : Nat) (m p q : List Fr) : List Fr := mirF n (List.zipWith addF (prodF n n n (prodF n n n m p) (turnF n n m)) q)
theorem turnedF_len (n : Nat) (m p q : List Fr) : (turnedF n m p q).length = n * n := by
  rw [turnedF, mirF, gridP_length]
  simp
theorem ok73 (n : Nat) (hn : 1 ≤ n ∧ n ≤ 16) (e1 e2 e3 : Bool) (m p q : List Fr) (hm : m.length = n * n) (hp : p.length = n * n) (hq : q.length = n * n) :
    Ok Tryz.prog 73 [matV e1 n n (frs m), matV e2 n n (frs p), matV e3 n n (frs q)] (.tup [matV false n n (frs (turnedF n m p q)), tru true]) := by
  have rm := right_sq hn hm
  have rp := right_sq hn hp
  have rq := right_sq hn hq
  have rt := right_turn rm
  refine ok_fn mixed Tryz.func73 (code := ?_) (h := h73) ?_ k73 ?_
  rotate_left
  · exact rfl
  unfold h73 initS
  simp -implicitDefEqProofs (maxSteps := 10000000) only [rkA, rkB, stepA, valA, simprocAttr, Tryz.ntmps73, Tryz.results73]
  have h13 := ok69 e1 e2 n n n n m p
  rw [if_pos ⟨rm, rp, rfl⟩] at h13
  refine call_fn rfl rfl rfl (h13) ?_
  simp -implicitDefEqProofs (maxSteps := 10000000) only [rkA, rkB, stepA, valA, simprocAttr]
  have h25 := ok72 e1 n n m
  rw [if_pos rm] at h25
  refine call_fn rfl rfl rfl (h25) ?_
  simp -implicitDefEqProofs (maxSteps := 10000000) only [rkA, rkB, stepA, valA, simprocAttr]
  have r1 : right (n : Int) (n : Int) (prodF n n n m p).length = true := right_sq hn (by rw [prodF_len]; simp)
  have h13' := ok69 false false n n n n (prodF n n n m p) (turnF n n m)
  rw [if_pos ⟨r1, rt, rfl⟩] at h13'
  refine call_fn rfl rfl rfl (h13') ?_
  simp -implicitDefEqProofs (maxSteps := 10000000) only [rkA, rkB, stepA, valA, simprocAttr]
  have l2 : (prodF n n n (prodF n n n m p) (turnF n n m)).length = n * n := by rw [prodF_len]; simp
  have r2 := right_sq hn l2
  have h27 := ok135 false e3 n n n n (prodF n n n (prodF n n n m p) (turnF n n m)) q
  rw [if_pos ⟨r2, rq, rfl, rfl⟩] at h27
  refine call_fn rfl rfl rfl (h27) ?_
  simp -implicitDefEqProofs (maxSteps := 10000000) only [rkA, rkB, stepA, valA, simprocAttr]
  have h33 := ok55 false n n (List.zipWith addF (prodF n n n (prodF n n n m p) (turnF n n m)) q)
  rw [if_pos ⟨right_sq hn (by rw [List.length_zipWith, l2, hq, Nat.min_self]), rfl⟩] at h33
  refine call_fn rfl rfl rfl (h33) ?_
  simp -implicitDefEqProofs (maxSteps := 10000000) only [rkA, rkB, stepA, valA, simprocAttr, turnedF]
end Go.Proofs.YtahcpmhgcppdcaaGreat.A.E



set_option linter.unusedVariables false
set_option linter.unusedSimpArgs false
set_option maxRecDepth 100000
namespace Go.Proofs.YtahcpmhgcppdcaaGreat.A.E
open Go Go.RowKit Go.Shelf

theorem applyF_len (n : Nat) (l v : List Fr) : (applyF n n l v).length = n := by simp [applyF, allF]
theorem ok27 (ex ep ef eg : Bool) (x p f g : List Fr) (n : Nat) (hn : 1 ≤ n ∧ n ≤ 4) (hx : x.length = n) (hp : p.length = n * n) (hf : f.length = n * n) (hg : g.length = n * n) :
    Ok Tryz.prog 27 [stV ex ep (frs x) n n (frs p), matV ef n n (frs f), matV eg n n (frs g)] (.tup [stV false false (frs (applyF n n f x)) n n (frs (turnedF n f p (sqF n g))), tru true]) := by
  have hn' : 1 ≤ n ∧ n ≤ 16 := by omega
  refine ok_fn mixed Tryz.func27 (code := ?_) (h := h27) ?_ k27 ?_
  rotate_left
  · exact rfl
  unfold h27 initS
  simp -implicitDefEqProofs (maxSteps := 10000000) only [rkA, rkB, stepA, valA, simprocAttr, Tryz.ntmps27, Tryz.results27]
  refine call_fn rfl rfl rfl (ok89 n hn' eg g hg) ?_
  simp -implicitDefEqProofs (maxSteps := 10000000) only [rkA, rkB, stepA, valA, simprocAttr]
  have h22 := ok66 ef ex n n f x (by omega)
  rw [if_pos ⟨right_sq hn' hf, by simp [hx]⟩] at h22
  refine call_fn rfl rfl rfl (h22) ?_
  simp -implicitDefEqProofs (maxSteps := 10000000) only [rkA, rkB, stepA, valA, simprocAttr]
  have h6 := ok20 ex ep x p n n
  rw [stRight_nat hp, decide_eq_true (show 1 ≤ x.length ∧ x.length ≤ 4 ∧ x.length = n by omega)] at h6
  refine call_fn rfl rfl rfl (h6) ?_
  simp -implicitDefEqProofs (maxSteps := 10000000) only [rkA, rkB, stepA, valA, simprocAttr]
  refine call_fn rfl rfl rfl (ok73 n hn' ef ep false f p (sqF n g) hf hp (sqF_len n g)) ?_
  simp -implicitDefEqProofs (maxSteps := 10000000) only [rkA, rkB, stepA, valA, simprocAttr]
  have h7 := ok20 false false (applyF n n f x) (turnedF n f p (sqF n g)) n n
  rw [stRight_nat (turnedF_len n f p _), applyF_len, decide_eq_true (show 1 ≤ n ∧ n ≤ 4 ∧ n = n by omega)] at h7
  refine call_fn rfl rfl rfl (h7) ?_
  simp -implicitDefEqProofs (maxSteps := 10000000) only [rkA, rkB, stepA, valA, simprocAttr]
end Go.Proofs.YtahcpmhgcppdcaaGreat.A.E



set_option linter.unusedVariables false
set_option linter.unusedSimpArgs false
set_option maxRecDepth 100000
namespace Go.Proofs.YtahcpmhgcppdcaaGreat.A.E
open Go Go.RowKit Go.Shelf

abbrev newsV (e a : Fr) : PV := .agg [num e.v, num e.lo, num e.hi, tru e.bad, num a.v, num a.lo, num a.hi, tru a.bad]
section
variable (n : Nat) (x p h : List Fr) (r z : Fr)
def uF : List Fr := applyF n n p h
def spreadF : Fr := addF (dotF h (uF n p h)) r
def surpriseF : Fr := subF z (dotF h x)
def kF : List Fr := (uF n p h).map (divF · (spreadF n p h r))
def unitF : List Fr := (unitP n n).map (newF · 1)
def mF : List Fr := List.zipWith subF (unitF n) (prodF n 1 n (kF n p h r) h)
def krkF : List Fr := prodF n 1 n ((kF n p h r).map (mulF · r)) (turnF n 1 (kF n p h r))
def upP : List Fr := turnedF n (mF n p h r) p (krkF n p h r)
def upX : List Fr := List.zipWith addF x ((kF n p h r).map (mulF · (surpriseF x h z)))
end
end Go.Proofs.YtahcpmhgcppdcaaGreat.A.E



set_option linter.unusedVariables false
set_option linter.unusedSimpArgs false
set_option maxRecDepth 100000
namespace Go.Proofs.YtahcpmhgcppdcaaGreat.A
open Go Go.RowKit Go.Shelf

/-! ### Predict -/
theorem applyF_len (n : Nat) (l v : List Fr) : (applyF n n l v).length = n := by simp [applyF, allF]
end Go.Proofs.YtahcpmhgcppdcaaGreat.A



set_option linter.unusedVariables false
set_option linter.unusedSimpArgs false
set_option maxRecDepth 100000
namespace Go.Proofs.YtahcpmhgcppdcaaGreat.A
open Go Go.RowKit Go.Shelf

/-! ### Update -/
abbrev newsV (e a : Fr) : PV := .agg [num e.n, num e.d, tru e.bad, num a.n, num a.d, tru a.bad]
section
variable (n : Nat) (x p h : List Fr) (r z : Fr)
def uF : List Fr := applyF n n p h
def spreadF : Fr := addF (dotF h (uF n p h)) r
def surpriseF : Fr := subF z (dotF h x)
def kF : List Fr := (uF n p h).map (divF · (spreadF n p h r))
def unitF : List Fr := (unitP n n).map (newF · 1)
def mF : List Fr := List.zipWith subF (unitF n) (prodF n 1 n (kF n p h r) h)
def krkF : List Fr := prodF n 1 n ((kF n p h r).map (mulF · r)) (turnF n 1 (kF n p h r))
def upP : List Fr := turnedF n (mF n p h r) p (krkF n p h r)
def upX : List Fr := List.zipWith addF x ((kF n p h r).map (mulF · (surpriseF x h z)))
end
set_option maxHeartbeats 2000000 in
theorem ok78 (ex ep eh : Bool) (n : Nat) (x p h : List Fr) (r z : Fr) (hn : 1 ≤ n ∧ n ≤ 4) (hx : x.length = n) (hp : p.length = n * n) (hh : h.length = n) :
    Ok Tryz.prog 78 [stV ex ep (frs x) n n (frs p), .sl eh (frs h), frV r, frV z] (.tup [stV false false (frs (upX n x p h r z)) n n (frs (upP n p h r)), newsV (surpriseF x h z) (spreadF n p h r), tru true]) := by
  have hn' : 1 ≤ n ∧ n ≤ 16 := by omega
  refine ok_fn mixed Tryz.func78 (code := ?_) (h := h78) ?_ k78 ?_
  rotate_left
  · exact rfl
  unfold h78 initS
  simp -implicitDefEqProofs (maxSteps := 10000000) only [rkA, rkB, stepA, valA, simprocAttr, Tryz.ntmps78, Tryz.results78]
  have h6 := ok81 ex ep x p n n
  rw [stRight_nat hp, decide_eq_true (show 1 ≤ x.length ∧ x.length ≤ 4 ∧ x.length = n by omega)] at h6
  refine call_fn rfl rfl rfl (h6) ?_
  have lx : (frs x).length = n := by simp [hx]
  have lh : (frs h).length = n := by simp [hh]
  simp -implicitDefEqProofs (maxSteps := 10000000) only [lx, lh, bne_self_eq_false, rkA, rkB, stepA, valA, simprocAttr]
  have h22 := ok140 ep eh n n p h (by omega)
  rw [if_pos ⟨right_sq hn' hp, by simp [hh]⟩] at h22
  refine call_fn rfl rfl rfl (h22) ?_
  simp -implicitDefEqProofs (maxSteps := 10000000) only [rkA, rkB, stepA, valA, simprocAttr]
  refine call_fn rfl rfl rfl (ok141 eh false h (applyF n n p h) (by omega) (by rw [applyF_len]; omega)) ?_
  simp -implicitDefEqProofs (maxSteps := 10000000) only [rkA, rkB, stepA, valA, simprocAttr]
  refine call_meth rfl rfl methAdd (ok253 (dotF h (applyF n n p h)) r) ?_
  simp -implicitDefEqProofs (maxSteps := 10000000) only [rkA, rkB, stepA, valA, simprocAttr]
  refine call_fn rfl rfl rfl (ok141 eh ex h x (by omega) (by omega)) ?_
  simp -implicitDefEqProofs (maxSteps := 10000000) only [rkA, rkB, stepA, valA, simprocAttr]
  refine call_meth rfl rfl methSub (ok261 z (dotF h x)) ?_
  simp -implicitDefEqProofs (maxSteps := 10000000) only [rkA, rkB, stepA, valA, simprocAttr]
  have hu : (frs (applyF n n p h)).length = n := by simp [applyF_len]
  have hul := applyF_len n p h
  generalize hud : applyF n n p h = u at hu hul
  generalize had : addF (dotF h u) r = a
  generalize hed : subF z (dotF h x) = e
  refine wp_loop (fun m s => ∃ i : Nat, i + m = n ∧ s = ⟨[jk, .v (.sl eh (frs h)), jk, jk, .ptr 4 0, jk, .ptr 6 0, jk, .ptr 8 0, .ptr 9 0, jk, nt n, jk, jk, .ptr 14 0, .ptr 15 0, .acc 16 (frs ((u.take i).map (divF · a))), jk, jk, jk, jk, jk, jk, jk, jk, jk, jk, jk, jk, jk, jk, jk, jk, jk, jk, jk, jk, jk, jk, jk, jk, jk, jk, jk, jk, jk, jk, jk, jk, jk, jk, jk, jk, jk, jk, jk, jk, jk, jk, jk, jk, jk, jk, jk, jk, jk, jk, jk, jk, .v (.sl false (frs u)), nt n, nt i, jk, jk, jk, jk, jk, jk, jk, jk, jk, jk, jk, jk, jk, jk, jk, jk, jk, jk, jk, jk, jk, jk, jk, jk, jk, jk, jk, jk, jk, jk, jk, jk, jk, jk, jk, jk, jk, jk, jk, jk, jk, jk, jk, jk, jk, jk, jk, jk, jk, jk, jk, jk, jk, jk, jk, jk, jk, jk, jk, jk, jk, jk, jk, jk, jk, jk, jk, jk, jk, jk, jk, jk, jk, jk, jk, jk, jk, jk],
    [(4, [.v (.sl ex (frs x)), nt n, nt n, .v (.sl ep (frs p))]), (6, [nt r.n, nt r.d, .v (tru r.bad)]), (7, [nt z.n, nt z.d, .v (tru z.bad)]), (8, [.acc 1008 [], nt 0, nt 0, .acc 4008 []]), (9, [nt 0, nt 0, .v (tru false), nt 0, nt 0, .v (tru false)]),
      (14, [nt a.n, nt a.d, .v (tru a.bad)]), (15, [nt e.n, nt e.d, .v (tru e.bad)])], [], [(16, i), (1008, 0), (4008, 0)], [], 0, nomem⟩) n ?_ ?_
  · simp -implicitDefEqProofs (maxSteps := 10000000) only [hu, rkA, rkB, stepA, valA, simprocAttr]
    exact ⟨0, by simp, rfl⟩
  rintro m s ⟨i, hi, rfl⟩
  simp -implicitDefEqProofs (maxSteps := 10000000) only [rkA, rkB, stepA, valA, simprocAttr]
  refine gB_dec ?_ ?_ <;> intro hc <;> simp -implicitDefEqProofs (maxSteps := 10000000) only [hc, rkA, rkB, stepA, valA, simprocAttr]
  · have hlt : i < u.length := by omega
    have h0 : (0 : Int) ≤ (i : Int) := by omega
    have hg : (frs u)[i]? = some (frV u[i]) := by simp [hlt]
    simp -implicitDefEqProofs (maxSteps := 10000000) only [h0, Int.toNat_natCast, hg, rkA, rkB, stepA, valA, simprocAttr]
    refine call_meth rfl rfl methDiv (ok254 u[i] a) ?_
    have hfit : fits 3 24 (frs ((u.take i).map (divF · a))) [frV (divF u[i] a)] = true := fits_frs (l := [divF u[i] a]) (by simp; omega)
    have hw := wrapped (x := (i : Int) + 1) (by omega) (by omega)
    have hl : (frs ((u.take i).map (divF · a))).length = i := by simp; omega
    simp -implicitDefEqProofs (maxSteps := 10000000) only [hfit, hl, hw, rkA, rkB, stepA, valA, simprocAttr]
    refine loopK_of (m' := m - 1) (by omega) ?_
    simp -implicitDefEqProofs (maxSteps := 10000000) only [rkA, rkB, stepA, valA, simprocAttr]
    refine ⟨i + 1, by omega, ?_⟩
    rw [List.take_succ_eq_append_getElem hlt]
    simp only [frs, List.map_append, List.map_cons, List.map_nil, Int.natCast_add, Int.natCast_one]
  · have hin : u.length ≤ i := by omega
    rw [List.take_of_length_le hin]
    have hk1 : (u.map (divF · a)).length = n := by simp [hul]
    have hkd : u.map (divF · a) = kF n p h r := by simp only [kF, spreadF, uF, hud, had]
    generalize hkk : u.map (divF · a) = k at hk1 hkd
    have hkl : (frs k).length = n := by simp [hk1]
    have rk : right (n : Int) 1 k.length = true := right_nat (R := n) (K := 1) hn' (by omega) (by omega)
    have rh : right 1 (n : Int) h.length = true := right_nat (R := 1) (K := n) (by omega) hn' (by omega)
    have h1 := ok137 n 1 false k (by omega)
    rw [if_pos rk] at h1
    refine call_fn rfl rfl rfl (h1) ?_
    simp -implicitDefEqProofs (maxSteps := 10000000) only [rkA, rkB, stepA, valA, simprocAttr]
    have h2 := ok137 1 n eh h (by omega)
    rw [if_pos rh] at h2
    refine call_fn rfl rfl rfl (h2) ?_
    simp -implicitDefEqProofs (maxSteps := 10000000) only [rkA, rkB, stepA, valA, simprocAttr]
    have h3 := ok142 n
    rw [if_pos (by omega), Int.toNat_natCast] at h3
    refine call_fn rfl rfl rfl (h3) ?_
    simp -implicitDefEqProofs (maxSteps := 10000000) only [rkA, rkB, stepA, valA, simprocAttr]
    have h4 := ok143 false false n 1 1 n k h
    rw [if_pos ⟨rk, rh, rfl⟩] at h4
    refine call_fn rfl rfl rfl (h4) ?_
    simp -implicitDefEqProofs (maxSteps := 10000000) only [rkA, rkB, stepA, valA, simprocAttr]
    have l4 : (prodF n 1 n k h).length = n * n := by rw [prodF_len]; simp
    have ru : right (n : Int) (n : Int) ((unitP n n).map (newF · 1)).length = true := right_sq hn' (by rw [List.length_map, unitP_length])
    have h5 := ok144 false false n n n n ((unitP n n).map (newF · 1)) (prodF n 1 n k h)
    rw [if_pos ⟨ru, right_sq hn' l4, rfl, rfl⟩] at h5
    refine call_fn rfl rfl rfl (h5) ?_
    simp -implicitDefEqProofs (maxSteps := 10000000) only [rkA, rkB, stepA, valA, simprocAttr]
    refine call_fn rfl rfl rfl (ok145 false k r (by omega)) ?_
    simp -implicitDefEqProofs (maxSteps := 10000000) only [rkA, rkB, stepA, valA, simprocAttr]
    have rs : right (n : Int) 1 (k.map (mulF · r)).length = true := right_nat (R := n) (K := 1) hn' (by omega) (by simp [hk1])
    have h7 := ok137 n 1 false (k.map (mulF · r)) (by simp; omega)
    rw [if_pos rs] at h7
    refine call_fn rfl rfl rfl (h7) ?_
    simp -implicitDefEqProofs (maxSteps := 10000000) only [rkA, rkB, stepA, valA, simprocAttr]
    have h8 := ok146 false n 1 k
    rw [if_pos rk] at h8
    refine call_fn rfl rfl rfl (h8) ?_
    simp -implicitDefEqProofs (maxSteps := 10000000) only [rkA, rkB, stepA, valA, simprocAttr]
    have h9 := ok143 false false n 1 1 n (k.map (mulF · r)) (turnF n 1 k)
    rw [if_pos ⟨rs, right_turn rk, rfl⟩] at h9
    refine call_fn rfl rfl rfl (h9) ?_
    simp -implicitDefEqProofs (maxSteps := 10000000) only [rkA, rkB, stepA, valA, simprocAttr]
    have l5 : (List.zipWith subF ((unitP n n).map (newF · 1)) (prodF n 1 n k h)).length = n * n := by rw [List.length_zipWith, List.length_map, unitP_length, l4, Nat.min_self]
    refine call_fn rfl rfl rfl (ok147 n hn' false ep false (List.zipWith subF ((unitP n n).map (newF · 1)) (prodF n 1 n k h)) p (prodF n 1 n (k.map (mulF · r)) (turnF n 1 k)) l5 hp (by rw [prodF_len]; simp)) ?_
    simp -implicitDefEqProofs (maxSteps := 10000000) only [rkA, rkB, stepA, valA, simprocAttr]
    refine call_fn rfl rfl rfl (ok145 false k e (by omega)) ?_
    simp -implicitDefEqProofs (maxSteps := 10000000) only [rkA, rkB, stepA, valA, simprocAttr]
    refine call_fn rfl rfl rfl (ok148 ex false x (k.map (mulF · e)) (by omega) (by simp; omega)) ?_
    simp -implicitDefEqProofs (maxSteps := 10000000) only [rkA, rkB, stepA, valA, simprocAttr]
    simp -implicitDefEqProofs (maxSteps := 10000000) only [upX, upP, mF, krkF, unitF, surpriseF, spreadF, uF, hud, had, hed, ← hkd, rkA, rkB, stepA, valA, simprocAttr]
end Go.Proofs.YtahcpmhgcppdcaaGreat.A


set_option linter.unusedVariables false
set_option linter.unusedSimpArgs false
set_option maxRecDepth 100000
namespace Go.Proofs.YtahcpmhgcppdcaaGreat.A
open Go Go.RowKit Go.Shelf

/-! ### Fractions as numbers -/
def Fr.val (x : Fr) : Rat := (x.n : Rat) / (x.d : Rat)
theorem cast_ne {d : Int} (h : d ≠ 0) : (d : Rat) ≠ 0 := by
  intro e
  exact h (Rat.intCast_inj.1 (by simpa using e))
theorem div_val {n d m e : Int} (hd : d ≠ 0) (he : e ≠ 0) (h : (n : Rat) / d = (m : Rat) / e) : n * e = m * d := by
  have h1 := cast_ne hd
  have h2 := cast_ne he
  have h3 : (n : Rat) * e = (m : Rat) * d := by grind
  rw [← Rat.intCast_mul, ← Rat.intCast_mul] at h3
  exact Rat.intCast_inj.1 h3

/-- What New tells, where it is not Bad. -/
theorem newF_spec {n d : Int} (h : (newF n d).bad = false) : d ≠ 0 ∧ 0 < (newF n d).d ∧ (newF n d).n * d = n * (newF n d).d ∧ Int.gcd (newF n d).n (newF n d).d = 1 ∧ (newF n d).d ≤ 1073741824 ∧ (newF n d).n ≤ 1073741824 ∧ -1073741824 ≤ (newF n d).n := by
  unfold newF at h ⊢
  by_cases h1 : n > 1152921504606846976 ∨ n < -1152921504606846976 ∨ d > 1152921504606846976 ∨ d < -1152921504606846976 ∨ d = 0
  · rw [if_pos h1] at h; cases h
  rw [if_neg h1] at h ⊢
  simp only at h ⊢
  have hd : d ≠ 0 := by omega
  have key : ∀ m e : Int, 0 < e → m * d = n * e → ∀ x : Fr, x = (if m.tdiv (Int.gcd m e : Int) > 1073741824 ∨ m.tdiv (Int.gcd m e : Int) < -1073741824 ∨ e.tdiv (Int.gcd m e : Int) > 1073741824 then Fr.wrong else ⟨m.tdiv (Int.gcd m e : Int), e.tdiv (Int.gcd m e : Int), false⟩) → x.bad = false →
      d ≠ 0 ∧ 0 < x.d ∧ x.n * d = n * x.d ∧ Int.gcd x.n x.d = 1 ∧ x.d ≤ 1073741824 ∧ x.n ≤ 1073741824 ∧ -1073741824 ≤ x.n := by
    intro m e he hme x hx hb
    have hg : 0 < Int.gcd m e := Int.gcd_pos_of_ne_zero_right m (by omega)
    obtain ⟨m', hm'⟩ := Int.gcd_dvd_left m e
    obtain ⟨e', he'⟩ := Int.gcd_dvd_right m e
    generalize hk : Int.gcd m e = k at *
    have hk0 : (k : Int) ≠ 0 := by omega
    have q1 : m.tdiv (k : Int) = m' := by rw [hm', Int.mul_tdiv_cancel_left _ hk0]
    have q2 : e.tdiv (k : Int) = e' := by rw [he', Int.mul_tdiv_cancel_left _ hk0]
    rw [q1, q2] at hx
    have hcop : Int.gcd m' e' = 1 := by
      have h3 : Int.gcd ((k : Int) * m') ((k : Int) * e') = k * Int.gcd m' e' := by
        rw [Int.gcd_mul_left]; simp
      rw [← hm', ← he', hk] at h3
      have : k * 1 = k * Int.gcd m' e' := by omega
      exact (Nat.eq_of_mul_eq_mul_left hg this).symm
    have he0 : 0 < e' := by
      have h4 : 0 < (k : Int) * e' := by rw [← he']; exact he
      exact Int.pos_of_mul_pos_right h4 (by omega)
    split at hx
    · rw [hx] at hb; cases hb
    · rename_i hns
      subst hx
      refine ⟨hd, he0, ?_, hcop, by simp only; omega, by simp only; omega, by simp only; omega⟩
      simp only
      rw [hm', he'] at hme
      have : (k : Int) * (m' * d) = (k : Int) * (n * e') := by
        rw [← Int.mul_assoc, hme, ← Int.mul_assoc, ← Int.mul_assoc, Int.mul_comm (k : Int) n]
      exact Int.eq_of_mul_eq_mul_left hk0 this
  by_cases hneg : d < 0
  · simp only [hneg, if_true] at h ⊢
    exact key (-n) (-d) (by omega) (by rw [Int.neg_mul, Int.mul_neg]) _ rfl h
  · simp only [hneg, if_false] at h ⊢
    exact key n d (by omega) rfl _ rfl h

theorem fine_low {x : Fr} (h : x.fine = true) : x.bad = false ∧ 0 < x.d ∧ Int.gcd x.n x.d = 1 := by
  obtain ⟨h1, h2, h3, h4, h5⟩ := Fr.fine_spec h
  refine ⟨h1, by omega, ?_⟩
  have hn : newF x.n x.d = x := by
    unfold Fr.fine at h
    simp only [Bool.and_eq_true, beq_iff_eq, decide_eq_true_eq] at h
    obtain ⟨n, d, b⟩ := x
    obtain ⟨_, k1, k2, k3, _⟩ := h
    generalize newF n d = y at *
    obtain ⟨n', d', b'⟩ := y
    simp only at k1 k2 k3
    rw [k1, k2, k3]
  have hb : (newF x.n x.d).bad = false := by rw [hn]; exact h1
  obtain ⟨_, _, _, g, _⟩ := newF_spec hb
  rw [hn] at g
  exact g
theorem dvd_cop {a b c : Int} (h : a ∣ b * c) (g : Int.gcd b a = 1) : a ∣ c := by
  rw [← Int.natAbs_dvd_natAbs] at h ⊢
  rw [Int.natAbs_mul] at h
  refine Nat.Coprime.dvd_of_dvd_mul_left ?_ h
  rw [Int.gcd_comm] at g
  exact g
/-- What stands for the same number is the same. -/
theorem fine_inj {a b : Fr} (ha : a.fine = true) (hb : b.fine = true) (h : a.val = b.val) : a = b := by
  obtain ⟨a1, a2, a3⟩ := fine_low ha
  obtain ⟨b1, b2, b3⟩ := fine_low hb
  have e := div_val (by omega) (by omega) h
  have c1 : a.d ∣ b.d := by
    have : a.d ∣ a.n * b.d := ⟨b.n, by rw [e, Int.mul_comm]⟩
    exact dvd_cop this a3
  have c2 : b.d ∣ a.d := by
    have : b.d ∣ b.n * a.d := ⟨a.n, by rw [← e, Int.mul_comm]⟩
    exact dvd_cop this b3
  have hd : a.d = b.d := Int.dvd_antisymm (by omega) (by omega) c1 c2
  rw [hd] at e
  have hn : a.n = b.n := Int.eq_of_mul_eq_mul_right (by omega) e
  obtain ⟨n, d, x⟩ := a
  obtain ⟨n', d', x'⟩ := b
  simp only at hd hn a1 b1
  rw [hd, hn, a1, b1]
/-- x stands for the number v. -/
def Is (x : Fr) (v : Rat) : Prop := x.fine = true ∧ x.val = v
theorem Is.inj {a b : Fr} {v : Rat} (ha : Is a v) (hb : Is b v) : a = b := fine_inj ha.1 hb.1 (ha.2.trans hb.2.symm)
end Go.Proofs.YtahcpmhgcppdcaaGreat.A


set_option linter.unusedVariables false
set_option linter.unusedSimpArgs false
set_option maxRecDepth 100000
namespace Go.Proofs.YtahcpmhgcppdcaaGreat.A
open Go Go.RowKit Go.Shelf

/-! ### Sums of numbers -/
/-! ### Dots -/
abbrev dz : Fr := ⟨0, 0, false⟩
/-! ### Products, entry by entry -/
theorem list_range {l : List Fr} {n : Nat} (h : l.length = n) : l = (List.range n).map fun j => l.getD j dz := by
  apply List.ext_getElem
  · simp [h]
  · intro j h1 h2
    simp [h1]
theorem prodF_grid {R M K : Nat} {a b : List Fr} (hR : 1 ≤ R ∧ R ≤ 16) (hM : 1 ≤ M ∧ M ≤ 16) (hK : 1 ≤ K ∧ K ≤ 16) (la : a.length = R * M) (lb : b.length = M * K) :
    prodF R M K a b = gridP (fun i k => dotF ((List.range M).map fun j => a.getD (i * M + j) dz) ((List.range M).map fun j => b.getD (j * K + k) dz)) K R 0 := by
  have h1 := right_nat (n := a.length) hR hM la
  have h2 := right_nat (n := b.length) hM hK lb
  have h3 := right_turn h2
  unfold prodF allF
  rw [gridP_zero, List.flatMap_map, Int.toNat_natCast, Int.toNat_natCast]
  apply flatMap_same
  intro i hi
  rw [List.mem_range] at hi
  rw [List.map_map]
  apply List.map_congr_left
  intro k hk
  rw [List.mem_range] at hk
  simp only [Function.comp]
  rw [rowF_eq dz h1 (by simpa using hi), rowF_eq dz h3 (by simpa using hk), Int.toNat_natCast]
  congr 1
  apply List.map_congr_left
  intro j hj
  rw [List.mem_range] at hj
  rw [turnF_eq h2, Int.toNat_natCast, Int.toNat_natCast, List.getD_eq_getElem?_getD, gridP_get _ _ _ _ _ hk hj, Option.getD_some, atF_eq h2 (by simpa using hj) (by simpa using hk), Int.toNat_natCast]
theorem grid_at {g : Nat → Nat → Fr} {n N i k : Nat} (hi : i < N) (hk : k < n) : (gridP g n N 0).getD (i * n + k) dz = g i k := by
  rw [List.getD_eq_getElem?_getD, gridP_get _ _ _ _ _ hi hk, Option.getD_some]
theorem turnF_len {R K : Nat} {l : List Fr} (hR : 1 ≤ R ∧ R ≤ 16) (hK : 1 ≤ K ∧ K ≤ 16) (hl : l.length = R * K) : (turnF R K l).length = K * R := by
  rw [turnF_length (right_nat hR hK hl)]; simp
theorem apply_at {n : Nat} {l v : List Fr} (hn : 1 ≤ n ∧ n ≤ 16) (hl : l.length = n * n) {i : Nat} (hi : i < n) : (applyF n n l v).getD i dz = dotF ((List.range n).map fun j => l.getD (i * n + j) dz) v := by
  have h := right_nat (n := l.length) hn hn hl
  unfold applyF allF
  rw [List.map_map, Int.toNat_natCast]
  simp [hi]
  rw [rowF_eq dz h (by simpa using hi), Int.toNat_natCast]
  simp
end Go.Proofs.YtahcpmhgcppdcaaGreat.A


set_option linter.unusedVariables false
set_option linter.unusedSimpArgs false
set_option maxRecDepth 100000
namespace Go.Proofs.YtahcpmhgcppdcaaGreat.A.E
open Go Go.RowKit Go.Shelf

abbrev dz : Fr := ⟨0, 0, 0, false⟩
theorem list_range {l : List Fr} {n : Nat} (h : l.length = n) : l = (List.range n).map fun j => l.getD j dz := by
  apply List.ext_getElem
  · simp [h]
  · intro j h1 h2
    simp [h1]
theorem prodF_grid {R M K : Nat} {a b : List Fr} (hR : 1 ≤ R ∧ R ≤ 16) (hM : 1 ≤ M ∧ M ≤ 16) (hK : 1 ≤ K ∧ K ≤ 16) (la : a.length = R * M) (lb : b.length = M * K) :
    prodF R M K a b = gridP (fun i k => dotF ((List.range M).map fun j => a.getD (i * M + j) dz) ((List.range M).map fun j => b.getD (j * K + k) dz)) K R 0 := by
  have h1 := right_nat (n := a.length) hR hM la
  have h2 := right_nat (n := b.length) hM hK lb
  have h3 := right_turn h2
  unfold prodF allF
  rw [gridP_zero, List.flatMap_map, Int.toNat_natCast, Int.toNat_natCast]
  apply flatMap_same
  intro i hi
  rw [List.mem_range] at hi
  rw [List.map_map]
  apply List.map_congr_left
  intro k hk
  rw [List.mem_range] at hk
  simp only [Function.comp]
  rw [rowF_eq dz h1 (by simpa using hi), rowF_eq dz h3 (by simpa using hk), Int.toNat_natCast]
  congr 1
  apply List.map_congr_left
  intro j hj
  rw [List.mem_range] at hj
  rw [turnF_eq h2, Int.toNat_natCast, Int.toNat_natCast, List.getD_eq_getElem?_getD, gridP_get _ _ _ _ _ hk hj, Option.getD_some, atF_eq h2 (by simpa using hj) (by simpa using hk), Int.toNat_natCast]
theorem grid_at {g : Nat → Nat → Fr} {n N i k : Nat} (hi : i < N) (hk : k < n) : (gridP g n N 0).getD (i * n + k) dz = g i k := by
  rw [List.getD_eq_getElem?_getD, gridP_get _ _ _ _ _ hi hk, Option.getD_some]
theorem turnF_len {R K : Nat} {l : List Fr} (hR : 1 ≤ R ∧ R ≤ 16) (hK : 1 ≤ K ∧ K ≤ 16) (hl : l.length = R * K) : (turnF R K l).length = K * R := by
  rw [turnF_length (right_nat hR hK hl)]; simp
theorem apply_at {n : Nat} {l v : List Fr} (hn : 1 ≤ n ∧ n ≤ 16) (hl : l.length = n * n) {i : Nat} (hi : i < n) : (applyF n n l v).getD i dz = dotF ((List.range n).map fun j => l.getD (i * n + j) dz) v := by
  have h := right_nat (n := l.length) hn hn hl
  unfold applyF allF
  rw [List.map_map, Int.toNat_natCast]
  simp [hi]
  rw [rowF_eq dz h (by simpa using hi), Int.toNat_natCast]
  simp
end Go.Proofs.YtahcpmhgcppdcaaGreat.A.E


set_option linter.unusedVariables false
set_option linter.unusedSimpArgs false
set_option maxRecDepth 100000
namespace Go.Proofs.YtahcpmhgcppdcaaGreat.A
open Go Go.RowKit Go.Shelf

/-! ### Functions that hand new rows back -/
theorem frs_cells (l : List Fr) : ∀ e ∈ frs l, e.cells.length = 3 := fun e he => by
  obtain ⟨x, _, rfl⟩ := List.mem_map.1 he
  rfl
theorem tell_row {m : Mem} {b cap q : Nat} {l : List Fr} (hm : m b = some (flat (frs l) ++ List.replicate q .junk)) (hc : (frs l).length ≤ cap) : Tell m (.s (.slice (some ⟨b, 0, none⟩) (frs l).length cap)) (.sl false (frs l)) := by
  refine .row hm (frs_cells l) rfl (by simp) hc (fun h => by cases h) ?_
  rw [List.drop_zero, List.take_left]
  exact Tells.same _ _

end Go.Proofs.YtahcpmhgcppdcaaGreat.A


set_option linter.unusedVariables false
set_option linter.unusedSimpArgs false
set_option maxRecDepth 100000
namespace Go.Proofs.YtahcpmhgcppdcaaGreat.A.E
open Go Go.RowKit Go.Shelf

theorem frs_cells (l : List Fr) : ∀ e ∈ frs l, e.cells.length = 4 := fun e he => by
  obtain ⟨x, _, rfl⟩ := List.mem_map.1 he
  rfl
theorem tell_row {m : Mem} {b cap q : Nat} {l : List Fr} (hm : m b = some (flat (frs l) ++ List.replicate q .junk)) (hc : (frs l).length ≤ cap) : Tell m (.s (.slice (some ⟨b, 0, none⟩) (frs l).length cap)) (.sl false (frs l)) := by
  refine .row hm (frs_cells l) rfl (by simp) hc (fun h => by cases h) ?_
  rw [List.drop_zero, List.take_left]
  exact Tells.same _ _

end Go.Proofs.YtahcpmhgcppdcaaGreat.A.E


set_option linter.unusedVariables false
set_option linter.unusedSimpArgs false
set_option maxRecDepth 100000
namespace Go.Proofs.YtahcpmhgcppdcaaGreat.A
open Go Go.RowKit Go.Shelf

end Go.Proofs.YtahcpmhgcppdcaaGreat.A


set_option linter.unusedVariables false
set_option linter.unusedSimpArgs false
set_option maxRecDepth 100000
namespace Go.Proofs.YtahcpmhgcppdcaaGreat.A.E
open Go Go.RowKit Go.Shelf

end Go.Proofs.YtahcpmhgcppdcaaGreat.A.E


set_option linter.unusedVariables false
set_option linter.unusedSimpArgs false
set_option maxRecDepth 100000
namespace Go.Proofs.YtahcpmhgcppdcaaGreat.A
open Go Go.RowKit Go.Shelf

/-! ### Squares in memory, row by row -/
def rowM (n : Nat) (M : Nat → Nat → Fr) (i : Nat) : List Fr := (List.range n).map (M i)
def setM (M : Nat → Nat → Fr) (i k : Nat) (x : Fr) : Nat → Nat → Fr := fun a b => if a = i ∧ b = k then x else M a b
theorem rowM_length (n : Nat) (M : Nat → Nat → Fr) (i : Nat) : (rowM n M i).length = n := by simp [rowM]
theorem rowM_get {n : Nat} {M : Nat → Nat → Fr} {i k : Nat} (h : k < n) : (rowM n M i)[k]? = some (M i k) := by simp [rowM, h]
theorem rowM_set {n : Nat} {M : Nat → Nat → Fr} {i k : Nat} {x : Fr} (h : k < n) : (rowM n M i).set k x = rowM n (setM M i k x) i := by
  apply List.ext_getElem?
  intro j
  rw [List.getElem?_set]
  by_cases hj : j < n
  · by_cases e : k = j
    · subst e
      rw [if_pos rfl, if_pos (by rw [rowM_length]; exact h), rowM_get h]
      simp [setM]
    · rw [if_neg e, rowM_get hj, rowM_get hj]
      have : ¬ (j = k) := fun h => e h.symm
      simp [setM, this]
  · rw [if_neg (by omega), List.getElem?_eq_none (by rw [rowM_length]; omega), List.getElem?_eq_none (by rw [rowM_length]; omega)]
theorem rowM_other {n : Nat} {M : Nat → Nat → Fr} {i j k : Nat} {x : Fr} (h : j ≠ i) : rowM n (setM M i k x) j = rowM n M j := by
  simp [rowM, setM, h]

abbrev rawRow (c n : Nat) : PV := .s (.slice (some ⟨c, 0, none⟩) n n)
abbrev nilRow : PV := .s (.slice none 0 0)
/-- The rows' row: b of n are there. -/
def headR (n b : Nat) (c : Nat → Nat) : List PV := (List.range n).map fun j => if j < b then rawRow (c j) n else nilRow
theorem headR_length (n b : Nat) (c : Nat → Nat) : (headR n b c).length = n := by simp [headR]
structure RowsIn (m : Mem) (R : Nat) (c : Nat → Nat) (n b : Nat) (M : Nat → Nat → Fr) : Prop where
  head : m R = some (headR n b c)
  row : ∀ i, i < b → m (c i) = some (flat (frs (rowM n M i)))
  ne : ∀ i, i < b → c i ≠ R
  inj : ∀ i j, i < b → j < b → c i = c j → i = j

theorem RowsIn.store {m : Mem} {R : Nat} {c : Nat → Nat} {n b : Nat} {M : Nat → Nat → Fr} (h : RowsIn m R c n b M) {i k : Nat} (hi : i < b) (hk : k < n) (x : Fr) :
    RowsIn (m.put (c i) (flat (frs ((rowM n M i).set k x)))) R c n b (setM M i k x) where
  head := by rw [Mem.put_other _ _ (fun e => h.ne i hi e.symm)]; exact h.head
  row := fun j hj => by
    by_cases e : j = i
    · subst e
      rw [Mem.put_same, rowM_set hk]
    · rw [Mem.put_other _ _ (fun e' => e (h.inj j i hj hi e')), rowM_other e]
      exact h.row j hj
  ne := h.ne
  inj := h.inj

theorem tells_map {α : Type} {m : Mem} {f g : α → PV} : ∀ {l : List α}, (∀ x ∈ l, Tell m (f x) (g x)) → Tells m (l.map f) (l.map g)
  | [], _ => .nil
  | x :: l, h => .cons (h x (by simp)) (tells_map fun y hy => h y (by simp [hy]))

/-- The rows, as values. -/
abbrev rowsV (n : Nat) (M : Nat → Nat → Fr) : PV := .sl true ((List.range n).map fun i => .sl false (frs (rowM n M i)))
theorem flat_one {l : List PV} (h : ∀ x ∈ l, x.cells = [x]) : flat l = l := by
  induction l with
  | nil => rfl
  | cons x l ih =>
    have e1 := h x (by simp)
    have e2 := ih fun y hy => h y (by simp [hy])
    simp only [flat, List.flatMap_cons, e1] at e2 ⊢
    rw [e2]
    rfl
theorem RowsIn.tell {m : Mem} {R : Nat} {c : Nat → Nat} {n : Nat} {M : Nat → Nat → Fr} (h : RowsIn m R c n n M) : Tell m (rawRow R n) (rowsV n M) := by
  have hf : flat ((List.range n).map fun i => PV.sl false (frs (rowM n M i))) = (List.range n).map fun i => PV.sl false (frs (rowM n M i)) := flat_one fun x hx => by
    obtain ⟨i, _, rfl⟩ := List.mem_map.1 hx
    rfl
  refine .row (sz := 1) h.head (fun x hx => ?_) (by simp) (by rw [hf, headR_length]; simp) (Nat.le_refl _) (fun _ => rfl) ?_
  · obtain ⟨i, _, rfl⟩ := List.mem_map.1 hx
    rfl
  · rw [hf, List.drop_zero, List.take_of_length_le (by rw [headR_length]; simp)]
    refine tells_map fun i hi => ?_
    have hi' := List.mem_range.1 hi
    rw [if_pos hi']
    have e := h.row i hi'
    rw [← List.append_nil (flat _)] at e
    have := tell_row (m := m) (b := c i) (cap := n) (q := 0) (l := rowM n M i) e (by simp [rowM_length])
    simpa [rowM_length] using this

/-! ### The root of a square -/
/-- While the rows are made: noughts so far, zero values behind. -/
def zeroM (i k : Nat) : Nat → Nat → Fr := fun a b => if a < i ∨ a = i ∧ b < k then newF 0 1 else ⟨0, 0, false⟩

theorem zero_row (n i : Nat) : rowM n (zeroM i 0) i = List.replicate n ⟨0, 0, false⟩ := by
  apply List.ext_getElem?
  intro j
  by_cases h : j < n
  · rw [rowM_get h]; simp [zeroM, h]
  · rw [List.getElem?_eq_none (by rw [rowM_length]; omega), List.getElem?_eq_none (by simp; omega)]
theorem RowsIn.grow {m : Mem} {R : Nat} {c : Nat → Nat} {n i b : Nat} (h : RowsIn m R c n i (zeroM i 0)) (hi : i < n) (hb : m b = none) :
    RowsIn ((m.put b (flat (frs (List.replicate n (⟨0, 0, false⟩ : Fr))))).put R (headR n (i + 1) (fun j => if j = i then b else c j))) R (fun j => if j = i then b else c j) n (i + 1) (zeroM i 0) := by
  have hRb : R ≠ b := fun e => by have := h.head; rw [e, hb] at this; cases this
  have hcb : ∀ j, j < i → c j ≠ b := fun j hj e => by have := h.row j hj; rw [e, hb] at this; cases this
  refine ⟨Mem.put_same _ _ _, fun j hj => ?_, fun j hj => ?_, fun j k hj hk => ?_⟩
  · by_cases e : j = i
    · subst e
      rw [if_pos rfl, Mem.put_other _ _ (fun e => hRb e.symm), Mem.put_same, zero_row]
    · rw [if_neg e, Mem.put_other _ _ (h.ne j (by omega)), Mem.put_other _ _ (hcb j (by omega))]
      exact h.row j (by omega)
  · by_cases e : j = i
    · rw [if_pos e]; exact fun e => hRb e.symm
    · rw [if_neg e]; exact h.ne j (by omega)
  · by_cases e : j = i <;> by_cases e' : k = i
    · intro _; omega
    · rw [if_pos e, if_neg e']
      exact fun h1 => absurd h1.symm (hcb k (by omega))
    · rw [if_neg e, if_pos e']
      exact fun h1 => absurd h1 (hcb j (by omega))
    · rw [if_neg e, if_neg e']
      exact h.inj j k (by omega) (by omega)
theorem RowsIn.congr {m : Mem} {R : Nat} {c : Nat → Nat} {n b : Nat} {M N : Nat → Nat → Fr} (h : RowsIn m R c n b M) (hMN : ∀ i k, i < b → k < n → M i k = N i k) : RowsIn m R c n b N :=
  ⟨h.head, fun i hi => by
    have e : rowM n N i = rowM n M i := by
      unfold rowM
      exact List.map_congr_left fun k hk => (hMN i k hi (List.mem_range.1 hk)).symm
    rw [e]
    exact h.row i hi, h.ne, h.inj⟩

end Go.Proofs.YtahcpmhgcppdcaaGreat.A


set_option linter.unusedVariables false
set_option linter.unusedSimpArgs false
set_option maxRecDepth 100000
namespace Go.Proofs.YtahcpmhgcppdcaaGreat.A.E
open Go Go.RowKit Go.Shelf

def rowM (n : Nat) (M : Nat → Nat → Fr) (i : Nat) : List Fr := (List.range n).map (M i)
def setM (M : Nat → Nat → Fr) (i k : Nat) (x : Fr) : Nat → Nat → Fr := fun a b => if a = i ∧ b = k then x else M a b
theorem rowM_length (n : Nat) (M : Nat → Nat → Fr) (i : Nat) : (rowM n M i).length = n := by simp [rowM]
theorem rowM_get {n : Nat} {M : Nat → Nat → Fr} {i k : Nat} (h : k < n) : (rowM n M i)[k]? = some (M i k) := by simp [rowM, h]
theorem rowM_set {n : Nat} {M : Nat → Nat → Fr} {i k : Nat} {x : Fr} (h : k < n) : (rowM n M i).set k x = rowM n (setM M i k x) i := by
  apply List.ext_getElem?
  intro j
  rw [List.getElem?_set]
  by_cases hj : j < n
  · by_cases e : k = j
    · subst e
      rw [if_pos rfl, if_pos (by rw [rowM_length]; exact h), rowM_get h]
      simp [setM]
    · rw [if_neg e, rowM_get hj, rowM_get hj]
      have : ¬ (j = k) := fun h => e h.symm
      simp [setM, this]
  · rw [if_neg (by omega), List.getElem?_eq_none (by rw [rowM_length]; omega), List.getElem?_eq_none (by rw [rowM_length]; omega)]
theorem rowM_other {n : Nat} {M : Nat → Nat → Fr} {i j k : Nat} {x : Fr} (h : j ≠ i) : rowM n (setM M i k x) j = rowM n M j := by
  simp [rowM, setM, h]

structure RowsIn (m : Mem) (R : Nat) (c : Nat → Nat) (n b : Nat) (M : Nat → Nat → Fr) : Prop where
  head : m R = some (headR n b c)
  row : ∀ i, i < b → m (c i) = some (flat (frs (rowM n M i)))
  ne : ∀ i, i < b → c i ≠ R
  inj : ∀ i j, i < b → j < b → c i = c j → i = j

theorem RowsIn.store {m : Mem} {R : Nat} {c : Nat → Nat} {n b : Nat} {M : Nat → Nat → Fr} (h : RowsIn m R c n b M) {i k : Nat} (hi : i < b) (hk : k < n) (x : Fr) :
    RowsIn (m.put (c i) (flat (frs ((rowM n M i).set k x)))) R c n b (setM M i k x) where
  head := by rw [Mem.put_other _ _ (fun e => h.ne i hi e.symm)]; exact h.head
  row := fun j hj => by
    by_cases e : j = i
    · subst e
      rw [Mem.put_same, rowM_set hk]
    · rw [Mem.put_other _ _ (fun e' => e (h.inj j i hj hi e')), rowM_other e]
      exact h.row j hj
  ne := h.ne
  inj := h.inj

/-- The rows, as values. -/
abbrev rowsV (n : Nat) (M : Nat → Nat → Fr) : PV := .sl true ((List.range n).map fun i => .sl false (frs (rowM n M i)))
theorem RowsIn.tell {m : Mem} {R : Nat} {c : Nat → Nat} {n : Nat} {M : Nat → Nat → Fr} (h : RowsIn m R c n n M) : Tell m (rawRow R n) (rowsV n M) := by
  have hf : flat ((List.range n).map fun i => PV.sl false (frs (rowM n M i))) = (List.range n).map fun i => PV.sl false (frs (rowM n M i)) := flat_one fun x hx => by
    obtain ⟨i, _, rfl⟩ := List.mem_map.1 hx
    rfl
  refine .row (sz := 1) h.head (fun x hx => ?_) (by simp) (by rw [hf, headR_length]; simp) (Nat.le_refl _) (fun _ => rfl) ?_
  · obtain ⟨i, _, rfl⟩ := List.mem_map.1 hx
    rfl
  · rw [hf, List.drop_zero, List.take_of_length_le (by rw [headR_length]; simp)]
    refine tells_map fun i hi => ?_
    have hi' := List.mem_range.1 hi
    rw [if_pos hi']
    have e := h.row i hi'
    rw [← List.append_nil (flat _)] at e
    have := tell_row (m := m) (b := c i) (cap := n) (q := 0) (l := rowM n M i) e (by simp [rowM_length])
    simpa [rowM_length] using this

/-- While the rows are made: noughts so far, zero values behind. -/
def zeroM (i k : Nat) : Nat → Nat → Fr := fun a b => if a < i ∨ a = i ∧ b < k then newF 0 1 else ⟨0, 0, 0, false⟩

theorem zero_row (n i : Nat) : rowM n (zeroM i 0) i = List.replicate n ⟨0, 0, 0, false⟩ := by
  apply List.ext_getElem?
  intro j
  by_cases h : j < n
  · rw [rowM_get h]; simp [zeroM, h]
  · rw [List.getElem?_eq_none (by rw [rowM_length]; omega), List.getElem?_eq_none (by simp; omega)]
theorem RowsIn.grow {m : Mem} {R : Nat} {c : Nat → Nat} {n i b : Nat} (h : RowsIn m R c n i (zeroM i 0)) (hi : i < n) (hb : m b = none) :
    RowsIn ((m.put b (flat (frs (List.replicate n (⟨0, 0, 0, false⟩ : Fr))))).put R (headR n (i + 1) (fun j => if j = i then b else c j))) R (fun j => if j = i then b else c j) n (i + 1) (zeroM i 0) := by
  have hRb : R ≠ b := fun e => by have := h.head; rw [e, hb] at this; cases this
  have hcb : ∀ j, j < i → c j ≠ b := fun j hj e => by have := h.row j hj; rw [e, hb] at this; cases this
  refine ⟨Mem.put_same _ _ _, fun j hj => ?_, fun j hj => ?_, fun j k hj hk => ?_⟩
  · by_cases e : j = i
    · subst e
      rw [if_pos rfl, Mem.put_other _ _ (fun e => hRb e.symm), Mem.put_same, zero_row]
    · rw [if_neg e, Mem.put_other _ _ (h.ne j (by omega)), Mem.put_other _ _ (hcb j (by omega))]
      exact h.row j (by omega)
  · by_cases e : j = i
    · rw [if_pos e]; exact fun e => hRb e.symm
    · rw [if_neg e]; exact h.ne j (by omega)
  · by_cases e : j = i <;> by_cases e' : k = i
    · intro _; omega
    · rw [if_pos e, if_neg e']
      exact fun h1 => absurd h1.symm (hcb k (by omega))
    · rw [if_neg e, if_pos e']
      exact fun h1 => absurd h1 (hcb j (by omega))
    · rw [if_neg e, if_neg e']
      exact h.inj j k (by omega) (by omega)
theorem RowsIn.congr {m : Mem} {R : Nat} {c : Nat → Nat} {n b : Nat} {M N : Nat → Nat → Fr} (h : RowsIn m R c n b M) (hMN : ∀ i k, i < b → k < n → M i k = N i k) : RowsIn m R c n b N :=
  ⟨h.head, fun i hi => by
    have e : rowM n N i = rowM n M i := by
      unfold rowM
      exact List.map_congr_left fun k hk => (hMN i k hi (List.mem_range.1 hk)).symm
    rw [e]
    exact h.row i hi, h.ne, h.inj⟩

end Go.Proofs.YtahcpmhgcppdcaaGreat.A.E


set_option linter.unusedVariables false
set_option linter.unusedSimpArgs false
set_option maxRecDepth 100000
namespace Go.Proofs.YtahcpmhgcppdcaaGreat.A.E
open Go Go.RowKit Go.Shelf

theorem ok89n (e : Bool) (r c : Int) (l : List Fr) (h : (right r c l.length && (r == c)) = false) : Ok Tryz.prog 89 [matV e r c (frs l)] (.tup [matNil, tru false]) := by
  refine ok_fn mixed Tryz.func89 (code := ?_) (h := h89) ?_ k89 ?_
  rotate_left
  · exact rfl
  unfold h89 initS
  simp -implicitDefEqProofs only [rkA, rkB, stepA, valA, simprocAttr, Tryz.ntmps89, Tryz.results89]
  have h904 := ok153 e r c l
  rw [h] at h904
  refine call_fn rfl rfl rfl (h904) ?_
  simp -implicitDefEqProofs only [rkA, rkB, stepA, valA, simprocAttr]

end Go.Proofs.YtahcpmhgcppdcaaGreat.A.E



set_option linter.unusedVariables false
set_option linter.unusedSimpArgs false
set_option maxRecDepth 100000
namespace Go.Proofs.YtahcpmhgcppdcaaGreat.A.E
open Go Go.RowKit Go.Shelf

/-! ### The reference's rows and tables -/
theorem fr_get {l : List Fr} {i : Nat} (h : i < l.length) : (frs l)[i]? = some (frV (l.getD i dz)) := by
  rw [List.getElem?_map, List.getD_eq_getElem?_getD, List.getElem?_eq_getElem h]
  rfl
theorem sumF_snoc (l : List Fr) (x : Fr) : sumF (l ++ [x]) = addF (sumF l) x := by
  unfold sumF
  rw [List.foldl_append]
  rfl
theorem dot_take {a b : List Fr} {k : Nat} (ha : k < a.length) (hb : k < b.length) : dotF (a.take (k + 1)) (b.take (k + 1)) = addF (dotF (a.take k) (b.take k)) (mulF (a.getD k dz) (b.getD k dz)) := by
  unfold dotF
  rw [List.take_succ_eq_append_getElem ha, List.take_succ_eq_append_getElem hb, List.zipWith_append (by simp; omega)]
  simp only [List.zipWith_cons_cons, List.zipWith_nil_left]
  rw [sumF_snoc, List.getD_eq_getElem?_getD, List.getD_eq_getElem?_getD, List.getElem?_eq_getElem ha, List.getElem?_eq_getElem hb]
  rfl
theorem ok84 (ea eb : Bool) (a b : List Fr) (ha : a.length ≤ 4398046511104) (hb : b.length ≤ 4398046511104) : Ok Tryz.prog 84 [.sl ea (frs a), .sl eb (frs b)] (frV (dotF a b)) := by
  have la : (frs a).length = a.length := by simp
  have lb : (frs b).length = b.length := by simp
  refine ok_fn mixed Tryz.func84 (code := ?_) (h := h84) ?_ k84 ?_
  rotate_left
  · exact rfl
  unfold h84 initS
  simp -implicitDefEqProofs (maxSteps := 10000000) only [rkA, rkB, stepA, valA, simprocAttr, Tryz.ntmps84, Tryz.results84]
  refine wp_loop (fun m s => ∃ (k : Nat) (o : Fr), k + m = a.length ∧ k ≤ b.length ∧ o = dotF (a.take k) (b.take k) ∧ s = ⟨[.v (.sl ea (frs a)), .v (.sl eb (frs b)), jk, jk, .ptr 4 0, .ptr 5 0, nt k, jk, jk, jk, jk, jk, jk, jk, jk, jk, jk, jk, jk, jk, jk, jk, jk, jk, jk, jk, jk, jk, jk, jk, jk], [(4, [nt 0, nt 0, nt 0, .v (tru false)]), (5, [nt o.v, nt o.lo, nt o.hi, .v (tru o.bad)])], [], [], [], 0, nomem⟩) a.length ?_ ?_
  · simp -implicitDefEqProofs (maxSteps := 10000000) only [rkA, rkB, stepA, valA, simprocAttr]
    exact ⟨0, ⟨0, 0, 0, false⟩, by omega, by omega, by rw [List.take_zero, List.take_zero]; decide, rfl⟩
  rintro m s ⟨k, o, hk, hkb, ho, rfl⟩
  simp -implicitDefEqProofs (maxSteps := 10000000) only [la, lb, rkA, rkB, stepA, valA, simprocAttr]
  have h0 := nat0 k
  have hw := wrapped (x := (k : Int) + 1) (by omega) (by omega)
  by_cases h1 : k < a.length
  · have h1' : (k : Int) < (a.length : Int) := by omega
    by_cases h2 : k < b.length
    · have h2' : (k : Int) < (b.length : Int) := by omega
      have ga := fr_get h1
      have gb := fr_get h2
      simp -implicitDefEqProofs (maxSteps := 10000000) only [la, lb, h1', h2', h0, Int.toNat_natCast, ga, gb, rkA, rkB, stepA, valA, simprocAttr]
      refine call_fn rfl rfl rfl (ok83c (a.getD k dz) (b.getD k dz)) ?_
      simp -implicitDefEqProofs (maxSteps := 10000000) only [rkA, rkB, stepA, valA, simprocAttr]
      refine call_fn rfl rfl rfl (ok83a o (mulF (a.getD k dz) (b.getD k dz))) ?_
      simp -implicitDefEqProofs (maxSteps := 10000000) only [hw, rkA, rkB, stepA, valA, simprocAttr]
      refine loopK_of (m' := m - 1) (by omega) ?_
      simp -implicitDefEqProofs (maxSteps := 10000000) only [rkA, rkB, stepA, valA, simprocAttr]
      exact ⟨k + 1, addF o (mulF (a.getD k dz) (b.getD k dz)), by omega, by omega, by rw [dot_take h1 h2, ho], by simp only [Int.natCast_add, Int.natCast_one]⟩
    · have h2' : ¬ (k : Int) < (b.length : Int) := by omega
      simp -implicitDefEqProofs (maxSteps := 10000000) only [la, lb, h1', h2', rkA, rkB, stepA, valA, simprocAttr]
      have hd : dotF a b = o := by
        rw [ho]
        unfold dotF
        congr 1
        apply List.ext_getElem?
        intro i
        rw [List.getElem?_zipWith, List.getElem?_zipWith]
        by_cases hi : i < k
        · rw [List.getElem?_take_of_lt hi, List.getElem?_take_of_lt hi]
        · rw [List.getElem?_eq_none (l := b) (by omega), List.getElem?_eq_none (l := b.take k) (by simp; omega)]
          cases a[i]? <;> cases (a.take k)[i]? <;> rfl
      rw [hd]
  · have h1' : ¬ (k : Int) < (a.length : Int) := by omega
    simp -implicitDefEqProofs (maxSteps := 10000000) only [h1', rkA, rkB, stepA, valA, simprocAttr]
    have hd : dotF a b = o := by
      rw [ho]
      unfold dotF
      congr 1
      apply List.ext_getElem?
      intro i
      rw [List.getElem?_zipWith, List.getElem?_zipWith]
      by_cases hi : i < k
      · rw [List.getElem?_take_of_lt hi, List.getElem?_take_of_lt hi]
      · rw [List.getElem?_eq_none (l := a) (by omega), List.getElem?_eq_none (l := a.take k) (by simp; omega)]
    rw [hd]
/-- A product of tables, dot by dot. -/
def dotP (a b : List Fr) (many cols i k : Nat) : Fr := dotF ((List.range many).map fun j => a.getD (i * many + j) dz) ((List.range many).map fun j => b.getD (j * cols + k) dz)
set_option maxHeartbeats 2000000 in
theorem ok82 (ea eb : Bool) (a b : List Fr) (rows many cols : Nat) (hr : rows ≤ 16) (hm : many ≤ 16) (hc : cols ≤ 16) (la : a.length = rows * many) (lb : b.length = many * cols) :
    Ok Tryz.prog 82 [.sl ea (frs a), num rows, num many, .sl eb (frs b), num cols] (.sl false (frs (gridP (dotP a b many cols) cols rows 0))) := by
  have laf : (frs a).length = a.length := by simp
  have b1 : rows * many ≤ 256 := side16 hr hm
  have b2 : many * cols ≤ 256 := side16 hm hc
  have b3 : rows * cols ≤ 256 := side16 hr hc
  refine ok_fn mixed Tryz.func82 (code := ?_) (h := h82) ?_ k82 ?_
  rotate_left
  · exact rfl
  unfold h82 initS
  simp -implicitDefEqProofs (maxSteps := 10000000) only [rkA, rkB, stepA, valA, simprocAttr, Tryz.ntmps82, Tryz.results82]
  refine wp_loop (fun m s => ∃ i : Nat, i + m = rows ∧ s = ⟨[.v (.sl ea (frs a)), nt rows, nt many, .v (.sl eb (frs b)), nt cols, jk, jk, jk, jk, jk, jk, .acc 11 (frs (gridP (dotP a b many cols) cols i 0)), nt i, jk, jk, jk, jk, jk, jk, jk, jk, jk, jk, jk, jk, jk, jk, jk, jk, jk, jk, jk, jk, jk, jk, jk, jk, jk, jk, jk, jk, jk, jk, jk, jk, jk, jk, jk, jk, jk, jk, jk, jk, jk, jk, jk, jk], [], [], [(10, 0), (11, (gridP (dotP a b many cols) cols i 0).length), (14, 0)], [], 0, nomem⟩) rows ?_ ?_
  · simp -implicitDefEqProofs (maxSteps := 10000000) only [rkA, rkB, stepA, valA, simprocAttr]
    exact ⟨0, by omega, rfl⟩
  rintro m s ⟨i, hi, rfl⟩
  simp -implicitDefEqProofs (maxSteps := 10000000) only [rkA, rkB, stepA, valA, simprocAttr]
  refine gB_dec ?_ ?_ <;> intro hcd <;> simp -implicitDefEqProofs (maxSteps := 10000000) only [hcd, rkA, rkB, stepA, valA, simprocAttr]
  · have hir : i < rows := by omega
    refine wp_loop (fun m s => ∃ k : Nat, k + m = cols ∧ s = ⟨[.v (.sl ea (frs a)), nt rows, nt many, .v (.sl eb (frs b)), nt cols, jk, jk, jk, jk, jk, jk, .acc 11 (frs (gridP (dotP a b many cols) cols i k)), nt i, nt k, jk, jk, jk, jk, jk, jk, jk, jk, jk, jk, jk, jk, jk, jk, jk, jk, jk, jk, jk, jk, jk, jk, jk, jk, jk, jk, jk, jk, jk, jk, jk, jk, jk, jk, jk, jk, jk, jk, jk, jk, jk, jk, jk], [], [], [(10, 0), (11, (gridP (dotP a b many cols) cols i k).length), (14, 0)], [], 0, nomem⟩) cols ?_ ?_
    · simp -implicitDefEqProofs (maxSteps := 10000000) only [rkA, rkB, stepA, valA, simprocAttr]
      exact ⟨0, by omega, rfl⟩
    rintro m' s ⟨k, hk, rfl⟩
    simp -implicitDefEqProofs (maxSteps := 10000000) only [rkA, rkB, stepA, valA, simprocAttr]
    refine gB_dec ?_ ?_ <;> intro hcd2 <;> simp -implicitDefEqProofs (maxSteps := 10000000) only [hcd2, rkA, rkB, stepA, valA, simprocAttr]
    · have hkc : k < cols := by omega
      refine wp_loop (fun m s => ∃ j : Nat, j + m = many ∧ s = ⟨[.v (.sl ea (frs a)), nt rows, nt many, .v (.sl eb (frs b)), nt cols, jk, jk, jk, jk, jk, jk, .acc 11 (frs (gridP (dotP a b many cols) cols i k)), nt i, nt k, .acc 14 (frs ((List.range j).map fun j => b.getD (j * cols + k) dz)), nt j, jk, jk, jk, jk, jk, jk, jk, jk, jk, jk, jk, jk, jk, jk, jk, jk, jk, jk, jk, jk, jk, jk, jk, jk, jk, jk, jk, jk, jk, jk, jk, jk, jk, jk, jk, jk, jk, jk, jk, jk, jk], [], [], [(10, 0), (11, (gridP (dotP a b many cols) cols i k).length), (14, j)], [], 0, nomem⟩) many ?_ ?_
      · simp -implicitDefEqProofs (maxSteps := 10000000) only [rkA, rkB, stepA, valA, simprocAttr]
        exact ⟨0, by omega, rfl⟩
      rintro m3 s ⟨j, hj, rfl⟩
      simp -implicitDefEqProofs (maxSteps := 10000000) only [rkA, rkB, stepA, valA, simprocAttr]
      refine gB_dec ?_ ?_ <;> intro hcd3 <;> simp -implicitDefEqProofs (maxSteps := 10000000) only [hcd3, rkA, rkB, stepA, valA, simprocAttr]
      · have t := at_table (i := j) (j := k) (n := many) (m := cols) (by omega) hkc
        have c1 : (j : Int) * (cols : Int) = ((j * cols : Nat) : Int) := by simp
        have c3 : ((j * cols : Nat) : Int) + (k : Int) = ((j * cols + k : Nat) : Int) := by simp
        have w1 := wrapped (x := ((j * cols : Nat) : Int)) (by omega) (by omega)
        have w3 := wrapped (x := ((j * cols + k : Nat) : Int)) (by omega) (by omega)
        have w4 := wrapped (x := (j : Int) + 1) (by omega) (by omega)
        have n1 : (0 : Int) ≤ ((j * cols + k : Nat) : Int) := by omega
        have g := fr_get (l := b) (i := j * cols + k) (by omega)
        have hfit : fits 4 32 (frs ((List.range j).map fun j => b.getD (j * cols + k) dz)) [frV (b.getD (j * cols + k) dz)] = true := fits_frs (l := [b.getD (j * cols + k) dz]) (by simp; omega)
        have hll : (frs ((List.range j).map fun j => b.getD (j * cols + k) dz)).length = j := by simp
        simp -implicitDefEqProofs (maxSteps := 10000000) only [c1, w1, c3, w3, n1, Int.toNat_natCast, g, hfit, hll, w4, rkA, rkB, stepA, valA, simprocAttr]
        refine loopK_of (m' := m3 - 1) (by omega) ?_
        simp -implicitDefEqProofs (maxSteps := 10000000) only [rkA, rkB, stepA, valA, simprocAttr]
        refine ⟨j + 1, by omega, ?_⟩
        rw [List.range_succ, List.map_append]
        simp only [frs, List.map_append, List.map_cons, List.map_nil, Int.natCast_add, Int.natCast_one]
      · have hjm : j = many := by omega
        subst hjm
        have h1 : i * j + j ≤ rows * j := by
          have : (i + 1) * j ≤ rows * j := Nat.mul_le_mul_right _ hir
          rw [Nat.add_mul, Nat.one_mul] at this
          exact this
        have c1 : (i : Int) * (j : Int) = ((i * j : Nat) : Int) := by simp
        have c2 : ((i : Int) + 1) * (j : Int) = ((i * j + j : Nat) : Int) := by rw [Int.add_mul, Int.one_mul]; simp
        have w1 := wrapped (x := ((i * j : Nat) : Int)) (by omega) (by omega)
        have w2 := wrapped (x := (i : Int) + 1) (by omega) (by omega)
        have w3 := wrapped (x := ((i * j + j : Nat) : Int)) (by omega) (by omega)
        have n1 : (0 : Int) ≤ ((i * j : Nat) : Int) := by omega
        have n2 : (0 : Int) ≤ ((i * j + j : Nat) : Int) := by omega
        have hs := sl_frs (ex := ea) (l := a) (a := i * j) (b := i * j + j) (by omega) (by omega)
        simp -implicitDefEqProofs (maxSteps := 10000000) only [c1, w1, w2, c2, w3, n1, n2, Int.toNat_natCast, hs, rkA, rkB, stepA, valA, simprocAttr]
        have hrow : (a.take (i * j + j)).drop (i * j) = (List.range j).map fun q => a.getD (i * j + q) dz := by
          apply List.ext_getElem?
          intro q
          by_cases hq : q < j
          · rw [List.getElem?_drop, List.getElem?_take_of_lt (by omega), List.getElem?_map, List.getElem?_range hq, Option.map_some, List.getD_eq_getElem?_getD, List.getElem?_eq_getElem (by omega), Option.getD_some]
          · rw [List.getElem?_eq_none (by simp; omega), List.getElem?_eq_none (by simp; omega)]
        refine call_fn rfl rfl rfl (ok84 (exA none ea (i * j + j) (frs a).length) false ((a.take (i * j + j)).drop (i * j)) ((List.range j).map fun q => b.getD (q * cols + k) dz) (by simp; omega) (by simp; omega)) ?_
        have hd : dotF ((a.take (i * j + j)).drop (i * j)) ((List.range j).map fun q => b.getD (q * cols + k) dz) = dotP a b j cols i k := by rw [hrow]; rfl
        have hlen := gridP_length (dotP a b j cols) cols i k
        have hik : i * cols + cols ≤ rows * cols := by
          have : (i + 1) * cols ≤ rows * cols := Nat.mul_le_mul_right _ hir
          rw [Nat.add_mul, Nat.one_mul] at this
          exact this
        have hfit : fits 4 32 (frs (gridP (dotP a b j cols) cols i k)) [frV (dotP a b j cols i k)] = true := fits_frs (l := [dotP a b j cols i k]) (by simp only [List.length_cons, List.length_nil]; omega)
        have hll : (frs (gridP (dotP a b j cols) cols i k)).length = (gridP (dotP a b j cols) cols i k).length := by simp
        have w5 := wrapped (x := (k : Int) + 1) (by omega) (by omega)
        simp -implicitDefEqProofs (maxSteps := 10000000) only [hd, hfit, hll, w5, rkA, rkB, stepA, valA, simprocAttr]
        refine loopK_of (m' := m' - 1) (by omega) ?_
        simp -implicitDefEqProofs (maxSteps := 10000000) only [rkA, rkB, stepA, valA, simprocAttr]
        refine ⟨k + 1, by omega, ?_⟩
        rw [gridP_succ]
        simp only [frs, List.map_append, List.map_cons, List.map_nil, List.length_append, List.length_cons, List.length_nil, Int.natCast_add, Int.natCast_one]
    · have hkc : k = cols := by omega
      have w5 := wrapped (x := (i : Int) + 1) (by omega) (by omega)
      simp -implicitDefEqProofs (maxSteps := 10000000) only [w5, rkA, rkB, stepA, valA, simprocAttr]
      refine loopK_of (m' := m - 1) (by omega) ?_
      simp -implicitDefEqProofs (maxSteps := 10000000) only [rkA, rkB, stepA, valA, simprocAttr]
      refine ⟨i + 1, by omega, ?_⟩
      rw [hkc, gridP_next]
      simp only [Int.natCast_add, Int.natCast_one]
  · have : i = rows := by omega
    subst this
    rfl
set_option maxHeartbeats 2000000 in
theorem ok87 (e : Bool) (l : List Fr) (rows cols : Nat) (hr : rows ≤ 16) (hc : cols ≤ 16) (hl : l.length = rows * cols) :
    Ok Tryz.prog 87 [.sl e (frs l), num rows, num cols] (.sl false (frs (gridP (fun k i => l.getD (i * cols + k) dz) rows cols 0))) := by
  have b1 : rows * cols ≤ 256 := side16 hr hc
  refine ok_fn mixed Tryz.func87 (code := ?_) (h := h87) ?_ k87 ?_
  rotate_left
  · exact rfl
  unfold h87 initS
  simp -implicitDefEqProofs (maxSteps := 10000000) only [rkA, rkB, stepA, valA, simprocAttr, Tryz.ntmps87, Tryz.results87]
  refine wp_loop (fun m s => ∃ i : Nat, i + m = cols ∧ s = ⟨[.v (.sl e (frs l)), nt rows, nt cols, jk, jk, jk, jk, .acc 7 (frs (gridP (fun k i => l.getD (i * cols + k) dz) rows i 0)), nt i, jk, jk, jk, jk, jk, jk, jk, jk, jk, jk, jk, jk, jk, jk, jk, jk, jk, jk, jk, jk, jk, jk, jk], [], [], [(6, 0), (7, (gridP (fun k i => l.getD (i * cols + k) dz) rows i 0).length)], [], 0, nomem⟩) cols ?_ ?_
  · simp -implicitDefEqProofs (maxSteps := 10000000) only [rkA, rkB, stepA, valA, simprocAttr]
    exact ⟨0, by omega, rfl⟩
  rintro m s ⟨i, hi, rfl⟩
  simp -implicitDefEqProofs (maxSteps := 10000000) only [rkA, rkB, stepA, valA, simprocAttr]
  refine gB_dec ?_ ?_ <;> intro hcd <;> simp -implicitDefEqProofs (maxSteps := 10000000) only [hcd, rkA, rkB, stepA, valA, simprocAttr]
  · have hir : i < cols := by omega
    refine wp_loop (fun m s => ∃ k : Nat, k + m = rows ∧ s = ⟨[.v (.sl e (frs l)), nt rows, nt cols, jk, jk, jk, jk, .acc 7 (frs (gridP (fun k i => l.getD (i * cols + k) dz) rows i k)), nt i, nt k, jk, jk, jk, jk, jk, jk, jk, jk, jk, jk, jk, jk, jk, jk, jk, jk, jk, jk, jk, jk, jk, jk], [], [], [(6, 0), (7, (gridP (fun k i => l.getD (i * cols + k) dz) rows i k).length)], [], 0, nomem⟩) rows ?_ ?_
    · simp -implicitDefEqProofs (maxSteps := 10000000) only [rkA, rkB, stepA, valA, simprocAttr]
      exact ⟨0, by omega, rfl⟩
    rintro m' s ⟨k, hk, rfl⟩
    simp -implicitDefEqProofs (maxSteps := 10000000) only [rkA, rkB, stepA, valA, simprocAttr]
    refine gB_dec ?_ ?_ <;> intro hcd2 <;> simp -implicitDefEqProofs (maxSteps := 10000000) only [hcd2, rkA, rkB, stepA, valA, simprocAttr]
    · have hkc : k < rows := by omega
      have hlen := gridP_length (fun k i => l.getD (i * cols + k) dz) rows i k
      have hik : i * rows + rows ≤ cols * rows := by
        have : (i + 1) * rows ≤ cols * rows := Nat.mul_le_mul_right _ hir
        rw [Nat.add_mul, Nat.one_mul] at this
        exact this
      have hb2 : cols * rows ≤ 256 := by rw [Nat.mul_comm]; exact b1
      have hfit : ∀ x : Fr, fits 4 32 (frs (gridP (fun k i => l.getD (i * cols + k) dz) rows i k)) [frV x] = true := fun x => fits_frs (l := [x]) (by simp only [List.length_cons, List.length_nil]; omega)
      have hll : (frs (gridP (fun k i => l.getD (i * cols + k) dz) rows i k)).length = (gridP (fun k i => l.getD (i * cols + k) dz) rows i k).length := by simp
      have w5 := wrapped (x := (k : Int) + 1) (by omega) (by omega)
      have t := at_table (i := k) (j := i) (n := rows) (m := cols) hkc hir
      have c1 : (k : Int) * (cols : Int) = ((k * cols : Nat) : Int) := by simp
      have c3 : ((k * cols : Nat) : Int) + (i : Int) = ((k * cols + i : Nat) : Int) := by simp
      have w1 := wrapped (x := ((k * cols : Nat) : Int)) (by omega) (by omega)
      have w3 := wrapped (x := ((k * cols + i : Nat) : Int)) (by omega) (by omega)
      have n1 : (0 : Int) ≤ ((k * cols + i : Nat) : Int) := by omega
      have g := fr_get (l := l) (i := k * cols + i) (by omega)
      simp -implicitDefEqProofs (maxSteps := 10000000) only [c1, w1, c3, w3, n1, Int.toNat_natCast, g, hfit, hll, w5, rkA, rkB, stepA, valA, simprocAttr]
      refine loopK_of (m' := m' - 1) (by omega) ?_
      simp -implicitDefEqProofs (maxSteps := 10000000) only [rkA, rkB, stepA, valA, simprocAttr]
      refine ⟨k + 1, by omega, ?_⟩
      rw [gridP_succ]
      simp only [frs, List.map_append, List.map_cons, List.map_nil, List.length_append, List.length_cons, List.length_nil, Int.natCast_add, Int.natCast_one]
    · have hkc : k = rows := by omega
      have w5 := wrapped (x := (i : Int) + 1) (by omega) (by omega)
      simp -implicitDefEqProofs (maxSteps := 10000000) only [w5, rkA, rkB, stepA, valA, simprocAttr]
      refine loopK_of (m' := m - 1) (by omega) ?_
      simp -implicitDefEqProofs (maxSteps := 10000000) only [rkA, rkB, stepA, valA, simprocAttr]
      refine ⟨i + 1, by omega, ?_⟩
      rw [hkc, gridP_next]
      simp only [Int.natCast_add, Int.natCast_one]
  · have : i = cols := by omega
    subst this
    rfl
set_option maxHeartbeats 2000000 in
theorem ok88 (e : Bool) (l : List Fr) (n : Nat) (hn : n ≤ 16) (hl : l.length = n * n) :
    Ok Tryz.prog 88 [.sl e (frs l), num n] (.sl false (frs (gridP (fun i k => l.getD (max i k * n + min i k) dz) n n 0))) := by
  refine ok_fn mixed Tryz.func88 (code := ?_) (h := h88) ?_ k88 ?_
  rotate_left
  · exact rfl
  unfold h88 initS
  simp -implicitDefEqProofs (maxSteps := 10000000) only [rkA, rkB, stepA, valA, simprocAttr, Tryz.ntmps88, Tryz.results88]
  refine wp_loop (fun m s => ∃ i : Nat, i + m = n ∧ s = ⟨[.v (.sl e (frs l)), nt n, jk, jk, jk, .acc 5 (frs (gridP (fun i k => l.getD (max i k * n + min i k) dz) n i 0)), nt i, jk, jk, jk, jk, jk, jk, jk, jk, jk, jk, jk, jk, jk, jk, jk, jk, jk, jk, jk, jk, jk, jk, jk, jk, jk, jk, jk, jk, jk, jk, jk, jk, jk, jk, jk, jk, jk], [], [], [(4, 0), (5, (gridP (fun i k => l.getD (max i k * n + min i k) dz) n i 0).length)], [], 0, nomem⟩) n ?_ ?_
  · simp -implicitDefEqProofs (maxSteps := 10000000) only [rkA, rkB, stepA, valA, simprocAttr]
    exact ⟨0, by omega, rfl⟩
  rintro m s ⟨i, hi, rfl⟩
  simp -implicitDefEqProofs (maxSteps := 10000000) only [rkA, rkB, stepA, valA, simprocAttr]
  refine gB_dec ?_ ?_ <;> intro hcd <;> simp -implicitDefEqProofs (maxSteps := 10000000) only [hcd, rkA, rkB, stepA, valA, simprocAttr]
  · have hir : i < n := by omega
    refine wp_loop (fun m s => ∃ k : Nat, k + m = n ∧ s = ⟨[.v (.sl e (frs l)), nt n, jk, jk, jk, .acc 5 (frs (gridP (fun i k => l.getD (max i k * n + min i k) dz) n i k)), nt i, nt k, jk, jk, jk, jk, jk, jk, jk, jk, jk, jk, jk, jk, jk, jk, jk, jk, jk, jk, jk, jk, jk, jk, jk, jk, jk, jk, jk, jk, jk, jk, jk, jk, jk, jk, jk, jk], [], [], [(4, 0), (5, (gridP (fun i k => l.getD (max i k * n + min i k) dz) n i k).length)], [], 0, nomem⟩) n ?_ ?_
    · simp -implicitDefEqProofs (maxSteps := 10000000) only [rkA, rkB, stepA, valA, simprocAttr]
      exact ⟨0, by omega, rfl⟩
    rintro m' s ⟨k, hk, rfl⟩
    simp -implicitDefEqProofs (maxSteps := 10000000) only [rkA, rkB, stepA, valA, simprocAttr]
    refine gB_dec ?_ ?_ <;> intro hcd2 <;> simp -implicitDefEqProofs (maxSteps := 10000000) only [hcd2, rkA, rkB, stepA, valA, simprocAttr]
    · have hkc : k < n := by omega
      have hlen := gridP_length (fun i k => l.getD (max i k * n + min i k) dz) n i k
      have hik : i * n + n ≤ n * n := by
        have : (i + 1) * n ≤ n * n := Nat.mul_le_mul_right _ hir
        rw [Nat.add_mul, Nat.one_mul] at this
        exact this
      have hb2 : n * n ≤ 256 := side16 hn hn
      have hfit : ∀ x : Fr, fits 4 32 (frs (gridP (fun i k => l.getD (max i k * n + min i k) dz) n i k)) [frV x] = true := fun x => fits_frs (l := [x]) (by simp only [List.length_cons, List.length_nil]; omega)
      have hll : (frs (gridP (fun i k => l.getD (max i k * n + min i k) dz) n i k)).length = (gridP (fun i k => l.getD (max i k * n + min i k) dz) n i k).length := by simp
      have w5 := wrapped (x := (k : Int) + 1) (by omega) (by omega)
      have go : ∀ a b : Nat, a < n → b < n → ∃ z : Nat, (a : Int) * (n : Int) = ((a * n : Nat) : Int) ∧ ((a * n : Nat) : Int) + (b : Int) = ((a * n + b : Nat) : Int) ∧ IntKind.wrap .i64 ((a * n : Nat) : Int) = ((a * n : Nat) : Int) ∧ IntKind.wrap .i64 ((a * n + b : Nat) : Int) = ((a * n + b : Nat) : Int) ∧ (0 : Int) ≤ ((a * n + b : Nat) : Int) ∧ (frs l)[a * n + b]? = some (frV (l.getD (a * n + b) dz)) := fun a b ha hb => by
        have t := at_table (i := a) (j := b) (n := n) (m := n) ha hb
        exact ⟨0, by simp, by simp, wrapped (by omega) (by omega), wrapped (by omega) (by omega), by omega, fr_get (by omega)⟩
      by_cases hki : k > i
      · have hki' : (k : Int) > (i : Int) := by omega
        obtain ⟨_, c1, c3, w1, w3, n1, g⟩ := go k i hkc hir
        have e1 : max i k = k := by omega
        have e2 : min i k = i := by omega
        simp -implicitDefEqProofs (maxSteps := 10000000) only [hki', c1, w1, c3, w3, n1, Int.toNat_natCast, g, hfit, hll, w5, rkA, rkB, stepA, valA, simprocAttr]
        refine loopK_of (m' := m' - 1) (by omega) ?_
        simp -implicitDefEqProofs (maxSteps := 10000000) only [rkA, rkB, stepA, valA, simprocAttr]
        refine ⟨k + 1, by omega, ?_⟩
        rw [gridP_succ]
        simp only [e1, e2, frs, List.map_append, List.map_cons, List.map_nil, List.length_append, List.length_cons, List.length_nil, Int.natCast_add, Int.natCast_one]
      · have hki' : ¬ (k : Int) > (i : Int) := by omega
        obtain ⟨_, c1, c3, w1, w3, n1, g⟩ := go i k hir hkc
        have e1 : max i k = i := by omega
        have e2 : min i k = k := by omega
        simp -implicitDefEqProofs (maxSteps := 10000000) only [hki', c1, w1, c3, w3, n1, Int.toNat_natCast, g, hfit, hll, w5, rkA, rkB, stepA, valA, simprocAttr]
        refine loopK_of (m' := m' - 1) (by omega) ?_
        simp -implicitDefEqProofs (maxSteps := 10000000) only [rkA, rkB, stepA, valA, simprocAttr]
        refine ⟨k + 1, by omega, ?_⟩
        rw [gridP_succ]
        simp only [e1, e2, frs, List.map_append, List.map_cons, List.map_nil, List.length_append, List.length_cons, List.length_nil, Int.natCast_add, Int.natCast_one]
    · have hkc : k = n := by omega
      have w5 := wrapped (x := (i : Int) + 1) (by omega) (by omega)
      simp -implicitDefEqProofs (maxSteps := 10000000) only [w5, rkA, rkB, stepA, valA, simprocAttr]
      refine loopK_of (m' := m - 1) (by omega) ?_
      simp -implicitDefEqProofs (maxSteps := 10000000) only [rkA, rkB, stepA, valA, simprocAttr]
      refine ⟨i + 1, by omega, ?_⟩
      rw [hkc, gridP_next]
      simp only [Int.natCast_add, Int.natCast_one]
  · have : i = n := by omega
    subst this
    rfl
theorem ok86 (w : Int) (F : Fr → Fr → Fr) (hF : ∀ x y, Ok Tryz.prog 83 [num w, frV x, frV y] (frV (F x y))) (ea eb : Bool) (a b : List Fr) (h : a.length = b.length) (hl : a.length ≤ 256) :
    Ok Tryz.prog 86 [num w, .sl ea (frs a), .sl eb (frs b)] (.sl false (frs (List.zipWith F a b))) := by
  have la : (frs a).length = a.length := by simp
  refine ok_fn mixed Tryz.func86 (code := ?_) (h := h86) ?_ k86 ?_
  rotate_left
  · exact rfl
  unfold h86 initS
  simp -implicitDefEqProofs (maxSteps := 10000000) only [rkA, rkB, stepA, valA, simprocAttr, Tryz.ntmps86, Tryz.results86]
  refine wp_loop (fun m s => ∃ k : Nat, k + m = a.length ∧ s = ⟨[.v (num w), .v (.sl ea (frs a)), .v (.sl eb (frs b)), jk, jk, jk, jk, .acc 7 (frs (List.zipWith F (a.take k) (b.take k))), nt k, jk, jk, jk, jk, jk, jk, jk, jk, jk, jk, jk, jk, jk, jk, jk, jk, jk, jk, jk, jk], [], [], [(6, 0), (7, k)], [], 0, nomem⟩) a.length ?_ ?_
  · simp -implicitDefEqProofs (maxSteps := 10000000) only [rkA, rkB, stepA, valA, simprocAttr]
    exact ⟨0, by omega, rfl⟩
  rintro m s ⟨k, hk, rfl⟩
  simp -implicitDefEqProofs (maxSteps := 10000000) only [la, rkA, rkB, stepA, valA, simprocAttr]
  refine gB_dec ?_ ?_ <;> intro hc <;> simp -implicitDefEqProofs (maxSteps := 10000000) only [hc, rkA, rkB, stepA, valA, simprocAttr]
  · have hka : k < a.length := by omega
    have hkb : k < b.length := by omega
    have h0 := nat0 k
    have ga := fr_get hka
    have gb := fr_get hkb
    have hw := wrapped (x := (k : Int) + 1) (by omega) (by omega)
    simp -implicitDefEqProofs (maxSteps := 10000000) only [h0, Int.toNat_natCast, ga, gb, rkA, rkB, stepA, valA, simprocAttr]
    refine call_fn rfl rfl rfl (hF (a.getD k dz) (b.getD k dz)) ?_
    have hll : (frs (List.zipWith F (a.take k) (b.take k))).length = k := by simp; omega
    have hfit : fits 4 32 (frs (List.zipWith F (a.take k) (b.take k))) [frV (F (a.getD k dz) (b.getD k dz))] = true := fits_frs (l := [F (a.getD k dz) (b.getD k dz)]) (by simp; omega)
    simp -implicitDefEqProofs (maxSteps := 10000000) only [hfit, hll, hw, rkA, rkB, stepA, valA, simprocAttr]
    refine loopK_of (m' := m - 1) (by omega) ?_
    simp -implicitDefEqProofs (maxSteps := 10000000) only [rkA, rkB, stepA, valA, simprocAttr]
    refine ⟨k + 1, by omega, ?_⟩
    rw [List.take_succ_eq_append_getElem hka, List.take_succ_eq_append_getElem hkb, List.zipWith_append (by simp; omega)]
    have e1 : a.getD k dz = a[k] := by rw [List.getD_eq_getElem?_getD, List.getElem?_eq_getElem hka]; rfl
    have e2 : b.getD k dz = b[k] := by rw [List.getD_eq_getElem?_getD, List.getElem?_eq_getElem hkb]; rfl
    simp only [e1, e2, List.zipWith_cons_cons, List.zipWith_nil_left, frs, List.map_append, List.map_cons, List.map_nil, Int.natCast_add, Int.natCast_one]
  · have : k = a.length := by omega
    subst this
    rw [List.take_length, List.take_of_length_le (by omega)]
end Go.Proofs.YtahcpmhgcppdcaaGreat.A.E



set_option linter.unusedVariables false
set_option linter.unusedSimpArgs false
set_option maxRecDepth 100000
namespace Go.Proofs.YtahcpmhgcppdcaaGreat.A.E
open Go Go.RowKit Go.Shelf

/-! ### The reference's tables are the program's -/
theorem ext_getD {a b : List Fr} (h : a.length = b.length) (g : ∀ i, i < a.length → a.getD i dz = b.getD i dz) : a = b := by
  apply List.ext_getElem h
  intro i h1 h2
  have := g i h1
  rw [List.getD_eq_getElem?_getD, List.getD_eq_getElem?_getD, List.getElem?_eq_getElem h1, List.getElem?_eq_getElem h2] at this
  exact this
theorem okMul (ea eb : Bool) (a b : List Fr) (R M K : Nat) (hR : 1 ≤ R ∧ R ≤ 16) (hM : 1 ≤ M ∧ M ≤ 16) (hK : 1 ≤ K ∧ K ≤ 16) (la : a.length = R * M) (lb : b.length = M * K) :
    Ok Tryz.prog 82 [.sl ea (frs a), num R, num M, .sl eb (frs b), num K] (.sl false (frs (prodF R M K a b))) := by
  rw [prodF_grid hR hM hK la lb]
  exact ok82 ea eb a b R M K hR.2 hM.2 hK.2 la lb
theorem okTurn (e : Bool) (l : List Fr) (R K : Nat) (hR : 1 ≤ R ∧ R ≤ 16) (hK : 1 ≤ K ∧ K ≤ 16) (hl : l.length = R * K) :
    Ok Tryz.prog 87 [.sl e (frs l), num R, num K] (.sl false (frs (turnF R K l))) := by
  have h := right_nat (n := l.length) hR hK hl
  have e1 : turnF R K l = gridP (fun k i => l.getD (i * K + k) dz) R K 0 := by
    rw [turnF_eq h, Int.toNat_natCast, Int.toNat_natCast]
    refine gridP_congr fun k i hk hi => ?_
    rw [atF_eq h (by simpa using hi) (by simpa using hk), Int.toNat_natCast]
  rw [e1]
  exact ok87 e l R K hR.2 hK.2 hl
theorem okMirror (e : Bool) (l : List Fr) (n : Nat) (hn : 1 ≤ n ∧ n ≤ 16) (hl : l.length = n * n) :
    Ok Tryz.prog 88 [.sl e (frs l), num n] (.sl false (frs (mirF n l))) := by
  have h := right_nat (n := l.length) hn hn hl
  have e1 : mirF n l = gridP (fun i k => l.getD (max i k * n + min i k) dz) n n 0 := by
    rw [mirF, Int.toNat_natCast]
    refine gridP_congr fun i k hi hk => ?_
    rw [atF_eq h (by simp; omega) (by simp; omega), Int.toNat_natCast]
  rw [e1]
  exact ok88 e l n hn.2 hl
theorem prod_apply {n : Nat} {l v : List Fr} (hn : 1 ≤ n ∧ n ≤ 16) (hl : l.length = n * n) (hv : v.length = n) : prodF n n 1 l v = applyF n n l v := by
  have hv1 : v.length = n * 1 := by omega
  have g := prodF_grid (R := n) (M := n) (K := 1) hn hn (by omega) hl hv1
  refine ext_getD (by rw [prodF_len, applyF_len]; simp) fun i hi => ?_
  have hi' : i < n := by
    rw [prodF_len] at hi
    simpa using hi
  rw [apply_at hn hl hi', show ((1 : Int)) = ((1 : Nat) : Int) from rfl, g]
  have := grid_at (g := fun i k => dotF ((List.range n).map fun j => l.getD (i * n + j) dz) ((List.range n).map fun j => v.getD (j * 1 + k) dz)) (n := 1) (N := n) (i := i) (k := 0) hi' (by omega)
  rw [Nat.mul_one, Nat.add_zero] at this
  rw [this]
  congr 1
  conv => rhs; rw [list_range hv]
  apply List.map_congr_left
  intro j _
  rw [Nat.mul_one, Nat.add_zero]
theorem ok40 (e : Bool) (l : List Fr) (n : Nat) (hn : 1 ≤ n ∧ n ≤ 16) (hl : l.length = n * n) : Ok Tryz.prog 40 [.sl e (frs l), num n] (.sl false (frs (sqF n l))) := by
  refine ok_fn mixed Tryz.func40 (code := ?_) (h := h40) ?_ k40 ?_
  rotate_left
  · exact rfl
  unfold h40 initS
  simp -implicitDefEqProofs (maxSteps := 10000000) only [rkA, rkB, stepA, valA, simprocAttr, Tryz.ntmps40, Tryz.results40]
  refine call_fn rfl rfl rfl (okTurn e l n n hn hn hl) ?_
  simp -implicitDefEqProofs (maxSteps := 10000000) only [rkA, rkB, stepA, valA, simprocAttr]
  refine call_fn rfl rfl rfl (okMul e false l (turnF n n l) n n n hn hn hn hl (turnF_len hn hn hl)) ?_
  simp -implicitDefEqProofs (maxSteps := 10000000) only [rkA, rkB, stepA, valA, simprocAttr]
  refine call_fn rfl rfl rfl (okMirror false (prodF n n n l (turnF n n l)) n hn (by rw [prodF_len]; simp)) ?_
  simp -implicitDefEqProofs (maxSteps := 10000000) only [sqF, rkA, rkB, stepA, valA, simprocAttr]
theorem ok24 (x : Fr) : Ok Tryz.prog 24 [frV x] (frV x) := by
  refine ok_fn mixed Tryz.func24 (code := ?_) (h := h24) ?_ k24 ?_
  rotate_left
  · exact rfl
  unfold h24 initS
  simp -implicitDefEqProofs (maxSteps := 10000000) only [rkA, rkB, stepA, valA, simprocAttr, Tryz.ntmps24, Tryz.results24]
theorem ok23 (e : Bool) (l : List Fr) (hl : l.length ≤ 256) : Ok Tryz.prog 23 [.sl e (frs l)] (.sl false (frs l)) := by
  have la : (frs l).length = l.length := by simp
  refine ok_fn mixed Tryz.func23 (code := ?_) (h := h23) ?_ k23 ?_
  rotate_left
  · exact rfl
  unfold h23 initS
  simp -implicitDefEqProofs (maxSteps := 10000000) only [rkA, rkB, stepA, valA, simprocAttr, Tryz.ntmps23, Tryz.results23]
  refine wp_loop (fun m s => ∃ k : Nat, k + m = l.length ∧ s = ⟨[jk, jk, jk, .acc 3 (frs (l.take k)), jk, jk, .v (.sl e (frs l)), nt l.length, nt k, jk, jk, jk, jk, jk, jk, jk, jk, jk, jk], [], [], [(2, 0), (3, k)], [], 0, nomem⟩) l.length ?_ ?_
  · simp -implicitDefEqProofs (maxSteps := 10000000) only [la, rkA, rkB, stepA, valA, simprocAttr]
    exact ⟨0, by omega, rfl⟩
  rintro m s ⟨k, hk, rfl⟩
  simp -implicitDefEqProofs (maxSteps := 10000000) only [rkA, rkB, stepA, valA, simprocAttr]
  refine gB_dec ?_ ?_ <;> intro hc <;> simp -implicitDefEqProofs (maxSteps := 10000000) only [hc, rkA, rkB, stepA, valA, simprocAttr]
  · have hka : k < l.length := by omega
    have h0 := nat0 k
    have ga := fr_get hka
    have hw := wrapped (x := (k : Int) + 1) (by omega) (by omega)
    simp -implicitDefEqProofs (maxSteps := 10000000) only [h0, Int.toNat_natCast, ga, rkA, rkB, stepA, valA, simprocAttr]
    refine call_fn rfl rfl rfl (ok24 (l.getD k dz)) ?_
    have hll : (frs (l.take k)).length = k := by simp; omega
    have hfit : fits 4 32 (frs (l.take k)) [frV (l.getD k dz)] = true := fits_frs (l := [l.getD k dz]) (by simp; omega)
    simp -implicitDefEqProofs (maxSteps := 10000000) only [hfit, hll, hw, rkA, rkB, stepA, valA, simprocAttr]
    refine loopK_of (m' := m - 1) (by omega) ?_
    simp -implicitDefEqProofs (maxSteps := 10000000) only [rkA, rkB, stepA, valA, simprocAttr]
    refine ⟨k + 1, by omega, ?_⟩
    rw [List.take_succ_eq_append_getElem hka, List.getD_eq_getElem?_getD, List.getElem?_eq_getElem hka]
    simp only [frs, List.map_append, List.map_cons, List.map_nil, Int.natCast_add, Int.natCast_one, Option.getD_some]
  · have : k = l.length := by omega
    subst this
    rw [List.take_length]
theorem ok32 (e : Bool) (r c : Int) (l : List Fr) (hl : l.length ≤ 256) : Ok Tryz.prog 32 [matV e r c (frs l)] (.sl false (frs l)) := by
  have la : (frs l).length = l.length := by simp
  refine ok_fn mixed Tryz.func32 (code := ?_) (h := h32) ?_ k32 ?_
  rotate_left
  · exact rfl
  unfold h32 initS
  simp -implicitDefEqProofs (maxSteps := 10000000) only [rkA, rkB, stepA, valA, simprocAttr, Tryz.ntmps32, Tryz.results32]
  refine wp_loop (fun m s => ∃ k : Nat, k + m = l.length ∧ s = ⟨[jk, jk, jk, .acc 3 (frs (l.take k)), jk, jk, jk, .v (.sl e (frs l)), nt l.length, nt k, jk, jk, jk, jk, jk, jk, jk, jk, jk, jk], [(1, [.v (num r), .v (num c), .v (.sl e (frs l))])], [], [(2, 0), (3, k)], [], 0, nomem⟩) l.length ?_ ?_
  · simp -implicitDefEqProofs (maxSteps := 10000000) only [la, rkA, rkB, stepA, valA, simprocAttr]
    exact ⟨0, by omega, rfl⟩
  rintro m s ⟨k, hk, rfl⟩
  simp -implicitDefEqProofs (maxSteps := 10000000) only [rkA, rkB, stepA, valA, simprocAttr]
  refine gB_dec ?_ ?_ <;> intro hc <;> simp -implicitDefEqProofs (maxSteps := 10000000) only [hc, rkA, rkB, stepA, valA, simprocAttr]
  · have hka : k < l.length := by omega
    have h0 := nat0 k
    have ga := fr_get hka
    have hw := wrapped (x := (k : Int) + 1) (by omega) (by omega)
    simp -implicitDefEqProofs (maxSteps := 10000000) only [h0, Int.toNat_natCast, ga, rkA, rkB, stepA, valA, simprocAttr]
    refine call_fn rfl rfl rfl (ok24 (l.getD k dz)) ?_
    have hll : (frs (l.take k)).length = k := by simp; omega
    have hfit : fits 4 32 (frs (l.take k)) [frV (l.getD k dz)] = true := fits_frs (l := [l.getD k dz]) (by simp; omega)
    simp -implicitDefEqProofs (maxSteps := 10000000) only [hfit, hll, hw, rkA, rkB, stepA, valA, simprocAttr]
    refine loopK_of (m' := m - 1) (by omega) ?_
    simp -implicitDefEqProofs (maxSteps := 10000000) only [rkA, rkB, stepA, valA, simprocAttr]
    refine ⟨k + 1, by omega, ?_⟩
    rw [List.take_succ_eq_append_getElem hka, List.getD_eq_getElem?_getD, List.getElem?_eq_getElem hka]
    simp only [frs, List.map_append, List.map_cons, List.map_nil, Int.natCast_add, Int.natCast_one, Option.getD_some]
  · have : k = l.length := by omega
    subst this
    rw [List.take_length]
theorem eq_frE (x y : Fr) : cellsEq [some .i64, some .i64, some .i64, none] [num x.v, num x.lo, num x.hi, tru x.bad] [num y.v, num y.lo, num y.hi, tru y.bad] = some (decide (x = y)) := by
  obtain ⟨n, d, e, b⟩ := x
  obtain ⟨n', d', e', b'⟩ := y
  simp only [cellsEq, Fr.mk.injEq]
  cases b <;> cases b' <;> simp <;> rfl
theorem ok25 (ea eb : Bool) (l : List Fr) (hl : l.length ≤ 256) : Ok Tryz.prog 25 [.sl ea (frs l), .sl eb (frs l)] (tru true) := by
  have la : (frs l).length = l.length := by simp
  refine ok_fn mixed Tryz.func25 (code := ?_) (h := h25) ?_ k25 ?_
  rotate_left
  · exact rfl
  unfold h25 initS
  simp -implicitDefEqProofs (maxSteps := 10000000) only [rkA, rkB, stepA, valA, simprocAttr, Tryz.ntmps25, Tryz.results25]
  simp -implicitDefEqProofs (maxSteps := 10000000) only [la, bne_self_eq_false, rkA, rkB, stepA, valA, simprocAttr]
  refine call_fn rfl rfl rfl (ok23 ea l hl) ?_
  simp -implicitDefEqProofs (maxSteps := 10000000) only [la, rkA, rkB, stepA, valA, simprocAttr]
  refine wp_loop (fun m s => ∃ k : Nat, k + m = l.length ∧ s = ⟨[jk, .v (.sl eb (frs l)), jk, jk, jk, jk, jk, jk, jk, jk, jk, jk, jk, .v (.sl false (frs l)), nt l.length, nt k, jk, jk, jk, jk, jk, jk, jk, jk, jk, jk, jk], [], [], [], [], 0, nomem⟩) l.length ?_ ?_
  · simp -implicitDefEqProofs (maxSteps := 10000000) only [rkA, rkB, stepA, valA, simprocAttr]
    exact ⟨0, by omega, rfl⟩
  rintro m s ⟨k, hk, rfl⟩
  simp -implicitDefEqProofs (maxSteps := 10000000) only [rkA, rkB, stepA, valA, simprocAttr]
  refine gB_dec ?_ ?_ <;> intro hc <;> simp -implicitDefEqProofs (maxSteps := 10000000) only [hc, rkA, rkB, stepA, valA, simprocAttr]
  · have hka : k < l.length := by omega
    have h0 := nat0 k
    have ga := fr_get hka
    have hw := wrapped (x := (k : Int) + 1) (by omega) (by omega)
    have hne := eq_frE (l.getD k dz) (l.getD k dz)
    rw [decide_eq_true rfl] at hne
    simp -implicitDefEqProofs (maxSteps := 10000000) only [h0, Int.toNat_natCast, ga, hne, hw, rkA, rkB, stepA, valA, simprocAttr]
    refine loopK_of (m' := m - 1) (by omega) ?_
    simp -implicitDefEqProofs (maxSteps := 10000000) only [rkA, rkB, stepA, valA, simprocAttr]
    exact ⟨k + 1, by omega, by simp only [Int.natCast_add, Int.natCast_one]⟩
theorem ok26 (ea eb : Bool) (r c : Int) (l : List Fr) (hl : l.length ≤ 256) : Ok Tryz.prog 26 [matV ea r c (frs l), .sl eb (frs l)] (tru true) := by
  have la : (frs l).length = l.length := by simp
  refine ok_fn mixed Tryz.func26 (code := ?_) (h := h26) ?_ k26 ?_
  rotate_left
  · exact rfl
  unfold h26 initS
  simp -implicitDefEqProofs (maxSteps := 10000000) only [rkA, rkB, stepA, valA, simprocAttr, Tryz.ntmps26, Tryz.results26]
  refine call_fn rfl rfl rfl (ok32 ea r c l hl) ?_
  simp -implicitDefEqProofs (maxSteps := 10000000) only [la, bne_self_eq_false, rkA, rkB, stepA, valA, simprocAttr]
  refine wp_loop (fun m s => ∃ k : Nat, k + m = l.length ∧ s = ⟨[jk, .v (.sl eb (frs l)), jk, jk, jk, .v (.sl false (frs l)), jk, jk, jk, jk, jk, jk, jk, jk, jk, nt l.length, nt k, jk, jk, jk, jk, jk, jk, jk, jk, jk, jk, jk, jk], [(2, [.v (num r), .v (num c), .v (.sl ea (frs l))])], [], [], [], 0, nomem⟩) l.length ?_ ?_
  · simp -implicitDefEqProofs (maxSteps := 10000000) only [rkA, rkB, stepA, valA, simprocAttr]
    exact ⟨0, by omega, rfl⟩
  rintro m s ⟨k, hk, rfl⟩
  simp -implicitDefEqProofs (maxSteps := 10000000) only [rkA, rkB, stepA, valA, simprocAttr]
  refine gB_dec ?_ ?_ <;> intro hc <;> simp -implicitDefEqProofs (maxSteps := 10000000) only [hc, rkA, rkB, stepA, valA, simprocAttr]
  · have hka : k < l.length := by omega
    have h0 := nat0 k
    have ga := fr_get hka
    have hw := wrapped (x := (k : Int) + 1) (by omega) (by omega)
    have hne := eq_frE (l.getD k dz) (l.getD k dz)
    rw [decide_eq_true rfl] at hne
    simp -implicitDefEqProofs (maxSteps := 10000000) only [h0, Int.toNat_natCast, ga, hne, hw, rkA, rkB, stepA, valA, simprocAttr]
    refine loopK_of (m' := m - 1) (by omega) ?_
    simp -implicitDefEqProofs (maxSteps := 10000000) only [rkA, rkB, stepA, valA, simprocAttr]
    exact ⟨k + 1, by omega, by simp only [Int.natCast_add, Int.natCast_one]⟩
theorem ok28 (ex ep ef eg : Bool) (x p f g : List Fr) (n : Nat) (hn : 1 ≤ n ∧ n ≤ 16) (hx : x.length = n) (hp : p.length = n * n) (hf : f.length = n * n) (hg : g.length = n * n) :
    Ok Tryz.prog 28 [.sl ex (frs x), .sl ep (frs p), .sl ef (frs f), .sl eg (frs g), num n] (.tup [.sl false (frs (applyF n n f x)), .sl false (frs (turnedF n f p (sqF n g)))]) := by
  have l1 : (prodF n n n f p).length = n * n := by rw [prodF_len]; simp
  have l2 : (prodF n n n (prodF n n n f p) (turnF n n f)).length = n * n := by rw [prodF_len]; simp
  have l3 := sqF_len n g
  refine ok_fn mixed Tryz.func28 (code := ?_) (h := h28) ?_ k28 ?_
  rotate_left
  · exact rfl
  unfold h28 initS
  simp -implicitDefEqProofs (maxSteps := 10000000) only [rkA, rkB, stepA, valA, simprocAttr, Tryz.ntmps28, Tryz.results28]
  refine call_fn rfl rfl rfl (okMul ef ep f p n n n hn hn hn hf hp) ?_
  simp -implicitDefEqProofs (maxSteps := 10000000) only [rkA, rkB, stepA, valA, simprocAttr]
  refine call_fn rfl rfl rfl (okTurn ef f n n hn hn hf) ?_
  simp -implicitDefEqProofs (maxSteps := 10000000) only [rkA, rkB, stepA, valA, simprocAttr]
  refine call_fn rfl rfl rfl (okMul false false (prodF n n n f p) (turnF n n f) n n n hn hn hn l1 (turnF_len hn hn hf)) ?_
  simp -implicitDefEqProofs (maxSteps := 10000000) only [rkA, rkB, stepA, valA, simprocAttr]
  refine call_fn rfl rfl rfl (okMul ef ex f x n n 1 hn hn (by omega) hf (by omega)) ?_
  simp -implicitDefEqProofs (maxSteps := 10000000) only [rkA, rkB, stepA, valA, simprocAttr]
  refine call_fn rfl rfl rfl (ok40 eg g n hn hg) ?_
  simp -implicitDefEqProofs (maxSteps := 10000000) only [rkA, rkB, stepA, valA, simprocAttr]
  refine call_fn rfl rfl rfl (ok86 0 addF ok83a false false (prodF n n n (prodF n n n f p) (turnF n n f)) (sqF n g) (by omega) (by rw [l2]; exact side16 hn.2 hn.2)) ?_
  simp -implicitDefEqProofs (maxSteps := 10000000) only [rkA, rkB, stepA, valA, simprocAttr]
  refine call_fn rfl rfl rfl (okMirror false (List.zipWith addF (prodF n n n (prodF n n n f p) (turnF n n f)) (sqF n g)) n hn (by rw [List.length_zipWith, l2, l3, Nat.min_self])) ?_
  have e := prod_apply (n := n) (l := f) (v := x) hn hf hx
  simp -implicitDefEqProofs (maxSteps := 10000000) only [turnedF, e, rkA, rkB, stepA, valA, simprocAttr]
end Go.Proofs.YtahcpmhgcppdcaaGreat.A.E



set_option linter.unusedVariables false
set_option linter.unusedSimpArgs false
set_option maxRecDepth 100000
namespace Go.Proofs.YtahcpmhgcppdcaaGreat.A
open Go Go.RowKit Go.Shelf

theorem ok21 : Ok Tryz.prog 21 [] (tru true) := by
  refine ok_fn mixed Tryz.func21 (code := ?_) (h := h21) ?_ k21 ?_
  rotate_left
  · exact rfl
  unfold h21 initS
  simp -implicitDefEqProofs (maxSteps := 10000000) only [rkA, rkB, stepA, valA, simprocAttr, Tryz.ntmps21, Tryz.results21]
  have h1 := ok75 1 1 true [1] (by simp)
  rw [if_pos (by decide)] at h1
  refine call_fn rfl rfl rfl (h1) ?_
  have h2 := ok77 true [0] (by simp)
  have h3 := ok77 true [1] (by simp)
  have u1 : upX 1 ([0].map (newF · 1)) (sqF 1 ([1].map (newF · 1))) ([1].map (newF · 1)) (newF 1 1) (newF 2 1) = [newF 1 1] := by decide +kernel
  have u2 : atF 1 1 (upP 1 (sqF 1 ([1].map (newF · 1))) ([1].map (newF · 1)) (newF 1 1)) 0 0 = newF 1 2 := by decide +kernel
  have u3 : spreadF 1 (sqF 1 ([1].map (newF · 1))) ([1].map (newF · 1)) (newF 1 1) = newF 2 1 := by decide +kernel
  generalize hR : [1].map (newF · 1) = R at *
  have lR : R.length = 1 := by subst hR; rfl
  simp -implicitDefEqProofs (maxSteps := 10000000) only [rkA, rkB, stepA, valA, simprocAttr]
  refine call_fn rfl rfl rfl (h2) ?_
  generalize hX : [0].map (newF · 1) = X at *
  have lX : X.length = 1 := by subst hX; rfl
  simp -implicitDefEqProofs (maxSteps := 10000000) only [rkA, rkB, stepA, valA, simprocAttr]
  have h4 := ok76 false false X R 1 (by omega) (by omega) (by omega)
  rw [if_pos (by omega)] at h4
  refine call_fn rfl rfl rfl (h4) ?_
  simp -implicitDefEqProofs (maxSteps := 10000000) only [rkA, rkB, stepA, valA, simprocAttr]
  refine call_fn rfl rfl rfl (h3) ?_
  simp -implicitDefEqProofs (maxSteps := 10000000) only [rkA, rkB, stepA, valA, simprocAttr]
  refine call_fn rfl rfl rfl (ok79 1 1) ?_
  simp -implicitDefEqProofs (maxSteps := 10000000) only [rkA, rkB, stepA, valA, simprocAttr]
  refine call_fn rfl rfl rfl (ok79 2 1) ?_
  simp -implicitDefEqProofs (maxSteps := 10000000) only [rkA, rkB, stepA, valA, simprocAttr]
  have h5 := ok78 false false false 1 X (sqF 1 R) R (newF 1 1) (newF 2 1) (by omega) lX (sqF_len 1 R) lR
  rw [u1, u3] at h5
  refine call_fn rfl rfl rfl (h5) ?_
  simp -implicitDefEqProofs (maxSteps := 10000000) only [frs, rkA, rkB, stepA, valA, simprocAttr]
  refine call_fn rfl rfl rfl (ok79 1 1) ?_
  simp -implicitDefEqProofs (maxSteps := 10000000) only [eq_fr, rkA, rkB, stepA, valA, simprocAttr]
  refine call_fn rfl rfl rfl (ok80 false 1 1 0 0 (upP 1 (sqF 1 R) R (newF 1 1))) ?_
  rw [u2]
  simp -implicitDefEqProofs (maxSteps := 10000000) only [rkA, rkB, stepA, valA, simprocAttr]
  refine call_fn rfl rfl rfl (ok79 1 2) ?_
  simp -implicitDefEqProofs (maxSteps := 10000000) only [eq_fr, rkA, rkB, stepA, valA, simprocAttr]
  refine call_fn rfl rfl rfl (ok79 2 1) ?_
  simp -implicitDefEqProofs (maxSteps := 10000000) only [eq_fr, rkA, rkB, stepA, valA, simprocAttr]
  have h6 := ok81 false false X (sqF 1 R) 1 1
  have hs : stRight X.length 1 1 (sqF 1 R).length = true := by rw [show (sqF 1 R).length = 1 from sqF_len 1 R, lX]; decide +kernel
  rw [hs] at h6
  refine call_fn rfl rfl rfl (h6) ?_
  simp -implicitDefEqProofs (maxSteps := 10000000) only [rkA, rkB, stepA, valA, simprocAttr]
end Go.Proofs.YtahcpmhgcppdcaaGreat.A


/- A slice that comes in, and how long it may be. -/
set_option linter.unusedVariables false
namespace Go.Proofs.YtahcpmhgcppdcaaGreat.A
open Go Go.RowKit Go.Shelf Go.ChangeShapes Go.WideShapes Go.ChangeAt

theorem C.len {I : Imm} {ex : Bool} {els : List PV} {a : Option Addr} {len cap : Nat} (h : C I (.sl ex els) (.slice a len cap)) : els.length = len := by
  cases h <;> simp_all
section
variable {H : Type} {enc : TypeId × Value → H} {P : Program} {W : World} {base : Nat} {held : Bool}
theorem row_sliceN {t e : TypeId} {c : CSh} {v : Value} {d : DataW H} {ps : List MemPlace} {r : Reach} {b0 : Nat} {ts : List TypeId} {ds : List (DataW H)} (j B : Nat)
    (m : Nat) (ht : P.underlying t = some (.slice e)) (hs : shape P m t = some [c]) (hv : Value.okWide P W r b0 t v)
    (hz : (DataW.weightsEach P ts ds).all (· ≤ reachBytes) = true) (hj : ts[j]? = some t) (hd : ds[j]? = some d) (hB : P.bytesOf e = B) (h : DataW.Trod enc P W base (fun _ => true) held t v d ps) :
    ∃ x, FitC c x ∧ C (allI W) x v ∧ ∀ ex els, x = .sl ex els → els.length * B ≤ 140737488351232 := by
  subst hB
  obtain ⟨x, h1, h2⟩ := row_slice m ht hs hv h
  refine ⟨x, h1, h2, ?_⟩
  rintro ex els rfl
  obtain ⟨a, len, cap, rfl⟩ := okWide_slice ht hv
  have hl := h2.len
  obtain ⟨fuel, hf⟩ := h
  rcases DataW.trod_slice ht hf with ⟨hcs, _⟩ | ⟨y, l, k, elems, rest, n, _, hcs, hx, _, _, _, hlen, _⟩
  · simp [Value.cells] at hcs
    obtain ⟨rfl, rfl, rfl⟩ := hcs
    rw [hl, Nat.zero_mul]
    exact Nat.zero_le _
  · simp [Value.cells] at hcs
    obtain ⟨rfl, rfl, rfl⟩ := hcs
    injection hx with hx1 hx2
    subst hx1
    have := sized_slice hz hj hd ht
    rw [List.length_map, List.length_map, hlen] at this
    rw [hl]
    exact Nat.le_trans (Nat.mul_le_mul_right _ (Nat.le_add_right _ _)) this
end
/-- Structs of three numbers and a truth. -/
abbrev numSh : CSh := .sl true [.int .i64, .int .i64, .int .i64, .bool]
theorem FitC.num4 {x : PV} (h : FitC numSh x) : ∃ zs : List (Int × Int × Int × Bool), x = .sl false (zs.map fun z => .agg [.s (.int .i64 z.1), .s (.int .i64 z.2.1), .s (.int .i64 z.2.2.1), .s (.bool z.2.2.2)]) := by
  simp only [FitC, FitL] at h
  obtain ⟨els, rfl, h⟩ := h
  obtain ⟨zs, rfl, _⟩ := map_of_all (f := fun (z : Int × Int × Int × Bool) => PV.agg [.s (.int .i64 z.1), .s (.int .i64 z.2.1), .s (.int .i64 z.2.2.1), .s (.bool z.2.2.2)]) (p := fun _ => True) (l := els) (fun e he => by
    obtain ⟨cs, rfl, y1, ys, rfl, ⟨n1, rfl, _⟩, y2, ys, rfl, ⟨n2, rfl, _⟩, y3, ys, rfl, ⟨n3, rfl, _⟩, y4, ys, rfl, ⟨b, rfl⟩, rfl⟩ := h e he
    exact ⟨(n1, n2, n3, b), rfl, trivial⟩)
  exact ⟨zs, rfl⟩
end Go.Proofs.YtahcpmhgcppdcaaGreat.A



set_option linter.unusedVariables false
set_option linter.unusedSimpArgs false
set_option maxRecDepth 100000
namespace Go.Proofs.YtahcpmhgcppdcaaGreat.A.E
open Go Go.RowKit Go.Shelf

/-! ### The laws JosephPredicts and JosephUpdates -/
theorem ok27_gen (xv pv bl cl ql v : PV) (r c b1 b2 c1 c2 q1 q2 : Int) (bs bq bv : Bool)
    (hq : Ok Tryz.prog 89 [.agg [num c1, num c2, cl]] (.tup [.agg [num q1, num q2, ql], tru bq])) (hv : Ok Tryz.prog 66 [.agg [num b1, num b2, bl], xv] (.tup [v, tru bv]))
    (hs : Ok Tryz.prog 20 [.agg [xv, num r, num c, pv]] (tru bs)) (h : (bs && bq && bv) = false) (kx : xv.cell = true) (kp : pv.cell = true) (kb : bl.cell = true) (kc : cl.cell = true) (kq : ql.cell = true) :
    Ok Tryz.prog 27 [.agg [xv, num r, num c, pv], .agg [num b1, num b2, bl], .agg [num c1, num c2, cl]] (.tup [stNil, tru false]) := by
  refine ok_fn mixed Tryz.func27 (code := ?_) (h := h27) ?_ k27 ?_
  rotate_left
  · exact rfl
  unfold h27 initS
  simp -implicitDefEqProofs (maxSteps := 10000000) only [rkA, rkB, stepA, valA, simprocAttr, Tryz.ntmps27, Tryz.results27]
  simp -implicitDefEqProofs (maxSteps := 10000000) only [kx, kp, kb, kc, rkA, rkB, stepA, valA, simprocAttr]
  refine call_fn rfl rfl rfl (hq) ?_
  simp -implicitDefEqProofs (maxSteps := 10000000) only [kq, rkA, rkB, stepA, valA, simprocAttr]
  refine call_fn rfl rfl rfl (hv) ?_
  simp -implicitDefEqProofs (maxSteps := 10000000) only [rkA, rkB, stepA, valA, simprocAttr]
  refine call_fn rfl rfl rfl (hs) ?_
  cases bs <;> cases bq <;> cases bv <;> first | (cases h; done) | simp -implicitDefEqProofs (maxSteps := 10000000) only [rkA, rkB, stepA, valA, simprocAttr]
theorem Cs.st_nil2 {I : Imm} {x : PV} {xs ys : List PV} {vs : List Value} (h : Cs I (.agg [x, num 0, num 0, .s (.slice none 0 0)] :: xs) vs) (k : ∀ us, Cs I xs us → Cs I ys us) : Cs I (.agg [x, num 0, num 0, .sl false (frs [])] :: ys) vs := by
  have key : ∀ us, Cs I [x, num 0, num 0, .s (.slice none 0 0)] us → Cs I [x, num 0, num 0, .sl false []] us := fun us h => Cs.keep h fun us h => Cs.keep h fun us h => Cs.keep h fun us h => Cs.nil_of h fun us h => h
  cases h with | cons h1 h2 => cases h1 with | agg hl => exact .cons (.agg (key _ hl)) (k _ h2)
theorem ok20_nil2 (ex : Bool) (x : List Fr) : Ok Tryz.prog 20 [.agg [.sl ex (frs x), num 0, num 0, .s (.slice none 0 0)]] (tru false) := by
  have h := ok20 ex false x [] 0 0
  have e : stRight x.length 0 0 ([] : List Fr).length = false := by
    unfold stRight
    simp [right]
  rw [e] at h
  exact h.args fun I vs h => Cs.st_nil2 h fun us h => h
theorem ok20_nil : Ok Tryz.prog 20 [stNil] (tru false) := by
  have h := ok20 false false [] [] 0 0
  have e : stRight ([] : List Fr).length 0 0 ([] : List Fr).length = false := by decide
  rw [e] at h
  exact h.args fun I vs h => Cs.st_nil h fun us h => h
theorem ok89_nil : Ok Tryz.prog 89 [matNil] (.tup [matNil, tru false]) := (ok89n false 0 0 [] (by decide)).args fun I vs h => Cs.mat_nil h fun us h => h
theorem ok66_nil (ev : Bool) (v : List Fr) (hv : v.length ≤ 4398046511104) : Ok Tryz.prog 66 [matNil, .sl ev (frs v)] (.tup [.sl false [], tru false]) := by
  have h := ok66 false ev 0 0 [] v hv
  rw [if_neg (fun h => by simp [right] at h)] at h
  exact h.args fun I vs h => Cs.mat_nil h fun us h => h
theorem yes_of {b : Bool} (h : b = false → true = false) : b = true := by
  cases b with
  | true => rfl
  | false => cases h rfl
structure Made (e : Bool) (n : Int) (l : List Fr) (a : Int) (pl : PV) (is : Bool) : Prop where
  cell : pl.cell = true
  new : Ok Tryz.prog 18 [num n, num n, .sl e (frs l)] (.tup [.agg [num a, num a, pl], tru is])
  ok : is = true → right n n l.length = true ∧ a = n ∧ pl = .sl false (frs l)
  no : is = false → ¬ right n n l.length = true
  sq : ∃ q1 q2 ql bq, Ok Tryz.prog 89 [.agg [num a, num a, pl]] (.tup [.agg [num q1, num q2, ql], tru bq]) ∧ (is = false → bq = false) ∧ ql.cell = true
  app : ∀ (ex : Bool) (x : List Fr), x.length ≤ 4398046511104 → ∃ v bv, Ok Tryz.prog 66 [.agg [num a, num a, pl], .sl ex (frs x)] (.tup [v, tru bv]) ∧ (is = false → bv = false)
  st : ∀ (ex : Bool) (x : List Fr), ∃ bs, Ok Tryz.prog 20 [.agg [.sl ex (frs x), num a, num a, pl]] (tru bs) ∧ (bs = true → is = true ∧ 1 ≤ n ∧ n ≤ 4 ∧ (x.length : Int) = n)
theorem made (e : Bool) (n : Int) (l : List Fr) (h : l.length ≤ 4398046511104) : ∃ a pl is, Made e n l a pl is := by
  have h44 := ok18 n n e l h
  by_cases hr : right n n l.length = true
  · rw [if_pos hr] at h44
    obtain ⟨r1, r2, _, _, hl⟩ := right_spec hr
    obtain ⟨N, rfl⟩ := Int.eq_ofNat_of_zero_le (show 0 ≤ n by omega)
    have hN : 1 ≤ N ∧ N ≤ 16 := by omega
    have hl' : l.length = N * N := by
      have e : (N : Int) * (N : Int) = ((N * N : Nat) : Int) := by simp
      omega
    refine ⟨N, .sl false (frs l), true, rfl, h44, fun _ => ⟨hr, rfl, rfl⟩, fun h => (by cases h), ⟨N, N, _, true, ok89 N hN false l hl', fun h => (by cases h), rfl⟩, fun ex x hx => ?_, fun ex x => ⟨_, ok20 ex false x l N N, fun h => ?_⟩⟩
    · have h102 := ok66 false ex N N l x hx
      by_cases hc : right (N : Int) N l.length = true ∧ (x.length : Int) = N
      · rw [if_pos hc] at h102
        exact ⟨_, _, h102, fun h => (by cases h)⟩
      · rw [if_neg hc] at h102
        exact ⟨_, _, h102, fun h => (by cases h)⟩
    · rw [stRight_nat hl'] at h
      have := of_decide_eq_true h
      exact ⟨rfl, by omega, by omega, by omega⟩
  · rw [if_neg hr] at h44
    exact ⟨0, _, false, rfl, h44, fun h => (by cases h), fun _ => hr, ⟨0, 0, _, false, ok89_nil, fun _ => rfl, rfl⟩, fun ex x hx => ⟨_, false, ok66_nil ex x hx, fun _ => rfl⟩, fun ex x => ⟨false, ok20_nil2 ex x, fun h => (by cases h)⟩⟩
set_option maxHeartbeats 2000000 in
theorem ok4 (ex ep ef eg : Bool) (x p f g : List Fr) (n : Int) (lx : x.length ≤ 4398046511104) (lp : p.length ≤ 4398046511104) (lf : f.length ≤ 4398046511104) (lg : g.length ≤ 4398046511104) :
    Ok Tryz.prog 4 [.sl ex (frs x), .sl ep (frs p), .sl ef (frs f), .sl eg (frs g), num n] (tru true) := by
  have la : (frs x).length = x.length := by simp
  obtain ⟨a1, p1, i1, m1⟩ := made ep n p lp
  obtain ⟨a2, p2, i2, m2⟩ := made ef n f lf
  obtain ⟨a3, p3, i3, m3⟩ := made eg n g lg
  refine ok_fn mixed Tryz.func4 (code := ?_) (h := h4) ?_ k4 ?_
  rotate_left
  · exact rfl
  unfold h4 initS
  simp -implicitDefEqProofs (maxSteps := 10000000) only [rkA, rkB, stepA, valA, simprocAttr, Tryz.ntmps4, Tryz.results4]
  refine call_fn rfl rfl rfl (m1.new) ?_
  simp -implicitDefEqProofs (maxSteps := 10000000) only [m1.cell, rkA, rkB, stepA, valA, simprocAttr]
  refine call_fn rfl rfl rfl (m2.new) ?_
  simp -implicitDefEqProofs (maxSteps := 10000000) only [m2.cell, rkA, rkB, stepA, valA, simprocAttr]
  refine call_fn rfl rfl rfl (m3.new) ?_
  simp -implicitDefEqProofs (maxSteps := 10000000) only [m1.cell, m2.cell, m3.cell, rkA, rkB, stepA, valA, simprocAttr]
  by_cases good : (1 ≤ n ∧ n ≤ 4) ∧ (x.length : Int) = n ∧ i1 = true ∧ i2 = true ∧ i3 = true
  · obtain ⟨⟨n1, n2⟩, hx, rfl, rfl, rfl⟩ := good
    obtain ⟨r1, rfl, rfl⟩ := m1.ok rfl
    obtain ⟨r2, rfl, rfl⟩ := m2.ok rfl
    obtain ⟨r3, rfl, rfl⟩ := m3.ok rfl
    obtain ⟨N, rfl⟩ := Int.eq_ofNat_of_zero_le (show 0 ≤ a3 by omega)
    have hN : 1 ≤ N ∧ N ≤ 4 := by omega
    have hN' : 1 ≤ N ∧ N ≤ 16 := by omega
    have b16 : N * N ≤ 16 := Nat.mul_le_mul hN.2 hN.2
    have cN : (N : Int) * (N : Int) = ((N * N : Nat) : Int) := by simp
    have hx' : x.length = N := by omega
    have hp' : p.length = N * N := by have := (right_spec r1).2.2.2.2; omega
    have hf' : f.length = N * N := by have := (right_spec r2).2.2.2.2; omega
    have hg' : g.length = N * N := by have := (right_spec r3).2.2.2.2; omega
    refine call_fn rfl rfl rfl (ok27 ex false false false x p f g N hN hx' hp' hf' hg') ?_
    have c1 : ¬ (N : Int) < 1 := by omega
    have c2 : ¬ (N : Int) > 4 := by omega
    have c3 : ((x.length : Int) != (N : Int)) = false := by simp [hx']
    simp -implicitDefEqProofs (maxSteps := 10000000) only [la, c1, c2, c3, rkA, rkB, stepA, valA, simprocAttr]
    refine call_fn rfl rfl rfl (ok23 ex x (by omega)) ?_
    simp -implicitDefEqProofs (maxSteps := 10000000) only [rkA, rkB, stepA, valA, simprocAttr]
    refine call_fn rfl rfl rfl (ok23 ep p (by omega)) ?_
    simp -implicitDefEqProofs (maxSteps := 10000000) only [rkA, rkB, stepA, valA, simprocAttr]
    refine call_fn rfl rfl rfl (ok23 ef f (by omega)) ?_
    simp -implicitDefEqProofs (maxSteps := 10000000) only [rkA, rkB, stepA, valA, simprocAttr]
    refine call_fn rfl rfl rfl (ok23 eg g (by omega)) ?_
    simp -implicitDefEqProofs (maxSteps := 10000000) only [rkA, rkB, stepA, valA, simprocAttr]
    refine call_fn rfl rfl rfl (ok28 false false false false x p f g N hN' hx' hp' hf' hg') ?_
    simp -implicitDefEqProofs (maxSteps := 10000000) only [rkA, rkB, stepA, valA, simprocAttr]
    have h6 := ok20 ex false x p N N
    rw [stRight_nat hp', decide_eq_true (show 1 ≤ x.length ∧ x.length ≤ 4 ∧ x.length = N by omega)] at h6
    refine call_fn rfl rfl rfl (h6) ?_
    simp -implicitDefEqProofs (maxSteps := 10000000) only [rkA, rkB, stepA, valA, simprocAttr]
    have lt := turnedF_len N f p (sqF N g)
    have ly := applyF_len N f x
    have h7 := ok20 false false (applyF N N f x) (turnedF N f p (sqF N g)) N N
    rw [stRight_nat lt, ly, decide_eq_true (show 1 ≤ N ∧ N ≤ 4 ∧ N = N by omega)] at h7
    refine call_fn rfl rfl rfl (h7) ?_
    simp -implicitDefEqProofs (maxSteps := 10000000) only [rkA, rkB, stepA, valA, simprocAttr]
    refine call_fn rfl rfl rfl (ok25 false false (applyF N N f x) (by omega)) ?_
    simp -implicitDefEqProofs (maxSteps := 10000000) only [rkA, rkB, stepA, valA, simprocAttr]
    refine call_fn rfl rfl rfl (ok26 false false N N (turnedF N f p (sqF N g)) (by omega)) ?_
    simp -implicitDefEqProofs (maxSteps := 10000000) only [rkA, rkB, stepA, valA, simprocAttr]
    refine call_fn rfl rfl rfl (ok21) ?_
    simp -implicitDefEqProofs (maxSteps := 10000000) only [rkA, rkB, stepA, valA, simprocAttr]
  · obtain ⟨q1, q2, ql, bq, hq, hq', hqc⟩ := m3.sq
    obtain ⟨v, bv, hv, hv'⟩ := m2.app ex x lx
    obtain ⟨bs, hs, hs'⟩ := m1.st ex x
    have h := ok27_gen (.sl ex (frs x)) p1 p2 p3 ql v a1 a1 a2 a2 a3 a3 q1 q2 bs bq bv hq hv hs (by
      cases bs <;> cases bq <;> cases bv <;> first | rfl | (exfalso; obtain ⟨e1, e2, e3, e4⟩ := hs' rfl; exact good ⟨⟨e2, e3⟩, e4, e1, yes_of hv', yes_of hq'⟩)) rfl m1.cell m2.cell m3.cell hqc
    refine call_fn rfl rfl rfl (h) ?_
    simp -implicitDefEqProofs (maxSteps := 10000000) only [la, rkA, rkB, stepA, valA, simprocAttr]
    by_cases c1 : n < 1
    · simp -implicitDefEqProofs (maxSteps := 10000000) only [c1, rkA, rkB, stepA, valA, simprocAttr]
      refine call_fn rfl rfl rfl (ok20_nil) ?_
      simp -implicitDefEqProofs (maxSteps := 10000000) only [rkA, rkB, stepA, valA, simprocAttr]
      refine call_fn rfl rfl rfl (ok21) ?_
      simp -implicitDefEqProofs (maxSteps := 10000000) only [rkA, rkB, stepA, valA, simprocAttr]
    · by_cases c2 : n > 4
      · simp -implicitDefEqProofs (maxSteps := 10000000) only [c1, c2, rkA, rkB, stepA, valA, simprocAttr]
        refine call_fn rfl rfl rfl (ok20_nil) ?_
        simp -implicitDefEqProofs (maxSteps := 10000000) only [rkA, rkB, stepA, valA, simprocAttr]
        refine call_fn rfl rfl rfl (ok21) ?_
        simp -implicitDefEqProofs (maxSteps := 10000000) only [rkA, rkB, stepA, valA, simprocAttr]
      · by_cases c3 : (x.length : Int) = n
        · have c3' : ((x.length : Int) != n) = false := by simp [c3]
          cases i1 with
          | false =>
            simp -implicitDefEqProofs (maxSteps := 10000000) only [la, c1, c2, c3', rkA, rkB, stepA, valA, simprocAttr]
            refine call_fn rfl rfl rfl (ok20_nil) ?_
            simp -implicitDefEqProofs (maxSteps := 10000000) only [rkA, rkB, stepA, valA, simprocAttr]
            refine call_fn rfl rfl rfl (ok21) ?_
            simp -implicitDefEqProofs (maxSteps := 10000000) only [rkA, rkB, stepA, valA, simprocAttr]
          | true => cases i2 with
            | false =>
              simp -implicitDefEqProofs (maxSteps := 10000000) only [la, c1, c2, c3', rkA, rkB, stepA, valA, simprocAttr]
              refine call_fn rfl rfl rfl (ok20_nil) ?_
              simp -implicitDefEqProofs (maxSteps := 10000000) only [rkA, rkB, stepA, valA, simprocAttr]
              refine call_fn rfl rfl rfl (ok21) ?_
              simp -implicitDefEqProofs (maxSteps := 10000000) only [rkA, rkB, stepA, valA, simprocAttr]
            | true => cases i3 with
              | false =>
                simp -implicitDefEqProofs (maxSteps := 10000000) only [la, c1, c2, c3', rkA, rkB, stepA, valA, simprocAttr]
                refine call_fn rfl rfl rfl (ok20_nil) ?_
                simp -implicitDefEqProofs (maxSteps := 10000000) only [rkA, rkB, stepA, valA, simprocAttr]
                refine call_fn rfl rfl rfl (ok21) ?_
                simp -implicitDefEqProofs (maxSteps := 10000000) only [rkA, rkB, stepA, valA, simprocAttr]
              | true => exact absurd ⟨⟨by omega, by omega⟩, c3, rfl, rfl, rfl⟩ good
        · have c3' : ((x.length : Int) != n) = true := by simp [c3]
          simp -implicitDefEqProofs (maxSteps := 10000000) only [la, c1, c2, c3', rkA, rkB, stepA, valA, simprocAttr]
          refine call_fn rfl rfl rfl (ok20_nil) ?_
          simp -implicitDefEqProofs (maxSteps := 10000000) only [rkA, rkB, stepA, valA, simprocAttr]
          refine call_fn rfl rfl rfl (ok21) ?_
          simp -implicitDefEqProofs (maxSteps := 10000000) only [rkA, rkB, stepA, valA, simprocAttr]
theorem nums_of {x : PV} (h : FitC numSh x) (hb : ∀ ex els, x = .sl ex els → els.length * 32 ≤ 140737488351232) : ∃ l : List Fr, x = .sl false (frs l) ∧ l.length ≤ 4398046511104 := by
  obtain ⟨zs, rfl⟩ := FitC.num4 h
  have e : (zs.map fun z => PV.agg [.s (.int .i64 z.1), .s (.int .i64 z.2.1), .s (.int .i64 z.2.2.1), .s (.bool z.2.2.2)]) = frs (zs.map fun z => ⟨z.1, z.2.1, z.2.2.1, z.2.2.2⟩) := by
    rw [frs, List.map_map]
    rfl
  refine ⟨zs.map fun z => ⟨z.1, z.2.1, z.2.2.1, z.2.2.2⟩, by rw [e], ?_⟩
  have := hb _ _ rfl
  rw [List.length_map] at this ⊢
  omega
theorem JosephPredicts_ok {x p f g : PV} (hx : FitC numSh x) (bx : ∀ ex els, x = .sl ex els → els.length * 32 ≤ 140737488351232) (hp : FitC numSh p) (bp : ∀ ex els, p = .sl ex els → els.length * 32 ≤ 140737488351232)
    (hf : FitC numSh f) (bf : ∀ ex els, f = .sl ex els → els.length * 32 ≤ 140737488351232) (hg : FitC numSh g) (bg : ∀ ex els, g = .sl ex els → els.length * 32 ≤ 140737488351232) (n : Int) : Ok Tryz.prog 4 [x, p, f, g, num n] (tru true) := by
  obtain ⟨x, rfl, lx⟩ := nums_of hx bx
  obtain ⟨p, rfl, lp⟩ := nums_of hp bp
  obtain ⟨f, rfl, lf⟩ := nums_of hf bf
  obtain ⟨g, rfl, lg⟩ := nums_of hg bg
  exact ok4 false false false false x p f g n lx lp lf lg
end Go.Proofs.YtahcpmhgcppdcaaGreat.A.E


