import Derived.Test.YtadfcbpakfaaaaaT15
set_option linter.unusedVariables false
set_option linter.unusedSimpArgs false
namespace Go.Proofs.Ytadfcbpakfaaaaa.A
open Go Go.RowKit Go.Shelf

/-- All numbers of a row lie within a bound. -/
def bnd (B : Nat) (l : List Int) : Prop := ∀ x ∈ l, x.natAbs ≤ B
theorem bnd_get {B : Nat} {a : List Int} (h : bnd B a) (i : Nat) : (a.getD i 0).natAbs ≤ B := by
  rw [List.getD_eq_getElem?_getD]
  cases hi : a[i]? with
  | none => simp
  | some x => exact h x (List.mem_of_getElem? hi)
theorem small_bnd {a : List Int} (h : small a) : bnd 100 a := fun x hx => by
  have := h x hx
  omega
theorem few_of {n : Int} {B : Nat} (h : n.natAbs ≤ B) (hB : B ≤ 1073741824) : few n := by
  unfold few
  omega
theorem mul_abs {x y : Int} {B C : Nat} (hx : x.natAbs ≤ B) (hy : y.natAbs ≤ C) : (x * y).natAbs ≤ B * C := by
  rw [Int.natAbs_mul]
  exact Nat.mul_le_mul hx hy
theorem dotI_bnd {B C : Nat} {a b : List Int} (ha : bnd B a) (hb : bnd C b) (many cols i k : Nat) : ∀ j : Nat, (dotI a b many cols i k j).natAbs ≤ j * (B * C)
  | 0 => by simp [dotI]
  | j + 1 => by
    have h1 := dotI_bnd ha hb many cols i k j
    have h2 := mul_abs (bnd_get ha (i * many + j)) (bnd_get hb (j * cols + k))
    have h3 := Int.natAbs_add_le (dotI a b many cols i k j) (a.getD (i * many + j) 0 * b.getD (j * cols + k) 0)
    simp only [dotI, Nat.add_mul, Nat.one_mul]
    omega
theorem gridP_bnd {B : Nat} {g : Nat → Nat → Int} {n N : Nat} (h : ∀ i k, (g i k).natAbs ≤ B) : bnd B (gridP g n N 0) := by
  intro x hx
  rw [gridP_zero, List.mem_flatMap] at hx
  obtain ⟨i, _, hx⟩ := hx
  obtain ⟨k, _, rfl⟩ := List.mem_map.1 hx
  exact h i k
theorem mulI_bnd {B C : Nat} {a b : List Int} (ha : bnd B a) (hb : bnd C b) (rows many cols : Nat) : bnd (many * (B * C)) (mulI a b rows many cols) :=
  gridP_bnd fun i k => dotI_bnd ha hb many cols i k many
theorem sumI_bnd {B C : Nat} {a b : List Int} (ha : bnd B a) (hb : bnd C b) (R K : Nat) : bnd (B + C) (sumI a b K R 0) :=
  gridP_bnd fun i k => by
    have h1 := bnd_get ha (i * K + k)
    have h2 := bnd_get hb (i * K + k)
    have := Int.natAbs_add_le (a.getD (i * K + k) 0) (b.getD (i * K + k) 0)
    omega

theorem dotF_wholeB {B C : Nat} {a b : List Int} {many cols : Nat} (ha : bnd B a) (hb : bnd C b) (hB : B ≤ 1073741824) (hC : C ≤ 1073741824) (hBC : B * C ≤ 1073741824) (hm : many * (B * C) ≤ 1073741824) (i k : Nat) :
    dotF ((List.range many).map fun j => newF (a.getD (i * many + j) 0) 1) ((List.range many).map fun j => newF (b.getD (j * cols + k) 0) 1) = newF (dotI a b many cols i k many) 1 := by
  have hd : ∀ j, j ≤ many → few (dotI a b many cols i k j) := fun j hj => by
    have := dotI_bnd ha hb many cols i k j
    exact few_of this (Nat.le_trans (Nat.mul_le_mul_right _ hj) hm)
  unfold dotF
  rw [newF_whole (hd many (Nat.le_refl _)), List.zipWith_map, List.zipWith_self]
  have e : ∀ j, mulF (newF (a.getD (i * many + j) 0) 1) (newF (b.getD (j * cols + k) 0) 1) = whole (a.getD (i * many + j) 0 * b.getD (j * cols + k) 0) := fun j => by
    have h1 := few_of (bnd_get ha (i * many + j)) hB
    have h2 := few_of (bnd_get hb (j * cols + k)) hC
    have h3 := few_of (mul_abs (bnd_get ha (i * many + j)) (bnd_get hb (j * cols + k))) hBC
    rw [newF_whole h1, newF_whole h2, mulF_whole h1 h2 h3]
  simp only [e]
  exact sumF_whole (fun j => a.getD (i * many + j) 0 * b.getD (j * cols + k) 0) (dotI a b many cols i k) rfl (fun j => rfl) many (fun j _ => few_of (mul_abs (bnd_get ha (i * many + j)) (bnd_get hb (j * cols + k))) hBC) hd many (Nat.le_refl _)

/-- The product of whole numbers within bounds. -/
theorem prodF_wholeB {B C : Nat} {R M K : Nat} {a b : List Int} (hR : 1 ≤ R ∧ R ≤ 16) (hM : 1 ≤ M ∧ M ≤ 16) (hK : 1 ≤ K ∧ K ≤ 16) (la : a.length = R * M) (lb : b.length = M * K) (ha : bnd B a) (hb : bnd C b)
    (hB : B ≤ 1073741824) (hC : C ≤ 1073741824) (hBC : B * C ≤ 1073741824) (hm : M * (B * C) ≤ 1073741824) :
    prodF (R : Int) (M : Int) (K : Int) (a.map (newF · 1)) (b.map (newF · 1)) = (mulI a b R M K).map (newF · 1) := by
  have h1' := right_nat (n := (a.map (newF · 1)).length) hR hM (by simpa using la)
  have h2' := right_nat (n := (b.map (newF · 1)).length) hM hK (by simpa using lb)
  have h3 := right_turn h2'
  unfold prodF mulI allF
  rw [gridP_zero, List.flatMap_map, List.map_flatMap]
  simp only [Int.toNat_natCast]
  apply flatMap_same
  intro i hi
  rw [List.mem_range] at hi
  rw [List.map_map, List.map_map]
  apply List.map_congr_left
  intro k hk
  rw [List.mem_range] at hk
  simp only [Function.comp]
  have e1 : rowF (R : Int) (M : Int) (a.map (newF · 1)) i = (List.range M).map fun j => newF (a.getD (i * M + j) 0) 1 := by
    rw [rowF_eq ⟨0, 0, false⟩ h1' (by simpa using hi), Int.toNat_natCast]
    apply List.map_congr_left
    intro j hj
    rw [List.mem_range] at hj
    have := at_table hi hj
    exact getD_newF (by omega) _
  have e2 : rowF (K : Int) (M : Int) (turnF (M : Int) (K : Int) (b.map (newF · 1))) k = (List.range M).map fun j => newF (b.getD (j * K + k) 0) 1 := by
    rw [rowF_eq ⟨0, 0, false⟩ h3 (by simpa using hk), Int.toNat_natCast]
    apply List.map_congr_left
    intro j hj
    rw [List.mem_range] at hj
    rw [turnF_eq h2', List.getD_eq_getElem?_getD, Int.toNat_natCast, Int.toNat_natCast, gridP_get _ _ _ _ _ hk hj, Option.getD_some, atF_eq h2' (by simpa using hj) (by simpa using hk), Int.toNat_natCast]
    have := at_table hj hk
    exact getD_newF (by omega) _
  rw [e1, e2, dotF_wholeB ha hb hB hC hBC hm]

theorem sumI_eqB {B C : Nat} {a b : List Int} {R K : Nat} (ha : a.length = R * K) (hb : b.length = R * K) (sa : bnd B a) (sb : bnd C b) (h : B + C ≤ 1073741824) : List.zipWith addF (a.map (newF · 1)) (b.map (newF · 1)) = (sumI a b K R 0).map (newF · 1) := by
  rw [sumI, gridP_map]
  refine grid_of (by simp [ha, hb]) fun i k hi hk => ?_
  have := at_table hi hk
  have h1 := bnd_get sa (i * K + k)
  have h2 := bnd_get sb (i * K + k)
  have h3 := Int.natAbs_add_le (a.getD (i * K + k) 0) (b.getD (i * K + k) 0)
  have f1 := few_of h1 (by omega)
  have f2 := few_of h2 (by omega)
  have f3 : few (a.getD (i * K + k) 0 + b.getD (i * K + k) 0) := few_of (B := B + C) (by omega) h
  rw [List.getElem?_zipWith, getD_map (by omega), getD_map (by omega)]
  simp only
  rw [newF_whole f1, newF_whole f2, newF_whole f3, addF_whole f1 f2 f3]

theorem grid_getD {g : Nat → Nat → Int} {n N i k : Nat} (hi : i < N) (hk : k < n) : (gridP g n N 0).getD (i * n + k) 0 = g i k := by
  rw [List.getD_eq_getElem?_getD, gridP_get g n N i k hi hk, Option.getD_some]
theorem mulI_length (a b : List Int) (R M K : Nat) : (mulI a b R M K).length = R * K := by rw [mulI, gridP_length, Nat.add_zero]
theorem sumI_length (a b : List Int) (R K : Nat) : (sumI a b K R 0).length = R * K := by rw [sumI, gridP_length, Nat.add_zero]

theorem dotI_add {a s b c : List Int} {many cols i k : Nat} (h : ∀ j, j < many → s.getD (j * cols + k) 0 = b.getD (j * cols + k) 0 + c.getD (j * cols + k) 0) :
    ∀ j, j ≤ many → dotI a s many cols i k j = dotI a b many cols i k j + dotI a c many cols i k j
  | 0, _ => rfl
  | j + 1, hj => by
    simp only [dotI]
    rw [dotI_add h j (by omega), h j (by omega), Int.mul_add]
    omega
/-- A product with a sum. -/
theorem mul_sum {a b c : List Int} {R M K : Nat} : mulI a (sumI b c K M 0) R M K = sumI (mulI a b R M K) (mulI a c R M K) K R 0 := by
  unfold mulI sumI
  refine gridP_congr fun i k hi hk => ?_
  rw [grid_getD hi hk, grid_getD hi hk]
  exact dotI_add (fun j hj => grid_getD hj hk) M (Nat.le_refl _)

theorem dotI_same {a s b : List Int} {many c1 c2 i k1 k2 : Nat} (h : ∀ j, j < many → s.getD (j * c1 + k1) 0 = b.getD (j * c2 + k2) 0) :
    ∀ j, j ≤ many → dotI a s many c1 i k1 j = dotI a b many c2 i k2 j
  | 0, _ => rfl
  | j + 1, hj => by
    simp only [dotI]
    rw [dotI_same h j (by omega), h j (by omega)]
theorem besI_grid {b c : List Int} {R K : Nat} (hb : b.length = R * K) (hc : c.length = R * K) : besI b c K R = gridP (fun i k => if k < K then b.getD (i * K + k) 0 else c.getD (i * K + (k - K)) 0) (K + K) R 0 := by
  rw [gridP_zero]
  unfold besI rowI
  apply flatMap_same
  intro i hi
  rw [List.mem_range] at hi
  have : (i + 1) * K ≤ R * K := Nat.mul_le_mul_right _ hi
  rw [stretch b 0 i K (by omega), stretch c 0 i K (by omega), List.range_add, List.map_append, List.map_map]
  congr 1
  · apply List.map_congr_left
    intro k hk
    rw [List.mem_range] at hk
    rw [if_pos hk]
  · apply List.map_congr_left
    intro k hk
    simp only [Function.comp]
    rw [if_neg (by omega)]
    congr 1
    omega
/-- A product with a row beside another one. -/
theorem mul_bes {a b c : List Int} {R M K : Nat} (hb : b.length = M * K) (hc : c.length = M * K) : mulI a (besI b c K M) R M (K + K) = besI (mulI a b R M K) (mulI a c R M K) K R := by
  rw [besI_grid (mulI_length a b R M K) (mulI_length a c R M K), besI_grid hb hc]
  unfold mulI
  refine gridP_congr fun i k hi hk => ?_
  by_cases h : k < K
  · rw [if_pos h, grid_getD hi h]
    exact dotI_same (fun j hj => by rw [grid_getD hj hk, if_pos h]) M (Nat.le_refl _)
  · rw [if_neg h, grid_getD hi (show k - K < K by omega)]
    exact dotI_same (fun j hj => by rw [grid_getD hj hk, if_neg h]) M (Nat.le_refl _)
theorem besI_bnd {B : Nat} {b c : List Int} {R K : Nat} (hb : bnd B b) (hc : bnd B c) (n : Nat) : bnd B (besI b c K n) := by
  intro x hx
  unfold besI rowI at hx
  rw [List.mem_flatMap] at hx
  obtain ⟨i, _, hx⟩ := hx
  rcases List.mem_append.1 hx with hx | hx
  · exact hb x (List.mem_of_mem_take (List.mem_of_mem_drop hx))
  · exact hc x (List.mem_of_mem_take (List.mem_of_mem_drop hx))
end Go.Proofs.Ytadfcbpakfaaaaa.A
