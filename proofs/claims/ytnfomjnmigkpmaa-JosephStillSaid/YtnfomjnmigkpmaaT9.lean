import Derived.Test.YtnfomjnmigkpmaaT8
set_option linter.unusedVariables false
set_option linter.unusedSimpArgs false
set_option maxRecDepth 100000
namespace Go.Proofs.Ytnfomjnmigkpmaa.A
open Go Go.RowKit Go.Shelf

section
variable {α : Type} (g : Nat → Nat → α) (n : Nat)
/-- A table gone through row by row: what stands so far. -/
def gridP (i k : Nat) : List α := (List.range i).flatMap (fun i => (List.range n).map (g i)) ++ (List.range k).map (g i)
theorem gridP_succ (i k : Nat) : gridP g n i (k + 1) = gridP g n i k ++ [g i k] := by simp [gridP, List.range_succ]
theorem gridP_next (i : Nat) : gridP g n i n = gridP g n (i + 1) 0 := by simp [gridP, List.range_succ]
theorem gridP_length (i k : Nat) : (gridP g n i k).length = i * n + k := by simp [gridP, List.length_flatMap, List.map_const', List.sum_replicate_nat]
theorem gridP_zero (i : Nat) : gridP g n i 0 = (List.range i).flatMap (fun i => (List.range n).map (g i)) := by simp [gridP]
end

/-- The document's sum of products. -/
def dotI (a b : List Int) (many cols i k : Nat) : Nat → Int
  | 0 => 0
  | j + 1 => dotI a b many cols i k j + a.getD (i * many + j) 0 * b.getD (j * cols + k) 0
def small (a : List Int) : Prop := ∀ x ∈ a, -100 ≤ x ∧ x ≤ 100
theorem small_get {a : List Int} (h : small a) (i : Nat) : -100 ≤ a.getD i 0 ∧ a.getD i 0 ≤ 100 := by
  rw [List.getD_eq_getElem?_getD]
  cases hi : a[i]? with
  | none => simp
  | some x => exact h x (List.mem_of_getElem? hi)
theorem prod_small {x y : Int} (hx : -100 ≤ x ∧ x ≤ 100) (hy : -100 ≤ y ∧ y ≤ 100) : -10000 ≤ x * y ∧ x * y ≤ 10000 := by
  have h1 : (x * y).natAbs = x.natAbs * y.natAbs := Int.natAbs_mul x y
  have h2 : x.natAbs * y.natAbs ≤ 100 * 100 := Nat.mul_le_mul (by omega) (by omega)
  omega
theorem dotI_le {a b : List Int} (ha : small a) (hb : small b) (many cols i k : Nat) : ∀ j : Nat, -10000 * (j : Int) ≤ dotI a b many cols i k j ∧ dotI a b many cols i k j ≤ 10000 * (j : Int)
  | 0 => by simp [dotI]
  | j + 1 => by
    have h1 := dotI_le ha hb many cols i k j
    have h2 := prod_small (small_get ha (i * many + j)) (small_get hb (j * cols + k))
    simp only [dotI, Int.natCast_add, Int.natCast_one]
    omega
/-- The document's product. -/
def mulI (a b : List Int) (rows many cols : Nat) : List Int := gridP (fun i k => dotI a b many cols i k many) cols rows 0

theorem fits_num {k l : List Int} (h : k.length + l.length ≤ 5864062014805) : fits 1 8 (k.map num) (l.map num) = true := by
  simp [fits, PV.cells, PV.ok, PV.cell, Value.oneCell']
  omega
theorem at_num {a : List Int} {i : Nat} (h : i < a.length) : (a.map num)[i]? = some (num (a.getD i 0)) := by
  simp [h]
theorem at_table {i j n m : Nat} (hi : i < n) (hj : j < m) : i * m + j < n * m ∧ i * m ≤ n * m := by
  have : (i + 1) * m ≤ n * m := Nat.mul_le_mul_right _ (by omega)
  rw [Nat.add_mul] at this
  omega
theorem side16 {n m : Nat} (hn : n ≤ 16) (hm : m ≤ 16) : n * m ≤ 256 := Nat.mul_le_mul hn hm

end Go.Proofs.Ytnfomjnmigkpmaa.A
