import Derived.Test.YtadfcbpakfaaaaaT19

set_option linter.unusedVariables false
set_option linter.unusedSimpArgs false
set_option maxRecDepth 100000
namespace Go.Proofs.Ytadfcbpakfaaaaa.A
open Go Go.RowKit Go.Shelf

/-! ### Plain laws of products -/
theorem dotI_sum (a b : List Int) (many cols i k : Nat) : ∀ j, dotI a b many cols i k j = ((List.range j).map fun j => a.getD (i * many + j) 0 * b.getD (j * cols + k) 0).sum
  | 0 => rfl
  | j + 1 => by
    simp only [dotI, List.range_succ, List.map_append, List.sum_append, List.map_cons, List.map_nil, List.sum_cons, List.sum_nil]
    rw [dotI_sum a b many cols i k j]
    omega

theorem sum_congr {f g : Nat → Int} {n : Nat} (h : ∀ j, j < n → f j = g j) : ((List.range n).map f).sum = ((List.range n).map g).sum := by
  congr 1
  apply List.map_congr_left
  intro j hj
  exact h j (List.mem_range.1 hj)
theorem sum_mul (f : Nat → Int) (c : Int) : ∀ n, ((List.range n).map f).sum * c = ((List.range n).map fun j => f j * c).sum
  | 0 => by simp
  | n + 1 => by
    simp only [List.range_succ, List.map_append, List.sum_append, List.map_cons, List.map_nil, List.sum_cons, List.sum_nil, Int.add_mul]
    rw [sum_mul f c n]
    omega
theorem mul_sum' (f : Nat → Int) (c : Int) (n : Nat) : c * ((List.range n).map f).sum = ((List.range n).map fun j => c * f j).sum := by
  rw [Int.mul_comm, sum_mul]
  exact sum_congr fun j _ => Int.mul_comm _ _
theorem sum_add (f g : Nat → Int) : ∀ n, ((List.range n).map fun j => f j + g j).sum = ((List.range n).map f).sum + ((List.range n).map g).sum
  | 0 => rfl
  | n + 1 => by
    simp only [List.range_succ, List.map_append, List.sum_append, List.map_cons, List.map_nil, List.sum_cons, List.sum_nil]
    rw [sum_add f g n]
    omega
theorem sum_swap (f : Nat → Nat → Int) : ∀ n m, ((List.range n).map fun i => ((List.range m).map fun j => f i j).sum).sum = ((List.range m).map fun j => ((List.range n).map fun i => f i j).sum).sum
  | 0, m => by
    have : ∀ m : Nat, ((List.range m).map fun _ => (0 : Int)).sum = 0 := fun m => by
      induction m with
      | zero => rfl
      | succ m ih => simp [List.range_succ, ih]
    simp [this]
  | n + 1, m => by
    simp only [List.range_succ, List.map_append, List.sum_append, List.map_cons, List.map_nil, List.sum_cons, List.sum_nil, Int.add_zero]
    rw [sum_swap f n m, sum_add]

/-- Brackets do not matter. -/
theorem mul_assoc {a b c : List Int} {N : Nat} : mulI (mulI a b N N N) c N N N = mulI a (mulI b c N N N) N N N := by
  have hg : ∀ {x y : List Int} {i k : Nat}, i < N → k < N → (mulI x y N N N).getD (i * N + k) 0 = dotI x y N N i k N := fun hi hk => grid_getD hi hk
  show gridP _ N N 0 = gridP _ N N 0
  refine gridP_congr fun i k hi hk => ?_
  rw [dotI_sum, dotI_sum]
  have e1 : ((List.range N).map fun j => (mulI a b N N N).getD (i * N + j) 0 * c.getD (j * N + k) 0).sum = ((List.range N).map fun j => ((List.range N).map fun l => a.getD (i * N + l) 0 * b.getD (l * N + j) 0 * c.getD (j * N + k) 0).sum).sum :=
    sum_congr fun j hj => by rw [hg hi hj, dotI_sum, sum_mul]
  have e2 : ((List.range N).map fun l => a.getD (i * N + l) 0 * (mulI b c N N N).getD (l * N + k) 0).sum = ((List.range N).map fun l => ((List.range N).map fun j => a.getD (i * N + l) 0 * b.getD (l * N + j) 0 * c.getD (j * N + k) 0).sum).sum :=
    sum_congr fun l hl => by
      rw [hg hl hk, dotI_sum, mul_sum']
      exact sum_congr fun j _ => by rw [Int.mul_assoc]
  rw [e1, e2, sum_swap]

theorem sum_one (f : Nat → Int) {k : Nat} : ∀ n, ((List.range n).map fun j => f j * (if j = k then 1 else 0)).sum = if k < n then f k else 0
  | 0 => by simp
  | n + 1 => by
    simp only [List.range_succ, List.map_append, List.sum_append, List.map_cons, List.map_nil, List.sum_cons, List.sum_nil, Int.add_zero]
    rw [sum_one f n]
    by_cases h : n = k
    · subst h
      simp
    · by_cases h2 : k < n
      · simp [h, h2, show k < n + 1 by omega]
      · simp [h, h2, show ¬ k < n + 1 by omega]
/-- The unit changes nothing. -/
theorem mul_unit {a : List Int} {N : Nat} (ha : a.length = N * N) : mulI a (unitP N N) N N N = a := by
  refine (grid_of ha fun i k hi hk => ?_).symm
  have e : dotI a (unitP N N) N N i k N = a.getD (i * N + k) 0 := by
    rw [dotI_sum]
    have : ∀ j, j < N → a.getD (i * N + j) 0 * (unitP N N).getD (j * N + k) 0 = a.getD (i * N + j) 0 * (if j = k then 1 else 0) := fun j hj => by
      have hu : (unitP N N).getD (j * N + k) 0 = if j = k ∧ j < N then 1 else 0 := grid_getD hj hk
      rw [hu]
      simp [hj]
    rw [sum_congr this, sum_one (fun j => a.getD (i * N + j) 0) N, if_pos hk]
  rw [e]
  have := at_table hi hk
  simp [this.1, ha]

/-- Turned twice. -/
theorem tur_tur {a : List Int} {N : Nat} (ha : a.length = N * N) : turI (turI a N N N 0) N N N 0 = a := by
  refine (grid_of ha fun i k hi hk => ?_).symm
  have hg : (turI a N N N 0).getD (k * N + i) 0 = a.getD (i * N + k) 0 := grid_getD hk hi
  rw [hg]
  have := at_table hi hk
  simp [this.1, ha]
theorem turI_length (a : List Int) (N : Nat) : (turI a N N N 0).length = N * N := by rw [turI, gridP_length, Nat.add_zero]
theorem turI_bnd {B : Nat} {a : List Int} (ha : bnd B a) (N : Nat) : bnd B (turI a N N N 0) := gridP_bnd fun k i => bnd_get ha _
/-- A product, turned. -/
theorem tur_mul {a b : List Int} {N : Nat} : mulI (turI b N N N 0) (turI a N N N 0) N N N = turI (mulI a b N N N) N N N 0 := by
  show gridP _ N N 0 = gridP _ N N 0
  refine gridP_congr fun i k hi hk => ?_
  have h1 : (mulI a b N N N).getD (k * N + i) 0 = dotI a b N N k i N := grid_getD hk hi
  rw [h1, dotI_sum, dotI_sum]
  refine sum_congr fun j hj => ?_
  have h2 : (turI b N N N 0).getD (i * N + j) 0 = b.getD (j * N + i) 0 := grid_getD hi hj
  have h3 : (turI a N N N 0).getD (j * N + k) 0 = a.getD (k * N + j) 0 := grid_getD hj hk
  rw [h2, h3, Int.mul_comm]
end Go.Proofs.Ytadfcbpakfaaaaa.A
