import Derived.Test.YtambpjbpdackfaaGreatM2
import Derived.Shelf.Spec.SlicesGrow
import Derived.SizedLaws
set_option linter.unusedVariables false
set_option linter.unusedSimpArgs false
set_option maxRecDepth 100000
namespace Go.Proofs.YtambpjbpdackfaaGreat.A
open Go Go.RowKit Go.Shelf

/-! ### The unit -/
end Go.Proofs.YtambpjbpdackfaaGreat.A


set_option linter.unusedVariables false
set_option linter.unusedSimpArgs false
set_option maxRecDepth 100000
namespace Go.Proofs.YtambpjbpdackfaaGreat.A.E
open Go Go.RowKit Go.Shelf

end Go.Proofs.YtambpjbpdackfaaGreat.A.E



set_option linter.unusedVariables false
set_option linter.unusedSimpArgs false
set_option maxRecDepth 100000
namespace Go.Proofs.YtambpjbpdackfaaGreat.A
open Go Go.RowKit Go.Shelf

/-! ### Plain laws of products -/
theorem dotI_sum (a b : List Int) (many cols i k : Nat) : ∀ j, dotI a b many cols i k j = ((List.range j).map fun j => a.getD (i * many + j) 0 * b.getD (j * cols + k) 0).sum
  | 0 => rfl
  | j + 1 => by
    simp only [dotI, List.range_succ, List.map_append, List.sum_append, List.map_cons, List.map_nil, List.sum_cons, List.sum_nil]
    rw [dotI_sum a b many cols i k j]
    omega

theorem sum_congr {f g : Nat → Int} {n : Nat} (h : ∀ j, j < n → f j = g j) : ((List.range n).map f).sum = ((List.range n).map g).sum := by
  congr 1
  apply List.map_congr_left
  intro j hj
  exact h j (List.mem_range.1 hj)
theorem sum_mul (f : Nat → Int) (c : Int) : ∀ n, ((List.range n).map f).sum * c = ((List.range n).map fun j => f j * c).sum
  | 0 => by simp
  | n + 1 => by
    simp only [List.range_succ, List.map_append, List.sum_append, List.map_cons, List.map_nil, List.sum_cons, List.sum_nil, Int.add_mul]
    rw [sum_mul f c n]
    omega
theorem mul_sum' (f : Nat → Int) (c : Int) (n : Nat) : c * ((List.range n).map f).sum = ((List.range n).map fun j => c * f j).sum := by
  rw [Int.mul_comm, sum_mul]
  exact sum_congr fun j _ => Int.mul_comm _ _
theorem sum_add (f g : Nat → Int) : ∀ n, ((List.range n).map fun j => f j + g j).sum = ((List.range n).map f).sum + ((List.range n).map g).sum
  | 0 => rfl
  | n + 1 => by
    simp only [List.range_succ, List.map_append, List.sum_append, List.map_cons, List.map_nil, List.sum_cons, List.sum_nil]
    rw [sum_add f g n]
    omega
theorem sum_swap (f : Nat → Nat → Int) : ∀ n m, ((List.range n).map fun i => ((List.range m).map fun j => f i j).sum).sum = ((List.range m).map fun j => ((List.range n).map fun i => f i j).sum).sum
  | 0, m => by
    have : ∀ m : Nat, ((List.range m).map fun _ => (0 : Int)).sum = 0 := fun m => by
      induction m with
      | zero => rfl
      | succ m ih => simp [List.range_succ, ih]
    simp [this]
  | n + 1, m => by
    simp only [List.range_succ, List.map_append, List.sum_append, List.map_cons, List.map_nil, List.sum_cons, List.sum_nil, Int.add_zero]
    rw [sum_swap f n m, sum_add]

/-- Brackets do not matter. -/
theorem mul_assoc {a b c : List Int} {N : Nat} : mulI (mulI a b N N N) c N N N = mulI a (mulI b c N N N) N N N := by
  have hg : ∀ {x y : List Int} {i k : Nat}, i < N → k < N → (mulI x y N N N).getD (i * N + k) 0 = dotI x y N N i k N := fun hi hk => grid_getD hi hk
  show gridP _ N N 0 = gridP _ N N 0
  refine gridP_congr fun i k hi hk => ?_
  rw [dotI_sum, dotI_sum]
  have e1 : ((List.range N).map fun j => (mulI a b N N N).getD (i * N + j) 0 * c.getD (j * N + k) 0).sum = ((List.range N).map fun j => ((List.range N).map fun l => a.getD (i * N + l) 0 * b.getD (l * N + j) 0 * c.getD (j * N + k) 0).sum).sum :=
    sum_congr fun j hj => by rw [hg hi hj, dotI_sum, sum_mul]
  have e2 : ((List.range N).map fun l => a.getD (i * N + l) 0 * (mulI b c N N N).getD (l * N + k) 0).sum = ((List.range N).map fun l => ((List.range N).map fun j => a.getD (i * N + l) 0 * b.getD (l * N + j) 0 * c.getD (j * N + k) 0).sum).sum :=
    sum_congr fun l hl => by
      rw [hg hl hk, dotI_sum, mul_sum']
      exact sum_congr fun j _ => by rw [Int.mul_assoc]
  rw [e1, e2, sum_swap]

end Go.Proofs.YtambpjbpdackfaaGreat.A


set_option linter.unusedVariables false
set_option linter.unusedSimpArgs false
set_option maxRecDepth 100000
namespace Go.Proofs.YtambpjbpdackfaaGreat.A
open Go Go.RowKit Go.Shelf

/-! ### Division -/
def divF (a b : Fr) : Fr := if a.fine = false ∨ b.fine = false then .wrong else newF (a.n * b.d) (a.d * b.n)
/-! ### A row, scaled -/
/-! ### Squares -/
end Go.Proofs.YtambpjbpdackfaaGreat.A


set_option linter.unusedVariables false
set_option linter.unusedSimpArgs false
set_option maxRecDepth 100000
namespace Go.Proofs.YtambpjbpdackfaaGreat.A.E
open Go Go.RowKit Go.Shelf

end Go.Proofs.YtambpjbpdackfaaGreat.A.E


set_option linter.unusedVariables false
set_option linter.unusedSimpArgs false
set_option maxRecDepth 100000
namespace Go.Proofs.YtambpjbpdackfaaGreat.A
open Go Go.RowKit Go.Shelf

/-! ### Squares in memory, row by row -/
def rowM (n : Nat) (M : Nat → Nat → Fr) (i : Nat) : List Fr := (List.range n).map (M i)
def setM (M : Nat → Nat → Fr) (i k : Nat) (x : Fr) : Nat → Nat → Fr := fun a b => if a = i ∧ b = k then x else M a b
theorem rowM_length (n : Nat) (M : Nat → Nat → Fr) (i : Nat) : (rowM n M i).length = n := by simp [rowM]
theorem rowM_get {n : Nat} {M : Nat → Nat → Fr} {i k : Nat} (h : k < n) : (rowM n M i)[k]? = some (M i k) := by simp [rowM, h]
theorem rowM_set {n : Nat} {M : Nat → Nat → Fr} {i k : Nat} {x : Fr} (h : k < n) : (rowM n M i).set k x = rowM n (setM M i k x) i := by
  apply List.ext_getElem?
  intro j
  rw [List.getElem?_set]
  by_cases hj : j < n
  · by_cases e : k = j
    · subst e
      rw [if_pos rfl, if_pos (by rw [rowM_length]; exact h), rowM_get h]
      simp [setM]
    · rw [if_neg e, rowM_get hj, rowM_get hj]
      have : ¬ (j = k) := fun h => e h.symm
      simp [setM, this]
  · rw [if_neg (by omega), List.getElem?_eq_none (by rw [rowM_length]; omega), List.getElem?_eq_none (by rw [rowM_length]; omega)]
theorem rowM_other {n : Nat} {M : Nat → Nat → Fr} {i j k : Nat} {x : Fr} (h : j ≠ i) : rowM n (setM M i k x) j = rowM n M j := by
  simp [rowM, setM, h]

abbrev rawRow (c n : Nat) : PV := .s (.slice (some ⟨c, 0, none⟩) n n)
abbrev nilRow : PV := .s (.slice none 0 0)
/-- The rows' row: b of n are there. -/
def headR (n b : Nat) (c : Nat → Nat) : List PV := (List.range n).map fun j => if j < b then rawRow (c j) n else nilRow
theorem headR_length (n b : Nat) (c : Nat → Nat) : (headR n b c).length = n := by simp [headR]
structure RowsIn (m : Mem) (R : Nat) (c : Nat → Nat) (n b : Nat) (M : Nat → Nat → Fr) : Prop where
  head : m R = some (headR n b c)
  row : ∀ i, i < b → m (c i) = some (flat (frs (rowM n M i)))
  ne : ∀ i, i < b → c i ≠ R
  inj : ∀ i j, i < b → j < b → c i = c j → i = j

theorem RowsIn.store {m : Mem} {R : Nat} {c : Nat → Nat} {n b : Nat} {M : Nat → Nat → Fr} (h : RowsIn m R c n b M) {i k : Nat} (hi : i < b) (hk : k < n) (x : Fr) :
    RowsIn (m.put (c i) (flat (frs ((rowM n M i).set k x)))) R c n b (setM M i k x) where
  head := by rw [Mem.put_other _ _ (fun e => h.ne i hi e.symm)]; exact h.head
  row := fun j hj => by
    by_cases e : j = i
    · subst e
      rw [Mem.put_same, rowM_set hk]
    · rw [Mem.put_other _ _ (fun e' => e (h.inj j i hj hi e')), rowM_other e]
      exact h.row j hj
  ne := h.ne
  inj := h.inj

theorem tells_map {α : Type} {m : Mem} {f g : α → PV} : ∀ {l : List α}, (∀ x ∈ l, Tell m (f x) (g x)) → Tells m (l.map f) (l.map g)
  | [], _ => .nil
  | x :: l, h => .cons (h x (by simp)) (tells_map fun y hy => h y (by simp [hy]))

/-- The rows, as values. -/
abbrev rowsV (n : Nat) (M : Nat → Nat → Fr) : PV := .sl true ((List.range n).map fun i => .sl false (frs (rowM n M i)))
theorem flat_one {l : List PV} (h : ∀ x ∈ l, x.cells = [x]) : flat l = l := by
  induction l with
  | nil => rfl
  | cons x l ih =>
    have e1 := h x (by simp)
    have e2 := ih fun y hy => h y (by simp [hy])
    simp only [flat, List.flatMap_cons, e1] at e2 ⊢
    rw [e2]
    rfl
theorem RowsIn.tell {m : Mem} {R : Nat} {c : Nat → Nat} {n : Nat} {M : Nat → Nat → Fr} (h : RowsIn m R c n n M) : Tell m (rawRow R n) (rowsV n M) := by
  have hf : flat ((List.range n).map fun i => PV.sl false (frs (rowM n M i))) = (List.range n).map fun i => PV.sl false (frs (rowM n M i)) := flat_one fun x hx => by
    obtain ⟨i, _, rfl⟩ := List.mem_map.1 hx
    rfl
  refine .row (sz := 1) h.head (fun x hx => ?_) (by simp) (by rw [hf, headR_length]; simp) (Nat.le_refl _) (fun _ => rfl) ?_
  · obtain ⟨i, _, rfl⟩ := List.mem_map.1 hx
    rfl
  · rw [hf, List.drop_zero, List.take_of_length_le (by rw [headR_length]; simp)]
    refine tells_map fun i hi => ?_
    have hi' := List.mem_range.1 hi
    rw [if_pos hi']
    have e := h.row i hi'
    rw [← List.append_nil (flat _)] at e
    have := tell_row (m := m) (b := c i) (cap := n) (q := 0) (l := rowM n M i) e (by simp [rowM_length])
    simpa [rowM_length] using this

/-! ### The root of a square -/
/-- While the rows are made: noughts so far, zero values behind. -/
def zeroM (i k : Nat) : Nat → Nat → Fr := fun a b => if a < i ∨ a = i ∧ b < k then newF 0 1 else ⟨0, 0, false⟩

theorem zero_row (n i : Nat) : rowM n (zeroM i 0) i = List.replicate n ⟨0, 0, false⟩ := by
  apply List.ext_getElem?
  intro j
  by_cases h : j < n
  · rw [rowM_get h]; simp [zeroM, h]
  · rw [List.getElem?_eq_none (by rw [rowM_length]; omega), List.getElem?_eq_none (by simp; omega)]
theorem RowsIn.grow {m : Mem} {R : Nat} {c : Nat → Nat} {n i b : Nat} (h : RowsIn m R c n i (zeroM i 0)) (hi : i < n) (hb : m b = none) :
    RowsIn ((m.put b (flat (frs (List.replicate n (⟨0, 0, false⟩ : Fr))))).put R (headR n (i + 1) (fun j => if j = i then b else c j))) R (fun j => if j = i then b else c j) n (i + 1) (zeroM i 0) := by
  have hRb : R ≠ b := fun e => by have := h.head; rw [e, hb] at this; cases this
  have hcb : ∀ j, j < i → c j ≠ b := fun j hj e => by have := h.row j hj; rw [e, hb] at this; cases this
  refine ⟨Mem.put_same _ _ _, fun j hj => ?_, fun j hj => ?_, fun j k hj hk => ?_⟩
  · by_cases e : j = i
    · subst e
      rw [if_pos rfl, Mem.put_other _ _ (fun e => hRb e.symm), Mem.put_same, zero_row]
    · rw [if_neg e, Mem.put_other _ _ (h.ne j (by omega)), Mem.put_other _ _ (hcb j (by omega))]
      exact h.row j (by omega)
  · by_cases e : j = i
    · rw [if_pos e]; exact fun e => hRb e.symm
    · rw [if_neg e]; exact h.ne j (by omega)
  · by_cases e : j = i <;> by_cases e' : k = i
    · intro _; omega
    · rw [if_pos e, if_neg e']
      exact fun h1 => absurd h1.symm (hcb k (by omega))
    · rw [if_neg e, if_pos e']
      exact fun h1 => absurd h1 (hcb j (by omega))
    · rw [if_neg e, if_neg e']
      exact h.inj j k (by omega) (by omega)
theorem RowsIn.congr {m : Mem} {R : Nat} {c : Nat → Nat} {n b : Nat} {M N : Nat → Nat → Fr} (h : RowsIn m R c n b M) (hMN : ∀ i k, i < b → k < n → M i k = N i k) : RowsIn m R c n b N :=
  ⟨h.head, fun i hi => by
    have e : rowM n N i = rowM n M i := by
      unfold rowM
      exact List.map_congr_left fun k hk => (hMN i k hi (List.mem_range.1 hk)).symm
    rw [e]
    exact h.row i hi, h.ne, h.inj⟩

end Go.Proofs.YtambpjbpdackfaaGreat.A


set_option linter.unusedVariables false
set_option linter.unusedSimpArgs false
set_option maxRecDepth 100000
namespace Go.Proofs.YtambpjbpdackfaaGreat.A.E
open Go Go.RowKit Go.Shelf

def rowM (n : Nat) (M : Nat → Nat → Fr) (i : Nat) : List Fr := (List.range n).map (M i)
def setM (M : Nat → Nat → Fr) (i k : Nat) (x : Fr) : Nat → Nat → Fr := fun a b => if a = i ∧ b = k then x else M a b
theorem rowM_length (n : Nat) (M : Nat → Nat → Fr) (i : Nat) : (rowM n M i).length = n := by simp [rowM]
theorem rowM_get {n : Nat} {M : Nat → Nat → Fr} {i k : Nat} (h : k < n) : (rowM n M i)[k]? = some (M i k) := by simp [rowM, h]
theorem rowM_set {n : Nat} {M : Nat → Nat → Fr} {i k : Nat} {x : Fr} (h : k < n) : (rowM n M i).set k x = rowM n (setM M i k x) i := by
  apply List.ext_getElem?
  intro j
  rw [List.getElem?_set]
  by_cases hj : j < n
  · by_cases e : k = j
    · subst e
      rw [if_pos rfl, if_pos (by rw [rowM_length]; exact h), rowM_get h]
      simp [setM]
    · rw [if_neg e, rowM_get hj, rowM_get hj]
      have : ¬ (j = k) := fun h => e h.symm
      simp [setM, this]
  · rw [if_neg (by omega), List.getElem?_eq_none (by rw [rowM_length]; omega), List.getElem?_eq_none (by rw [rowM_length]; omega)]
theorem rowM_other {n : Nat} {M : Nat → Nat → Fr} {i j k : Nat} {x : Fr} (h : j ≠ i) : rowM n (setM M i k x) j = rowM n M j := by
  simp [rowM, setM, h]

structure RowsIn (m : Mem) (R : Nat) (c : Nat → Nat) (n b : Nat) (M : Nat → Nat → Fr) : Prop where
  head : m R = some (headR n b c)
  row : ∀ i, i < b → m (c i) = some (flat (frs (rowM n M i)))
  ne : ∀ i, i < b → c i ≠ R
  inj : ∀ i j, i < b → j < b → c i = c j → i = j

theorem RowsIn.store {m : Mem} {R : Nat} {c : Nat → Nat} {n b : Nat} {M : Nat → Nat → Fr} (h : RowsIn m R c n b M) {i k : Nat} (hi : i < b) (hk : k < n) (x : Fr) :
    RowsIn (m.put (c i) (flat (frs ((rowM n M i).set k x)))) R c n b (setM M i k x) where
  head := by rw [Mem.put_other _ _ (fun e => h.ne i hi e.symm)]; exact h.head
  row := fun j hj => by
    by_cases e : j = i
    · subst e
      rw [Mem.put_same, rowM_set hk]
    · rw [Mem.put_other _ _ (fun e' => e (h.inj j i hj hi e')), rowM_other e]
      exact h.row j hj
  ne := h.ne
  inj := h.inj

/-- The rows, as values. -/
abbrev rowsV (n : Nat) (M : Nat → Nat → Fr) : PV := .sl true ((List.range n).map fun i => .sl false (frs (rowM n M i)))
theorem RowsIn.tell {m : Mem} {R : Nat} {c : Nat → Nat} {n : Nat} {M : Nat → Nat → Fr} (h : RowsIn m R c n n M) : Tell m (rawRow R n) (rowsV n M) := by
  have hf : flat ((List.range n).map fun i => PV.sl false (frs (rowM n M i))) = (List.range n).map fun i => PV.sl false (frs (rowM n M i)) := flat_one fun x hx => by
    obtain ⟨i, _, rfl⟩ := List.mem_map.1 hx
    rfl
  refine .row (sz := 1) h.head (fun x hx => ?_) (by simp) (by rw [hf, headR_length]; simp) (Nat.le_refl _) (fun _ => rfl) ?_
  · obtain ⟨i, _, rfl⟩ := List.mem_map.1 hx
    rfl
  · rw [hf, List.drop_zero, List.take_of_length_le (by rw [headR_length]; simp)]
    refine tells_map fun i hi => ?_
    have hi' := List.mem_range.1 hi
    rw [if_pos hi']
    have e := h.row i hi'
    rw [← List.append_nil (flat _)] at e
    have := tell_row (m := m) (b := c i) (cap := n) (q := 0) (l := rowM n M i) e (by simp [rowM_length])
    simpa [rowM_length] using this

/-- While the rows are made: noughts so far, zero values behind. -/
def zeroM (i k : Nat) : Nat → Nat → Fr := fun a b => if a < i ∨ a = i ∧ b < k then newF 0 1 else ⟨0, 0, 0, false⟩

theorem zero_row (n i : Nat) : rowM n (zeroM i 0) i = List.replicate n ⟨0, 0, 0, false⟩ := by
  apply List.ext_getElem?
  intro j
  by_cases h : j < n
  · rw [rowM_get h]; simp [zeroM, h]
  · rw [List.getElem?_eq_none (by rw [rowM_length]; omega), List.getElem?_eq_none (by simp; omega)]
theorem RowsIn.grow {m : Mem} {R : Nat} {c : Nat → Nat} {n i b : Nat} (h : RowsIn m R c n i (zeroM i 0)) (hi : i < n) (hb : m b = none) :
    RowsIn ((m.put b (flat (frs (List.replicate n (⟨0, 0, 0, false⟩ : Fr))))).put R (headR n (i + 1) (fun j => if j = i then b else c j))) R (fun j => if j = i then b else c j) n (i + 1) (zeroM i 0) := by
  have hRb : R ≠ b := fun e => by have := h.head; rw [e, hb] at this; cases this
  have hcb : ∀ j, j < i → c j ≠ b := fun j hj e => by have := h.row j hj; rw [e, hb] at this; cases this
  refine ⟨Mem.put_same _ _ _, fun j hj => ?_, fun j hj => ?_, fun j k hj hk => ?_⟩
  · by_cases e : j = i
    · subst e
      rw [if_pos rfl, Mem.put_other _ _ (fun e => hRb e.symm), Mem.put_same, zero_row]
    · rw [if_neg e, Mem.put_other _ _ (h.ne j (by omega)), Mem.put_other _ _ (hcb j (by omega))]
      exact h.row j (by omega)
  · by_cases e : j = i
    · rw [if_pos e]; exact fun e => hRb e.symm
    · rw [if_neg e]; exact h.ne j (by omega)
  · by_cases e : j = i <;> by_cases e' : k = i
    · intro _; omega
    · rw [if_pos e, if_neg e']
      exact fun h1 => absurd h1.symm (hcb k (by omega))
    · rw [if_neg e, if_pos e']
      exact fun h1 => absurd h1 (hcb j (by omega))
    · rw [if_neg e, if_neg e']
      exact h.inj j k (by omega) (by omega)
theorem RowsIn.congr {m : Mem} {R : Nat} {c : Nat → Nat} {n b : Nat} {M N : Nat → Nat → Fr} (h : RowsIn m R c n b M) (hMN : ∀ i k, i < b → k < n → M i k = N i k) : RowsIn m R c n b N :=
  ⟨h.head, fun i hi => by
    have e : rowM n N i = rowM n M i := by
      unfold rowM
      exact List.map_congr_left fun k hk => (hMN i k hi (List.mem_range.1 hk)).symm
    rw [e]
    exact h.row i hi, h.ne, h.inj⟩

end Go.Proofs.YtambpjbpdackfaaGreat.A.E


set_option linter.unusedVariables false
set_option linter.unusedSimpArgs false
set_option maxRecDepth 100000
namespace Go.Proofs.YtambpjbpdackfaaGreat.A.E
open Go Go.RowKit Go.Shelf

end Go.Proofs.YtambpjbpdackfaaGreat.A.E


set_option linter.unusedVariables false
set_option linter.unusedSimpArgs false
set_option maxRecDepth 100000
namespace Go.Proofs.YtambpjbpdackfaaGreat.A
open Go Go.RowKit Go.Shelf

/-! ### Cleared -/
/-! ### The diagonal -/
/-! ### Is it a triangle? -/
end Go.Proofs.YtambpjbpdackfaaGreat.A


set_option linter.unusedVariables false
set_option linter.unusedSimpArgs false
set_option maxRecDepth 100000
namespace Go.Proofs.YtambpjbpdackfaaGreat.A
open Go Go.RowKit Go.Shelf

/-! ### Rows in memory of their own -/
end Go.Proofs.YtambpjbpdackfaaGreat.A


set_option linter.unusedVariables false
set_option linter.unusedSimpArgs false
set_option maxRecDepth 100000
namespace Go.Proofs.YtambpjbpdackfaaGreat.A.E
open Go Go.RowKit Go.Shelf

end Go.Proofs.YtambpjbpdackfaaGreat.A.E


set_option linter.unusedVariables false
set_option linter.unusedSimpArgs false
set_option maxRecDepth 100000
namespace Go.Proofs.YtambpjbpdackfaaGreat.A
open Go Go.RowKit Go.Shelf

/-! ### Rows in memory: each in a block of its own -/
abbrev jnk (q : Nat) : List PV := List.replicate q .junk
structure RowsC (m : Mem) (c q : Nat → Nat) (n w : Nat) (M : Nat → Nat → Fr) : Prop where
  row : ∀ i, i < n → m (c i) = some (flat (frs (rowM w M i)) ++ jnk (q i))
  inj : ∀ i j, i < n → j < n → c i = c j → i = j
/-! ### One column folded -/
def xF (w : Nat) (M : Nat → Nat → Fr) (k : Nat) : List Fr := (rowM w M k).drop k
def normF (w : Nat) (M : Nat → Nat → Fr) (k : Nat) : Fr := if 0 ≤ signF (M k k) then negF (rootF (dotF (xF w M k) (xF w M k))) else rootF (dotF (xF w M k) (xF w M k))
def vA (w : Nat) (M : Nat → Nat → Fr) (k c : Nat) : Fr := if c = k then subF (M k k) (normF w M k) else M k c
def vF (w : Nat) (M : Nat → Nat → Fr) (k : Nat) : List Fr := ((List.range w).map (vA w M k)).drop k
def tF (w : Nat) (M : Nat → Nat → Fr) (k i : Nat) : Fr := divF (addF (dotF ((rowM w M i).drop k) (vF w M k)) (dotF ((rowM w M i).drop k) (vF w M k))) (dotF (vF w M k) (vF w M k))
def foldTo (w : Nat) (M : Nat → Nat → Fr) (k j : Nat) : Nat → Nat → Fr := fun a c => if k < a ∧ a < j ∧ k ≤ c then subF (M a c) (mulF (vA w M k c) (tF w M k a)) else M a c
/-- One row more is folded. -/
theorem RowsC.fold {mm : Mem} {c q : Nat → Nat} {n w k i : Nat} {M : Nat → Nat → Fr} (h : RowsC mm c q n w (foldTo w M k i)) (hi : i < n) (hki : k < i) :
    RowsC (mm.put (c i) (flat (frs (rowM w (foldTo w M k (i + 1)) i)) ++ jnk (q i))) c q n w (foldTo w M k (i + 1)) := ⟨fun a ha => by
  by_cases e : a = i
  · subst e
    rw [Mem.put_same]
  · rw [Mem.put_other _ _ (fun e' => e (h.inj a i ha hi e')), h.row a ha]
    congr 3
    unfold rowM
    congr 1
    refine List.map_congr_left fun j _ => ?_
    unfold foldTo
    by_cases h1 : k < a ∧ a < i ∧ k ≤ j
    · rw [if_pos h1, if_pos (by omega)]
    · rw [if_neg h1, if_neg (by omega)], h.inj⟩
theorem RowsC.congr {mm : Mem} {c q : Nat → Nat} {n w : Nat} {M N : Nat → Nat → Fr} (h : RowsC mm c q n w M) (hMN : ∀ a j, a < n → j < w → M a j = N a j) : RowsC mm c q n w N := ⟨fun a ha => by
  have e : rowM w N a = rowM w M a := by
    unfold rowM
    exact List.map_congr_left fun j hj => (hMN a j ha (List.mem_range.1 hj)).symm
  rw [e]
  exact h.row a ha, h.inj⟩
theorem RowsC.store {mm : Mem} {c q : Nat → Nat} {n w : Nat} {M : Nat → Nat → Fr} (h : RowsC mm c q n w M) {i k : Nat} (hi : i < n) (hk : k < w) (x : Fr) :
    RowsC (mm.put (c i) (flat (frs ((rowM w M i).set k x)) ++ jnk (q i))) c q n w (setM M i k x) := ⟨fun j hj => by
  by_cases e : j = i
  · subst e
    rw [Mem.put_same, rowM_set hk]
  · rw [Mem.put_other _ _ (fun e' => e (h.inj j i hj hi e')), rowM_other e]
    exact h.row j hj, h.inj⟩
end Go.Proofs.YtambpjbpdackfaaGreat.A


set_option linter.unusedVariables false
set_option linter.unusedSimpArgs false
set_option maxRecDepth 100000
namespace Go.Proofs.YtambpjbpdackfaaGreat.A.E
open Go Go.RowKit Go.Shelf

structure RowsC (m : Mem) (c q : Nat → Nat) (n w : Nat) (M : Nat → Nat → Fr) : Prop where
  row : ∀ i, i < n → m (c i) = some (flat (frs (rowM w M i)) ++ jnk (q i))
  inj : ∀ i j, i < n → j < n → c i = c j → i = j
def xF (w : Nat) (M : Nat → Nat → Fr) (k : Nat) : List Fr := (rowM w M k).drop k
def normF (w : Nat) (M : Nat → Nat → Fr) (k : Nat) : Fr := if 0 ≤ signF (M k k) then negF (rootF (dotF (xF w M k) (xF w M k))) else rootF (dotF (xF w M k) (xF w M k))
def vA (w : Nat) (M : Nat → Nat → Fr) (k c : Nat) : Fr := if c = k then subF (M k k) (normF w M k) else M k c
def vF (w : Nat) (M : Nat → Nat → Fr) (k : Nat) : List Fr := ((List.range w).map (vA w M k)).drop k
def tF (w : Nat) (M : Nat → Nat → Fr) (k i : Nat) : Fr := divF (addF (dotF ((rowM w M i).drop k) (vF w M k)) (dotF ((rowM w M i).drop k) (vF w M k))) (dotF (vF w M k) (vF w M k))
def foldTo (w : Nat) (M : Nat → Nat → Fr) (k j : Nat) : Nat → Nat → Fr := fun a c => if k < a ∧ a < j ∧ k ≤ c then subF (M a c) (mulF (vA w M k c) (tF w M k a)) else M a c
/-- One row more is folded. -/
theorem RowsC.fold {mm : Mem} {c q : Nat → Nat} {n w k i : Nat} {M : Nat → Nat → Fr} (h : RowsC mm c q n w (foldTo w M k i)) (hi : i < n) (hki : k < i) :
    RowsC (mm.put (c i) (flat (frs (rowM w (foldTo w M k (i + 1)) i)) ++ jnk (q i))) c q n w (foldTo w M k (i + 1)) := ⟨fun a ha => by
  by_cases e : a = i
  · subst e
    rw [Mem.put_same]
  · rw [Mem.put_other _ _ (fun e' => e (h.inj a i ha hi e')), h.row a ha]
    congr 3
    unfold rowM
    congr 1
    refine List.map_congr_left fun j _ => ?_
    unfold foldTo
    by_cases h1 : k < a ∧ a < i ∧ k ≤ j
    · rw [if_pos h1, if_pos (by omega)]
    · rw [if_neg h1, if_neg (by omega)], h.inj⟩
theorem RowsC.congr {mm : Mem} {c q : Nat → Nat} {n w : Nat} {M N : Nat → Nat → Fr} (h : RowsC mm c q n w M) (hMN : ∀ a j, a < n → j < w → M a j = N a j) : RowsC mm c q n w N := ⟨fun a ha => by
  have e : rowM w N a = rowM w M a := by
    unfold rowM
    exact List.map_congr_left fun j hj => (hMN a j ha (List.mem_range.1 hj)).symm
  rw [e]
  exact h.row a ha, h.inj⟩
theorem RowsC.store {mm : Mem} {c q : Nat → Nat} {n w : Nat} {M : Nat → Nat → Fr} (h : RowsC mm c q n w M) {i k : Nat} (hi : i < n) (hk : k < w) (x : Fr) :
    RowsC (mm.put (c i) (flat (frs ((rowM w M i).set k x)) ++ jnk (q i))) c q n w (setM M i k x) := ⟨fun j hj => by
  by_cases e : j = i
  · subst e
    rw [Mem.put_same, rowM_set hk]
  · rw [Mem.put_other _ _ (fun e' => e (h.inj j i hj hi e')), rowM_other e]
    exact h.row j hj, h.inj⟩
end Go.Proofs.YtambpjbpdackfaaGreat.A.E


set_option linter.unusedVariables false
set_option linter.unusedSimpArgs false
set_option maxRecDepth 100000
namespace Go.Proofs.YtambpjbpdackfaaGreat.A
open Go Go.RowKit Go.Shelf

/-! ### No diagonal below 0 -/
end Go.Proofs.YtambpjbpdackfaaGreat.A


set_option linter.unusedVariables false
set_option linter.unusedSimpArgs false
set_option maxRecDepth 100000
namespace Go.Proofs.YtambpjbpdackfaaGreat.A.E
open Go Go.RowKit Go.Shelf

end Go.Proofs.YtambpjbpdackfaaGreat.A.E


set_option linter.unusedVariables false
set_option linter.unusedSimpArgs false
set_option maxRecDepth 100000
namespace Go.Proofs.YtambpjbpdackfaaGreat.A
open Go Go.RowKit Go.Shelf

theorem RowsC.grow {mm : Mem} {c q : Nat → Nat} {i w b z : Nat} {M : Nat → Nat → Fr} (h : RowsC mm c q i w M) (hb : mm b = none) :
    RowsC (mm.put b (flat (frs (rowM w M i)) ++ jnk z)) (fun j => if j = i then b else c j) (fun j => if j = i then z else q j) (i + 1) w M := by
  have hcb : ∀ j, j < i → c j ≠ b := fun j hj e => by have := h.row j hj; rw [e, hb] at this; cases this
  refine ⟨fun j hj => ?_, fun j k hj hk => ?_⟩
  · by_cases e : j = i
    · subst e
      simp only [if_true]
      rw [Mem.put_same]
    · simp only [e, if_false]
      rw [Mem.put_other _ _ (hcb j (by omega))]
      exact h.row j (by omega)
  · by_cases e : j = i <;> by_cases e' : k = i
    · intro _; omega
    · simp only [e, e', if_true, if_false]
      exact fun h1 => absurd h1.symm (hcb k (by omega))
    · simp only [e, e', if_true, if_false]
      exact fun h1 => absurd h1 (hcb j (by omega))
    · simp only [e, e', if_false]
      exact h.inj j k (by omega) (by omega)
/-! ### All columns folded -/
end Go.Proofs.YtambpjbpdackfaaGreat.A


set_option linter.unusedVariables false
set_option linter.unusedSimpArgs false
set_option maxRecDepth 100000
namespace Go.Proofs.YtambpjbpdackfaaGreat.A.E
open Go Go.RowKit Go.Shelf

theorem RowsC.grow {mm : Mem} {c q : Nat → Nat} {i w b z : Nat} {M : Nat → Nat → Fr} (h : RowsC mm c q i w M) (hb : mm b = none) :
    RowsC (mm.put b (flat (frs (rowM w M i)) ++ jnk z)) (fun j => if j = i then b else c j) (fun j => if j = i then z else q j) (i + 1) w M := by
  have hcb : ∀ j, j < i → c j ≠ b := fun j hj e => by have := h.row j hj; rw [e, hb] at this; cases this
  refine ⟨fun j hj => ?_, fun j k hj hk => ?_⟩
  · by_cases e : j = i
    · subst e
      simp only [if_true]
      rw [Mem.put_same]
    · simp only [e, if_false]
      rw [Mem.put_other _ _ (hcb j (by omega))]
      exact h.row j (by omega)
  · by_cases e : j = i <;> by_cases e' : k = i
    · intro _; omega
    · simp only [e, e', if_true, if_false]
      exact fun h1 => absurd h1.symm (hcb k (by omega))
    · simp only [e, e', if_true, if_false]
      exact fun h1 => absurd h1 (hcb j (by omega))
    · simp only [e, e', if_false]
      exact h.inj j k (by omega) (by omega)
end Go.Proofs.YtambpjbpdackfaaGreat.A.E



set_option linter.unusedVariables false
set_option linter.unusedSimpArgs false
set_option maxRecDepth 100000
namespace Go.Proofs.YtambpjbpdackfaaGreat.A
open Go Go.RowKit Go.Shelf

/-! ### root.column: one column of a triangle, behind a measurement -/
/-- Rows lie as they lay, whatever is written elsewhere. -/
theorem RowsC.other {mm : Mem} {c q : Nat → Nat} {n w b : Nat} {M : Nat → Nat → Fr} {x : List PV} (h : RowsC mm c q n w M) (hb : ∀ i, i < n → c i ≠ b) : RowsC (mm.put b x) c q n w M :=
  ⟨fun i hi => by rw [Mem.put_other _ _ (hb i hi)]; exact h.row i hi, h.inj⟩
end Go.Proofs.YtambpjbpdackfaaGreat.A



set_option linter.unusedVariables false
set_option linter.unusedSimpArgs false
set_option maxRecDepth 100000
namespace Go.Proofs.YtambpjbpdackfaaGreat.A.E
open Go Go.RowKit Go.Shelf

/-- Rows lie as they lay, whatever is written elsewhere. -/
theorem RowsC.other {mm : Mem} {c q : Nat → Nat} {n w b : Nat} {M : Nat → Nat → Fr} {x : List PV} (h : RowsC mm c q n w M) (hb : ∀ i, i < n → c i ≠ b) : RowsC (mm.put b x) c q n w M :=
  ⟨fun i hi => by rw [Mem.put_other _ _ (hb i hi)]; exact h.row i hi, h.inj⟩
end Go.Proofs.YtambpjbpdackfaaGreat.A.E


/- slices.Grow of a row that is nil, off the library's shelf. -/
set_option linter.unusedVariables false
set_option maxRecDepth 100000
namespace Go.Proofs.YtambpjbpdackfaaGreat.A
open Go Go.RowKit Go.Shelf
end Go.Proofs.YtambpjbpdackfaaGreat.A





set_option linter.unusedVariables false
set_option linter.unusedSimpArgs false
set_option maxRecDepth 100000
namespace Go.Proofs.YtambpjbpdackfaaGreat.A
open Go Go.RowKit Go.Shelf

/-! ### slices.Concat -/
end Go.Proofs.YtambpjbpdackfaaGreat.A



set_option linter.unusedVariables false
set_option linter.unusedSimpArgs false
set_option maxRecDepth 100000
namespace Go.Proofs.YtambpjbpdackfaaGreat.A.E
open Go Go.RowKit Go.Shelf

end Go.Proofs.YtambpjbpdackfaaGreat.A.E



set_option linter.unusedVariables false
set_option linter.unusedSimpArgs false
set_option maxRecDepth 100000
namespace Go.Proofs.YtambpjbpdackfaaGreat.A
open Go Go.RowKit Go.Shelf

/-! ### States -/
/-! ### A new state -/
/-! ### Turned -/
end Go.Proofs.YtambpjbpdackfaaGreat.A



set_option linter.unusedVariables false
set_option linter.unusedSimpArgs false
set_option maxRecDepth 100000
namespace Go.Proofs.YtambpjbpdackfaaGreat.A.E
open Go Go.RowKit Go.Shelf

end Go.Proofs.YtambpjbpdackfaaGreat.A.E



set_option linter.unusedVariables false
set_option linter.unusedSimpArgs false
set_option maxRecDepth 100000
namespace Go.Proofs.YtambpjbpdackfaaGreat.A
open Go Go.RowKit Go.Shelf

/-! ### root: may a state be? -/
/-! ### Update -/
end Go.Proofs.YtambpjbpdackfaaGreat.A



set_option linter.unusedVariables false
set_option linter.unusedSimpArgs false
set_option maxRecDepth 100000
namespace Go.Proofs.YtambpjbpdackfaaGreat.A.E
open Go Go.RowKit Go.Shelf

end Go.Proofs.YtambpjbpdackfaaGreat.A.E


set_option linter.unusedVariables false
set_option linter.unusedSimpArgs false
set_option maxRecDepth 100000
namespace Go.Proofs.YtambpjbpdackfaaGreat.A
open Go Go.RowKit Go.Shelf

/-! ### The document's answers, of whole numbers -/
/-! ### What the document fixes of a root -/
end Go.Proofs.YtambpjbpdackfaaGreat.A



set_option linter.unusedVariables false
set_option linter.unusedSimpArgs false
set_option maxRecDepth 100000
namespace Go.Proofs.YtambpjbpdackfaaGreat.A
open Go Go.RowKit Go.Shelf

/-! ### Predict -/
end Go.Proofs.YtambpjbpdackfaaGreat.A



set_option linter.unusedVariables false
set_option linter.unusedSimpArgs false
set_option maxRecDepth 100000
namespace Go.Proofs.YtambpjbpdackfaaGreat.A
open Go Go.RowKit Go.Shelf

/-! ### Update -/
section
variable (n : Nat) (x p h : List Fr) (r z : Fr)
end
end Go.Proofs.YtambpjbpdackfaaGreat.A


set_option linter.unusedVariables false
set_option linter.unusedSimpArgs false
set_option maxRecDepth 100000
namespace Go.Proofs.YtambpjbpdackfaaGreat.A
open Go Go.RowKit Go.Shelf

/-! ### Fractions as numbers -/
def Fr.val (x : Fr) : Rat := (x.n : Rat) / (x.d : Rat)
theorem cast_ne {d : Int} (h : d ≠ 0) : (d : Rat) ≠ 0 := by
  intro e
  exact h (Rat.intCast_inj.1 (by simpa using e))
theorem div_val {n d m e : Int} (hd : d ≠ 0) (he : e ≠ 0) (h : (n : Rat) / d = (m : Rat) / e) : n * e = m * d := by
  have h1 := cast_ne hd
  have h2 := cast_ne he
  have h3 : (n : Rat) * e = (m : Rat) * d := by grind
  rw [← Rat.intCast_mul, ← Rat.intCast_mul] at h3
  exact Rat.intCast_inj.1 h3

/-- What New tells, where it is not Bad. -/
theorem newF_spec {n d : Int} (h : (newF n d).bad = false) : d ≠ 0 ∧ 0 < (newF n d).d ∧ (newF n d).n * d = n * (newF n d).d ∧ Int.gcd (newF n d).n (newF n d).d = 1 ∧ (newF n d).d ≤ 1073741824 ∧ (newF n d).n ≤ 1073741824 ∧ -1073741824 ≤ (newF n d).n := by
  unfold newF at h ⊢
  by_cases h1 : n > 1152921504606846976 ∨ n < -1152921504606846976 ∨ d > 1152921504606846976 ∨ d < -1152921504606846976 ∨ d = 0
  · rw [if_pos h1] at h; cases h
  rw [if_neg h1] at h ⊢
  simp only at h ⊢
  have hd : d ≠ 0 := by omega
  have key : ∀ m e : Int, 0 < e → m * d = n * e → ∀ x : Fr, x = (if m.tdiv (Int.gcd m e : Int) > 1073741824 ∨ m.tdiv (Int.gcd m e : Int) < -1073741824 ∨ e.tdiv (Int.gcd m e : Int) > 1073741824 then Fr.wrong else ⟨m.tdiv (Int.gcd m e : Int), e.tdiv (Int.gcd m e : Int), false⟩) → x.bad = false →
      d ≠ 0 ∧ 0 < x.d ∧ x.n * d = n * x.d ∧ Int.gcd x.n x.d = 1 ∧ x.d ≤ 1073741824 ∧ x.n ≤ 1073741824 ∧ -1073741824 ≤ x.n := by
    intro m e he hme x hx hb
    have hg : 0 < Int.gcd m e := Int.gcd_pos_of_ne_zero_right m (by omega)
    obtain ⟨m', hm'⟩ := Int.gcd_dvd_left m e
    obtain ⟨e', he'⟩ := Int.gcd_dvd_right m e
    generalize hk : Int.gcd m e = k at *
    have hk0 : (k : Int) ≠ 0 := by omega
    have q1 : m.tdiv (k : Int) = m' := by rw [hm', Int.mul_tdiv_cancel_left _ hk0]
    have q2 : e.tdiv (k : Int) = e' := by rw [he', Int.mul_tdiv_cancel_left _ hk0]
    rw [q1, q2] at hx
    have hcop : Int.gcd m' e' = 1 := by
      have h3 : Int.gcd ((k : Int) * m') ((k : Int) * e') = k * Int.gcd m' e' := by
        rw [Int.gcd_mul_left]; simp
      rw [← hm', ← he', hk] at h3
      have : k * 1 = k * Int.gcd m' e' := by omega
      exact (Nat.eq_of_mul_eq_mul_left hg this).symm
    have he0 : 0 < e' := by
      have h4 : 0 < (k : Int) * e' := by rw [← he']; exact he
      exact Int.pos_of_mul_pos_right h4 (by omega)
    split at hx
    · rw [hx] at hb; cases hb
    · rename_i hns
      subst hx
      refine ⟨hd, he0, ?_, hcop, by simp only; omega, by simp only; omega, by simp only; omega⟩
      simp only
      rw [hm', he'] at hme
      have : (k : Int) * (m' * d) = (k : Int) * (n * e') := by
        rw [← Int.mul_assoc, hme, ← Int.mul_assoc, ← Int.mul_assoc, Int.mul_comm (k : Int) n]
      exact Int.eq_of_mul_eq_mul_left hk0 this
  by_cases hneg : d < 0
  · simp only [hneg, if_true] at h ⊢
    exact key (-n) (-d) (by omega) (by rw [Int.neg_mul, Int.mul_neg]) _ rfl h
  · simp only [hneg, if_false] at h ⊢
    exact key n d (by omega) rfl _ rfl h

theorem fine_low {x : Fr} (h : x.fine = true) : x.bad = false ∧ 0 < x.d ∧ Int.gcd x.n x.d = 1 := by
  obtain ⟨h1, h2, h3, h4, h5⟩ := Fr.fine_spec h
  refine ⟨h1, by omega, ?_⟩
  have hn : newF x.n x.d = x := by
    unfold Fr.fine at h
    simp only [Bool.and_eq_true, beq_iff_eq, decide_eq_true_eq] at h
    obtain ⟨n, d, b⟩ := x
    obtain ⟨_, k1, k2, k3, _⟩ := h
    generalize newF n d = y at *
    obtain ⟨n', d', b'⟩ := y
    simp only at k1 k2 k3
    rw [k1, k2, k3]
  have hb : (newF x.n x.d).bad = false := by rw [hn]; exact h1
  obtain ⟨_, _, _, g, _⟩ := newF_spec hb
  rw [hn] at g
  exact g
theorem dvd_cop {a b c : Int} (h : a ∣ b * c) (g : Int.gcd b a = 1) : a ∣ c := by
  rw [← Int.natAbs_dvd_natAbs] at h ⊢
  rw [Int.natAbs_mul] at h
  refine Nat.Coprime.dvd_of_dvd_mul_left ?_ h
  rw [Int.gcd_comm] at g
  exact g
/-- What stands for the same number is the same. -/
theorem fine_inj {a b : Fr} (ha : a.fine = true) (hb : b.fine = true) (h : a.val = b.val) : a = b := by
  obtain ⟨a1, a2, a3⟩ := fine_low ha
  obtain ⟨b1, b2, b3⟩ := fine_low hb
  have e := div_val (by omega) (by omega) h
  have c1 : a.d ∣ b.d := by
    have : a.d ∣ a.n * b.d := ⟨b.n, by rw [e, Int.mul_comm]⟩
    exact dvd_cop this a3
  have c2 : b.d ∣ a.d := by
    have : b.d ∣ b.n * a.d := ⟨a.n, by rw [← e, Int.mul_comm]⟩
    exact dvd_cop this b3
  have hd : a.d = b.d := Int.dvd_antisymm (by omega) (by omega) c1 c2
  rw [hd] at e
  have hn : a.n = b.n := Int.eq_of_mul_eq_mul_right (by omega) e
  obtain ⟨n, d, x⟩ := a
  obtain ⟨n', d', x'⟩ := b
  simp only at hd hn a1 b1
  rw [hd, hn, a1, b1]
/-- x stands for the number v. -/
def Is (x : Fr) (v : Rat) : Prop := x.fine = true ∧ x.val = v
theorem Is.inj {a b : Fr} {v : Rat} (ha : Is a v) (hb : Is b v) : a = b := fine_inj ha.1 hb.1 (ha.2.trans hb.2.symm)
end Go.Proofs.YtambpjbpdackfaaGreat.A


set_option linter.unusedVariables false
set_option linter.unusedSimpArgs false
set_option maxRecDepth 100000
namespace Go.Proofs.YtambpjbpdackfaaGreat.A
open Go Go.RowKit Go.Shelf

/-! ### Sums of numbers -/
/-! ### Dots -/
/-! ### Products, entry by entry -/
end Go.Proofs.YtambpjbpdackfaaGreat.A


set_option linter.unusedVariables false
set_option linter.unusedSimpArgs false
set_option maxRecDepth 100000
namespace Go.Proofs.YtambpjbpdackfaaGreat.A
open Go Go.RowKit Go.Shelf

/-! ### Plain laws of clearing -/
/-! ### The function TriClears -/
end Go.Proofs.YtambpjbpdackfaaGreat.A


set_option linter.unusedVariables false
set_option linter.unusedSimpArgs false
set_option maxRecDepth 100000
namespace Go.Proofs.YtambpjbpdackfaaGreat.A
open Go Go.RowKit Go.Shelf

/-! ### Plain laws of squares -/
end Go.Proofs.YtambpjbpdackfaaGreat.A



set_option linter.unusedVariables false
set_option linter.unusedSimpArgs false
set_option maxRecDepth 100000
namespace Go.Proofs.YtambpjbpdackfaaGreat.A
open Go Go.RowKit Go.Shelf

/-! ### Nothing's triangles -/
/-! ### Plain laws of clearing, of whole numbers -/
/-! ### The function TriTells -/
end Go.Proofs.YtambpjbpdackfaaGreat.A



set_option linter.unusedVariables false
set_option linter.unusedSimpArgs false
set_option maxRecDepth 100000
namespace Go.Proofs.YtambpjbpdackfaaGreat.A
open Go Go.RowKit Go.Shelf

/-! ### root: new states, and what they stand for -/
end Go.Proofs.YtambpjbpdackfaaGreat.A



set_option linter.unusedVariables false
set_option linter.unusedSimpArgs false
set_option maxRecDepth 100000
namespace Go.Proofs.YtambpjbpdackfaaGreat.A.E
open Go Go.RowKit Go.Shelf

end Go.Proofs.YtambpjbpdackfaaGreat.A.E


set_option linter.unusedVariables false
set_option linter.unusedSimpArgs false
set_option maxRecDepth 100000
namespace Go.Proofs.YtambpjbpdackfaaGreat.A.E
open Go Go.RowKit Go.Shelf

/-! ### Whole numbers, enclosed: points -/
abbrev whole (n : Int) : Fr := ⟨n * 16777216, n * 16777216, n * 16777216, false⟩
end Go.Proofs.YtambpjbpdackfaaGreat.A.E



set_option linter.unusedVariables false
set_option linter.unusedSimpArgs false
set_option maxRecDepth 100000
namespace Go.Proofs.YtambpjbpdackfaaGreat.A.E
open Go Go.RowKit Go.Shelf

/-! ### Is a fraction enclosed? -/
/-! ### Products of whole numbers -/
end Go.Proofs.YtambpjbpdackfaaGreat.A.E



set_option linter.unusedVariables false
set_option linter.unusedSimpArgs false
set_option maxRecDepth 100000
namespace Go.Proofs.YtambpjbpdackfaaGreat.A.E
open Go Go.RowKit Go.Shelf

/-! ### What the document fixes of one number, behind layer 10 -/
end Go.Proofs.YtambpjbpdackfaaGreat.A.E



set_option linter.unusedVariables false
set_option linter.unusedSimpArgs false
set_option maxRecDepth 100000
namespace Go.Proofs.YtambpjbpdackfaaGreat.A.E
open Go Go.RowKit Go.Shelf

/-! ### The function RootNew -/
end Go.Proofs.YtambpjbpdackfaaGreat.A.E



set_option linter.unusedVariables false
set_option linter.unusedSimpArgs false
set_option maxRecDepth 100000
namespace Go.Proofs.YtambpjbpdackfaaGreat.A.E
open Go Go.RowKit Go.Shelf

/-! ### root: one tick on -/
end Go.Proofs.YtambpjbpdackfaaGreat.A.E



set_option linter.unusedVariables false
set_option linter.unusedSimpArgs false
set_option maxRecDepth 100000
namespace Go.Proofs.YtambpjbpdackfaaGreat.A.E
open Go Go.RowKit Go.Shelf

/-! ### Both lanes -/
structure Pr where
  n : Nat
  x : List Fr
  p : List Fr
  y : List Fr
  s : List Fr
  e0 : Fr
  a0 : Fr
  e1 : Fr
  a1 : Fr
structure Pr.good (q : Pr) : Prop where
  n1 : 1 ≤ q.n
  n4 : q.n ≤ 4
  lx : q.x.length = q.n
  lp : q.p.length = q.n * q.n
  ly : q.y.length = q.n
  ls : q.s.length = q.n * q.n
/-- A sound frame. -/
structure SoundF (k q : Int) (m : Nat) (l : List Int) : Prop where
  right : rightFr k q m l = true
  m1 : 1 ≤ m
  m4 : m ≤ 4
  len : (k = 1 ∧ l.length = m + m * m) ∨ (k = 2 ∧ l.length = m * m + m * m) ∨ (k = 3 ∧ l.length = m + 2)
  small : ∀ x ∈ l, -17179869184 ≤ x ∧ x ≤ 17179869184
  last : k = 3 → 65536 ≤ (partZ k m l 1).getD 0 0
  diag : k ≠ 3 → ∀ i, i < m → 65536 ≤ (partZ k m l 1).getD (i * m + i) 0
def fz : Fr := ⟨0, 0, 0, false⟩
end Go.Proofs.YtambpjbpdackfaaGreat.A.E



set_option linter.unusedVariables false
set_option linter.unusedSimpArgs false
set_option maxRecDepth 100000
namespace Go.Proofs.YtambpjbpdackfaaGreat.A.E
open Go Go.RowKit Go.Shelf

end Go.Proofs.YtambpjbpdackfaaGreat.A.E



set_option linter.unusedVariables false
set_option linter.unusedSimpArgs false
set_option maxRecDepth 100000
namespace Go.Proofs.YtambpjbpdackfaaGreat.A.E
open Go Go.RowKit Go.Shelf

section
variable (n : Nat) (x p h : List Fr) (r z : Fr)
end
end Go.Proofs.YtambpjbpdackfaaGreat.A.E



set_option linter.unusedVariables false
set_option linter.unusedSimpArgs false
set_option maxRecDepth 100000
namespace Go.Proofs.YtambpjbpdackfaaGreat.A.E
open Go Go.RowKit Go.Shelf

/-! ### Both lanes behind a frame -/
/-- Is a frame taken? -/
def takes (q : Pr) (k s n : Int) (l : List Int) : Bool := decide (soundZ k s n l = 0) && (decide (n = q.n) && decide (k ≠ 1))
end Go.Proofs.YtambpjbpdackfaaGreat.A.E


/- Functions that hand a new row back to which something will be appended; rules for regions told for any order. -/
set_option linter.unusedVariables false
set_option linter.unusedSimpArgs false
namespace Go.Proofs.YtambpjbpdackfaaGreat.A
open Go Go.RowKit Go.Shelf

section
variable {P : Program} {its : Option (Nat × List Item)} {s : St} {K : St → Prop} {Q : XA → St → Prop} {w : World} {I : Imm}

/-- The same, told as a value. -/
theorem OkA.val {f : FuncId} {args els : List PV} (h : OkA P f args els) : Ok P f args (.sl false els) := by
  refine Ok.ofM h ?_
  rintro r m ⟨c, cap, k, sz, hne, hcap, hu, hlen, rfl, rfl⟩
  refine .row (Mem.put_same _ _ _) hu rfl (by rw [List.length_append]; omega) hcap (fun h => by cases h) ?_
  rw [List.drop_zero, List.take_left]
  exact Tells.same _ _
theorem RowA.rf {els : List PV} (h : RFs (flat els) = true) (r : PV) (m : Mem) (hr : RowA els r m) : RF r = true ∧ ∀ c cells, m c = some cells → RFs cells = true := by
  obtain ⟨c, cap, k, sz, hne, h1, _, _, rfl, rfl⟩ := hr
  refine ⟨rfl, fun d cells hd => ?_⟩
  by_cases e : d = c
  · subst e
    rw [Mem.put_same] at hd
    cases hd
    exact RFs_append h (RFs_junk k)
  · rw [Mem.put_other _ _ e] at hd
    cases hd
end
end Go.Proofs.YtambpjbpdackfaaGreat.A


set_option linter.unusedVariables false
namespace Go.Proofs.YtambpjbpdackfaaGreat.A
open Go Go.RowKit Go.Shelf
/- (couplet/lanes.Pair).State -/
/- (couplet/lanes.Pair).Cover -/
/- (couplet/lanes.Pair).Words -/
end Go.Proofs.YtambpjbpdackfaaGreat.A



set_option linter.unusedVariables false
set_option linter.unusedSimpArgs false
set_option maxRecDepth 100000
namespace Go.Proofs.YtambpjbpdackfaaGreat.A.E
open Go Go.RowKit Go.Shelf

/-! ### What a lane holds -/
/-- A lane's numbers, and its matrix. -/
def Pr.lx' (q : Pr) (lane : Int) : List Fr := if lane = 0 then q.x else q.y
def Pr.lm (q : Pr) (lane : Int) : List Fr := if lane = 0 then q.p else q.s
def laneOk (lane : Int) : Bool := decide (0 ≤ lane) && decide (lane ≤ 1)
/-- A lane's words. -/
def trilF (n : Nat) (l : List Fr) (i : Nat) : List Fr := (List.range i).flatMap fun (j : Nat) => (rowF n n l (j : Int)).take (j + 1)
def Pr.words (q : Pr) (lane : Int) : List Fr := q.lx' lane ++ trilF q.n (q.lm lane) q.n
end Go.Proofs.YtambpjbpdackfaaGreat.A.E



set_option linter.unusedVariables false
set_option linter.unusedSimpArgs false
set_option maxRecDepth 100000
namespace Go.Proofs.YtambpjbpdackfaaGreat.A.E
open Go Go.RowKit Go.Shelf

/-! ### Is a pair ruined? -/
theorem NewRow.tell {els : List PV} {sz : Nat} (hu : ∀ e ∈ els, e.cells.length = sz) (r : PV) (m : Mem) (h : NewRow els r m) : Tell m r (.sl false els) := by
  rcases h with ⟨rfl, rfl, a, rfl⟩ | ⟨hne, c, cap, k, hcap, rfl, rfl⟩
  · cases a with
    | none => exact .nil
    | some a => exact .empty
  · refine .row (Mem.put_same _ _ _) hu rfl (by rw [List.length_append]; omega) hcap (fun h => by cases h) ?_
    rw [List.drop_zero, List.take_left]
    exact Tells.same _ _
def Pr.news (q : Pr) : Bool := q.e0.bad || (q.a0.bad || (q.e1.bad || q.a1.bad))
def Pr.all (q : Pr) : List Fr := [q.words 0, q.words 1, q.p, q.s].flatten
end Go.Proofs.YtambpjbpdackfaaGreat.A.E


set_option linter.unusedVariables false
namespace Go.Proofs.YtambpjbpdackfaaGreat.A
open Go Go.RowKit Go.Shelf
/- couplet/coupletlaw15.Play -/
/- couplet/coupletlaw15.LanesMeet -/
end Go.Proofs.YtambpjbpdackfaaGreat.A



set_option linter.unusedVariables false
set_option linter.unusedSimpArgs false
set_option maxRecDepth 100000
namespace Go.Proofs.YtambpjbpdackfaaGreat.A.E
open Go Go.RowKit Go.Shelf

/-! ### Frames gone through -/
structure Frm where
  k : Int
  q : Int
  n : Int
  l : List Int
end Go.Proofs.YtambpjbpdackfaaGreat.A.E



set_option linter.unusedVariables false
set_option linter.unusedSimpArgs false
set_option maxRecDepth 100000
namespace Go.Proofs.YtambpjbpdackfaaGreat.A.E
open Go Go.RowKit Go.Shelf

/-! ### What the document fixes of one number, behind layer 15 -/
end Go.Proofs.YtambpjbpdackfaaGreat.A.E



set_option linter.unusedVariables false
set_option linter.unusedSimpArgs false
set_option maxRecDepth 100000
namespace Go.Proofs.YtambpjbpdackfaaGreat.A
open Go Go.RowKit Go.Shelf

end Go.Proofs.YtambpjbpdackfaaGreat.A



set_option linter.unusedVariables false
set_option linter.unusedSimpArgs false
set_option maxRecDepth 100000
namespace Go.Proofs.YtambpjbpdackfaaGreat.A
open Go Go.RowKit Go.Shelf

/-! ### The reference's numbers of two words: products, sizes -/
end Go.Proofs.YtambpjbpdackfaaGreat.A



set_option linter.unusedVariables false
set_option linter.unusedSimpArgs false
set_option maxRecDepth 100000
namespace Go.Proofs.YtambpjbpdackfaaGreat.A
open Go Go.RowKit Go.Shelf

/-! ### The reference's product, divided -/
end Go.Proofs.YtambpjbpdackfaaGreat.A



set_option linter.unusedVariables false
set_option linter.unusedSimpArgs false
set_option maxRecDepth 100000
namespace Go.Proofs.YtambpjbpdackfaaGreat.A
open Go Go.RowKit Go.Shelf

/-! ### The reference's root -/
end Go.Proofs.YtambpjbpdackfaaGreat.A



set_option linter.unusedVariables false
set_option linter.unusedSimpArgs false
set_option maxRecDepth 100000
namespace Go.Proofs.YtambpjbpdackfaaGreat.A.E
open Go Go.RowKit Go.Shelf

/-! ### The reference's numbers in units -/
/-! ### One of the document's operations -/
end Go.Proofs.YtambpjbpdackfaaGreat.A.E



set_option linter.unusedVariables false
set_option linter.unusedSimpArgs false
set_option maxRecDepth 100000
namespace Go.Proofs.YtambpjbpdackfaaGreat.A.E
open Go Go.RowKit Go.Shelf

/-! ### The document's operations of enclosed numbers -/
section
variable (F : Int → Int → Int → Int × Bool) (ps : List (Int × Int))
variable {F ps}
end
end Go.Proofs.YtambpjbpdackfaaGreat.A.E



set_option linter.unusedVariables false
set_option linter.unusedSimpArgs false
set_option maxRecDepth 100000
namespace Go.Proofs.YtambpjbpdackfaaGreat.A.E
open Go Go.RowKit Go.Shelf

end Go.Proofs.YtambpjbpdackfaaGreat.A.E



set_option linter.unusedVariables false
set_option linter.unusedSimpArgs false
set_option maxRecDepth 100000
namespace Go.Proofs.YtambpjbpdackfaaGreat.A.E
open Go Go.RowKit Go.Shelf

end Go.Proofs.YtambpjbpdackfaaGreat.A.E



set_option linter.unusedVariables false
set_option linter.unusedSimpArgs false
set_option maxRecDepth 100000
namespace Go.Proofs.YtambpjbpdackfaaGreat.A.E
open Go Go.RowKit Go.Shelf

end Go.Proofs.YtambpjbpdackfaaGreat.A.E



set_option linter.unusedVariables false
set_option linter.unusedSimpArgs false
set_option maxRecDepth 100000
namespace Go.Proofs.YtambpjbpdackfaaGreat.A.E
open Go Go.RowKit Go.Shelf

end Go.Proofs.YtambpjbpdackfaaGreat.A.E


set_option linter.unusedVariables false
set_option linter.unusedSimpArgs false
set_option maxRecDepth 100000
namespace Go.Proofs.YtambpjbpdackfaaGreat.A.E
open Go Go.RowKit Go.Shelf

end Go.Proofs.YtambpjbpdackfaaGreat.A.E



set_option linter.unusedVariables false
set_option linter.unusedSimpArgs false
set_option maxRecDepth 100000
namespace Go.Proofs.YtambpjbpdackfaaGreat.A.E
open Go Go.RowKit Go.Shelf

/-! ### The reference's rows and tables -/
end Go.Proofs.YtambpjbpdackfaaGreat.A.E



set_option linter.unusedVariables false
set_option linter.unusedSimpArgs false
set_option maxRecDepth 100000
namespace Go.Proofs.YtambpjbpdackfaaGreat.A.E
open Go Go.RowKit Go.Shelf

/-! ### The reference's tables are the program's -/
end Go.Proofs.YtambpjbpdackfaaGreat.A.E


set_option linter.unusedVariables false
namespace Go.Proofs.YtambpjbpdackfaaGreat.A
open Go Go.RowKit Go.Shelf
/- couplet/coupletlaw15.points -/
end Go.Proofs.YtambpjbpdackfaaGreat.A


/- Code told in parts, of calls to which no memory is handed over: between two parts, all memory that is known may be told as values, once it is not written any more. -/
set_option linter.unusedVariables false
set_option linter.unusedSimpArgs false
namespace Go.Proofs.YtambpjbpdackfaaGreat.A
open Go Go.RowKit Go.Shelf

/-- Told again, more closely. -/
inductive Re (m : Mem) : TV → TV → Prop
  | same (x : TV) : Re m x x
  | tell {p q : PV} : Tell m p q → Re m (.v p) (.v q)
inductive Res (m : Mem) : List TV → List TV → Prop
  | nil : Res m [] []
  | cons {x y : TV} {xs ys : List TV} : Re m x y → Res m xs ys → Res m (x :: xs) (y :: ys)
theorem Res.same (m : Mem) : ∀ (l : List TV), Res m l l
  | [] => .nil
  | x :: l => .cons (.same x) (Res.same m l)
inductive ReB (m : Mem) : List (Nat × List TV) → List (Nat × List TV) → Prop
  | nil : ReB m [] []
  | cons {b : Nat} {x y : List TV} {xs ys : List (Nat × List TV)} : Res m x y → ReB m xs ys → ReB m ((b, x) :: xs) ((b, y) :: ys)
theorem ReB.same (m : Mem) : ∀ (l : List (Nat × List TV)), ReB m l l
  | [] => .nil
  | (_, x) :: l => .cons (Res.same m x) (ReB.same m l)
theorem ReB.lk {m : Mem} {l l' : List (Nat × List TV)} (h : ReB m l l') {b : Nat} {c' : List TV} (hb : A.lk b l' = some c') : ∃ c, A.lk b l = some c ∧ Res m c c' := by
  induction h with
  | nil => cases hb
  | @cons b0 x y xs ys h1 h2 ih =>
    simp only [A.lk] at hb ⊢
    by_cases e : b0 = b
    · rw [if_pos e] at hb ⊢
      cases hb
      exact ⟨x, rfl, h1⟩
    · rw [if_neg e] at hb ⊢
      exact ih hb

section
variable {P : Program} {w00 w0 : Bs} {w : World} {I0 I : Imm} {β : Nat → Nat} {κ : Nat → Nat × Nat × Nat} {s : St} {sav : List (Array Value)} {a : Act} {tk : Nat → Nat}

theorem Re.sound {m : Mem} (h : MemAt I m w) {x y : TV} {u : Value} (hr : Re m x y) (hx : R I β κ tk x u) : R (memI I m w) β κ tk y u := by
  cases hr with
  | same x => exact hx.mono (memI_le h)
  | tell ht => exact .v (Tell.sound h ht (hx.inv.mono (memI_le h)))
theorem Res.sound {m : Mem} (h : MemAt I m w) : ∀ {xs ys : List TV} {us : List Value}, Res m xs ys → Rs I β κ tk xs us → Rs (memI I m w) β κ tk ys us
  | _, _, _, .nil, .nil => .nil
  | _, _, _, .cons h1 h2, .cons k1 k2 => .cons (h1.sound h k1) (Res.sound h h2 k2)
/-- How code is told in parts. -/
inductive HT where
  | h (x : Hint)
  | s (x y : HT)
  | z (x : HT)
  | m (l : List (Nat × Inf))
def okT (P : Program) : HT → Code → Bool
  | .h x, c => okC P x c
  | .s x y, .seq c d => okT P x c && okT P y d
  | .z x, c => okT P x c
  | .m l, .region _ ops false => regMOk P (aoL 0 ops.toList l)
  | _, _ => false
/-- The parts fit the function. -/
def okP (P : Program) (fn : Func) (h : HT) (qs : List (Bool × Nat)) : Bool :=
  !(fn.name == "runtime.NumGoroutine") && rinfOk P fn.results.toList qs && (match fn.body with | some c => okT P h c | none => false)
variable {Q : XA → St → Prop}
theorem Res.set {m : Mem} {p q : PV} (h : Tell m p q) : ∀ {l : List TV} {k : Nat}, l[k]? = some (.v p) → Res m l (l.set k (.v q))
  | [], _, e => by simp at e
  | x :: l, 0, e => by
    simp only [List.getElem?_cons_zero, Option.some.injEq] at e
    subst e
    exact .cons (.tell h) (Res.same m l)
  | x :: l, k + 1, e => by
    simp only [List.getElem?_cons_succ] at e
    exact .cons (.same x) (Res.set h e)
end
end Go.Proofs.YtambpjbpdackfaaGreat.A


set_option linter.unusedVariables false
namespace Go.Proofs.YtambpjbpdackfaaGreat.A
open Go Go.RowKit Go.Shelf
/- couplet/coupletlaw15.LanesBegin -/
end Go.Proofs.YtambpjbpdackfaaGreat.A



set_option linter.unusedVariables false
set_option linter.unusedSimpArgs false
set_option maxRecDepth 100000
namespace Go.Proofs.YtambpjbpdackfaaGreat.A.E
open Go Go.RowKit Go.Shelf

/-! ### The function LanesBegin -/
def frmSh : List CSh := [.int .i64, .int .i64, .int .i64, .sl false [.int .i64]]
end Go.Proofs.YtambpjbpdackfaaGreat.A.E



set_option linter.unusedVariables false
set_option linter.unusedSimpArgs false
set_option maxRecDepth 100000
namespace Go.Proofs.YtambpjbpdackfaaGreat.A.E
open Go Go.RowKit Go.Shelf

/-! ### compare: gaps, and odds -/
def leastE (a : Fr) : Int := if a.lo > 0 then a.lo else if a.hi < 0 then a.hi else 0
def oddsE (s a : Fr) (k : Int) : Bool :=
  s.fine && (a.fine && (decide (0 < a.lo) && ((mdF a.hi (k * k) 1 1).2 && decide (0 < cmpF (leastE s) (leastE s) (mdF a.hi (k * k) 1 1).1 16777216))))
def Pr.sp (q : Pr) (lane : Int) : Fr := if lane = 0 then q.e0 else q.e1
def Pr.ap (q : Pr) (lane : Int) : Fr := if lane = 0 then q.a0 else q.a1
def oddR (lane k : Int) : Bool := laneOk lane && (decide (0 ≤ k) && decide (k ≤ 1048576))
def Pr.odds (q : Pr) (lane k : Int) : Bool := oddR lane k && oddsE (q.sp lane) (q.ap lane) k
end Go.Proofs.YtambpjbpdackfaaGreat.A.E



set_option linter.unusedVariables false
set_option linter.unusedSimpArgs false
set_option maxRecDepth 100000
namespace Go.Proofs.YtambpjbpdackfaaGreat.A.E
open Go Go.RowKit Go.Shelf

/-! ### The function CompareBounds -/
abbrev frsSh : CSh := .sl true frmSh
end Go.Proofs.YtambpjbpdackfaaGreat.A.E


set_option linter.unusedVariables false
namespace Go.Proofs.YtambpjbpdackfaaGreat.A
open Go Go.RowKit Go.Shelf
/- couplet/coupletlaw15.LanesWords -/
end Go.Proofs.YtambpjbpdackfaaGreat.A



set_option linter.unusedVariables false
set_option linter.unusedSimpArgs false
set_option maxRecDepth 100000
namespace Go.Proofs.YtambpjbpdackfaaGreat.A.E
open Go Go.RowKit Go.Shelf

/-! ### The function LanesWords -/
def Pr.every (q : Pr) : List Fr := q.x ++ q.y ++ q.p ++ q.s
def mk (b : Bool) (t : TV) : TV := if b = true then t else jk
end Go.Proofs.YtambpjbpdackfaaGreat.A.E


/- A slice that comes in, and how long it may be. -/
set_option linter.unusedVariables false
namespace Go.Proofs.YtambpjbpdackfaaGreat.A
open Go Go.RowKit Go.Shelf Go.ChangeShapes Go.WideShapes Go.ChangeAt

theorem C.len {I : Imm} {ex : Bool} {els : List PV} {a : Option Addr} {len cap : Nat} (h : C I (.sl ex els) (.slice a len cap)) : els.length = len := by
  cases h <;> simp_all
section
variable {H : Type} {enc : TypeId × Value → H} {P : Program} {W : World} {base : Nat} {held : Bool}
theorem row_sliceN {t e : TypeId} {c : CSh} {v : Value} {d : DataW H} {ps : List MemPlace} {r : Reach} {b0 : Nat} {ts : List TypeId} {ds : List (DataW H)} (j B : Nat)
    (m : Nat) (ht : P.underlying t = some (.slice e)) (hs : shape P m t = some [c]) (hv : Value.okWide P W r b0 t v)
    (hz : (DataW.weightsEach P ts ds).all (· ≤ reachBytes) = true) (hj : ts[j]? = some t) (hd : ds[j]? = some d) (hB : P.bytesOf e = B) (h : DataW.Trod enc P W base (fun _ => true) held t v d ps) :
    ∃ x, FitC c x ∧ C (allI W) x v ∧ ∀ ex els, x = .sl ex els → els.length * B ≤ 140737488351232 := by
  subst hB
  obtain ⟨x, h1, h2⟩ := row_slice m ht hs hv h
  refine ⟨x, h1, h2, ?_⟩
  rintro ex els rfl
  obtain ⟨a, len, cap, rfl⟩ := okWide_slice ht hv
  have hl := h2.len
  obtain ⟨fuel, hf⟩ := h
  rcases DataW.trod_slice ht hf with ⟨hcs, _⟩ | ⟨y, l, k, elems, rest, n, _, hcs, hx, _, _, _, hlen, _⟩
  · simp [Value.cells] at hcs
    obtain ⟨rfl, rfl, rfl⟩ := hcs
    rw [hl, Nat.zero_mul]
    exact Nat.zero_le _
  · simp [Value.cells] at hcs
    obtain ⟨rfl, rfl, rfl⟩ := hcs
    injection hx with hx1 hx2
    subst hx1
    have := sized_slice hz hj hd ht
    rw [List.length_map, List.length_map, hlen] at this
    rw [hl]
    exact Nat.le_trans (Nat.mul_le_mul_right _ (Nat.le_add_right _ _)) this
end
end Go.Proofs.YtambpjbpdackfaaGreat.A


