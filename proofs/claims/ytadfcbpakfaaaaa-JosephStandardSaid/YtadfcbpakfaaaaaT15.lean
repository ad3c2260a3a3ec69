import Derived.Test.YtadfcbpakfaaaaaT14
set_option linter.unusedVariables false
set_option linter.unusedSimpArgs false
set_option maxRecDepth 100000
namespace Go.Proofs.Ytadfcbpakfaaaaa.A
open Go Go.RowKit Go.Shelf

theorem grid_of {α : Type} {g : Nat → Nat → α} {n N : Nat} {l : List α} (hl : l.length = N * n) (h : ∀ i k, i < N → k < n → l[i * n + k]? = some (g i k)) : l = gridP g n N 0 := by
  have hg := gridP_length g n N 0
  apply List.ext_getElem?
  intro j
  by_cases hj : j < N * n
  · have hn : 0 < n := by
      rcases Nat.eq_zero_or_pos n with h0 | h0
      · subst h0; simp at hj
      · exact h0
    have h1 : j / n < N := Nat.div_lt_of_lt_mul (by rwa [Nat.mul_comm] at hj)
    have h2 : j % n < n := Nat.mod_lt _ hn
    have h3 : j / n * n + j % n = j := by rw [Nat.mul_comm]; exact Nat.div_add_mod j n
    have e1 := h _ _ h1 h2
    have e2 := gridP_get g n N _ _ h1 h2
    rw [h3] at e1 e2
    rw [e1, e2]
  · rw [List.getElem?_eq_none (by omega), List.getElem?_eq_none (by omega)]
theorem gridP_map {α β : Type} (f : α → β) (g : Nat → Nat → α) (n i k : Nat) : (gridP g n i k).map f = gridP (fun i k => f (g i k)) n i k := by
  simp [gridP, List.map_flatMap, Function.comp_def]
theorem gridP_congr {α : Type} {g f : Nat → Nat → α} {n N : Nat} (h : ∀ i k, i < N → k < n → g i k = f i k) : gridP g n N 0 = gridP f n N 0 := by
  rw [gridP_zero, gridP_zero]
  apply flatMap_same
  intro i hi
  apply List.map_congr_left
  intro k hk
  exact h i k (List.mem_range.1 hi) (List.mem_range.1 hk)

theorem sl_num {ex : Bool} {l : List Int} {a b : Nat} (h1 : a ≤ b) (h2 : b ≤ l.length) : sliceA 1 (l.map num) ex (some a) (some b) none = some (.sl (exA none ex b (l.map num).length) (((l.take b).drop a).map num)) := by
  unfold sliceA
  simp only [Option.getD_some]
  rw [if_pos ⟨h1, by simpa using h2, by simp, by simp [PV.cells]⟩]
  simp

section
variable (a b : List Int) (R K : Nat)
def sumI : Nat → Nat → List Int := gridP (fun i k => a.getD (i * K + k) 0 + b.getD (i * K + k) 0) K
def lessI : Nat → Nat → List Int := gridP (fun i k => a.getD (i * K + k) 0 - b.getD (i * K + k) 0) K
def mirI (i k : Nat) : List Int := if R = K then gridP (fun i k => a.getD (max i k * K + min i k) 0) K i k else []
def turI : Nat → Nat → List Int := gridP (fun k i => a.getD (i * K + k) 0) R
def rowI (l : List Int) (i : Nat) : List Int := (l.take ((i + 1) * K)).drop (i * K)
def besI (n : Nat) : List Int := (List.range n).flatMap fun i => rowI K a i ++ rowI K b i
end

section
variable {a b : List Int} {R K : Nat}
theorem besI_succ (n : Nat) : besI a b K (n + 1) = besI a b K n ++ rowI K a n ++ rowI K b n := by simp [besI, List.range_succ]
theorem rowI_length (hl : a.length = R * K) {i : Nat} (hi : i < R) : (rowI K a i).length = K := by
  have : (i + 1) * K ≤ R * K := Nat.mul_le_mul_right _ hi
  have h2 : (i + 1) * K = i * K + K := by rw [Nat.add_mul, Nat.one_mul]
  simp only [rowI, List.length_drop, List.length_take]
  omega
theorem besI_length (hl : a.length = R * K) (hb : b.length = R * K) : ∀ n, n ≤ R → (besI a b K n).length = n * (K + K)
  | 0, _ => by simp [besI]
  | n + 1, hn => by
    rw [besI_succ, List.length_append, List.length_append, besI_length hl hb n (by omega), rowI_length hl (by omega), rowI_length hb (by omega), Nat.add_mul]
    omega
theorem right_nat (hR : 1 ≤ R ∧ R ≤ 16) (hK : 1 ≤ K ∧ K ≤ 16) {n : Nat} (hl : n = R * K) : right (R : Int) (K : Int) n = true := by
  simp only [right, Bool.and_eq_true, decide_eq_true_eq, beq_iff_eq]
  refine ⟨by omega, by omega, ?_⟩
  rw [hl]
  simp
theorem getD_map {i : Nat} (h : i < a.length) : (a.map (newF · 1))[i]? = some (newF (a.getD i 0) 1) := by
  simp [h]
theorem sumI_eq (ha : a.length = R * K) (hb : b.length = R * K) (sa : small a) (sb : small b) : List.zipWith addF (a.map (newF · 1)) (b.map (newF · 1)) = (sumI a b K R 0).map (newF · 1) := by
  rw [sumI, gridP_map]
  refine grid_of (by simp [ha, hb]) fun i k hi hk => ?_
  have := at_table hi hk
  have h1 := small_get sa (i * K + k)
  have h2 := small_get sb (i * K + k)
  have f3 : few (a.getD (i * K + k) 0 + b.getD (i * K + k) 0) := by unfold few; omega
  rw [List.getElem?_zipWith, getD_map (by omega), getD_map (by omega)]
  simp only
  rw [newF_whole (few_small h1), newF_whole (few_small h2), newF_whole f3, addF_whole (few_small h1) (few_small h2) f3]
theorem lessI_eq (ha : a.length = R * K) (hb : b.length = R * K) (sa : small a) (sb : small b) : List.zipWith subF (a.map (newF · 1)) (b.map (newF · 1)) = (lessI a b K R 0).map (newF · 1) := by
  rw [lessI, gridP_map]
  refine grid_of (by simp [ha, hb]) fun i k hi hk => ?_
  have := at_table hi hk
  have h1 := small_get sa (i * K + k)
  have h2 := small_get sb (i * K + k)
  have f3 : few (a.getD (i * K + k) 0 - b.getD (i * K + k) 0) := by unfold few; omega
  rw [List.getElem?_zipWith, getD_map (by omega), getD_map (by omega)]
  simp only
  rw [newF_whole (few_small h1), newF_whole (few_small h2), newF_whole f3, subF_whole (few_small h1) (few_small h2) f3]
theorem rowI_eq (hR : 1 ≤ R ∧ R ≤ 16) (hK : 1 ≤ K ∧ K ≤ 16) (ha : a.length = R * K) {i : Nat} (hi : i < R) : rowF (R : Int) (K : Int) (a.map (newF · 1)) (i : Int) = (rowI K a i).map (newF · 1) := by
  unfold rowF rowI
  rw [if_pos ⟨right_nat hR hK (by simpa using ha), by omega, by omega⟩]
  have e1 : (((i : Int) + 1) * (K : Int)).toNat = (i + 1) * K := by
    have : ((i : Int) + 1) * (K : Int) = (((i + 1) * K : Nat) : Int) := by simp
    rw [this, Int.toNat_natCast]
  have e2 : ((i : Int) * (K : Int)).toNat = i * K := by
    have : (i : Int) * (K : Int) = ((i * K : Nat) : Int) := by simp
    rw [this, Int.toNat_natCast]
  rw [e1, e2, List.map_drop, List.map_take]
theorem besI_eq (hR : 1 ≤ R ∧ R ≤ 16) (hK : 1 ≤ K ∧ K ≤ 16) (ha : a.length = R * K) (hb : b.length = R * K) : besF (R : Int) (K : Int) (K : Int) (a.map (newF · 1)) (b.map (newF · 1)) = (besI a b K R).map (newF · 1) := by
  unfold besF besP besI
  rw [List.map_flatMap, Int.toNat_natCast]
  apply flatMap_same
  intro i hi
  rw [List.mem_range] at hi
  rw [rowI_eq hR hK ha hi, rowI_eq hR hK hb hi, List.map_append]
theorem mirI_eq (hR : 1 ≤ R ∧ R ≤ 16) (hK : 1 ≤ K ∧ K ≤ 16) (ha : a.length = R * K) (h : R = K) : mirF (R : Int) (a.map (newF · 1)) = (mirI a R K R 0).map (newF · 1) := by
  subst h
  rw [mirI, if_pos rfl, gridP_map, mirF, Int.toNat_natCast]
  refine gridP_congr fun i k hi hk => ?_
  have hr := right_nat (n := (a.map (newF · 1)).length) hR hK (by simpa using ha)
  rw [atF_eq hr (by simp; omega) (by simp; omega), Int.toNat_natCast]
  have := at_table (i := max i k) (j := min i k) (n := R) (m := R) (by omega) (by omega)
  exact getD_newF (by omega) _
theorem turI_eq (hR : 1 ≤ R ∧ R ≤ 16) (hK : 1 ≤ K ∧ K ≤ 16) (ha : a.length = R * K) : turnF (R : Int) (K : Int) (a.map (newF · 1)) = (turI a R K K 0).map (newF · 1) := by
  have hr := right_nat (n := (a.map (newF · 1)).length) hR hK (by simpa using ha)
  rw [turnF_eq hr, turI, gridP_map, Int.toNat_natCast, Int.toNat_natCast]
  refine gridP_congr fun k i hk hi => ?_
  rw [atF_eq hr (by simpa using hi) (by simpa using hk), Int.toNat_natCast]
  have := at_table (i := i) (j := k) (n := R) (m := K) hi hk
  exact getD_newF (by omega) _
end
end Go.Proofs.Ytadfcbpakfaaaaa.A
