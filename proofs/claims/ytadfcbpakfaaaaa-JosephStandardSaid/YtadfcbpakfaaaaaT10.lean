import Derived.Test.YtadfcbpakfaaaaaT9
set_option linter.unusedVariables false
set_option linter.unusedSimpArgs false
namespace Go.Proofs.Ytadfcbpakfaaaaa.A
open Go Go.RowKit Go.Shelf

theorem gridP_get {α : Type} (g : Nat → Nat → α) (n : Nat) : ∀ (N i j : Nat), i < N → j < n → (gridP g n N 0)[i * n + j]? = some (g i j)
  | 0, i, j, h, _ => by omega
  | N + 1, i, j, hi, hj => by
    have e : gridP g n (N + 1) 0 = gridP g n N 0 ++ (List.range n).map (g N) := by
      rw [← gridP_next]
      simp [gridP]
    have hl := gridP_length g n N 0
    rw [e]
    by_cases h : i < N
    · have : (i + 1) * n ≤ N * n := Nat.mul_le_mul_right _ h
      rw [Nat.add_mul] at this
      rw [List.getElem?_append_left (by omega)]
      exact gridP_get g n N i j h hj
    · have : i = N := by omega
      subst this
      rw [List.getElem?_append_right (by omega), hl]
      simp [hj]

theorem flatMap_same {α β : Type} {l : List α} {f g : α → List β} (h : ∀ x ∈ l, f x = g x) : l.flatMap f = l.flatMap g := by
  rw [List.flatMap_def, List.flatMap_def, List.map_congr_left h]

/-- A stretch of a row. -/
theorem stretch {α : Type} (l : List α) (d : α) (i n : Nat) (h : (i + 1) * n ≤ l.length) : (l.take ((i + 1) * n)).drop (i * n) = (List.range n).map fun j => l.getD (i * n + j) d := by
  have hm : (i + 1) * n = i * n + n := by rw [Nat.add_mul, Nat.one_mul]
  apply List.ext_getElem
  · simp; omega
  · intro j h1 h2
    simp at h2
    simp [List.getElem?_eq_getElem (show i * n + j < l.length by omega)]

theorem rowF_eq {r c : Int} {l : List Fr} (d : Fr) (h : right r c l.length = true) {i : Nat} (hi : i < r.toNat) : rowF r c l i = (List.range c.toNat).map fun j => l.getD (i * c.toNat + j) d := by
  obtain ⟨r1, r2, c1, c2, hn⟩ := right_spec h
  obtain ⟨R, rfl⟩ := Int.eq_ofNat_of_zero_le (show 0 ≤ r by omega)
  obtain ⟨K, rfl⟩ := Int.eq_ofNat_of_zero_le (show 0 ≤ c by omega)
  simp only [Int.toNat_natCast] at hi ⊢
  unfold rowF
  rw [if_pos ⟨h, by omega, by omega⟩]
  have e1 : (((i : Int) + 1) * (K : Int)).toNat = (i + 1) * K := by
    have : ((i : Int) + 1) * (K : Int) = (((i + 1) * K : Nat) : Int) := by simp
    rw [this, Int.toNat_natCast]
  have e2 : ((i : Int) * (K : Int)).toNat = i * K := by
    have : (i : Int) * (K : Int) = ((i * K : Nat) : Int) := by simp
    rw [this, Int.toNat_natCast]
  rw [e1, e2]
  refine stretch l d i K ?_
  have h1 : (i + 1) * K ≤ R * K := Nat.mul_le_mul_right _ hi
  have h2 : ((R * K : Nat) : Int) = (l.length : Int) := by rw [hn]; simp
  omega

theorem atF_eq {r c : Int} {l : List Fr} (h : right r c l.length = true) {i k : Nat} (hi : i < r.toNat) (hk : k < c.toNat) : atF r c l i k = l.getD (i * c.toNat + k) ⟨0, 0, false⟩ := by
  obtain ⟨r1, r2, c1, c2, hn⟩ := right_spec h
  unfold atF
  rw [if_pos ⟨h, by omega, by omega, by omega, by omega⟩]
  congr 1
  obtain ⟨K, rfl⟩ := Int.eq_ofNat_of_zero_le (show 0 ≤ c by omega)
  have : (i : Int) * (K : Int) + (k : Int) = ((i * K + k : Nat) : Int) := by simp
  rw [this, Int.toNat_natCast, Int.toNat_natCast]

theorem turnF_eq {r c : Int} {l : List Fr} (h : right r c l.length = true) : turnF r c l = gridP (fun k i => atF r c l (i : Int) (k : Int)) r.toNat c.toNat 0 := by
  rw [gridP_zero]
  simp [turnF, h]

theorem getD_newF {a : List Int} {i : Nat} (h : i < a.length) (d : Fr) : (a.map (newF · 1)).getD i d = newF (a.getD i 0) 1 := by
  simp [h]

theorem sumF_whole (f : Nat → Int) (s : Nat → Int) (h0 : s 0 = 0) (hs : ∀ j, s (j + 1) = s j + f j) (N : Nat) (hf : ∀ j, j < N → few (f j)) (hb : ∀ j, j ≤ N → few (s j)) : ∀ n, n ≤ N → sumF ((List.range n).map fun j => whole (f j)) = whole (s n)
  | 0, _ => by
    have := newF_whole (n := 0) (by unfold few; omega)
    simp [sumF, this, h0]
  | n + 1, hn => by
    have ih := sumF_whole f s h0 hs N hf hb n (by omega)
    have : sumF ((List.range (n + 1)).map fun j => whole (f j)) = addF (sumF ((List.range n).map fun j => whole (f j))) (whole (f n)) := by
      unfold sumF
      rw [List.range_succ, List.map_append, List.foldl_append]
      rfl
    rw [this, ih, addF_whole (hb n (by omega)) (hf n (by omega)) (by rw [← hs]; exact hb _ hn), ← hs]

theorem few_small {x : Int} (h : -100 ≤ x ∧ x ≤ 100) : few x := by unfold few; omega

theorem dotF_whole {a b : List Int} {many cols : Nat} (ha : small a) (hb : small b) (hm : many ≤ 16) (i k : Nat) :
    dotF ((List.range many).map fun j => newF (a.getD (i * many + j) 0) 1) ((List.range many).map fun j => newF (b.getD (j * cols + k) 0) 1) = newF (dotI a b many cols i k many) 1 := by
  have hd : ∀ j, j ≤ many → few (dotI a b many cols i k j) := fun j hj => by
    have := dotI_le ha hb many cols i k j
    unfold few
    omega
  unfold dotF
  rw [newF_whole (hd many (Nat.le_refl _)), List.zipWith_map, List.zipWith_self]
  have e : ∀ j, mulF (newF (a.getD (i * many + j) 0) 1) (newF (b.getD (j * cols + k) 0) 1) = whole (a.getD (i * many + j) 0 * b.getD (j * cols + k) 0) := fun j => by
    have h1 := small_get ha (i * many + j)
    have h2 := small_get hb (j * cols + k)
    have h3 := prod_small h1 h2
    rw [newF_whole (few_small h1), newF_whole (few_small h2), mulF_whole (few_small h1) (few_small h2) (by unfold few; omega)]
  simp only [e]
  refine sumF_whole (fun j => a.getD (i * many + j) 0 * b.getD (j * cols + k) 0) (dotI a b many cols i k) rfl (fun j => rfl) many (fun j _ => ?_) hd many (Nat.le_refl _)
  have h3 := prod_small (small_get ha (i * many + j)) (small_get hb (j * cols + k))
  unfold few
  omega

/-- The product of whole numbers is the document's. -/
theorem prodF_whole {r m c : Int} {a b : List Int} (h1 : right r m a.length = true) (h2 : right m c b.length = true) (ha : small a) (hb : small b) :
    prodF r m c (a.map (newF · 1)) (b.map (newF · 1)) = (mulI a b r.toNat m.toNat c.toNat).map (newF · 1) := by
  obtain ⟨r1, r2, m1, m2, hn⟩ := right_spec h1
  obtain ⟨_, _, c1, c2, hn2⟩ := right_spec h2
  have h1' : right r m (a.map (newF · 1)).length = true := by simpa using h1
  have h2' : right m c (b.map (newF · 1)).length = true := by simpa using h2
  have h3 := right_turn h2'
  have la : a.length = r.toNat * m.toNat := by
    have : ((r.toNat * m.toNat : Nat) : Int) = a.length := by rw [Int.natCast_mul, Int.toNat_of_nonneg (by omega), Int.toNat_of_nonneg (by omega), hn]
    omega
  have lb : b.length = m.toNat * c.toNat := by
    have : ((m.toNat * c.toNat : Nat) : Int) = b.length := by rw [Int.natCast_mul, Int.toNat_of_nonneg (by omega), Int.toNat_of_nonneg (by omega), hn2]
    omega
  unfold prodF mulI allF
  rw [gridP_zero, List.flatMap_map, List.map_flatMap]
  apply flatMap_same
  intro i hi
  rw [List.mem_range] at hi
  rw [List.map_map, List.map_map]
  apply List.map_congr_left
  intro k hk
  rw [List.mem_range] at hk
  simp only [Function.comp]
  have e1 : rowF r m (a.map (newF · 1)) i = (List.range m.toNat).map fun j => newF (a.getD (i * m.toNat + j) 0) 1 := by
    rw [rowF_eq ⟨0, 0, false⟩ h1' hi]
    apply List.map_congr_left
    intro j hj
    rw [List.mem_range] at hj
    have := at_table hi hj
    exact getD_newF (by omega) _
  have e2 : rowF c m (turnF m c (b.map (newF · 1))) k = (List.range m.toNat).map fun j => newF (b.getD (j * c.toNat + k) 0) 1 := by
    rw [rowF_eq ⟨0, 0, false⟩ h3 hk]
    apply List.map_congr_left
    intro j hj
    rw [List.mem_range] at hj
    rw [turnF_eq h2', List.getD_eq_getElem?_getD, gridP_get _ _ _ _ _ hk hj, Option.getD_some, atF_eq h2' hj hk]
    have := at_table hj hk
    exact getD_newF (by omega) _
  rw [e1, e2, dotF_whole ha hb (by omega)]
end Go.Proofs.Ytadfcbpakfaaaaa.A
