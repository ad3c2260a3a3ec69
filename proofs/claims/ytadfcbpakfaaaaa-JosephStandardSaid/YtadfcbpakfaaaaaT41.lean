import Derived.Test.YtadfcbpakfaaaaaT40
import Derived.Test.YtadfcbpakfaaaaaT20
set_option linter.unusedVariables false
set_option linter.unusedSimpArgs false
set_option maxRecDepth 100000
namespace Go.Proofs.Ytadfcbpakfaaaaa.A
open Go Go.RowKit Go.Shelf

/-! ### Sums of numbers -/
def sumR : Nat → (Nat → Rat) → Rat
  | 0, _ => 0
  | n + 1, f => sumR n f + f n
theorem sumR_congr {f g : Nat → Rat} : ∀ {n : Nat}, (∀ j, j < n → f j = g j) → sumR n f = sumR n g
  | 0, _ => rfl
  | n + 1, h => by rw [sumR, sumR, sumR_congr fun j hj => h j (by omega), h n (by omega)]
theorem sumR_add (f g : Nat → Rat) : ∀ n, sumR n (fun j => f j + g j) = sumR n f + sumR n g
  | 0 => by simp only [sumR]; grind
  | n + 1 => by simp only [sumR, sumR_add f g n]; grind
theorem sumR_sub (f g : Nat → Rat) : ∀ n, sumR n (fun j => f j - g j) = sumR n f - sumR n g
  | 0 => by simp only [sumR]; grind
  | n + 1 => by simp only [sumR, sumR_sub f g n]; grind
theorem sumR_mul (c : Rat) (f : Nat → Rat) : ∀ n, sumR n (fun j => c * f j) = c * sumR n f
  | 0 => by simp only [sumR]; grind
  | n + 1 => by simp only [sumR, sumR_mul c f n]; grind
theorem sumR_zero : ∀ n, sumR n (fun _ => 0) = 0
  | 0 => rfl
  | n + 1 => by simp only [sumR, sumR_zero n]; grind
theorem sumR_one (f : Nat → Rat) {i : Nat} : ∀ {n : Nat}, i < n → sumR n (fun j => (if i = j then 1 else 0) * f j) = f i
  | n + 1, h => by
    simp only [sumR]
    by_cases e : i = n
    · subst e
      have : sumR i (fun j => (if i = j then 1 else 0) * f j) = sumR i (fun _ => 0) := sumR_congr fun j hj => by
        rw [if_neg (by omega)]; grind
      rw [this, sumR_zero, if_pos rfl]
      grind
    · rw [sumR_one f (show i < n by omega), if_neg e]
      grind
theorem sumR_swap (f : Nat → Nat → Rat) (m : Nat) : ∀ n, sumR n (fun i => sumR m (f i)) = sumR m (fun j => sumR n (fun i => f i j))
  | 0 => by simp only [sumR]; exact (sumR_zero m).symm
  | n + 1 => by simp only [sumR, sumR_swap f m n]; exact (sumR_add _ _ m).symm

/-! ### Dots -/
abbrev dz : Fr := ⟨0, 0, false⟩
theorem sum_is (f : Nat → Fr) : ∀ n, (sumF ((List.range n).map f)).bad = false → (∀ j, j < n → (f j).fine = true) ∧ Is (sumF ((List.range n).map f)) (sumR n fun j => (f j).val)
  | 0, _ => by
    refine ⟨fun j hj => by omega, ?_⟩
    have := whole_is (n := 0) (by unfold few; omega)
    exact this
  | n + 1, h => by
    have e : sumF ((List.range (n + 1)).map f) = addF (sumF ((List.range n).map f)) (f n) := by
      unfold sumF
      rw [List.range_succ, List.map_append, List.foldl_append]
      rfl
    rw [e] at h ⊢
    obtain ⟨h1, h2, h3⟩ := addF_is h
    obtain ⟨k1, k2⟩ := sum_is f n (fine_bad h1)
    refine ⟨fun j hj => ?_, h3.1, ?_⟩
    · by_cases e : j = n
      · rw [e]; exact h2
      · exact k1 j (by omega)
    · rw [h3.2, k2.2]; rfl
theorem dot_is (f g : Nat → Fr) (n : Nat) (h : (dotF ((List.range n).map f) ((List.range n).map g)).bad = false) :
    (∀ j, j < n → (f j).fine = true ∧ (g j).fine = true) ∧ Is (dotF ((List.range n).map f) ((List.range n).map g)) (sumR n fun j => (f j).val * (g j).val) := by
  have e : dotF ((List.range n).map f) ((List.range n).map g) = sumF ((List.range n).map fun j => mulF (f j) (g j)) := by
    unfold dotF
    rw [List.zipWith_map, List.zipWith_self]
  rw [e] at h ⊢
  obtain ⟨h1, h2⟩ := sum_is _ n h
  have h3 := fun j hj => mulF_is (fine_bad (h1 j hj))
  refine ⟨fun j hj => ⟨(h3 j hj).1, (h3 j hj).2.1⟩, h2.1, ?_⟩
  rw [h2.2]
  exact sumR_congr fun j hj => (h3 j hj).2.2.2

/-! ### Products, entry by entry -/
theorem list_range {l : List Fr} {n : Nat} (h : l.length = n) : l = (List.range n).map fun j => l.getD j dz := by
  apply List.ext_getElem
  · simp [h]
  · intro j h1 h2
    simp [h1]
theorem prodF_grid {R M K : Nat} {a b : List Fr} (hR : 1 ≤ R ∧ R ≤ 16) (hM : 1 ≤ M ∧ M ≤ 16) (hK : 1 ≤ K ∧ K ≤ 16) (la : a.length = R * M) (lb : b.length = M * K) :
    prodF R M K a b = gridP (fun i k => dotF ((List.range M).map fun j => a.getD (i * M + j) dz) ((List.range M).map fun j => b.getD (j * K + k) dz)) K R 0 := by
  have h1 := right_nat (n := a.length) hR hM la
  have h2 := right_nat (n := b.length) hM hK lb
  have h3 := right_turn h2
  unfold prodF allF
  rw [gridP_zero, List.flatMap_map, Int.toNat_natCast, Int.toNat_natCast]
  apply flatMap_same
  intro i hi
  rw [List.mem_range] at hi
  rw [List.map_map]
  apply List.map_congr_left
  intro k hk
  rw [List.mem_range] at hk
  simp only [Function.comp]
  rw [rowF_eq dz h1 (by simpa using hi), rowF_eq dz h3 (by simpa using hk), Int.toNat_natCast]
  congr 1
  apply List.map_congr_left
  intro j hj
  rw [List.mem_range] at hj
  rw [turnF_eq h2, Int.toNat_natCast, Int.toNat_natCast, List.getD_eq_getElem?_getD, gridP_get _ _ _ _ _ hk hj, Option.getD_some, atF_eq h2 (by simpa using hj) (by simpa using hk), Int.toNat_natCast]
theorem grid_at {g : Nat → Nat → Fr} {n N i k : Nat} (hi : i < N) (hk : k < n) : (gridP g n N 0).getD (i * n + k) dz = g i k := by
  rw [List.getD_eq_getElem?_getD, gridP_get _ _ _ _ _ hi hk, Option.getD_some]
theorem prod_at {R M K : Nat} {a b : List Fr} (hR : 1 ≤ R ∧ R ≤ 16) (hM : 1 ≤ M ∧ M ≤ 16) (hK : 1 ≤ K ∧ K ≤ 16) (la : a.length = R * M) (lb : b.length = M * K) {i k : Nat} (hi : i < R) (hk : k < K)
    (h : ((prodF R M K a b).getD (i * K + k) dz).bad = false) : (∀ j, j < M → (a.getD (i * M + j) dz).fine = true ∧ (b.getD (j * K + k) dz).fine = true) ∧
      Is ((prodF R M K a b).getD (i * K + k) dz) (sumR M fun j => (a.getD (i * M + j) dz).val * (b.getD (j * K + k) dz).val) := by
  rw [prodF_grid hR hM hK la lb, grid_at hi hk] at h ⊢
  exact dot_is _ _ M h
theorem turn_at {R K : Nat} {l : List Fr} (hR : 1 ≤ R ∧ R ≤ 16) (hK : 1 ≤ K ∧ K ≤ 16) (hl : l.length = R * K) {i k : Nat} (hi : i < R) (hk : k < K) : (turnF R K l).getD (k * R + i) dz = l.getD (i * K + k) dz := by
  have h := right_nat (n := l.length) hR hK hl
  rw [turnF_eq h, Int.toNat_natCast, Int.toNat_natCast, grid_at hk hi, atF_eq h (by simpa using hi) (by simpa using hk), Int.toNat_natCast]
theorem turnF_len {R K : Nat} {l : List Fr} (hR : 1 ≤ R ∧ R ≤ 16) (hK : 1 ≤ K ∧ K ≤ 16) (hl : l.length = R * K) : (turnF R K l).length = K * R := by
  rw [turnF_length (right_nat hR hK hl)]; simp
theorem mir_at {n : Nat} {l : List Fr} (hn : 1 ≤ n ∧ n ≤ 16) (hl : l.length = n * n) {i k : Nat} (hi : i < n) (hk : k < n) : (mirF n l).getD (i * n + k) dz = l.getD (max i k * n + min i k) dz := by
  have h := right_nat (n := l.length) hn hn hl
  rw [mirF, Int.toNat_natCast, grid_at hi hk, atF_eq h (by simp; omega) (by simp; omega), Int.toNat_natCast]
theorem zip_at {f : Fr → Fr → Fr} {a b : List Fr} {j : Nat} (ha : j < a.length) (hb : j < b.length) : (List.zipWith f a b).getD j dz = f (a.getD j dz) (b.getD j dz) := by
  rw [List.getD_eq_getElem?_getD, List.getElem?_zipWith]
  simp [List.getElem?_eq_getElem ha, List.getElem?_eq_getElem hb]
theorem map_at {f : Fr → Fr} {a : List Fr} {j : Nat} (ha : j < a.length) : (a.map f).getD j dz = f (a.getD j dz) := by
  simp [List.getElem?_eq_getElem ha]
theorem apply_at {n : Nat} {l v : List Fr} (hn : 1 ≤ n ∧ n ≤ 16) (hl : l.length = n * n) {i : Nat} (hi : i < n) : (applyF n n l v).getD i dz = dotF ((List.range n).map fun j => l.getD (i * n + j) dz) v := by
  have h := right_nat (n := l.length) hn hn hl
  unfold applyF allF
  rw [List.map_map, Int.toNat_natCast]
  simp [hi]
  rw [rowF_eq dz h (by simpa using hi), Int.toNat_natCast]
  simp
end Go.Proofs.Ytadfcbpakfaaaaa.A
