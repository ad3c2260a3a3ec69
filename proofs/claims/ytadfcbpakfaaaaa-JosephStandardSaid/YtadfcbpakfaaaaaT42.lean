import Derived.Test.YtadfcbpakfaaaaaT41
import Derived.Test.YtadfcbpakfaaaaaT19
set_option linter.unusedVariables false
set_option linter.unusedSimpArgs false
set_option maxRecDepth 100000
namespace Go.Proofs.Ytadfcbpakfaaaaa.A
open Go Go.RowKit Go.Shelf

/-! ### An update, in numbers -/
section
variable (n : Nat) (p h : List Fr) (r : Fr)
def nP (i k : Nat) : Rat := (p.getD (i * n + k) dz).val
def nH (j : Nat) : Rat := (h.getD j dz).val
def nU (i : Nat) : Rat := sumR n fun j => nP n p i j * nH h j
def nA : Rat := sumR n (fun j => nH h j * nU n p h j) + r.val
end
variable {n : Nat} {p h : List Fr} {r : Fr}
/-- All of the matrix and the row may be. -/
def allFine (n : Nat) (p h : List Fr) (r : Fr) : Prop := (∀ i j, i < n → j < n → (p.getD (i * n + j) dz).fine = true) ∧ (∀ j, j < n → (h.getD j dz).fine = true) ∧ r.fine = true
theorem u_len (n : Nat) (p h : List Fr) : (uF n p h).length = n := uF_len n p h
theorem u_at (hn : 1 ≤ n ∧ n ≤ 16) (lp : p.length = n * n) (lh : h.length = n) {i : Nat} (hi : i < n) (hb : ((uF n p h).getD i dz).bad = false) :
    (∀ j, j < n → (p.getD (i * n + j) dz).fine = true ∧ (h.getD j dz).fine = true) ∧ Is ((uF n p h).getD i dz) (nU n p h i) := by
  unfold uF at hb ⊢
  rw [apply_at hn lp hi] at hb ⊢
  rw [list_range lh] at hb ⊢
  have := dot_is _ _ n hb
  simp only [← list_range lh] at this ⊢
  exact this
theorem dot_lists {a b : List Fr} (la : a.length = n) (lb : b.length = n) (hb : (dotF a b).bad = false) : (∀ j, j < n → (a.getD j dz).fine = true ∧ (b.getD j dz).fine = true) ∧ Is (dotF a b) (sumR n fun j => (a.getD j dz).val * (b.getD j dz).val) := by
  have e : dotF a b = dotF ((List.range n).map fun j => a.getD j dz) ((List.range n).map fun j => b.getD j dz) := by
    rw [← list_range la, ← list_range lb]
  rw [e] at hb ⊢
  exact dot_is _ _ n hb
theorem spread_is (hn : 1 ≤ n ∧ n ≤ 16) (lp : p.length = n * n) (lh : h.length = n) (hb : (spreadF n p h r).bad = false) :
    allFine n p h r ∧ Is (spreadF n p h r) (nA n p h r) ∧ ∀ i, i < n → Is ((uF n p h).getD i dz) (nU n p h i) := by
  unfold spreadF at hb ⊢
  obtain ⟨h1, h2, h3⟩ := addF_is hb
  obtain ⟨k1, k2⟩ := dot_lists lh (u_len n p h) (fine_bad h1)
  have hu := fun i hi => u_at hn lp lh (i := i) hi (fine_bad (k1 i hi).2)
  refine ⟨⟨fun i j hi hj => ((hu i hi).1 j hj).1, fun j hj => (k1 j hj).1, h2⟩, ⟨h3.1, ?_⟩, fun i hi => (hu i hi).2⟩
  rw [h3.2, k2.2]
  unfold nA
  congr 1
  exact sumR_congr fun j hj => by rw [(hu j hj).2.2]; rfl
theorem k_is (hn : 1 ≤ n ∧ n ≤ 16) (lp : p.length = n * n) (lh : h.length = n) {i : Nat} (hi : i < n) (hb : ((kF n p h r).getD i dz).bad = false) :
    (spreadF n p h r).bad = false ∧ nA n p h r ≠ 0 ∧ Is ((kF n p h r).getD i dz) (nU n p h i / nA n p h r) := by
  unfold kF at hb ⊢
  rw [map_at (by rw [u_len]; exact hi)] at hb ⊢
  obtain ⟨h1, h2, h3, h4⟩ := divF_is hb
  obtain ⟨k1, k2, k3⟩ := spread_is hn lp lh (fine_bad h2)
  rw [k2.2, (k3 i hi).2] at h4
  rw [k2.2] at h3
  exact ⟨fine_bad h2, h3, h4⟩

theorem unit_at {i l : Nat} (hi : i < n) (hl : l < n) : Is ((unitF n).getD (i * n + l) dz) (if i = l then 1 else 0) := by
  have ht := at_table hi hl
  have e : (unitF n).getD (i * n + l) dz = newF (if i = l then 1 else 0) 1 := by
    unfold unitF
    have hlen : i * n + l < (unitP n n).length := by rw [unitP_length]; exact ht.1
    have hu : (unitP n n).getD (i * n + l) 0 = if i = l ∧ i < n then 1 else 0 := grid_getD hi hl
    rw [getD_newF hlen, hu]
    simp [hi]
  rw [e]
  have := whole_is (n := if i = l then 1 else 0) (by unfold few; split <;> omega)
  split at this <;> rename_i hc
  · rw [if_pos hc, if_pos hc]; exact this
  · rw [if_neg hc, if_neg hc]; exact this
theorem unitF_len (n : Nat) : (unitF n).length = n * n := by rw [unitF, List.length_map, unitP_length]
theorem prodF_len' {R M K : Nat} {a b : List Fr} : (prodF R M K a b).length = R * K := by rw [prodF_len]; simp
theorem m_len (n : Nat) (p h : List Fr) (r : Fr) : (mF n p h r).length = n * n := by
  have := prodF_len' (R := n) (M := 1) (K := n) (a := kF n p h r) (b := h)
  rw [Int.natCast_one] at this
  rw [mF, List.length_zipWith, unitF_len, this, Nat.min_self]
theorem m_at (hn : 1 ≤ n ∧ n ≤ 16) (lp : p.length = n * n) (lh : h.length = n) {i l : Nat} (hi : i < n) (hl : l < n) (hb : ((mF n p h r).getD (i * n + l) dz).bad = false) :
    ((kF n p h r).getD i dz).fine = true ∧ (h.getD l dz).fine = true ∧ Is ((mF n p h r).getD (i * n + l) dz) ((if i = l then 1 else 0) - ((kF n p h r).getD i dz).val * nH h l) := by
  have ht := at_table hi hl
  have l2 := prodF_len' (R := n) (M := 1) (K := n) (a := kF n p h r) (b := h)
  rw [Int.natCast_one] at l2
  unfold mF at hb ⊢
  rw [zip_at (by rw [unitF_len]; exact ht.1) (by rw [l2]; exact ht.1)] at hb ⊢
  obtain ⟨h1, h2, h3⟩ := subF_is hb
  have hp := prod_at (R := n) (M := 1) (K := n) (a := kF n p h r) (b := h) hn (by omega) hn (by rw [kF_len]; omega) (by omega) hi hl (fine_bad h2)
  obtain ⟨k1, k2⟩ := hp
  have k0 := k1 0 (by omega)
  simp only [Nat.mul_one, Nat.add_zero, Nat.zero_mul, Nat.zero_add] at k0
  refine ⟨k0.1, k0.2, h3.1, ?_⟩
  have k2' := k2.2
  rw [Int.natCast_one] at k2'
  rw [h3.2, k2', (unit_at hi hl).2]
  simp only [sumR, Nat.mul_one, Nat.add_zero, Nat.zero_mul, Nat.zero_add, nH]
  grind
theorem krk_at (hn : 1 ≤ n ∧ n ≤ 16) {i k : Nat} (hi : i < n) (hk : k < n) (hb : ((krkF n p h r).getD (i * n + k) dz).bad = false) :
    Is ((krkF n p h r).getD (i * n + k) dz) (((kF n p h r).getD i dz).val * r.val * ((kF n p h r).getD k dz).val) := by
  have lk := kF_len n p h r
  have hkl : (kF n p h r).length = n * 1 := by omega
  unfold krkF at hb ⊢
  have lt := turnF_len (R := n) (K := 1) hn (by omega) hkl
  rw [Int.natCast_one] at lt
  have hp := prod_at (R := n) (M := 1) (K := n) (a := (kF n p h r).map (mulF · r)) (b := turnF n 1 (kF n p h r)) hn (by omega) hn (by rw [List.length_map]; omega) (by omega) hi hk hb
  rw [Int.natCast_one] at hp
  obtain ⟨k1, k2⟩ := hp
  have k0 := k1 0 (by omega)
  simp only [Nat.mul_one, Nat.add_zero, Nat.zero_mul, Nat.zero_add] at k0
  have ht := turn_at (R := n) (K := 1) hn (by omega) hkl hk (show 0 < 1 by omega)
  rw [Int.natCast_one] at ht
  simp only [Nat.mul_one, Nat.add_zero, Nat.zero_mul, Nat.zero_add] at ht
  rw [map_at (by omega)] at k0
  have hm := (mulF_is (fine_bad k0.1)).2.2
  refine ⟨k2.1, ?_⟩
  rw [k2.2]
  simp only [sumR, Nat.mul_one, Nat.add_zero, Nat.zero_mul, Nat.zero_add]
  rw [map_at (by omega), hm.2, ht]
  grind

theorem up_sum (K : Nat → Rat) (P : Nat → Nat → Rat) (H U : Nat → Rat) (hU : ∀ i, i < n → U i = sumR n fun j => P i j * H j) (hs : ∀ i k, i < n → k < n → P i k = P k i) {i k : Nat} (hi : i < n) (hk : k < n) :
    sumR n (fun j => sumR n (fun l => ((if i = l then 1 else 0) - K i * H l) * P l j) * ((if k = j then 1 else 0) - K k * H j)) = P i k - K i * U k - K k * U i + K i * K k * sumR n (fun j => H j * U j) := by
  have e1 : ∀ j, j < n → sumR n (fun l => ((if i = l then 1 else 0) - K i * H l) * P l j) = P i j - K i * U j := fun j hj => by
    have : sumR n (fun l => ((if i = l then 1 else 0) - K i * H l) * P l j) = sumR n (fun l => (if i = l then 1 else 0) * P l j - K i * (P j l * H l)) := sumR_congr fun l hl => by
      rw [hs j l hj hl]; grind
    rw [this, sumR_sub, sumR_one (fun l => P l j) hi, sumR_mul, ← hU j hj]
  have e2 : sumR n (fun j => sumR n (fun l => ((if i = l then 1 else 0) - K i * H l) * P l j) * ((if k = j then 1 else 0) - K k * H j)) =
      sumR n (fun j => (if k = j then 1 else 0) * (P i j - K i * U j) - (K k * (P i j * H j) - K i * K k * (H j * U j))) := sumR_congr fun j hj => by
    rw [e1 j hj]; grind
  rw [e2, sumR_sub, sumR_sub, sumR_one (fun j => P i j - K i * U j) hk, sumR_mul, sumR_mul, ← hU i hi]
  grind

theorem up_raw (hn : 1 ≤ n ∧ n ≤ 16) (lp : p.length = n * n) (lh : h.length = n) (hs : ∀ i k, i < n → k < n → p.getD (i * n + k) dz = p.getD (k * n + i) dz) {i k : Nat} (hi : i < n) (hk : k < n) {x : Fr}
    (hx : x = (List.zipWith addF (prodF n n n (prodF n n n (mF n p h r) p) (turnF n n (mF n p h r))) (krkF n p h r)).getD (i * n + k) dz) (hb : x.bad = false) :
    allFine n p h r ∧ nA n p h r ≠ 0 ∧ Is (spreadF n p h r) (nA n p h r) ∧ Is x (nP n p i k - nU n p h i * nU n p h k / nA n p h r) := by
  have lm := m_len n p h r
  have lt := turnF_len hn hn lm
  have l1 : (prodF n n n (mF n p h r) p).length = n * n := prodF_len'
  have l2 : (prodF n n n (prodF n n n (mF n p h r) p) (turnF n n (mF n p h r))).length = n * n := prodF_len'
  have l3 : (krkF n p h r).length = n * n := by
    have := prodF_len' (R := n) (M := 1) (K := n) (a := (kF n p h r).map (mulF · r)) (b := turnF n 1 (kF n p h r))
    rw [Int.natCast_one] at this
    exact this
  have ht := at_table hi hk
  subst hx
  rw [zip_at (by rw [l2]; exact ht.1) (by rw [l3]; exact ht.1)] at hb ⊢
  obtain ⟨h1, h2, h3⟩ := addF_is hb
  obtain ⟨k1, k2⟩ := prod_at hn hn hn l1 lt hi hk (fine_bad h1)
  have k3 := krk_at hn hi hk (fine_bad h2)
  have k4 := fun j hj => prod_at hn hn hn lm lp hi (k := j) hj (fine_bad (k1 j hj).1)
  have k5 : ∀ l, l < n → ((mF n p h r).getD (i * n + l) dz).fine = true := fun l hl => ((k4 0 (by omega)).1 l hl).1
  have k6 : ∀ j, j < n → ((mF n p h r).getD (k * n + j) dz).fine = true := fun j hj => by
    have := (k1 j hj).2
    rwa [turn_at hn hn lm hk hj] at this
  have mi := fun l hl => m_at (r := r) hn lp lh hi (l := l) hl (fine_bad (k5 l hl))
  have mk := fun l hl => m_at (r := r) hn lp lh hk (l := l) hl (fine_bad (k6 l hl))
  obtain ⟨q1, q2, q3⟩ := k_is hn lp lh hi (fine_bad (mi 0 (by omega)).1)
  obtain ⟨_, _, q4⟩ := k_is hn lp lh hk (fine_bad (mk 0 (by omega)).1)
  obtain ⟨s1, s2, s3⟩ := spread_is hn lp lh q1
  refine ⟨s1, q2, s2, h3.1, ?_⟩
  rw [h3.2, k2.2, k3.2]
  have e : sumR n (fun j => ((prodF n n n (mF n p h r) p).getD (i * n + j) dz).val * ((turnF n n (mF n p h r)).getD (j * n + k) dz).val) =
      sumR n (fun j => sumR n (fun l => ((if i = l then 1 else 0) - (fun i => ((kF n p h r).getD i dz).val) i * nH h l) * nP n p l j) * ((if k = j then 1 else 0) - (fun i => ((kF n p h r).getD i dz).val) k * nH h j)) := sumR_congr fun j hj => by
    rw [(k4 j hj).2.2, turn_at hn hn lm hk hj, (mk j hj).2.2.2]
    congr 1
    exact sumR_congr fun l hl => by rw [(mi l hl).2.2.2]; rfl
  rw [e, up_sum (fun i => ((kF n p h r).getD i dz).val) (nP n p) (nH h) (nU n p h) (fun i hi => rfl) (fun i k hi hk => by unfold nP; rw [hs i k hi hk]) hi hk]
  rw [q3.2, q4.2]
  have hA : sumR n (fun j => nH h j * nU n p h j) = nA n p h r - r.val := by unfold nA; grind
  rw [hA]
  grind

/-- P behind an update, in numbers. -/
theorem up_at (hn : 1 ≤ n ∧ n ≤ 16) (lp : p.length = n * n) (lh : h.length = n) (hs : ∀ i k, i < n → k < n → p.getD (i * n + k) dz = p.getD (k * n + i) dz) {i k : Nat} (hi : i < n) (hk : k < n) (hb : ((upP n p h r).getD (i * n + k) dz).bad = false) :
    allFine n p h r ∧ nA n p h r ≠ 0 ∧ Is (spreadF n p h r) (nA n p h r) ∧ Is ((upP n p h r).getD (i * n + k) dz) (nP n p i k - nU n p h i * nU n p h k / nA n p h r) := by
  have l2 : (prodF n n n (prodF n n n (mF n p h r) p) (turnF n n (mF n p h r))).length = n * n := prodF_len'
  have l3 : (krkF n p h r).length = n * n := by
    have := prodF_len' (R := n) (M := 1) (K := n) (a := (kF n p h r).map (mulF · r)) (b := turnF n 1 (kF n p h r))
    rw [Int.natCast_one] at this
    exact this
  have e : (upP n p h r).getD (i * n + k) dz = (List.zipWith addF (prodF n n n (prodF n n n (mF n p h r) p) (turnF n n (mF n p h r))) (krkF n p h r)).getD (max i k * n + min i k) dz := by
    unfold upP turnedF
    exact mir_at hn (by rw [List.length_zipWith, l2, l3, Nat.min_self]) hi hk
  obtain ⟨h1, h2, h3, h4⟩ := up_raw hn lp lh hs (show max i k < n by omega) (show min i k < n by omega) e hb
  refine ⟨h1, h2, h3, h4.1, ?_⟩
  rw [h4.2]
  by_cases hik : k ≤ i
  · rw [Nat.max_eq_left hik, Nat.min_eq_right hik]
  · rw [Nat.max_eq_right (by omega), Nat.min_eq_left (by omega)]
    have : nP n p k i = nP n p i k := by unfold nP; rw [hs i k hi hk]
    rw [this]
    grind
theorem up_len (n : Nat) (p h : List Fr) (r : Fr) : (upP n p h r).length = n * n := turnedF_len _ _ _ _
theorem up_sym (hn : 1 ≤ n ∧ n ≤ 16) {i k : Nat} (hi : i < n) (hk : k < n) : (upP n p h r).getD (i * n + k) dz = (upP n p h r).getD (k * n + i) dz := by
  have l2 : (prodF n n n (prodF n n n (mF n p h r) p) (turnF n n (mF n p h r))).length = n * n := prodF_len'
  have l3 : (krkF n p h r).length = n * n := by
    have := prodF_len' (R := n) (M := 1) (K := n) (a := (kF n p h r).map (mulF · r)) (b := turnF n 1 (kF n p h r))
    rw [Int.natCast_one] at this
    exact this
  unfold upP turnedF
  rw [mir_at hn (by rw [List.length_zipWith, l2, l3, Nat.min_self]) hi hk, mir_at hn (by rw [List.length_zipWith, l2, l3, Nat.min_self]) hk hi, Nat.max_comm, Nat.min_comm]

/-- Two updates, whichever comes first. -/
theorem up_two {g : List Fr} (hn : 1 ≤ n ∧ n ≤ 16) (lp : p.length = n * n) (lg : g.length = n) (lh : h.length = n) (hs : ∀ i k, i < n → k < n → p.getD (i * n + k) dz = p.getD (k * n + i) dz) {i k : Nat} (hi : i < n) (hk : k < n)
    (hx : ((upP n (upP n p g r) h r).getD (i * n + k) dz).bad = false) (hy : ((upP n (upP n p h r) g r).getD (i * n + k) dz).bad = false) :
    (upP n (upP n p g r) h r).getD (i * n + k) dz = (upP n (upP n p h r) g r).getD (i * n + k) dz := by
  have key : ∀ {g h : List Fr}, g.length = n → h.length = n → ((upP n (upP n p g r) h r).getD (i * n + k) dz).bad = false → ∃ U V : Nat → Rat, ∃ a b s : Rat, U = nU n p g ∧ V = nU n p h ∧ a = nA n p g r ∧ b = nA n p h r ∧ s = sumR n (fun j => nU n p g j * nH h j) ∧ a ≠ 0 ∧ b - s * s / a ≠ 0 ∧
      Is ((upP n (upP n p g r) h r).getD (i * n + k) dz) (nP n p i k - U i * U k / a - (V i - U i * s / a) * (V k - U k * s / a) / (b - s * s / a)) := by
    intro g h lg lh hx
    obtain ⟨⟨f1, f2, f3⟩, h2, h3, h4⟩ := up_at hn (up_len n p g r) lh (fun i k hi hk => up_sym hn hi hk) hi hk hx
    have e1 := fun i k hi hk => up_at (h := g) (r := r) hn lp lg hs (i := i) (k := k) hi hk (fine_bad (f1 i k hi hk))
    obtain ⟨⟨_, _, _⟩, g2, _, _⟩ := e1 0 0 (by omega) (by omega)
    have eP : ∀ i j, i < n → j < n → nP n (upP n p g r) i j = nP n p i j - nU n p g i * nU n p g j / nA n p g r := fun i j hi hj => (e1 i j hi hj).2.2.2.2
    have eU : ∀ i, i < n → nU n (upP n p g r) h i = nU n p h i - nU n p g i * (sumR n fun j => nU n p g j * nH h j) / nA n p g r := fun i hi => by
      have : nU n (upP n p g r) h i = sumR n (fun j => nP n p i j * nH h j - nU n p g i / nA n p g r * (nU n p g j * nH h j)) := by
        unfold nU
        exact sumR_congr fun j hj => by
          rw [eP i j hi hj]
          have : nU n p g j = sumR n fun j_1 => nP n p j j_1 * nH g j_1 := rfl
          rw [← this]
          have : nU n p g i = sumR n fun j_1 => nP n p i j_1 * nH g j_1 := rfl
          rw [← this]
          grind
      rw [this, sumR_sub, sumR_mul]
      have : nU n p h i = sumR n fun j => nP n p i j * nH h j := rfl
      rw [← this]
      grind
    have eA : nA n (upP n p g r) h r = nA n p h r - (sumR n fun j => nU n p g j * nH h j) * (sumR n fun j => nU n p g j * nH h j) / nA n p g r := by
      have : nA n (upP n p g r) h r = sumR n (fun j => nH h j * nU n p h j - (sumR n fun j => nU n p g j * nH h j) / nA n p g r * (nU n p g j * nH h j)) + r.val := by
        unfold nA
        congr 1
        exact sumR_congr fun j hj => by
          rw [eU j hj]
          have : nA n p g r = (sumR n fun j => nH g j * nU n p g j) + r.val := rfl
          rw [← this]
          grind
      rw [this, sumR_sub, sumR_mul]
      have : nA n p h r = (sumR n fun j => nH h j * nU n p h j) + r.val := rfl
      rw [this]
      grind
    refine ⟨_, _, _, _, _, rfl, rfl, rfl, rfl, rfl, g2, by rw [← eA]; exact h2, h4.1, ?_⟩
    rw [h4.2, eP i k hi hk, eU i hi, eU k hk, eA]
  obtain ⟨U, V, a, b, s, rfl, rfl, rfl, rfl, rfl, a1, a2, a3⟩ := key lg lh hx
  obtain ⟨U, V, a', b', s', rfl, rfl, rfl, rfl, rfl, b1, b2, b3⟩ := key lh lg hy
  have hss : sumR n (fun j => nU n p h j * nH g j) = sumR n (fun j => nU n p g j * nH h j) := by
    have e1 : sumR n (fun j => nU n p h j * nH g j) = sumR n (fun j => sumR n fun l => nP n p j l * nH h l * nH g j) := sumR_congr fun j hj => by
      rw [show nU n p h j = sumR n fun l => nP n p j l * nH h l from rfl]
      have : sumR n (fun l => nP n p j l * nH h l * nH g j) = sumR n (fun l => nH g j * (nP n p j l * nH h l)) := sumR_congr fun l hl => by grind
      rw [this, sumR_mul]
      grind
    have e2 : sumR n (fun j => nU n p g j * nH h j) = sumR n (fun j => sumR n fun l => nP n p j l * nH g l * nH h j) := sumR_congr fun j hj => by
      rw [show nU n p g j = sumR n fun l => nP n p j l * nH g l from rfl]
      have : sumR n (fun l => nP n p j l * nH g l * nH h j) = sumR n (fun l => nH h j * (nP n p j l * nH g l)) := sumR_congr fun l hl => by grind
      rw [this, sumR_mul]
      grind
    rw [e1, e2, sumR_swap]
    refine sumR_congr fun j hj => sumR_congr fun l hl => ?_
    have : nP n p l j = nP n p j l := by unfold nP; rw [hs l j hl hj]
    rw [this]
    grind
  rw [hss] at b2 b3
  refine a3.inj ?_
  refine ⟨b3.1, b3.2.trans ?_⟩
  grind
end Go.Proofs.Ytadfcbpakfaaaaa.A
