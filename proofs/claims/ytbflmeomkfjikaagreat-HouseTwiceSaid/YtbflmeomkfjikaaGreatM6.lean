import Derived.Test.YtbflmeomkfjikaaGreatM5
import Derived.Test.YtbflmeomkfjikaaGreatM3
import Derived.SizedLaws
set_option linter.unusedVariables false
set_option linter.unusedSimpArgs false
set_option maxRecDepth 100000
namespace Go.Proofs.YtbflmeomkfjikaaGreat.A.E
open Go Go.RowKit Go.Shelf

theorem take_rowM (n : Nat) (M : Nat → Nat → Fr) (i k : Nat) (hk : k ≤ n) : (rowM n M i).take k = (List.range k).map (M i) := by
  rw [rowM, ← List.map_take, List.take_range, Nat.min_eq_left hk]
theorem leftM_congr {n : Nat} {p : List Fr} {M N : Nat → Nat → Fr} {i k : Nat} (hk : k ≤ n) (h : ∀ j, j < k → M i j = N i j ∧ M k j = N k j) : leftM n p M i k = leftM n p N i k := by
  unfold leftM
  rw [take_rowM n M i k hk, take_rowM n M k k hk, take_rowM n N i k hk, take_rowM n N k k hk]
  congr 2
  · exact List.map_congr_left fun j hj => (h j (List.mem_range.1 hj)).1
  · exact List.map_congr_left fun j hj => (h j (List.mem_range.1 hj)).2
theorem colS_other (n : Nat) (p : List Fr) (k : Nat) (M : Nat → Nat → Fr) : ∀ (j a b : Nat), b ≠ k ∨ a < k → colS n p k M j a b = M a b
  | 0, a, b, h => by
    simp only [colS, stepD, setM]
    rw [if_neg (by omega)]
  | j + 1, a, b, h => by
    simp only [colS, setM]
    rw [if_neg (by omega)]
    exact colS_other n p k M j a b h
theorem colS_diag (n : Nat) (p : List Fr) (k : Nat) (M : Nat → Nat → Fr) : ∀ j, colS n p k M j k k = rootF (leftM n p M k k)
  | 0 => by
    simp only [colS, stepD, setM]
    rw [if_pos (by simp)]
  | j + 1 => by
    simp only [colS, setM]
    rw [if_neg (by rintro ⟨h, _⟩; omega)]
    exact colS_diag n p k M j
theorem colS_low (n : Nat) (p : List Fr) (k : Nat) (M : Nat → Nat → Fr) (hk : k ≤ n) : ∀ (j t : Nat), t < j → colS n p k M j (k + 1 + t) k = divF (leftM n p M (k + 1 + t) k) (rootF (leftM n p M k k))
  | 0, t, h => by omega
  | j + 1, t, h => by
    simp only [colS, setM]
    by_cases e : t = j
    · subst e
      rw [if_pos (by simp), colS_diag]
      congr 1
      exact leftM_congr hk fun q hq => ⟨colS_other n p k M t _ _ (.inl (by omega)), colS_other n p k M t _ _ (.inl (by omega))⟩
    · rw [if_neg (by omega)]
      exact colS_low n p k M hk j t (by omega)
theorem rootS_out (n : Nat) (p : List Fr) : ∀ (k a b : Nat), k ≤ b → rootS n p k a b = newF 0 1
  | 0, a, b, h => rfl
  | k + 1, a, b, h => by
    rw [rootS, colS_other n p k _ _ _ _ (.inl (by omega))]
    exact rootS_out n p k a b (by omega)
theorem rootS_keep (n : Nat) (p : List Fr) : ∀ (k a b : Nat), b < k → rootS n p k a b = rootS n p (b + 1) a b
  | 0, a, b, h => by omega
  | k + 1, a, b, h => by
    by_cases e : b = k
    · rw [e]
    · rw [rootS, colS_other n p k _ _ _ _ (.inl (by omega))]
      exact rootS_keep n p k a b (by omega)
theorem rootS_left {n : Nat} {p : List Fr} {i k : Nat} (hk : k ≤ n) : leftM n p (rootS n p k) i k = leftM n p (rootS n p n) i k :=
  leftM_congr hk fun j hj => ⟨(rootS_keep n p k i j hj).trans (rootS_keep n p n i j (by omega)).symm, (rootS_keep n p k k j hj).trans (rootS_keep n p n k j (by omega)).symm⟩
theorem root_up {n : Nat} {p : List Fr} {i k : Nat} (h : i < k) (hk : k < n) : rootS n p n i k = newF 0 1 := by
  rw [rootS_keep n p n i k hk, rootS, colS_other n p k _ _ _ _ (.inr h)]
  exact rootS_out n p k i k (Nat.le_refl _)
theorem root_diag {n : Nat} {p : List Fr} {k : Nat} (hk : k < n) : rootS n p n k k = rootF (leftM n p (rootS n p n) k k) := by
  rw [rootS_keep n p n k k hk, rootS, colS_diag, rootS_left (by omega)]
theorem root_low {n : Nat} {p : List Fr} {i k : Nat} (h : k < i) (hi : i < n) : rootS n p n i k = divF (leftM n p (rootS n p n) i k) (rootS n p n k k) := by
  rw [rootS_keep n p n i k (by omega), rootS]
  have := colS_low n p k (rootS n p k) (by omega) (n - (k + 1)) (i - (k + 1)) (by omega)
  rw [show k + 1 + (i - (k + 1)) = i by omega] at this
  rw [this, rootS_left (by omega), rootS_left (by omega), ← root_diag (by omega)]

end Go.Proofs.YtbflmeomkfjikaaGreat.A.E



set_option linter.unusedVariables false
set_option linter.unusedSimpArgs false
set_option maxRecDepth 100000
namespace Go.Proofs.YtbflmeomkfjikaaGreat.A
open Go Go.RowKit Go.Shelf

/-! ### Nothing's triangles -/
/-! ### Plain laws of clearing, of whole numbers -/
/-! ### The function TriTells -/
end Go.Proofs.YtbflmeomkfjikaaGreat.A


set_option linter.unusedVariables false
set_option linter.unusedSimpArgs false
set_option maxRecDepth 100000
namespace Go.Proofs.YtbflmeomkfjikaaGreat.A
open Go Go.RowKit Go.Shelf

/-! ### Sums of whole numbers -/
def sumZ : Nat → (Nat → Int) → Int
  | 0, _ => 0
  | n + 1, f => sumZ n f + f n
theorem sumZ_tail {f : Nat → Int} {k n : Nat} (hk : k ≤ n) (h : ∀ j, k ≤ j → j < n → f j = 0) : sumZ n f = sumZ k f := by
  induction n with
  | zero => rw [show k = 0 by omega]
  | succ n ih =>
    by_cases e : k = n + 1
    · rw [e]
    · rw [sumZ, ih (by omega) (fun j h1 h2 => h j h1 (by omega)), h n (by omega) (by omega), Int.add_zero]
theorem sumZ_bnd {f : Nat → Int} {B : Int} (hB : 0 ≤ B) (hf : ∀ j, -B ≤ f j ∧ f j ≤ B) : ∀ n : Nat, -((n : Int) * B) ≤ sumZ n f ∧ sumZ n f ≤ (n : Int) * B
  | 0 => by simp [sumZ]
  | n + 1 => by
    have h := sumZ_bnd hB hf n
    have h2 := hf n
    have e : ((n + 1 : Nat) : Int) * B = (n : Int) * B + B := by rw [Int.natCast_add, Int.add_mul]; simp
    rw [sumZ, e]
    omega
/-- The dot of whole numbers. -/
theorem dot_whole {f g : Nat → Int} (hf : ∀ j, -100 ≤ f j ∧ f j ≤ 100) (hg : ∀ j, -100 ≤ g j ∧ g j ≤ 100) {n : Nat} (hn : n ≤ 16) :
    dotF ((List.range n).map fun j => newF (f j) 1) ((List.range n).map fun j => newF (g j) 1) = newF (sumZ n fun j => f j * g j) 1 := by
  have hb : ∀ j, -10000 ≤ f j * g j ∧ f j * g j ≤ 10000 := fun j => prod_small (hf j) (hg j)
  have hs : ∀ j, j ≤ 16 → few (sumZ j fun j => f j * g j) := fun j hj => by
    have := sumZ_bnd (B := 10000) (by omega) hb j
    unfold few
    omega
  unfold dotF
  rw [newF_whole (hs n hn), List.zipWith_map, List.zipWith_self]
  have e : ∀ j, mulF (newF (f j) 1) (newF (g j) 1) = whole (f j * g j) := fun j => by
    have h3 := hb j
    rw [newF_whole (few_small (hf j)), newF_whole (few_small (hg j)), mulF_whole (few_small (hf j)) (few_small (hg j)) (by unfold few; omega)]
  simp only [e]
  exact sumF_whole (fun j => f j * g j) (fun j => sumZ j fun j => f j * g j) rfl (fun j => rfl) n (fun j _ => by have := hb j; unfold few; omega) (fun j hj => hs j (by omega)) n (Nat.le_refl _)

/-! ### Roots of squares of whole triangles -/
theorem rootI_sq {s : Int} (h : 0 ≤ s ∧ s ≤ 100) : rootI (s * s) = s := by
  obtain ⟨S, rfl⟩ : ∃ S : Nat, s = S := ⟨s.toNat, by omega⟩
  have e : ((S : Int) * S).toNat = S * S := by rw [← Int.natCast_mul, Int.toNat_natCast]
  have hs : S < 2 ^ 16 := by omega
  unfold rootI
  rw [e, rtB_sq hs, if_pos rfl]
theorem root_whole {s : Int} (h : 0 ≤ s ∧ s ≤ 100) : rootF (newF (s * s) 1) = newF s 1 := by
  have hb : 0 ≤ s * s ∧ s * s ≤ 10000 := ⟨Int.mul_nonneg h.1 h.1, (prod_small ⟨by omega, h.2⟩ ⟨by omega, h.2⟩).2⟩
  have hf : few (s * s) := by unfold few; omega
  rw [newF_whole hf]
  unfold rootF
  have r1 := rootI_sq h
  have r2 : rootI 1 = 1 := by decide +kernel
  simp only [fine_whole hf]
  show (if true = false ∨ s * s < 0 ∨ rootI (s * s) < 0 ∨ rootI 1 < 0 then Fr.wrong else newF (rootI (s * s)) (rootI 1)) = _
  rw [r1, r2, if_neg (by rintro (h1 | h1 | h1 | h1) <;> first | cases h1 | omega)]
theorem div_whole {a b : Int} (ha : -100 ≤ a ∧ a ≤ 100) (hb : 1 ≤ b ∧ b ≤ 100) : divF (newF (a * b) 1) (newF b 1) = newF a 1 := by
  have hp := prod_small (x := a) (y := b) ha ⟨by omega, hb.2⟩
  have f1 : few (a * b) := by unfold few; omega
  have f2 : few b := by unfold few; omega
  have f3 : few a := by unfold few; omega
  rw [newF_whole f1, newF_whole f2]
  unfold divF
  rw [fine_whole f1, fine_whole f2, if_neg (by simp)]
  simp only [whole]
  rw [Int.mul_one, Int.one_mul]
  have h1 : newF (a * b) b = newF a 1 := by
    have hb0 : b ≠ 0 := by omega
    have i1 : Is (newF (a * b) b) (a : Rat) := by
      have hg : Int.gcd (a * b) b = b.natAbs := by
        show Nat.gcd (a * b).natAbs b.natAbs = _
        rw [Int.natAbs_mul]
        exact Nat.gcd_eq_right (Nat.dvd_mul_left _ _)
      have hq : (newF (a * b) b).bad = false := by
        unfold newF
        rw [if_neg (by omega)]
        simp only [show ¬ b < 0 by omega, if_false, hg]
        have e1 : ((b.natAbs : Nat) : Int) = b := by omega
        rw [e1, Int.mul_tdiv_cancel _ hb0, Int.tdiv_self hb0, if_neg (by omega)]
      obtain ⟨g1, g2, g3⟩ := newF_fine hq
      refine ⟨g1, g2.trans ?_⟩
      have := cast_ne hb0
      rw [Rat.intCast_mul]
      grind
    exact i1.inj (whole_is f3)
  exact h1
section
variable {n : Nat} {L : Nat → Nat → Int}
/-- A lower triangle of small whole numbers, its diagonal above 0. -/
structure LowTri (n : Nat) (L : Nat → Nat → Int) : Prop where
  small : ∀ i k, -100 ≤ L i k ∧ L i k ≤ 100
  zero : ∀ i k, i < k → k < n → L i k = 0
  diag : ∀ k, k < n → 1 ≤ L k k
theorem LowTri.sum (h : LowTri n L) {i k : Nat} (hk : k < n) (hki : k ≤ i) : sumZ n (fun j => L i j * L k j) = sumZ k (fun j => L i j * L k j) + L i k * L k k := by
  have : sumZ n (fun j => L i j * L k j) = sumZ (k + 1) (fun j => L i j * L k j) := sumZ_tail (by omega) fun j h1 h2 => by rw [h.zero k j (by omega) h2, Int.mul_zero]
  rw [this, sumZ]
theorem LowTri.left (hn : 1 ≤ n ∧ n ≤ 16) (h : LowTri n L) {p : List Fr} (hp : ∀ i k, i < n → k < n → atF n n p i k = newF (sumZ n fun j => L i j * L k j) 1) {S : Nat → Nat → Fr} {i k : Nat} (hk : k < n) (hki : k ≤ i) (hi : i < n)
    (hS : ∀ j, j < k → S i j = newF (L i j) 1 ∧ S k j = newF (L k j) 1) : leftM n p S i k = newF (L i k * L k k) 1 := by
  unfold leftM
  rw [take_rowM n S i k (by omega), take_rowM n S k k (by omega), hp i k hi hk, h.sum hk hki]
  have e1 : (List.range k).map (S i) = (List.range k).map fun j => newF (L i j) 1 := List.map_congr_left fun j hj => (hS j (List.mem_range.1 hj)).1
  have e2 : (List.range k).map (S k) = (List.range k).map fun j => newF (L k j) 1 := List.map_congr_left fun j hj => (hS j (List.mem_range.1 hj)).2
  rw [e1, e2, dot_whole (h.small i) (h.small k) (by omega)]
  have hb : ∀ j, -10000 ≤ L i j * L k j ∧ L i j * L k j ≤ 10000 := fun j => prod_small (h.small i j) (h.small k j)
  have hs := sumZ_bnd (B := 10000) (by omega) hb k
  have hk' := hb k
  generalize sumZ k (fun j => L i j * L k j) = s at *
  rw [newF_whole (n := s + L i k * L k k) (by unfold few; omega), newF_whole (n := s) (by unfold few; omega), subF_whole (by unfold few; omega) (by unfold few; omega) (by unfold few; omega), newF_whole (by unfold few; omega)]
  congr 1
  omega
theorem LowTri.root (hn : 1 ≤ n ∧ n ≤ 16) (h : LowTri n L) {p : List Fr} (hp : ∀ i k, i < n → k < n → atF n n p i k = newF (sumZ n fun j => L i j * L k j) 1) : ∀ k i, k < n → i < n → rootS n p n i k = newF (L i k) 1 := by
  intro k
  induction k using Nat.strongRecOn with
  | ind k ih =>
    intro i hk hi
    have hdiag : rootS n p n k k = newF (L k k) 1 := by
      rw [root_diag hk, LowTri.left hn h hp hk (Nat.le_refl _) hk (fun j hj => ⟨ih j hj k (by omega) hk, ih j hj k (by omega) hk⟩)]
      exact root_whole ⟨by have := h.diag k hk; omega, (h.small k k).2⟩
    rcases Nat.lt_trichotomy i k with h1 | h1 | h1
    · rw [root_up h1 hk, h.zero i k h1 hk]
    · rw [h1]; exact hdiag
    · rw [root_low h1 hi, hdiag, LowTri.left hn h hp hk (by omega) hi (fun j hj => ⟨ih j hj i (by omega) hi, ih j hj k (by omega) hk⟩)]
      exact div_whole (h.small i k) ⟨h.diag k hk, (h.small k k).2⟩
end
end Go.Proofs.YtbflmeomkfjikaaGreat.A


set_option linter.unusedVariables false
set_option linter.unusedSimpArgs false
set_option maxRecDepth 100000
namespace Go.Proofs.YtbflmeomkfjikaaGreat.A.E
open Go Go.RowKit Go.Shelf

/-! ### Roots of squares of whole triangles, enclosed -/
section
variable {n : Nat} {L : Nat → Nat → Int}
theorem few_h {x : Int} (h : -100 ≤ x ∧ x ≤ 100) : few x := by unfold few; omega
end
theorem encl_int {x : Fr} {n : Int} (h : Enc x (n : Rat)) (hn : -1000000 ≤ n ∧ n ≤ 1000000) : enclB x n 1 = true := by
  obtain ⟨hf, h1, h2⟩ := h
  unfold enclB
  have hr : rightW n = true := by unfold rightW; rw [decide_eq_true_eq]; omega
  have hr1 : rightW 1 = true := by decide
  have e : (n : Rat) * 16777216 = ((n * 16777216 : Int) : Rat) := by rw [Rat.intCast_mul]; rfl
  rw [e] at h1 h2
  have i1 := Rat.intCast_le_intCast.1 h1
  have i2 := Rat.intCast_le_intCast.1 h2
  rw [hf, hr, hr1, cmpF_is, cmpF_is]
  simp only [Int.mul_one, Bool.true_and, Bool.and_eq_true, decide_eq_true_eq]
  refine ⟨by omega, ?_, ?_⟩
  · split
    · omega
    · rw [if_neg (by omega)]; omega
  · split
    · omega
    · rw [if_neg (by omega)]; omega
theorem root_snd (a : Fr) : SndE (rootF a) := fun h => by
  have hb := h
  unfold rootF at hb
  obtain ⟨k1, k2, k3, k4, k5⟩ := made_is hb
  obtain ⟨_, _, _, q1, q2⟩ := fine_is.1 k1
  have p1 := k4 (a.lo, a.lo) (by simp)
  have p2 := k4 (a.hi, a.hi) (by simp)
  unfold rootF
  refine (made_enc (w := ((rtX a.lo 1).1 : Rat) / 16777216) hb (fun x y m hh => (by obtain ⟨r, R, e1, _, e3, _⟩ := rt_spec hh; rw [e1]; exact e3)) ⟨(a.lo, a.lo), by simp, ?_⟩ ⟨(a.hi, a.hi), by simp, ?_⟩
    ⟨(a.lo, a.lo), by simp, rt_lohi p1.1 k3 q1⟩ ⟨(a.hi, a.hi), by simp, rt_hilo k3 p2.2 q2⟩).1
  · grind
  · have e : ((rtX a.lo 1).1 : Rat) / 16777216 * 16777216 = ((rtX a.lo 1).1 : Rat) := by grind
    rw [e]
    exact Rat.intCast_le_intCast.2 (Int.le_trans (rt_lohi p1.1 k3 q1) (rt_hilo k3 p2.2 q2))
end Go.Proofs.YtbflmeomkfjikaaGreat.A.E


set_option linter.unusedVariables false
set_option linter.unusedSimpArgs false
set_option maxRecDepth 100000
namespace Go.Proofs.YtbflmeomkfjikaaGreat.A
open Go Go.RowKit Go.Shelf

/-! ### Rows in memory of their own -/
theorem okn151 (ex : Bool) (r c : Int) (i : Nat) (l : List Fr) (hr : right r c l.length = true) (hi : i < r.toNat) : OkN Tryz.prog 151 [matV ex r c (frs l), num i] (frs (rowF r c l i)) := by
  obtain ⟨r1, r2, c1, c2, hn⟩ := right_spec hr
  have hlen := rowF_len hr hi
  have hrow : rowF r c l i = (l.take (((i : Int) + 1) * c).toNat).drop ((i : Int) * c).toNat := if_pos ⟨hr, by omega, by omega⟩
  have hne : rowF r c l i ≠ [] := fun h => by rw [h] at hlen; simp at hlen; omega
  rw [hrow] at hne ⊢
  refine okn_fn mixed Tryz.func151 (code := ?_) (h := hN151) ?_ kN151 rfl (RFs_frs _) ?_
  rotate_left
  · exact rfl
  unfold hN151 initS
  simp -implicitDefEqProofs only [rkA, rkB, stepA, valA, simprocAttr, Tryz.ntmps151, Tryz.results151]
  refine call_fn rfl rfl rfl (ok100 ex r c (frs l)) ?_
  have e : (frs l).length = l.length := by simp
  have g1 : ¬ (i : Int) < 0 := by omega
  have g2 : ¬ (i : Int) ≥ r := by omega
  obtain ⟨b1, b2, b3, b4, b5⟩ := at_bound (i := i) (k := 0) r2 ⟨c1, c2⟩ (by omega) (by omega)
  have b6 : ((i : Int) + 1) * c = i * c + c := by rw [Int.add_mul, Int.one_mul]
  have b7 : ((i : Int) + 1) * c ≤ r * c := Int.mul_le_mul_of_nonneg_right (by omega) (by omega)
  have w1 := wrapped (x := (i : Int) * c) (by omega) (by omega)
  have w2 := wrapped (x := (i : Int) + 1) (by omega) (by omega)
  have w3 := wrapped (x := ((i : Int) + 1) * c) (by omega) (by omega)
  have h3 : 0 ≤ ((i : Int) + 1) * c := by omega
  have hs := sl_frs (ex := ex) (l := l) (a := ((i : Int) * c).toNat) (b := (((i : Int) + 1) * c).toNat) (by omega) (by omega)
  simp -implicitDefEqProofs only [e, hr, g1, g2, w1, w2, w3, b1, h3, hs, rkA, rkB, stepA, valA, simprocAttr]
  refine newRow_fn rfl rfl (Tells.same _ _) (okn109 _ _ hne (by simp; omega)) (RFs_frs _) (by simpa using hne) ?_
  intro b cap q hb hcap
  simp -implicitDefEqProofs only [rkA, rkB, stepA, valA, simprocAttr]
  exact .inr ⟨_, rfl, .inr ⟨by simpa using hne, b, cap, q, hcap, rfl, rfl⟩⟩

/-- Row i, in memory of its own. -/
def rowItem (r c : Int) (l : List Fr) (i : Nat) : Item := fun p m => ∃ b cap q, (frs (rowF r c l i)).length ≤ cap ∧ p = [num i, .s (.slice (some ⟨b, 0, none⟩) (frs (rowF r c l i)).length cap)] ∧ m = nomem.put b (flat (frs (rowF r c l i)) ++ List.replicate q .junk)
def rowItems (r c : Int) (l : List Fr) : List Item := (List.range r.toNat).map (rowItem r c l)
theorem itm150 (ex : Bool) (r c : Int) (l : List Fr) (hr : right r c l.length = true) : IterOkM Tryz.prog (.fn (.func 150) [.vp [num r, num c, .sl ex (frs l)]]) (rowItems r c l) := by
  obtain ⟨r1, r2, c1, c2, hn⟩ := right_spec hr
  have hl : (rowItems r c l).length = r.toNat := by simp [rowItems]
  have e : (frs l).length = l.length := by simp
  have h17 := ok100 ex r c (frs l)
  rw [e, hr] at h17
  refine iterM_fn mixed Tryz.func150 (code := ?_) (h := hN150) ?_ kN150 ?_ ?_
  rotate_left
  · exact rfl
  · exact rfl
  intro yl
  unfold hN150 initS
  simp -implicitDefEqProofs only [rkA, rkB, stepA, valA, simprocAttr, Tryz.ntmps150]
  refine wp_loop (fun m s => ∃ i : Nat, i + m = (rowItems r c l).length ∧ s = ⟨[.v (.fn (.yield yl) []), .v (.vp [num r, num c, .sl ex (frs l)]), jk, nt i, jk, jk, jk, jk, jk, jk, jk, jk, jk, jk, jk, jk, jk, jk, jk, jk, jk], [], [], [], [], i, nomem⟩) (rowItems r c l).length ?_ ?_
  · simp -implicitDefEqProofs only [rkA, rkB, stepA, valA, simprocAttr]
    exact ⟨0, by simp, rfl⟩
  rintro m s ⟨i, hi, rfl⟩
  simp -implicitDefEqProofs only [rkA, rkB, stepA, valA, simprocAttr]
  refine call_fn rfl rfl rfl (h17) ?_
  simp -implicitDefEqProofs only [rkA, rkB, stepA, valA, simprocAttr]
  refine gB_dec ?_ ?_ <;> intro hc <;> simp -implicitDefEqProofs only [hc, rkA, rkB, stepA, valA, simprocAttr]
  · have hlt : i < r.toNat := by omega
    have hlen := rowF_len hr hlt
    have hne : frs (rowF r c l i) ≠ [] := fun h => by
      have := congrArg List.length h
      rw [List.length_map, hlen, List.length_nil] at this
      omega
    refine newRow_fn rfl rfl (Tells.same _ _) (okn151 ex r c i l hr hlt) (RFs_frs _) hne ?_
    intro b cap q hb hcap
    simp -implicitDefEqProofs only [rkA, rkB, stepA, valA, simprocAttr]
    have hx : (rowItems r c l)[i]? = some (rowItem r c l i) := by simp [rowItems, hlt]
    have hw := wrapped (x := (i : Int) + 1) (by omega) (by omega)
    refine call_yieldM rfl rfl rfl rfl hx ⟨b, cap, q, hcap, rfl, rfl⟩ ?_ ?_
    · simp -implicitDefEqProofs only [hw, rkA, rkB, stepA, valA, simprocAttr]
      refine loopK_of (m' := m - 1) (by omega) ?_
      simp -implicitDefEqProofs only [rkA, rkB, stepA, valA, simprocAttr]
      exact ⟨i + 1, by omega, by simp only [Int.natCast_add, Int.natCast_one]⟩
    · simp -implicitDefEqProofs only [rkA, rkB, stepA, valA, simprocAttr]
      exact .inr trivial
  · omega

theorem okn123 (ex : Bool) (l : List Fr) (y : Fr) (h : l.length ≤ 5864062014805) : OkN Tryz.prog 123 [.sl ex (frs l), frV y] (frs (l.map (mulF · y))) := by
  refine okn_fn mixed Tryz.func123 (code := ?_) (h := hN123) ?_ kN123 rfl (RFs_frs _) ?_
  rotate_left
  · exact rfl
  unfold hN123 initS
  simp -implicitDefEqProofs only [rkA, rkB, stepA, valA, simprocAttr, Tryz.ntmps123, Tryz.results123]
  refine wp_loop (fun m s => ∃ i : Nat, i + m = l.length ∧ s = ⟨[jk, jk, jk, .ptr 3 0, jk, .acc 5 (frs ((l.take i).map (mulF · y))), jk, jk, .v (.sl ex (frs l)), nt (frs l).length, nt i, jk, jk, jk, jk, jk, jk, jk, jk, jk, jk, jk, jk], [(3, [nt y.n, nt y.d, .v (tru y.bad)])], [], [(4, 0), (5, i)], [], 0, nomem⟩) l.length ?_ ?_
  · simp -implicitDefEqProofs only [rkA, rkB, stepA, valA, simprocAttr]
    exact ⟨0, by simp, rfl⟩
  rintro m s ⟨i, hi, rfl⟩
  simp -implicitDefEqProofs only [rkA, rkB, stepA, valA, simprocAttr]
  refine gB_dec ?_ ?_ <;> intro hc <;> simp -implicitDefEqProofs only [hc, rkA, rkB, stepA, valA, simprocAttr]
  · have hlt : i < l.length := by simpa using hc
    have h0 : (0 : Int) ≤ (i : Int) := by omega
    have hg : (frs l)[i]? = some (frV l[i]) := by simp [hlt]
    simp -implicitDefEqProofs only [h0, Int.toNat_natCast, hg, rkA, rkB, stepA, valA, simprocAttr]
    refine call_meth rfl rfl methMul (ok213 l[i] y) ?_
    have hfit : fits 3 24 (frs ((l.take i).map (mulF · y))) [frV (mulF l[i] y)] = true := fits_frs (l := [mulF l[i] y]) (by simp; omega)
    have hw := wrapped (x := (i : Int) + 1) (by omega) (by omega)
    have hl : (frs ((l.take i).map (mulF · y))).length = i := by simp; omega
    simp -implicitDefEqProofs only [hfit, hl, hw, rkA, rkB, stepA, valA, simprocAttr]
    refine loopK_of (m' := m - 1) (by omega) ?_
    simp -implicitDefEqProofs only [rkA, rkB, stepA, valA, simprocAttr]
    refine ⟨i + 1, by omega, ?_⟩
    rw [List.take_succ_eq_append_getElem hlt]
    simp only [frs, List.map_append, List.map_cons, List.map_nil, Int.natCast_add, Int.natCast_one]
  · have : i = l.length := by simp only [List.length_map] at hc; omega
    rw [List.take_of_length_le (by omega)]
    refine .inl ⟨5, ?_⟩
    simp -implicitDefEqProofs only [rkA, rkB, stepA, valA, simprocAttr]
    simp [this]
theorem okn130 (k : Nat) (F : Fr → Fr → Fr) (hF : ∀ x y, Ok Tryz.prog k [frV x, frV y] (frV (F x y))) (ea eb : Bool) (a b : List Fr) (ha : a.length ≤ 5864062014805) (hb : b.length ≤ 5864062014805) :
    OkN Tryz.prog 130 [.sl ea (frs a), .sl eb (frs b), .fn (.func k) []] (frs (List.zipWith F a b)) := by
  refine okn_fn mixed Tryz.func130 (code := ?_) (h := hN130) ?_ kN130 rfl (RFs_frs _) ?_
  rotate_left
  · exact rfl
  unfold hN130 initS
  simp -implicitDefEqProofs only [rkA, rkB, stepA, valA, simprocAttr, Tryz.ntmps130, Tryz.results130]
  refine call_fn rfl rfl rfl (ok167 ea eb a b) ?_
  simp -implicitDefEqProofs only [rkA, rkB, stepA, valA, simprocAttr]
  have hlz : (List.zipWith F a b).length = min a.length b.length := by simp
  have hpl : (pairsF a b).length = min a.length b.length := by simp [pairsF]
  refine wp_rf (items := pairsF a b) rfl (it181 ea eb a b ha hb) (fun i s => i ≤ (pairsF a b).length ∧ s = ⟨[], [(5, [.v (.fn (.func k) [])]), (7, [.acc 1007 (frs ((List.zipWith F a b).take i))])], [], [(6, 0), (1007, i)],
    [[.v (.sl ea (frs a)), .v (.sl eb (frs b)), .v (.fn (.func k) []), jk, jk, .ptr 5 0, .acc 6 [], .ptr 7 0, jk, jk, .v (.sl ea (frs a)), .v (.sl eb (frs b)), .v (.fn (.func 181) [.vp [.sl ea (frs a)], .vp [.sl eb (frs b)]]), jk, jk, jk, jk, jk, jk, jk, jk, jk, jk]], 0, nomem⟩) ?_ ?_ ?_
  · simp -implicitDefEqProofs only [rkA, rkB, stepA, valA, simprocAttr]
    exact Nat.zero_le _
  · rintro i x' s' R hx ⟨hi, rfl⟩ hR
    have hlt : i < (pairsF a b).length := (List.getElem?_eq_some_iff.1 hx).1
    have h1 : i < a.length := by omega
    have h2 : i < b.length := by omega
    have hx' : x' = [frV a[i], frV b[i]] := by
      rw [pairsF, List.getElem?_map, List.getElem?_eq_getElem (by simp; omega), Option.map_some, List.getElem_zip] at hx
      exact (Option.some.inj hx).symm
    subst hx'
    refine ⟨rfl, ?_⟩
    simp -implicitDefEqProofs only [rkA, rkB, stepA, valA, simprocAttr]
    refine call_fn rfl rfl rfl (hF a[i] b[i]) ?_
    have hfit : fits 3 24 (frs ((List.zipWith F a b).take i)) [frV (F a[i] b[i])] = true := fits_frs (l := [F a[i] b[i]]) (by simp; omega)
    have hl : (frs ((List.zipWith F a b).take i)).length = i := by simp; omega
    simp -implicitDefEqProofs only [hfit, hl, rkA, rkB, stepA, valA, simprocAttr]
    refine hR _ ⟨by omega, ?_⟩
    rw [List.take_succ_eq_append_getElem (by simp; omega)]
    simp only [frs, List.map_append, List.map_cons, List.map_nil, List.getElem_zipWith]
  · rintro s' ⟨hi, rfl⟩
    simp -implicitDefEqProofs only [rkA, rkB, stepA, valA, simprocAttr]
    rw [List.take_of_length_le (by simp; omega)]
    refine .inl ⟨1007, ?_⟩
    simp -implicitDefEqProofs only [rkA, rkB, stepA, valA, simprocAttr]
    simp [pairsF]
theorem okn163 (ea eb : Bool) (a b : List Fr) (ha : a.length ≤ 5864062014805) (hb : b.length ≤ 5864062014805) (h0 : 0 < a.length) (h1 : 0 < b.length) : OkN Tryz.prog 163 [.sl ea (frs a), .sl eb (frs b)] (frs (List.zipWith subF a b)) := by
  have hne : frs (List.zipWith subF a b) ≠ [] := fun h => by
    have := congrArg List.length h
    simp only [List.length_map, List.length_zipWith, List.length_nil] at this
    omega
  refine okn_fn mixed Tryz.func163 (code := ?_) (h := hN163) ?_ kN163 rfl (RFs_frs _) ?_
  rotate_left
  · exact rfl
  unfold hN163 initS
  simp -implicitDefEqProofs only [rkA, rkB, stepA, valA, simprocAttr, Tryz.ntmps163, Tryz.results163]
  refine newRow_fn rfl rfl (Tells.same _ _) (okn130 180 subF ok180 ea eb a b ha hb) (RFs_frs _) hne ?_
  intro c cap q hc hcap
  simp -implicitDefEqProofs only [rkA, rkB, stepA, valA, simprocAttr]
  exact .inr ⟨_, rfl, .inr ⟨hne, c, cap, q, hcap, rfl, rfl⟩⟩
end Go.Proofs.YtbflmeomkfjikaaGreat.A


set_option linter.unusedVariables false
set_option linter.unusedSimpArgs false
set_option maxRecDepth 100000
namespace Go.Proofs.YtbflmeomkfjikaaGreat.A.E
open Go Go.RowKit Go.Shelf

theorem okn143 (ex : Bool) (r c : Int) (i : Nat) (l : List Fr) (hr : right r c l.length = true) (hi : i < r.toNat) : OkN Tryz.prog 143 [matV ex r c (frs l), num i] (frs (rowF r c l i)) := by
  obtain ⟨r1, r2, c1, c2, hn⟩ := right_spec hr
  have hlen := rowF_len hr hi
  have hrow : rowF r c l i = (l.take (((i : Int) + 1) * c).toNat).drop ((i : Int) * c).toNat := if_pos ⟨hr, by omega, by omega⟩
  have hne : rowF r c l i ≠ [] := fun h => by rw [h] at hlen; simp at hlen; omega
  rw [hrow] at hne ⊢
  refine okn_fn mixed Tryz.func143 (code := ?_) (h := hN143) ?_ kN143 rfl (RFs_frs _) ?_
  rotate_left
  · exact rfl
  unfold hN143 initS
  simp -implicitDefEqProofs only [rkA, rkB, stepA, valA, simprocAttr, Tryz.ntmps143, Tryz.results143]
  refine call_fn rfl rfl rfl (ok88 ex r c (frs l)) ?_
  have e : (frs l).length = l.length := by simp
  have g1 : ¬ (i : Int) < 0 := by omega
  have g2 : ¬ (i : Int) ≥ r := by omega
  obtain ⟨b1, b2, b3, b4, b5⟩ := at_bound (i := i) (k := 0) r2 ⟨c1, c2⟩ (by omega) (by omega)
  have b6 : ((i : Int) + 1) * c = i * c + c := by rw [Int.add_mul, Int.one_mul]
  have b7 : ((i : Int) + 1) * c ≤ r * c := Int.mul_le_mul_of_nonneg_right (by omega) (by omega)
  have w1 := wrapped (x := (i : Int) * c) (by omega) (by omega)
  have w2 := wrapped (x := (i : Int) + 1) (by omega) (by omega)
  have w3 := wrapped (x := ((i : Int) + 1) * c) (by omega) (by omega)
  have h3 : 0 ≤ ((i : Int) + 1) * c := by omega
  have hs := sl_frs (ex := ex) (l := l) (a := ((i : Int) * c).toNat) (b := (((i : Int) + 1) * c).toNat) (by omega) (by omega)
  simp -implicitDefEqProofs only [e, hr, g1, g2, w1, w2, w3, b1, h3, hs, rkA, rkB, stepA, valA, simprocAttr]
  refine newRow_fn rfl rfl (Tells.same _ _) (okn87 _ _ hne (by simp; omega)) (RFs_frs _) (by simpa using hne) ?_
  intro b cap q hb hcap
  simp -implicitDefEqProofs only [rkA, rkB, stepA, valA, simprocAttr]
  exact .inr ⟨_, rfl, .inr ⟨by simpa using hne, b, cap, q, hcap, rfl, rfl⟩⟩

/-- Row i, in memory of its own. -/
def rowItem (r c : Int) (l : List Fr) (i : Nat) : Item := fun p m => ∃ b cap q, (frs (rowF r c l i)).length ≤ cap ∧ p = [num i, .s (.slice (some ⟨b, 0, none⟩) (frs (rowF r c l i)).length cap)] ∧ m = nomem.put b (flat (frs (rowF r c l i)) ++ List.replicate q .junk)
def rowItems (r c : Int) (l : List Fr) : List Item := (List.range r.toNat).map (rowItem r c l)
theorem itm142 (ex : Bool) (r c : Int) (l : List Fr) (hr : right r c l.length = true) : IterOkM Tryz.prog (.fn (.func 142) [.vp [num r, num c, .sl ex (frs l)]]) (rowItems r c l) := by
  obtain ⟨r1, r2, c1, c2, hn⟩ := right_spec hr
  have hl : (rowItems r c l).length = r.toNat := by simp [rowItems]
  have e : (frs l).length = l.length := by simp
  have h17 := ok88 ex r c (frs l)
  rw [e, hr] at h17
  refine iterM_fn mixed Tryz.func142 (code := ?_) (h := hN142) ?_ kN142 ?_ ?_
  rotate_left
  · exact rfl
  · exact rfl
  intro yl
  unfold hN142 initS
  simp -implicitDefEqProofs only [rkA, rkB, stepA, valA, simprocAttr, Tryz.ntmps142]
  refine wp_loop (fun m s => ∃ i : Nat, i + m = (rowItems r c l).length ∧ s = ⟨[.v (.fn (.yield yl) []), .v (.vp [num r, num c, .sl ex (frs l)]), jk, nt i, jk, jk, jk, jk, jk, jk, jk, jk, jk, jk, jk, jk, jk, jk, jk, jk, jk], [], [], [], [], i, nomem⟩) (rowItems r c l).length ?_ ?_
  · simp -implicitDefEqProofs only [rkA, rkB, stepA, valA, simprocAttr]
    exact ⟨0, by simp, rfl⟩
  rintro m s ⟨i, hi, rfl⟩
  simp -implicitDefEqProofs only [rkA, rkB, stepA, valA, simprocAttr]
  refine call_fn rfl rfl rfl (h17) ?_
  simp -implicitDefEqProofs only [rkA, rkB, stepA, valA, simprocAttr]
  refine gB_dec ?_ ?_ <;> intro hc <;> simp -implicitDefEqProofs only [hc, rkA, rkB, stepA, valA, simprocAttr]
  · have hlt : i < r.toNat := by omega
    have hlen := rowF_len hr hlt
    have hne : frs (rowF r c l i) ≠ [] := fun h => by
      have := congrArg List.length h
      rw [List.length_map, hlen, List.length_nil] at this
      omega
    refine newRow_fn rfl rfl (Tells.same _ _) (okn143 ex r c i l hr hlt) (RFs_frs _) hne ?_
    intro b cap q hb hcap
    simp -implicitDefEqProofs only [rkA, rkB, stepA, valA, simprocAttr]
    have hx : (rowItems r c l)[i]? = some (rowItem r c l i) := by simp [rowItems, hlt]
    have hw := wrapped (x := (i : Int) + 1) (by omega) (by omega)
    refine call_yieldM rfl rfl rfl rfl hx ⟨b, cap, q, hcap, rfl, rfl⟩ ?_ ?_
    · simp -implicitDefEqProofs only [hw, rkA, rkB, stepA, valA, simprocAttr]
      refine loopK_of (m' := m - 1) (by omega) ?_
      simp -implicitDefEqProofs only [rkA, rkB, stepA, valA, simprocAttr]
      exact ⟨i + 1, by omega, by simp only [Int.natCast_add, Int.natCast_one]⟩
    · simp -implicitDefEqProofs only [rkA, rkB, stepA, valA, simprocAttr]
      exact .inr trivial
  · omega

theorem okn116 (ex : Bool) (l : List Fr) (y : Fr) (h : l.length ≤ 4398046511104) : OkN Tryz.prog 116 [.sl ex (frs l), frV y] (frs (l.map (mulF · y))) := by
  refine okn_fn mixed Tryz.func116 (code := ?_) (h := hN116) ?_ kN116 rfl (RFs_frs _) ?_
  rotate_left
  · exact rfl
  unfold hN116 initS
  simp -implicitDefEqProofs only [rkA, rkB, stepA, valA, simprocAttr, Tryz.ntmps116, Tryz.results116]
  refine wp_loop (fun m s => ∃ i : Nat, i + m = l.length ∧ s = ⟨[jk, jk, jk, .ptr 3 0, jk, .acc 5 (frs ((l.take i).map (mulF · y))), jk, jk, .v (.sl ex (frs l)), nt (frs l).length, nt i, jk, jk, jk, jk, jk, jk, jk, jk, jk, jk, jk, jk], [(3, [nt y.v, nt y.lo, nt y.hi, .v (tru y.bad)])], [], [(4, 0), (5, i)], [], 0, nomem⟩) l.length ?_ ?_
  · simp -implicitDefEqProofs only [rkA, rkB, stepA, valA, simprocAttr]
    exact ⟨0, by simp, rfl⟩
  rintro m s ⟨i, hi, rfl⟩
  simp -implicitDefEqProofs only [rkA, rkB, stepA, valA, simprocAttr]
  refine gB_dec ?_ ?_ <;> intro hc <;> simp -implicitDefEqProofs only [hc, rkA, rkB, stepA, valA, simprocAttr]
  · have hlt : i < l.length := by simpa using hc
    have h0 : (0 : Int) ≤ (i : Int) := by omega
    have hg : (frs l)[i]? = some (frV l[i]) := by simp [hlt]
    simp -implicitDefEqProofs only [h0, Int.toNat_natCast, hg, rkA, rkB, stepA, valA, simprocAttr]
    refine call_meth rfl rfl methMul (ok45 l[i] y) ?_
    have hfit : fits 4 32 (frs ((l.take i).map (mulF · y))) [frV (mulF l[i] y)] = true := fits_frs (l := [mulF l[i] y]) (by simp; omega)
    have hw := wrapped (x := (i : Int) + 1) (by omega) (by omega)
    have hl : (frs ((l.take i).map (mulF · y))).length = i := by simp; omega
    simp -implicitDefEqProofs only [hfit, hl, hw, rkA, rkB, stepA, valA, simprocAttr]
    refine loopK_of (m' := m - 1) (by omega) ?_
    simp -implicitDefEqProofs only [rkA, rkB, stepA, valA, simprocAttr]
    refine ⟨i + 1, by omega, ?_⟩
    rw [List.take_succ_eq_append_getElem hlt]
    simp only [frs, List.map_append, List.map_cons, List.map_nil, Int.natCast_add, Int.natCast_one]
  · have : i = l.length := by simp only [List.length_map] at hc; omega
    rw [List.take_of_length_le (by omega)]
    refine .inl ⟨5, ?_⟩
    simp -implicitDefEqProofs only [rkA, rkB, stepA, valA, simprocAttr]
    simp [this]
theorem okn133 (k : Nat) (F : Fr → Fr → Fr) (hF : ∀ x y, Ok Tryz.prog k [frV x, frV y] (frV (F x y))) (ea eb : Bool) (a b : List Fr) (ha : a.length ≤ 4398046511104) (hb : b.length ≤ 4398046511104) :
    OkN Tryz.prog 133 [.sl ea (frs a), .sl eb (frs b), .fn (.func k) []] (frs (List.zipWith F a b)) := by
  refine okn_fn mixed Tryz.func133 (code := ?_) (h := hN133) ?_ kN133 rfl (RFs_frs _) ?_
  rotate_left
  · exact rfl
  unfold hN133 initS
  simp -implicitDefEqProofs only [rkA, rkB, stepA, valA, simprocAttr, Tryz.ntmps133, Tryz.results133]
  refine call_fn rfl rfl rfl (ok168 ea eb a b) ?_
  simp -implicitDefEqProofs only [rkA, rkB, stepA, valA, simprocAttr]
  have hlz : (List.zipWith F a b).length = min a.length b.length := by simp
  have hpl : (pairsF a b).length = min a.length b.length := by simp [pairsF]
  refine wp_rf (items := pairsF a b) rfl (it182 ea eb a b ha hb) (fun i s => i ≤ (pairsF a b).length ∧ s = ⟨[], [(5, [.v (.fn (.func k) [])]), (7, [.acc 1007 (frs ((List.zipWith F a b).take i))])], [], [(6, 0), (1007, i)],
    [[.v (.sl ea (frs a)), .v (.sl eb (frs b)), .v (.fn (.func k) []), jk, jk, .ptr 5 0, .acc 6 [], .ptr 7 0, jk, jk, .v (.sl ea (frs a)), .v (.sl eb (frs b)), .v (.fn (.func 182) [.vp [.sl ea (frs a)], .vp [.sl eb (frs b)]]), jk, jk, jk, jk, jk, jk, jk, jk, jk, jk]], 0, nomem⟩) ?_ ?_ ?_
  · simp -implicitDefEqProofs only [rkA, rkB, stepA, valA, simprocAttr]
    exact Nat.zero_le _
  · rintro i x' s' R hx ⟨hi, rfl⟩ hR
    have hlt : i < (pairsF a b).length := (List.getElem?_eq_some_iff.1 hx).1
    have h1 : i < a.length := by omega
    have h2 : i < b.length := by omega
    have hx' : x' = [frV a[i], frV b[i]] := by
      rw [pairsF, List.getElem?_map, List.getElem?_eq_getElem (by simp; omega), Option.map_some, List.getElem_zip] at hx
      exact (Option.some.inj hx).symm
    subst hx'
    refine ⟨rfl, ?_⟩
    simp -implicitDefEqProofs only [rkA, rkB, stepA, valA, simprocAttr]
    refine call_fn rfl rfl rfl (hF a[i] b[i]) ?_
    have hfit : fits 4 32 (frs ((List.zipWith F a b).take i)) [frV (F a[i] b[i])] = true := fits_frs (l := [F a[i] b[i]]) (by simp; omega)
    have hl : (frs ((List.zipWith F a b).take i)).length = i := by simp; omega
    simp -implicitDefEqProofs only [hfit, hl, rkA, rkB, stepA, valA, simprocAttr]
    refine hR _ ⟨by omega, ?_⟩
    rw [List.take_succ_eq_append_getElem (by simp; omega)]
    simp only [frs, List.map_append, List.map_cons, List.map_nil, List.getElem_zipWith]
  · rintro s' ⟨hi, rfl⟩
    simp -implicitDefEqProofs only [rkA, rkB, stepA, valA, simprocAttr]
    rw [List.take_of_length_le (by simp; omega)]
    refine .inl ⟨1007, ?_⟩
    simp -implicitDefEqProofs only [rkA, rkB, stepA, valA, simprocAttr]
    simp [pairsF]
theorem okn144 (ea eb : Bool) (a b : List Fr) (ha : a.length ≤ 4398046511104) (hb : b.length ≤ 4398046511104) (h0 : 0 < a.length) (h1 : 0 < b.length) : OkN Tryz.prog 144 [.sl ea (frs a), .sl eb (frs b)] (frs (List.zipWith subF a b)) := by
  have hne : frs (List.zipWith subF a b) ≠ [] := fun h => by
    have := congrArg List.length h
    simp only [List.length_map, List.length_zipWith, List.length_nil] at this
    omega
  refine okn_fn mixed Tryz.func144 (code := ?_) (h := hN144) ?_ kN144 rfl (RFs_frs _) ?_
  rotate_left
  · exact rfl
  unfold hN144 initS
  simp -implicitDefEqProofs only [rkA, rkB, stepA, valA, simprocAttr, Tryz.ntmps144, Tryz.results144]
  refine newRow_fn rfl rfl (Tells.same _ _) (okn133 170 subF ok170 ea eb a b ha hb) (RFs_frs _) hne ?_
  intro c cap q hc hcap
  simp -implicitDefEqProofs only [rkA, rkB, stepA, valA, simprocAttr]
  exact .inr ⟨_, rfl, .inr ⟨hne, c, cap, q, hcap, rfl, rfl⟩⟩
end Go.Proofs.YtbflmeomkfjikaaGreat.A.E


set_option linter.unusedVariables false
set_option linter.unusedSimpArgs false
set_option maxRecDepth 100000
namespace Go.Proofs.YtbflmeomkfjikaaGreat.A
open Go Go.RowKit Go.Shelf

/-! ### Rows in memory: each in a block of its own -/
abbrev rawC (c cap : Nat → Nat) (w i : Nat) : PV := .s (.slice (some ⟨c i, 0, none⟩) w (cap i))
abbrev jnk (q : Nat) : List PV := List.replicate q .junk
structure RowsC (m : Mem) (c q : Nat → Nat) (n w : Nat) (M : Nat → Nat → Fr) : Prop where
  row : ∀ i, i < n → m (c i) = some (flat (frs (rowM w M i)) ++ jnk (q i))
  inj : ∀ i j, i < n → j < n → c i = c j → i = j
theorem flat_frs_drop {l : List Fr} {k : Nat} (post : List PV) (h : k ≤ l.length) : (flat (frs l) ++ post).drop (k * 3) = flat (frs (l.drop k)) ++ post := by
  have e : frs l = frs (l.take k) ++ frs (l.drop k) := by rw [← List.map_append, List.take_append_drop]
  have hl : (flat (frs (l.take k))).length = k * 3 := by
    rw [flat_length (frs_cells _), List.length_map, List.length_take, Nat.min_eq_left h]
  rw [e, flat_append, List.append_assoc, ← hl, List.drop_left]
theorem flat_frs_take {l : List Fr} {k : Nat} (post : List PV) (h : k ≤ l.length) : (flat (frs l) ++ post).take (k * 3) = flat (frs (l.take k)) := by
  have e : frs l = frs (l.take k) ++ frs (l.drop k) := by rw [← List.map_append, List.take_append_drop]
  have hl : (flat (frs (l.take k))).length = k * 3 := by
    rw [flat_length (frs_cells _), List.length_map, List.length_take, Nat.min_eq_left h]
  conv => lhs; rw [e, flat_append, List.append_assoc, ← hl, List.take_left]
/-- The rest of a row in memory, told as a value. -/
theorem tell_rest {m : Mem} {b cap k : Nat} {l : List Fr} {post : List PV} (hm : m b = some (flat (frs l) ++ post)) (hk : k ≤ l.length) (hc : l.length ≤ cap) : Tell m (.s (.slice (some ⟨b, k * 3, none⟩) (l.length - k) (cap - k))) (.sl false (frs (l.drop k))) := by
  have hd := flat_frs_drop (l := l) (k := k) post hk
  have hl3 : (flat (frs (l.drop k))).length = (l.length - k) * 3 := by rw [flat_length (frs_cells _), List.length_map, List.length_drop]
  refine .row hm (frs_cells _) (by simp) ?_ (by omega) (fun h => by cases h) ?_
  · rw [List.length_append, hl3, flat_length (frs_cells _), List.length_map, Nat.sub_mul]
    have : k * 3 ≤ l.length * 3 := Nat.mul_le_mul_right _ hk
    omega
  · rw [hd, List.take_left]
    exact Tells.same _ _

theorem ldM_frj {l : List Fr} {k : Nat} {x : Fr} {post : List PV} (h : l[k]? = some x) : ldM true 3 (k * 3) (flat (frs l) ++ post) = some (.v (frV x)) :=
  ldM_elem (els := frs l) (sz := 3) (k := k) (e := frV x) (frs_cells l) (by simp [h]) post
theorem stM_frj {l : List Fr} {k : Nat} {x : Fr} {post : List PV} (h : k < l.length) : stM 3 (k * 3) (flat (frs l) ++ post) (frV x) = some (flat (frs (l.set k x)) ++ post) := by
  have := stM_elem (els := frs l) (sz := 3) (k := k) (e := frV x) (frs_cells l) (by simpa using h) rfl rfl post
  rw [this]
  simp [frs, List.map_set]
theorem frs_ok (l : List Fr) : (frs l).all (fun e => e.ok && e.cells.length == 3) = true := by
  rw [List.all_eq_true]
  intro e he
  obtain ⟨x, _, rfl⟩ := List.mem_map.1 he
  rfl
theorem methSign : Meth Tryz.prog 32 "Sign" 217 := by
  intro v xs w
  rfl
theorem methNeg : Meth Tryz.prog 32 "Neg" 214 := by
  intro v xs w
  rfl

/-! ### One column folded -/
def xF (w : Nat) (M : Nat → Nat → Fr) (k : Nat) : List Fr := (rowM w M k).drop k
def normF (w : Nat) (M : Nat → Nat → Fr) (k : Nat) : Fr := if 0 ≤ signF (M k k) then negF (rootF (dotF (xF w M k) (xF w M k))) else rootF (dotF (xF w M k) (xF w M k))
def vA (w : Nat) (M : Nat → Nat → Fr) (k c : Nat) : Fr := if c = k then subF (M k k) (normF w M k) else M k c
def vF (w : Nat) (M : Nat → Nat → Fr) (k : Nat) : List Fr := ((List.range w).map (vA w M k)).drop k
def tF (w : Nat) (M : Nat → Nat → Fr) (k i : Nat) : Fr := divF (addF (dotF ((rowM w M i).drop k) (vF w M k)) (dotF ((rowM w M i).drop k) (vF w M k))) (dotF (vF w M k) (vF w M k))
def foldTo (w : Nat) (M : Nat → Nat → Fr) (k j : Nat) : Nat → Nat → Fr := fun a c => if k < a ∧ a < j ∧ k ≤ c then subF (M a c) (mulF (vA w M k c) (tF w M k a)) else M a c
/-- Row k's first numbers are noughts: so many of them. -/
def foldZ (w : Nat) (M : Nat → Nat → Fr) (k n z : Nat) : Nat → Nat → Fr := fun a c => if a = k then (if k ≤ c ∧ c < k + z then newF 0 1 else M k c) else foldTo w M k n a c
def foldF (w : Nat) (M : Nat → Nat → Fr) (k n : Nat) : Nat → Nat → Fr := fun a c => if a = k then (if c < k then M k c else if c = k then normF w M k else newF 0 1) else foldTo w M k n a c
theorem vF_set {w k : Nat} (hk : k < w) (M : Nat → Nat → Fr) : (xF w M k).set 0 (subF (M k k) (normF w M k)) = vF w M k := by
  unfold xF vF rowM
  apply List.ext_getElem?
  intro j
  rw [List.getElem?_set]
  by_cases hj : k + j < w
  · by_cases e : 0 = j
    · subst e
      rw [if_pos rfl, if_pos (by simp; omega)]
      simp [vA, hk]
    · rw [if_neg e]
      simp only [List.getElem?_drop, List.getElem?_map, List.getElem?_range hj, Option.map_some, vA]
      rw [if_neg (by omega)]
  · rw [if_neg (by omega), List.getElem?_eq_none (by simp; omega), List.getElem?_eq_none (by simp; omega)]
theorem vF_len {w k : Nat} (M : Nat → Nat → Fr) : (vF w M k).length = w - k := by simp [vF]
theorem xF_len {w k : Nat} (M : Nat → Nat → Fr) : (xF w M k).length = w - k := by simp [xF, rowM_length]
/-- One row folded. -/
theorem foldTo_row (w : Nat) (M : Nat → Nat → Fr) (k i : Nat) : rowM w (foldTo w M k i) i = rowM w M i := by
  unfold rowM
  refine List.map_congr_left fun j _ => ?_
  unfold foldTo
  rw [if_neg (by omega)]
theorem row_fold {w k i : Nat} (hki : k < i) (M : Nat → Nat → Fr) : (rowM w M i).take k ++ List.zipWith subF ((rowM w M i).drop k) ((vF w M k).map (mulF · (tF w M k i))) = rowM w (foldTo w M k (i + 1)) i := by
  apply List.ext_getElem?
  intro j
  by_cases hj : j < w
  · rw [rowM_get hj]
    by_cases hjk : j < k
    · rw [List.getElem?_append_left (by rw [List.length_take, rowM_length]; omega), List.getElem?_take_of_lt hjk, rowM_get hj]
      unfold foldTo
      rw [if_neg (by omega)]
    · have hl : ((rowM w M i).take k).length = k := by rw [List.length_take, rowM_length]; omega
      rw [List.getElem?_append_right (by omega), hl, List.getElem?_zipWith]
      simp only [vF, List.getElem?_map, List.getElem?_drop, show k + (j - k) = j by omega, rowM_get hj, List.getElem?_range hj, Option.map_some]
      unfold foldTo
      rw [if_pos (by omega)]
  · rw [List.getElem?_eq_none (by simp [rowM_length, vF_len]; omega), List.getElem?_eq_none (by rw [rowM_length]; omega)]
/-- One row more is folded. -/
theorem RowsC.fold {mm : Mem} {c q : Nat → Nat} {n w k i : Nat} {M : Nat → Nat → Fr} (h : RowsC mm c q n w (foldTo w M k i)) (hi : i < n) (hki : k < i) :
    RowsC (mm.put (c i) (flat (frs (rowM w (foldTo w M k (i + 1)) i)) ++ jnk (q i))) c q n w (foldTo w M k (i + 1)) := ⟨fun a ha => by
  by_cases e : a = i
  · subst e
    rw [Mem.put_same]
  · rw [Mem.put_other _ _ (fun e' => e (h.inj a i ha hi e')), h.row a ha]
    congr 3
    unfold rowM
    congr 1
    refine List.map_congr_left fun j _ => ?_
    unfold foldTo
    by_cases h1 : k < a ∧ a < i ∧ k ≤ j
    · rw [if_pos h1, if_pos (by omega)]
    · rw [if_neg h1, if_neg (by omega)], h.inj⟩
theorem foldTo_first (w : Nat) (M : Nat → Nat → Fr) (k : Nat) : foldTo w M k (k + 1) = M := by
  funext a c
  unfold foldTo
  rw [if_neg (by omega)]
theorem RowsC.congr {mm : Mem} {c q : Nat → Nat} {n w : Nat} {M N : Nat → Nat → Fr} (h : RowsC mm c q n w M) (hMN : ∀ a j, a < n → j < w → M a j = N a j) : RowsC mm c q n w N := ⟨fun a ha => by
  have e : rowM w N a = rowM w M a := by
    unfold rowM
    exact List.map_congr_left fun j hj => (hMN a j ha (List.mem_range.1 hj)).symm
  rw [e]
  exact h.row a ha, h.inj⟩
theorem RowsC.store {mm : Mem} {c q : Nat → Nat} {n w : Nat} {M : Nat → Nat → Fr} (h : RowsC mm c q n w M) {i k : Nat} (hi : i < n) (hk : k < w) (x : Fr) :
    RowsC (mm.put (c i) (flat (frs ((rowM w M i).set k x)) ++ jnk (q i))) c q n w (setM M i k x) := ⟨fun j hj => by
  by_cases e : j = i
  · subst e
    rw [Mem.put_same, rowM_set hk]
  · rw [Mem.put_other _ _ (fun e' => e (h.inj j i hj hi e')), rowM_other e]
    exact h.row j hj, h.inj⟩
theorem foldZ_step (w : Nat) (M : Nat → Nat → Fr) (k n z : Nat) : setM (foldZ w M k n z) k (k + z) (newF 0 1) = foldZ w M k n (z + 1) := by
  funext a j
  unfold setM foldZ
  by_cases e : a = k
  · subst e
    by_cases e2 : j = a + z
    · subst e2
      rw [if_pos ⟨rfl, rfl⟩, if_pos rfl, if_pos ⟨by omega, by omega⟩]
    · rw [if_neg (fun h => e2 h.2), if_pos rfl, if_pos rfl]
      by_cases h : a ≤ j ∧ j < a + z
      · rw [if_pos h, if_pos (by omega)]
      · rw [if_neg h, if_neg (by omega)]
  · rw [if_neg (fun h => e h.1), if_neg e, if_neg e]
set_option maxHeartbeats 4000000 in
theorem okm140 (ex : Bool) (n w k : Nat) (hkn : k < n) (hnw : n ≤ w) (hw : w ≤ 16) (M : Nat → Nat → Fr) (c cap q : Nat → Nat) (hcap : ∀ i, i < n → w ≤ cap i) (m : Mem) (hm : RowsC m c q n w M) :
    OkM Tryz.prog 140 [.sl ex ((List.range n).map (rawC c cap w)), num k] m (fun _ m' => RowsC m' c q n w (foldF w M k n)) := by
  have h0 : (0 : Int) ≤ (k : Int) := by omega
  have g1 : ((List.range n).map (rawC c cap w))[k]? = some (rawC c cap w k) := by simp [hkn]
  have ck := hcap k hkn
  have ne : (cap k = k) = False := by simp; omega
  have s1 : (k ≤ w) = True := by simp; omega
  have s2 : (w ≤ cap k) = True := by simp; omega
  refine okm_fn mixed Tryz.func140 (code := ?_) (h := h140) ?_ k140 ?_
  rotate_left
  · exact rfl
  unfold h140 initS
  simp -implicitDefEqProofs only [rkA, rkB, stepA, valA, simprocAttr, Tryz.ntmps140, Tryz.results140]
  have im : (False → False) = True := by simp
  simp -implicitDefEqProofs only [h0, Int.toNat_natCast, g1, ne, s1, s2, im, addr_add, rkA, rkB, stepA, valA, simprocAttr]
  have hl : (rowM w M k).length = w := rowM_length _ _ _
  have hx : Tell m (.s (.slice (some ⟨c k, k * 3, none⟩) (w - k) (cap k - k))) (.sl false (frs (xF w M k))) := by
    have := tell_rest (m := m) (b := c k) (cap := cap k) (k := k) (l := rowM w M k) (hm.row k hkn) (by omega) (by omega)
    rwa [hl] at this
  have lx := xF_len (w := w) (k := k) M
  refine lend_fn rfl rfl (.cons hx (.cons hx .nil)) (ok76 false false _ _ (by omega) (by omega)) rfl ?_
  simp -implicitDefEqProofs only [rkA, rkB, stepA, valA, simprocAttr]
  refine call_meth rfl rfl methRoot (ok216 _) ?_
  have hw0 : (0 < ((w - k : Nat) : Int)) = True := by simp; omega
  have hrk := hm.row k hkn
  have hld := ldM_frj (post := jnk (q k)) (rowM_get (n := w) (M := M) (i := k) (k := k) (by omega))
  simp -implicitDefEqProofs only [hw0, Nat.add_zero, hrk, hld, rkA, rkB, stepA, valA, simprocAttr]
  refine call_meth rfl rfl methSign (ok217 _) ?_
  simp -implicitDefEqProofs only [rkA, rkB, stepA, valA, simprocAttr]
  refine gB_dec ?_ ?_ <;> intro hs <;> simp -implicitDefEqProofs only [hs, rkA, rkB, stepA, valA, simprocAttr]
  rotate_left
  have hp : rootF (dotF (xF w M k) (xF w M k)) = normF w M k := (if_neg hs).symm
  simp -implicitDefEqProofs only [hp, rkA, rkB, stepA, valA, simprocAttr]
  rotate_left
  refine call_meth rfl rfl methNeg (ok214 _) ?_
  have hp : negF (rootF (dotF (xF w M k) (xF w M k))) = normF w M k := (if_pos hs).symm
  simp -implicitDefEqProofs only [hp, rkA, rkB, stepA, valA, simprocAttr]
  all_goals
    refine new_make (T := 24) (N := 3) rfl rfl rfl rfl rfl (by omega) (by omega) (by omega) ?_
    intro b hb
    have hb' : m b = none := hb
    have hcb : ∀ i, i < n → c i ≠ b := fun i hi e => by have := hm.row i hi; rw [e, hb'] at this; cases this
    simp -implicitDefEqProofs only [Int.toNat_natCast, flat_zeros, rkA, rkB, stepA, valA, simprocAttr]
    have hxb := hx.mono (MemLe.put (flat (frs (List.replicate (w - k) (⟨0, 0, false⟩ : Fr)))) hb')
    have lz : (flat (frs (List.replicate (w - k) (⟨0, 0, false⟩ : Fr)))).length = (w - k) * 3 := by rw [flat_length (frs_cells _)]; simp
    have lfx : (flat (frs (xF w M k))).length = (w - k) * 3 := by rw [flat_length (frs_cells _)]; simp [lx]
    refine copy_of rfl rfl hxb (RFs_frs _) (Mem.put_same _ _ _) (frs_ok _) (by simp [lx]) (by rw [lz, lfx]; omega) ?_
    have hdr : (flat (frs (List.replicate (w - k) (⟨0, 0, false⟩ : Fr)))).drop (flat (frs (xF w M k))).length = [] := List.drop_of_length_le (by rw [lz, lfx]; omega)
    have h00 : (0 : Int) < ((w - k : Nat) : Int) := by omega
    have gx0 : (xF w M k)[0]? = some (M k k) := by
      unfold xF
      rw [List.getElem?_drop]
      exact rowM_get (by omega)
    have hl0 := ldM_frj (post := []) (k := 0) gx0
    have hs0 := stM_frj (l := xF w M k) (k := 0) (x := subF (M k k) (normF w M k)) (post := []) (by omega)
    rw [Nat.zero_mul, List.append_nil] at hl0 hs0
    rw [List.append_nil, vF_set (by omega)] at hs0
    simp -implicitDefEqProofs only [hdr, Mem.put_same, h00, hl0, List.length_map, lx, rkA, rkB, stepA, valA, simprocAttr]
    refine call_meth rfl rfl methSub (ok218 _ _) ?_
    simp -implicitDefEqProofs only [Mem.put_same, h00, hs0, rkA, rkB, stepA, valA, simprocAttr]
    have hbm : (((m.put b (flat (frs (List.replicate (w - k) (⟨0, 0, false⟩ : Fr))))).put b (flat (frs (xF w M k)))).put b (flat (frs (vF w M k)))) b = some (flat (frs (vF w M k))) := Mem.put_same _ _ _
    have hM1 : RowsC (((m.put b (flat (frs (List.replicate (w - k) (⟨0, 0, false⟩ : Fr))))).put b (flat (frs (xF w M k)))).put b (flat (frs (vF w M k)))) c q n w (foldTo w M k (k + 1)) :=
      ⟨fun i hi => by
        rw [Mem.put_other _ _ (hcb i hi), Mem.put_other _ _ (hcb i hi), Mem.put_other _ _ (hcb i hi), foldTo_first]
        exact hm.row i hi, hm.inj⟩
    clear hxb hs0 hl0
    generalize ((m.put b _).put b _).put b _ = mm at hbm hM1 ⊢
    have hv : ∀ mm : Mem, mm b = some (flat (frs (vF w M k))) → Tell mm (.s (.slice (some ⟨b, 0, none⟩) (w - k) (w - k))) (.sl false (frs (vF w M k))) := fun mm hbm => by
      have := tell_row (m := mm) (b := b) (cap := w - k) (q := 0) (l := vF w M k) (by rw [hbm, List.replicate_zero, List.append_nil]) (by rw [List.length_map, vF_len]; omega)
      rwa [List.length_map, vF_len] at this
    have lv := vF_len (w := w) (k := k) M
    refine lend_fn rfl rfl (.cons (hv mm hbm) (.cons (hv mm hbm) .nil)) (ok76 false false _ _ (by omega) (by omega)) rfl ?_
    have hw1 := wrapped (x := ((k + 1 : Nat) : Int)) (by omega) (by omega)
    have hk1 : (k : Int) + 1 = ((k + 1 : Nat) : Int) := by simp
    simp -implicitDefEqProofs only [hw1, hk1, rkA, rkB, stepA, valA, simprocAttr]
    refine wp_loop (fun m s => ∃ (i : Nat) (mm : Mem), k < i ∧ i + m = n ∧ RowsC mm c q n w (foldTo w M k i) ∧ mm b = some (flat (frs (vF w M k))) ∧ s = ⟨[.v (.sl ex ((List.range n).map (rawC c cap w))), .v (num k), jk, jk, .v (.s (.slice (some ⟨c k, k * 3, none⟩) (w - k) (cap k - k))), .ptr 5 0, .v (.s (.slice (some ⟨b, 0, none⟩) (w - k) (w - k))), .ptr 7 0, nt i, jk, jk, jk, jk, jk, jk, jk, jk, jk, jk, jk, jk, jk, jk, jk, jk, jk, jk, jk, jk, jk, jk, jk, jk, jk, jk, jk, jk, jk, jk, jk, jk, jk, jk, jk, jk, jk, jk, jk, jk, jk, jk, jk, jk, jk, jk, jk, jk, jk, jk, jk, jk, jk, jk, jk, jk, jk, jk, jk, jk, jk, jk, jk, jk, jk, jk, jk, jk, jk, jk, jk, jk, jk, jk, jk, jk, jk, jk, jk, jk, jk, jk, jk, jk, jk, jk],
      [(5, [.v (num (normF w M k).n), .v (num (normF w M k).d), .v (tru (normF w M k).bad)]), (7, [.v (num (dotF (vF w M k) (vF w M k)).n), .v (num (dotF (vF w M k) (vF w M k)).d), .v (tru (dotF (vF w M k) (vF w M k)).bad)])], [], [], [], 0, mm⟩) (n - (k + 1)) ?_ ?_
    · simp -implicitDefEqProofs only [rkA, rkB, stepA, valA, simprocAttr]
      exact ⟨k + 1, mm, by omega, by omega, hM1, hbm, rfl⟩
    clear hM1 hbm mm
    rintro m' s ⟨i, mm, hki, him, hM, hbm, rfl⟩
    have li : ((List.range n).map (rawC c cap w)).length = n := by simp
    simp -implicitDefEqProofs only [li, rkA, rkB, stepA, valA, simprocAttr]
    refine gB_dec ?_ ?_ <;> intro hc <;> simp -implicitDefEqProofs only [hc, rkA, rkB, stepA, valA, simprocAttr]
    · have hi : i < n := by omega
      have h0i : (0 : Int) ≤ (i : Int) := by omega
      have gi : ((List.range n).map (rawC c cap w))[i]? = some (rawC c cap w i) := by simp [hi]
      have ci := hcap i hi
      have nei : (cap i = k) = False := by simp; omega
      have s2i : (w ≤ cap i) = True := by simp; omega
      simp -implicitDefEqProofs only [h0i, h0, Int.toNat_natCast, gi, nei, s1, s2i, im, addr_add, rkA, rkB, stepA, valA, simprocAttr]
      have hri := hM.row i hi
      rw [foldTo_row] at hri
      have hli : (rowM w M i).length = w := rowM_length _ _ _
      have hxi := tell_rest (m := mm) (b := c i) (cap := cap i) (k := k) (l := rowM w M i) hri (by omega) (by omega)
      rw [hli] at hxi
      have hdl : ((rowM w M i).drop k).length = w - k := by rw [List.length_drop, hli]
      refine lend_fn rfl rfl (.cons hxi (.cons (hv mm hbm) .nil)) (ok76 false false _ _ (by omega) (by omega)) rfl ?_
      simp -implicitDefEqProofs only [rkA, rkB, stepA, valA, simprocAttr]
      refine call_meth rfl rfl methAdd (ok210 _ _) ?_
      simp -implicitDefEqProofs only [rkA, rkB, stepA, valA, simprocAttr]
      refine call_meth rfl rfl methDiv (ok211 _ _) ?_
      have et : divF (addF (dotF ((rowM w M i).drop k) (vF w M k)) (dotF ((rowM w M i).drop k) (vF w M k))) (dotF (vF w M k) (vF w M k)) = tF w M k i := rfl
      simp -implicitDefEqProofs only [et, rkA, rkB, stepA, valA, simprocAttr]
      have ne2 : frs ((vF w M k).map (mulF · (tF w M k i))) ≠ [] := fun h => by
        have := congrArg List.length h
        simp only [List.length_map, lv, List.length_nil] at this
        omega
      have ne3 : frs (List.zipWith subF ((rowM w M i).drop k) ((vF w M k).map (mulF · (tF w M k i)))) ≠ [] := fun h => by
        have := congrArg List.length h
        simp only [List.length_map, List.length_zipWith, lv, hdl, List.length_nil] at this
        omega
      refine newRow_fn rfl rfl (.cons (hv mm hbm) (.cons (.same _) .nil)) (okn123 false _ _ (by omega)) (RFs_frs _) ne2 ?_
      intro b2 cap2 q2 hb2 hcap2
      have hb2' : mm b2 = none := hb2
      simp -implicitDefEqProofs only [rkA, rkB, stepA, valA, simprocAttr]
      refine newRow_fn rfl rfl (.cons (hxi.mono (MemLe.put _ hb2')) (.cons (tell_row (Mem.put_same _ _ _) hcap2) .nil)) (okn163 false false _ _ (by omega) (by rw [List.length_map]; omega) (by omega) (by rw [List.length_map]; omega)) (RFs_frs _) ne3 ?_
      intro b3 cap3 q3 hb3 hcap3
      simp -implicitDefEqProofs only [rkA, rkB, stepA, valA, simprocAttr]
      have hb3' : (mm.put b2 (flat (frs ((vF w M k).map (mulF · (tF w M k i)))) ++ List.replicate q2 .junk)) b3 = none := hb3
      have hle : ∀ x y, mm x = some y → ((mm.put b2 (flat (frs ((vF w M k).map (mulF · (tF w M k i)))) ++ List.replicate q2 .junk)).put b3 (flat (frs (List.zipWith subF ((rowM w M i).drop k) ((vF w M k).map (mulF · (tF w M k i))))) ++ List.replicate q3 PV.junk)) x = some y := fun x y h =>
        MemLe.put _ hb3' _ _ (MemLe.put _ hb2' _ _ h)
      have hrow3 : ((mm.put b2 (flat (frs ((vF w M k).map (mulF · (tF w M k i)))) ++ List.replicate q2 .junk)).put b3 (flat (frs (List.zipWith subF ((rowM w M i).drop k) ((vF w M k).map (mulF · (tF w M k i))))) ++ List.replicate q3 PV.junk)) b3 = some (flat (frs (List.zipWith subF ((rowM w M i).drop k) ((vF w M k).map (mulF · (tF w M k i))))) ++ List.replicate q3 PV.junk) := Mem.put_same _ _ _
      clear hb2 hb3 hb2' hb3' hxi
      generalize ((mm.put b2 _).put b3 _) = mm2 at hle hrow3 ⊢
      have hM2 : RowsC mm2 c q n w (foldTo w M k i) := ⟨fun a ha => hle _ _ (hM.row a ha), hM.inj⟩
      have hbm2 := hle _ _ hbm
      have hri2 := hle _ _ hri
      have lz : (List.zipWith subF ((rowM w M i).drop k) ((vF w M k).map (mulF · (tF w M k i)))).length = w - k := by rw [List.length_zipWith, List.length_map, hdl, lv, Nat.min_self]
      have lfz : (flat (frs (List.zipWith subF ((rowM w M i).drop k) ((vF w M k).map (mulF · (tF w M k i)))))).length = (w - k) * 3 := by rw [flat_length (frs_cells _), List.length_map, lz]
      have lfr : (flat (frs (rowM w M i))).length = w * 3 := by rw [flat_length (frs_cells _), List.length_map, hli]
      refine copy_of rfl rfl (tell_row hrow3 hcap3) (RFs_frs _) hri2 (frs_ok _) (by rw [List.length_map, lz]; omega) (by rw [List.length_append, lfz, lfr]; omega) ?_
      have hcells : (flat (frs (rowM w M i)) ++ jnk (q i)).take (k * 3) ++ flat (frs (List.zipWith subF ((rowM w M i).drop k) ((vF w M k).map (mulF · (tF w M k i))))) ++ (flat (frs (rowM w M i)) ++ jnk (q i)).drop (k * 3 + (flat (frs (List.zipWith subF ((rowM w M i).drop k) ((vF w M k).map (mulF · (tF w M k i)))))).length) = flat (frs (rowM w (foldTo w M k (i + 1)) i)) ++ jnk (q i) := by
        rw [flat_frs_take _ (by omega), lfz, ← flat_append, ← List.map_append, row_fold hki, show k * 3 + (w - k) * 3 = w * 3 by omega, ← lfr, List.drop_left]
      have hM3 := hM2.fold hi hki
      have hcb2 := hcb i hi
      have hbm3 : (mm2.put (c i) (flat (frs (rowM w (foldTo w M k (i + 1)) i)) ++ jnk (q i))) b = some (flat (frs (vF w M k))) := by rw [Mem.put_other _ _ (fun e => hcb2 e.symm)]; exact hbm2
      have hw2 := wrapped (x := (i : Int) + 1) (by omega) (by omega)
      simp -implicitDefEqProofs only [hcells, hw2, rkA, rkB, stepA, valA, simprocAttr]
      refine loopK_of (m' := m' - 1) (by omega) ?_
      simp -implicitDefEqProofs only [rkA, rkB, stepA, valA, simprocAttr]
      exact ⟨i + 1, _, by omega, by omega, hM3, hbm3, by simp only [Int.natCast_add, Int.natCast_one]⟩
    · have hin : i = n := by omega
      subst hin
      have hM0 : RowsC mm c q i w (foldZ w M k i 0) := hM.congr fun a j ha hj => by
        unfold foldZ
        by_cases e : a = k
        · subst e
          rw [if_pos rfl, if_neg (by omega)]
          unfold foldTo
          rw [if_neg (by omega)]
        · rw [if_neg e]
      clear hM hbm
      refine wp_loop (fun m s => ∃ (z : Nat) (mm : Mem), z + m = w - k ∧ RowsC mm c q i w (foldZ w M k i z) ∧ s = ⟨[jk, jk, jk, jk, .v (.s (.slice (some ⟨c k, k * 3, none⟩) (w - k) (cap k - k))), .ptr 5 0, jk, jk, jk, jk, jk, jk, jk, jk, jk, jk, jk, jk, jk, jk, jk, jk, jk, jk, jk, jk, jk, jk, jk, jk, jk, jk, jk, jk, jk, jk, jk, jk, jk, jk, jk, jk, jk, jk, jk, jk, jk, jk, jk, jk, jk, jk, jk, jk, jk, jk, jk, jk, jk, jk, jk, jk, jk, jk, jk, jk, jk, jk, jk, jk, jk, jk, jk, jk, jk, jk, jk, jk, jk, jk, jk, nt ((w - k : Nat) : Int), nt z, jk, jk, jk, jk, jk, jk, jk, jk, jk, jk, jk, jk],
        [(5, [.v (num (normF w M k).n), .v (num (normF w M k).d), .v (tru (normF w M k).bad)]), (7, [.v (num (dotF (vF w M k) (vF w M k)).n), .v (num (dotF (vF w M k) (vF w M k)).d), .v (tru (dotF (vF w M k) (vF w M k)).bad)])], [], [], [], 0, mm⟩) (w - k) ?_ ?_
      · simp -implicitDefEqProofs only [rkA, rkB, stepA, valA, simprocAttr]
        exact ⟨0, mm, by omega, hM0, rfl⟩
      clear hM0 mm
      rintro m' s ⟨z, mm, hzm, hM, rfl⟩
      simp -implicitDefEqProofs only [rkA, rkB, stepA, valA, simprocAttr]
      refine gB_dec ?_ ?_ <;> intro hc2 <;> simp -implicitDefEqProofs only [hc2, rkA, rkB, stepA, valA, simprocAttr]
      · refine call_meth rfl rfl methOf (ok215 _ 0) ?_
        have h0z : (0 : Int) ≤ (z : Int) := by omega
        have hrz := hM.row k hkn
        have hst := stM_frj (l := rowM w (foldZ w M k i z) k) (k := k + z) (x := newF 0 1) (post := jnk (q k)) (by rw [rowM_length]; omega)
        rw [Nat.add_mul] at hst
        have hsto := hM.store hkn (show k + z < w by omega) (newF 0 1)
        have hw2 := wrapped (x := (z : Int) + 1) (by omega) (by omega)
        simp -implicitDefEqProofs only [h0z, hc2, Int.toNat_natCast, addr_add, hrz, hst, hw2, rkA, rkB, stepA, valA, simprocAttr]
        refine loopK_of (m' := m' - 1) (by omega) ?_
        simp -implicitDefEqProofs only [rkA, rkB, stepA, valA, simprocAttr]
        rw [foldZ_step] at hsto
        exact ⟨z + 1, _, by omega, hsto, by simp only [Int.natCast_add, Int.natCast_one]⟩
      · have hz : z = w - k := by omega
        subst hz
        have hrz := hM.row k hkn
        have hst := stM_frj (l := rowM w (foldZ w M k i (w - k)) k) (k := k) (x := normF w M k) (post := jnk (q k)) (by rw [rowM_length]; omega)
        have hsto := hM.store hkn (show k < w by omega) (normF w M k)
        simp -implicitDefEqProofs only [hw0, Nat.add_zero, addr_add, hrz, hst, rkA, rkB, stepA, valA, simprocAttr]
        refine ⟨_, rfl, hsto.congr fun a j ha hj => ?_⟩
        unfold setM foldZ foldF
        by_cases e : a = k
        · subst e
          by_cases e2 : j = a
          · subst e2
            rw [if_pos ⟨rfl, rfl⟩, if_pos rfl, if_neg (by omega), if_pos rfl]
          · rw [if_neg (fun h => e2 h.2), if_pos rfl, if_pos rfl, if_neg e2]
            by_cases h : j < a
            · rw [if_neg (by omega), if_pos h]
            · rw [if_pos (by omega), if_neg h]
        · rw [if_neg (fun h => e h.1), if_neg e, if_neg e]
end Go.Proofs.YtbflmeomkfjikaaGreat.A


set_option linter.unusedVariables false
set_option linter.unusedSimpArgs false
set_option maxRecDepth 100000
namespace Go.Proofs.YtbflmeomkfjikaaGreat.A.E
open Go Go.RowKit Go.Shelf

structure RowsC (m : Mem) (c q : Nat → Nat) (n w : Nat) (M : Nat → Nat → Fr) : Prop where
  row : ∀ i, i < n → m (c i) = some (flat (frs (rowM w M i)) ++ jnk (q i))
  inj : ∀ i j, i < n → j < n → c i = c j → i = j
theorem flat_frs_drop {l : List Fr} {k : Nat} (post : List PV) (h : k ≤ l.length) : (flat (frs l) ++ post).drop (k * 4) = flat (frs (l.drop k)) ++ post := by
  have e : frs l = frs (l.take k) ++ frs (l.drop k) := by rw [← List.map_append, List.take_append_drop]
  have hl : (flat (frs (l.take k))).length = k * 4 := by
    rw [flat_length (frs_cells _), List.length_map, List.length_take, Nat.min_eq_left h]
  rw [e, flat_append, List.append_assoc, ← hl, List.drop_left]
theorem flat_frs_take {l : List Fr} {k : Nat} (post : List PV) (h : k ≤ l.length) : (flat (frs l) ++ post).take (k * 4) = flat (frs (l.take k)) := by
  have e : frs l = frs (l.take k) ++ frs (l.drop k) := by rw [← List.map_append, List.take_append_drop]
  have hl : (flat (frs (l.take k))).length = k * 4 := by
    rw [flat_length (frs_cells _), List.length_map, List.length_take, Nat.min_eq_left h]
  conv => lhs; rw [e, flat_append, List.append_assoc, ← hl, List.take_left]
/-- The rest of a row in memory, told as a value. -/
theorem tell_rest {m : Mem} {b cap k : Nat} {l : List Fr} {post : List PV} (hm : m b = some (flat (frs l) ++ post)) (hk : k ≤ l.length) (hc : l.length ≤ cap) : Tell m (.s (.slice (some ⟨b, k * 4, none⟩) (l.length - k) (cap - k))) (.sl false (frs (l.drop k))) := by
  have hd := flat_frs_drop (l := l) (k := k) post hk
  have hl3 : (flat (frs (l.drop k))).length = (l.length - k) * 4 := by rw [flat_length (frs_cells _), List.length_map, List.length_drop]
  refine .row hm (frs_cells _) (by simp) ?_ (by omega) (fun h => by cases h) ?_
  · rw [List.length_append, hl3, flat_length (frs_cells _), List.length_map, Nat.sub_mul]
    have : k * 4 ≤ l.length * 4 := Nat.mul_le_mul_right _ hk
    omega
  · rw [hd, List.take_left]
    exact Tells.same _ _

theorem ldM_frj {l : List Fr} {k : Nat} {x : Fr} {post : List PV} (h : l[k]? = some x) : ldM true 4 (k * 4) (flat (frs l) ++ post) = some (.v (frV x)) :=
  ldM_elem (els := frs l) (sz := 4) (k := k) (e := frV x) (frs_cells l) (by simp [h]) post
theorem stM_frj {l : List Fr} {k : Nat} {x : Fr} {post : List PV} (h : k < l.length) : stM 4 (k * 4) (flat (frs l) ++ post) (frV x) = some (flat (frs (l.set k x)) ++ post) := by
  have := stM_elem (els := frs l) (sz := 4) (k := k) (e := frV x) (frs_cells l) (by simpa using h) rfl rfl post
  rw [this]
  simp [frs, List.map_set]
theorem frs_ok (l : List Fr) : (frs l).all (fun e => e.ok && e.cells.length == 4) = true := by
  rw [List.all_eq_true]
  intro e he
  obtain ⟨x, _, rfl⟩ := List.mem_map.1 he
  rfl
theorem methSign : Meth Tryz.prog 40 "Sign" 34 := by
  intro v xs w
  rfl
theorem methNeg : Meth Tryz.prog 40 "Neg" 36 := by
  intro v xs w
  rfl

def xF (w : Nat) (M : Nat → Nat → Fr) (k : Nat) : List Fr := (rowM w M k).drop k
def normF (w : Nat) (M : Nat → Nat → Fr) (k : Nat) : Fr := if 0 ≤ signF (M k k) then negF (rootF (dotF (xF w M k) (xF w M k))) else rootF (dotF (xF w M k) (xF w M k))
def vA (w : Nat) (M : Nat → Nat → Fr) (k c : Nat) : Fr := if c = k then subF (M k k) (normF w M k) else M k c
def vF (w : Nat) (M : Nat → Nat → Fr) (k : Nat) : List Fr := ((List.range w).map (vA w M k)).drop k
def tF (w : Nat) (M : Nat → Nat → Fr) (k i : Nat) : Fr := divF (addF (dotF ((rowM w M i).drop k) (vF w M k)) (dotF ((rowM w M i).drop k) (vF w M k))) (dotF (vF w M k) (vF w M k))
def foldTo (w : Nat) (M : Nat → Nat → Fr) (k j : Nat) : Nat → Nat → Fr := fun a c => if k < a ∧ a < j ∧ k ≤ c then subF (M a c) (mulF (vA w M k c) (tF w M k a)) else M a c
/-- Row k's first numbers are noughts: so many of them. -/
def foldZ (w : Nat) (M : Nat → Nat → Fr) (k n z : Nat) : Nat → Nat → Fr := fun a c => if a = k then (if k ≤ c ∧ c < k + z then newF 0 1 else M k c) else foldTo w M k n a c
def foldF (w : Nat) (M : Nat → Nat → Fr) (k n : Nat) : Nat → Nat → Fr := fun a c => if a = k then (if c < k then M k c else if c = k then normF w M k else newF 0 1) else foldTo w M k n a c
theorem vF_set {w k : Nat} (hk : k < w) (M : Nat → Nat → Fr) : (xF w M k).set 0 (subF (M k k) (normF w M k)) = vF w M k := by
  unfold xF vF rowM
  apply List.ext_getElem?
  intro j
  rw [List.getElem?_set]
  by_cases hj : k + j < w
  · by_cases e : 0 = j
    · subst e
      rw [if_pos rfl, if_pos (by simp; omega)]
      simp [vA, hk]
    · rw [if_neg e]
      simp only [List.getElem?_drop, List.getElem?_map, List.getElem?_range hj, Option.map_some, vA]
      rw [if_neg (by omega)]
  · rw [if_neg (by omega), List.getElem?_eq_none (by simp; omega), List.getElem?_eq_none (by simp; omega)]
theorem vF_len {w k : Nat} (M : Nat → Nat → Fr) : (vF w M k).length = w - k := by simp [vF]
theorem xF_len {w k : Nat} (M : Nat → Nat → Fr) : (xF w M k).length = w - k := by simp [xF, rowM_length]
/-- One row folded. -/
theorem foldTo_row (w : Nat) (M : Nat → Nat → Fr) (k i : Nat) : rowM w (foldTo w M k i) i = rowM w M i := by
  unfold rowM
  refine List.map_congr_left fun j _ => ?_
  unfold foldTo
  rw [if_neg (by omega)]
theorem row_fold {w k i : Nat} (hki : k < i) (M : Nat → Nat → Fr) : (rowM w M i).take k ++ List.zipWith subF ((rowM w M i).drop k) ((vF w M k).map (mulF · (tF w M k i))) = rowM w (foldTo w M k (i + 1)) i := by
  apply List.ext_getElem?
  intro j
  by_cases hj : j < w
  · rw [rowM_get hj]
    by_cases hjk : j < k
    · rw [List.getElem?_append_left (by rw [List.length_take, rowM_length]; omega), List.getElem?_take_of_lt hjk, rowM_get hj]
      unfold foldTo
      rw [if_neg (by omega)]
    · have hl : ((rowM w M i).take k).length = k := by rw [List.length_take, rowM_length]; omega
      rw [List.getElem?_append_right (by omega), hl, List.getElem?_zipWith]
      simp only [vF, List.getElem?_map, List.getElem?_drop, show k + (j - k) = j by omega, rowM_get hj, List.getElem?_range hj, Option.map_some]
      unfold foldTo
      rw [if_pos (by omega)]
  · rw [List.getElem?_eq_none (by simp [rowM_length, vF_len]; omega), List.getElem?_eq_none (by rw [rowM_length]; omega)]
/-- One row more is folded. -/
theorem RowsC.fold {mm : Mem} {c q : Nat → Nat} {n w k i : Nat} {M : Nat → Nat → Fr} (h : RowsC mm c q n w (foldTo w M k i)) (hi : i < n) (hki : k < i) :
    RowsC (mm.put (c i) (flat (frs (rowM w (foldTo w M k (i + 1)) i)) ++ jnk (q i))) c q n w (foldTo w M k (i + 1)) := ⟨fun a ha => by
  by_cases e : a = i
  · subst e
    rw [Mem.put_same]
  · rw [Mem.put_other _ _ (fun e' => e (h.inj a i ha hi e')), h.row a ha]
    congr 3
    unfold rowM
    congr 1
    refine List.map_congr_left fun j _ => ?_
    unfold foldTo
    by_cases h1 : k < a ∧ a < i ∧ k ≤ j
    · rw [if_pos h1, if_pos (by omega)]
    · rw [if_neg h1, if_neg (by omega)], h.inj⟩
theorem foldTo_first (w : Nat) (M : Nat → Nat → Fr) (k : Nat) : foldTo w M k (k + 1) = M := by
  funext a c
  unfold foldTo
  rw [if_neg (by omega)]
theorem RowsC.congr {mm : Mem} {c q : Nat → Nat} {n w : Nat} {M N : Nat → Nat → Fr} (h : RowsC mm c q n w M) (hMN : ∀ a j, a < n → j < w → M a j = N a j) : RowsC mm c q n w N := ⟨fun a ha => by
  have e : rowM w N a = rowM w M a := by
    unfold rowM
    exact List.map_congr_left fun j hj => (hMN a j ha (List.mem_range.1 hj)).symm
  rw [e]
  exact h.row a ha, h.inj⟩
theorem RowsC.store {mm : Mem} {c q : Nat → Nat} {n w : Nat} {M : Nat → Nat → Fr} (h : RowsC mm c q n w M) {i k : Nat} (hi : i < n) (hk : k < w) (x : Fr) :
    RowsC (mm.put (c i) (flat (frs ((rowM w M i).set k x)) ++ jnk (q i))) c q n w (setM M i k x) := ⟨fun j hj => by
  by_cases e : j = i
  · subst e
    rw [Mem.put_same, rowM_set hk]
  · rw [Mem.put_other _ _ (fun e' => e (h.inj j i hj hi e')), rowM_other e]
    exact h.row j hj, h.inj⟩
theorem foldZ_step (w : Nat) (M : Nat → Nat → Fr) (k n z : Nat) : setM (foldZ w M k n z) k (k + z) (newF 0 1) = foldZ w M k n (z + 1) := by
  funext a j
  unfold setM foldZ
  by_cases e : a = k
  · subst e
    by_cases e2 : j = a + z
    · subst e2
      rw [if_pos ⟨rfl, rfl⟩, if_pos rfl, if_pos ⟨by omega, by omega⟩]
    · rw [if_neg (fun h => e2 h.2), if_pos rfl, if_pos rfl]
      by_cases h : a ≤ j ∧ j < a + z
      · rw [if_pos h, if_pos (by omega)]
      · rw [if_neg h, if_neg (by omega)]
  · rw [if_neg (fun h => e h.1), if_neg e, if_neg e]
set_option maxHeartbeats 4000000 in
theorem okm91 (ex : Bool) (n w k : Nat) (hkn : k < n) (hnw : n ≤ w) (hw : w ≤ 16) (M : Nat → Nat → Fr) (c cap q : Nat → Nat) (hcap : ∀ i, i < n → w ≤ cap i) (m : Mem) (hm : RowsC m c q n w M) :
    OkM Tryz.prog 91 [.sl ex ((List.range n).map (rawC c cap w)), num k] m (fun _ m' => RowsC m' c q n w (foldF w M k n)) := by
  have h0 : (0 : Int) ≤ (k : Int) := by omega
  have g1 : ((List.range n).map (rawC c cap w))[k]? = some (rawC c cap w k) := by simp [hkn]
  have ck := hcap k hkn
  have ne : (cap k = k) = False := by simp; omega
  have s1 : (k ≤ w) = True := by simp; omega
  have s2 : (w ≤ cap k) = True := by simp; omega
  refine okm_fn mixed Tryz.func91 (code := ?_) (h := h91) ?_ k91 ?_
  rotate_left
  · exact rfl
  unfold h91 initS
  simp -implicitDefEqProofs only [rkA, rkB, stepA, valA, simprocAttr, Tryz.ntmps91, Tryz.results91]
  have im : (False → False) = True := by simp
  simp -implicitDefEqProofs only [h0, Int.toNat_natCast, g1, ne, s1, s2, im, addr_add, rkA, rkB, stepA, valA, simprocAttr]
  have hl : (rowM w M k).length = w := rowM_length _ _ _
  have hx : Tell m (.s (.slice (some ⟨c k, k * 4, none⟩) (w - k) (cap k - k))) (.sl false (frs (xF w M k))) := by
    have := tell_rest (m := m) (b := c k) (cap := cap k) (k := k) (l := rowM w M k) (hm.row k hkn) (by omega) (by omega)
    rwa [hl] at this
  have lx := xF_len (w := w) (k := k) M
  refine lend_fn rfl rfl (.cons hx (.cons hx .nil)) (ok81 false false _ _ (by omega) (by omega)) rfl ?_
  simp -implicitDefEqProofs only [rkA, rkB, stepA, valA, simprocAttr]
  refine call_meth rfl rfl methRoot (ok229 _) ?_
  have hw0 : (0 < ((w - k : Nat) : Int)) = True := by simp; omega
  have hrk := hm.row k hkn
  have hld := ldM_frj (post := jnk (q k)) (rowM_get (n := w) (M := M) (i := k) (k := k) (by omega))
  simp -implicitDefEqProofs only [hw0, Nat.add_zero, hrk, hld, rkA, rkB, stepA, valA, simprocAttr]
  refine call_meth rfl rfl methSign (ok34 _) ?_
  simp -implicitDefEqProofs only [rkA, rkB, stepA, valA, simprocAttr]
  refine gB_dec ?_ ?_ <;> intro hs <;> simp -implicitDefEqProofs only [hs, rkA, rkB, stepA, valA, simprocAttr]
  rotate_left
  have hp : rootF (dotF (xF w M k) (xF w M k)) = normF w M k := (if_neg hs).symm
  simp -implicitDefEqProofs only [hp, rkA, rkB, stepA, valA, simprocAttr]
  rotate_left
  refine call_meth rfl rfl methNeg (ok36 _) ?_
  have hp : negF (rootF (dotF (xF w M k) (xF w M k))) = normF w M k := (if_pos hs).symm
  simp -implicitDefEqProofs only [hp, rkA, rkB, stepA, valA, simprocAttr]
  all_goals
    refine new_make (T := 32) (N := 4) rfl rfl rfl rfl rfl (by omega) (by omega) (by omega) ?_
    intro b hb
    have hb' : m b = none := hb
    have hcb : ∀ i, i < n → c i ≠ b := fun i hi e => by have := hm.row i hi; rw [e, hb'] at this; cases this
    simp -implicitDefEqProofs only [Int.toNat_natCast, flat_zeros, rkA, rkB, stepA, valA, simprocAttr]
    have hxb := hx.mono (MemLe.put (flat (frs (List.replicate (w - k) (⟨0, 0, 0, false⟩ : Fr)))) hb')
    have lz : (flat (frs (List.replicate (w - k) (⟨0, 0, 0, false⟩ : Fr)))).length = (w - k) * 4 := by rw [flat_length (frs_cells _)]; simp
    have lfx : (flat (frs (xF w M k))).length = (w - k) * 4 := by rw [flat_length (frs_cells _)]; simp [lx]
    refine copy_of rfl rfl hxb (RFs_frs _) (Mem.put_same _ _ _) (frs_ok _) (by simp [lx]) (by rw [lz, lfx]; omega) ?_
    have hdr : (flat (frs (List.replicate (w - k) (⟨0, 0, 0, false⟩ : Fr)))).drop (flat (frs (xF w M k))).length = [] := List.drop_of_length_le (by rw [lz, lfx]; omega)
    have h00 : (0 : Int) < ((w - k : Nat) : Int) := by omega
    have gx0 : (xF w M k)[0]? = some (M k k) := by
      unfold xF
      rw [List.getElem?_drop]
      exact rowM_get (by omega)
    have hl0 := ldM_frj (post := []) (k := 0) gx0
    have hs0 := stM_frj (l := xF w M k) (k := 0) (x := subF (M k k) (normF w M k)) (post := []) (by omega)
    rw [Nat.zero_mul, List.append_nil] at hl0 hs0
    rw [List.append_nil, vF_set (by omega)] at hs0
    simp -implicitDefEqProofs only [hdr, Mem.put_same, h00, hl0, List.length_map, lx, rkA, rkB, stepA, valA, simprocAttr]
    refine call_meth rfl rfl methSub (ok97 _ _) ?_
    simp -implicitDefEqProofs only [Mem.put_same, h00, hs0, rkA, rkB, stepA, valA, simprocAttr]
    have hbm : (((m.put b (flat (frs (List.replicate (w - k) (⟨0, 0, 0, false⟩ : Fr))))).put b (flat (frs (xF w M k)))).put b (flat (frs (vF w M k)))) b = some (flat (frs (vF w M k))) := Mem.put_same _ _ _
    have hM1 : RowsC (((m.put b (flat (frs (List.replicate (w - k) (⟨0, 0, 0, false⟩ : Fr))))).put b (flat (frs (xF w M k)))).put b (flat (frs (vF w M k)))) c q n w (foldTo w M k (k + 1)) :=
      ⟨fun i hi => by
        rw [Mem.put_other _ _ (hcb i hi), Mem.put_other _ _ (hcb i hi), Mem.put_other _ _ (hcb i hi), foldTo_first]
        exact hm.row i hi, hm.inj⟩
    clear hxb hs0 hl0
    generalize ((m.put b _).put b _).put b _ = mm at hbm hM1 ⊢
    have hv : ∀ mm : Mem, mm b = some (flat (frs (vF w M k))) → Tell mm (.s (.slice (some ⟨b, 0, none⟩) (w - k) (w - k))) (.sl false (frs (vF w M k))) := fun mm hbm => by
      have := tell_row (m := mm) (b := b) (cap := w - k) (q := 0) (l := vF w M k) (by rw [hbm, List.replicate_zero, List.append_nil]) (by rw [List.length_map, vF_len]; omega)
      rwa [List.length_map, vF_len] at this
    have lv := vF_len (w := w) (k := k) M
    refine lend_fn rfl rfl (.cons (hv mm hbm) (.cons (hv mm hbm) .nil)) (ok81 false false _ _ (by omega) (by omega)) rfl ?_
    have hw1 := wrapped (x := ((k + 1 : Nat) : Int)) (by omega) (by omega)
    have hk1 : (k : Int) + 1 = ((k + 1 : Nat) : Int) := by simp
    simp -implicitDefEqProofs only [hw1, hk1, rkA, rkB, stepA, valA, simprocAttr]
    refine wp_loop (fun m s => ∃ (i : Nat) (mm : Mem), k < i ∧ i + m = n ∧ RowsC mm c q n w (foldTo w M k i) ∧ mm b = some (flat (frs (vF w M k))) ∧ s = ⟨[.v (.sl ex ((List.range n).map (rawC c cap w))), .v (num k), jk, jk, .v (.s (.slice (some ⟨c k, k * 4, none⟩) (w - k) (cap k - k))), .ptr 5 0, .v (.s (.slice (some ⟨b, 0, none⟩) (w - k) (w - k))), .ptr 7 0, nt i, jk, jk, jk, jk, jk, jk, jk, jk, jk, jk, jk, jk, jk, jk, jk, jk, jk, jk, jk, jk, jk, jk, jk, jk, jk, jk, jk, jk, jk, jk, jk, jk, jk, jk, jk, jk, jk, jk, jk, jk, jk, jk, jk, jk, jk, jk, jk, jk, jk, jk, jk, jk, jk, jk, jk, jk, jk, jk, jk, jk, jk, jk, jk, jk, jk, jk, jk, jk, jk, jk, jk, jk, jk, jk, jk, jk, jk, jk, jk, jk, jk, jk, jk, jk, jk, jk],
      [(5, [.v (num (normF w M k).v), .v (num (normF w M k).lo), .v (num (normF w M k).hi), .v (tru (normF w M k).bad)]), (7, [.v (num (dotF (vF w M k) (vF w M k)).v), .v (num (dotF (vF w M k) (vF w M k)).lo), .v (num (dotF (vF w M k) (vF w M k)).hi), .v (tru (dotF (vF w M k) (vF w M k)).bad)])], [], [], [], 0, mm⟩) (n - (k + 1)) ?_ ?_
    · simp -implicitDefEqProofs only [rkA, rkB, stepA, valA, simprocAttr]
      exact ⟨k + 1, mm, by omega, by omega, hM1, hbm, rfl⟩
    clear hM1 hbm mm
    rintro m' s ⟨i, mm, hki, him, hM, hbm, rfl⟩
    have li : ((List.range n).map (rawC c cap w)).length = n := by simp
    simp -implicitDefEqProofs only [li, rkA, rkB, stepA, valA, simprocAttr]
    refine gB_dec ?_ ?_ <;> intro hc <;> simp -implicitDefEqProofs only [hc, rkA, rkB, stepA, valA, simprocAttr]
    · have hi : i < n := by omega
      have h0i : (0 : Int) ≤ (i : Int) := by omega
      have gi : ((List.range n).map (rawC c cap w))[i]? = some (rawC c cap w i) := by simp [hi]
      have ci := hcap i hi
      have nei : (cap i = k) = False := by simp; omega
      have s2i : (w ≤ cap i) = True := by simp; omega
      simp -implicitDefEqProofs only [h0i, h0, Int.toNat_natCast, gi, nei, s1, s2i, im, addr_add, rkA, rkB, stepA, valA, simprocAttr]
      have hri := hM.row i hi
      rw [foldTo_row] at hri
      have hli : (rowM w M i).length = w := rowM_length _ _ _
      have hxi := tell_rest (m := mm) (b := c i) (cap := cap i) (k := k) (l := rowM w M i) hri (by omega) (by omega)
      rw [hli] at hxi
      have hdl : ((rowM w M i).drop k).length = w - k := by rw [List.length_drop, hli]
      refine lend_fn rfl rfl (.cons hxi (.cons (hv mm hbm) .nil)) (ok81 false false _ _ (by omega) (by omega)) rfl ?_
      simp -implicitDefEqProofs only [rkA, rkB, stepA, valA, simprocAttr]
      refine call_meth rfl rfl methAdd (ok227 _ _) ?_
      simp -implicitDefEqProofs only [rkA, rkB, stepA, valA, simprocAttr]
      refine call_meth rfl rfl methDiv (ok228 _ _) ?_
      have et : divF (addF (dotF ((rowM w M i).drop k) (vF w M k)) (dotF ((rowM w M i).drop k) (vF w M k))) (dotF (vF w M k) (vF w M k)) = tF w M k i := rfl
      simp -implicitDefEqProofs only [et, rkA, rkB, stepA, valA, simprocAttr]
      have ne2 : frs ((vF w M k).map (mulF · (tF w M k i))) ≠ [] := fun h => by
        have := congrArg List.length h
        simp only [List.length_map, lv, List.length_nil] at this
        omega
      have ne3 : frs (List.zipWith subF ((rowM w M i).drop k) ((vF w M k).map (mulF · (tF w M k i)))) ≠ [] := fun h => by
        have := congrArg List.length h
        simp only [List.length_map, List.length_zipWith, lv, hdl, List.length_nil] at this
        omega
      refine newRow_fn rfl rfl (.cons (hv mm hbm) (.cons (.same _) .nil)) (okn116 false _ _ (by omega)) (RFs_frs _) ne2 ?_
      intro b2 cap2 q2 hb2 hcap2
      have hb2' : mm b2 = none := hb2
      simp -implicitDefEqProofs only [rkA, rkB, stepA, valA, simprocAttr]
      refine newRow_fn rfl rfl (.cons (hxi.mono (MemLe.put _ hb2')) (.cons (tell_row (Mem.put_same _ _ _) hcap2) .nil)) (okn144 false false _ _ (by omega) (by rw [List.length_map]; omega) (by omega) (by rw [List.length_map]; omega)) (RFs_frs _) ne3 ?_
      intro b3 cap3 q3 hb3 hcap3
      simp -implicitDefEqProofs only [rkA, rkB, stepA, valA, simprocAttr]
      have hb3' : (mm.put b2 (flat (frs ((vF w M k).map (mulF · (tF w M k i)))) ++ List.replicate q2 .junk)) b3 = none := hb3
      have hle : ∀ x y, mm x = some y → ((mm.put b2 (flat (frs ((vF w M k).map (mulF · (tF w M k i)))) ++ List.replicate q2 .junk)).put b3 (flat (frs (List.zipWith subF ((rowM w M i).drop k) ((vF w M k).map (mulF · (tF w M k i))))) ++ List.replicate q3 PV.junk)) x = some y := fun x y h =>
        MemLe.put _ hb3' _ _ (MemLe.put _ hb2' _ _ h)
      have hrow3 : ((mm.put b2 (flat (frs ((vF w M k).map (mulF · (tF w M k i)))) ++ List.replicate q2 .junk)).put b3 (flat (frs (List.zipWith subF ((rowM w M i).drop k) ((vF w M k).map (mulF · (tF w M k i))))) ++ List.replicate q3 PV.junk)) b3 = some (flat (frs (List.zipWith subF ((rowM w M i).drop k) ((vF w M k).map (mulF · (tF w M k i))))) ++ List.replicate q3 PV.junk) := Mem.put_same _ _ _
      clear hb2 hb3 hb2' hb3' hxi
      generalize ((mm.put b2 _).put b3 _) = mm2 at hle hrow3 ⊢
      have hM2 : RowsC mm2 c q n w (foldTo w M k i) := ⟨fun a ha => hle _ _ (hM.row a ha), hM.inj⟩
      have hbm2 := hle _ _ hbm
      have hri2 := hle _ _ hri
      have lz : (List.zipWith subF ((rowM w M i).drop k) ((vF w M k).map (mulF · (tF w M k i)))).length = w - k := by rw [List.length_zipWith, List.length_map, hdl, lv, Nat.min_self]
      have lfz : (flat (frs (List.zipWith subF ((rowM w M i).drop k) ((vF w M k).map (mulF · (tF w M k i)))))).length = (w - k) * 4 := by rw [flat_length (frs_cells _), List.length_map, lz]
      have lfr : (flat (frs (rowM w M i))).length = w * 4 := by rw [flat_length (frs_cells _), List.length_map, hli]
      refine copy_of rfl rfl (tell_row hrow3 hcap3) (RFs_frs _) hri2 (frs_ok _) (by rw [List.length_map, lz]; omega) (by rw [List.length_append, lfz, lfr]; omega) ?_
      have hcells : (flat (frs (rowM w M i)) ++ jnk (q i)).take (k * 4) ++ flat (frs (List.zipWith subF ((rowM w M i).drop k) ((vF w M k).map (mulF · (tF w M k i))))) ++ (flat (frs (rowM w M i)) ++ jnk (q i)).drop (k * 4 + (flat (frs (List.zipWith subF ((rowM w M i).drop k) ((vF w M k).map (mulF · (tF w M k i)))))).length) = flat (frs (rowM w (foldTo w M k (i + 1)) i)) ++ jnk (q i) := by
        rw [flat_frs_take _ (by omega), lfz, ← flat_append, ← List.map_append, row_fold hki, show k * 4 + (w - k) * 4 = w * 4 by omega, ← lfr, List.drop_left]
      have hM3 := hM2.fold hi hki
      have hcb2 := hcb i hi
      have hbm3 : (mm2.put (c i) (flat (frs (rowM w (foldTo w M k (i + 1)) i)) ++ jnk (q i))) b = some (flat (frs (vF w M k))) := by rw [Mem.put_other _ _ (fun e => hcb2 e.symm)]; exact hbm2
      have hw2 := wrapped (x := (i : Int) + 1) (by omega) (by omega)
      simp -implicitDefEqProofs only [hcells, hw2, rkA, rkB, stepA, valA, simprocAttr]
      refine loopK_of (m' := m' - 1) (by omega) ?_
      simp -implicitDefEqProofs only [rkA, rkB, stepA, valA, simprocAttr]
      exact ⟨i + 1, _, by omega, by omega, hM3, hbm3, by simp only [Int.natCast_add, Int.natCast_one]⟩
    · have hin : i = n := by omega
      subst hin
      have hM0 : RowsC mm c q i w (foldZ w M k i 0) := hM.congr fun a j ha hj => by
        unfold foldZ
        by_cases e : a = k
        · subst e
          rw [if_pos rfl, if_neg (by omega)]
          unfold foldTo
          rw [if_neg (by omega)]
        · rw [if_neg e]
      clear hM hbm
      refine wp_loop (fun m s => ∃ (z : Nat) (mm : Mem), z + m = w - k ∧ RowsC mm c q i w (foldZ w M k i z) ∧ s = ⟨[jk, jk, jk, jk, .v (.s (.slice (some ⟨c k, k * 4, none⟩) (w - k) (cap k - k))), .ptr 5 0, jk, jk, jk, jk, jk, jk, jk, jk, jk, jk, jk, jk, jk, jk, jk, jk, jk, jk, jk, jk, jk, jk, jk, jk, jk, jk, jk, jk, jk, jk, jk, jk, jk, jk, jk, jk, jk, jk, jk, jk, jk, jk, jk, jk, jk, jk, jk, jk, jk, jk, jk, jk, jk, jk, jk, jk, jk, jk, jk, jk, jk, jk, jk, jk, jk, jk, jk, jk, jk, jk, jk, jk, jk, jk, jk, nt ((w - k : Nat) : Int), nt z, jk, jk, jk, jk, jk, jk, jk, jk, jk, jk, jk, jk],
        [(5, [.v (num (normF w M k).v), .v (num (normF w M k).lo), .v (num (normF w M k).hi), .v (tru (normF w M k).bad)]), (7, [.v (num (dotF (vF w M k) (vF w M k)).v), .v (num (dotF (vF w M k) (vF w M k)).lo), .v (num (dotF (vF w M k) (vF w M k)).hi), .v (tru (dotF (vF w M k) (vF w M k)).bad)])], [], [], [], 0, mm⟩) (w - k) ?_ ?_
      · simp -implicitDefEqProofs only [rkA, rkB, stepA, valA, simprocAttr]
        exact ⟨0, mm, by omega, hM0, rfl⟩
      clear hM0 mm
      rintro m' s ⟨z, mm, hzm, hM, rfl⟩
      simp -implicitDefEqProofs only [rkA, rkB, stepA, valA, simprocAttr]
      refine gB_dec ?_ ?_ <;> intro hc2 <;> simp -implicitDefEqProofs only [hc2, rkA, rkB, stepA, valA, simprocAttr]
      · refine call_meth rfl rfl methOf (ok56 _ 0) ?_
        have h0z : (0 : Int) ≤ (z : Int) := by omega
        have hrz := hM.row k hkn
        have hst := stM_frj (l := rowM w (foldZ w M k i z) k) (k := k + z) (x := newF 0 1) (post := jnk (q k)) (by rw [rowM_length]; omega)
        rw [Nat.add_mul] at hst
        have hsto := hM.store hkn (show k + z < w by omega) (newF 0 1)
        have hw2 := wrapped (x := (z : Int) + 1) (by omega) (by omega)
        simp -implicitDefEqProofs only [h0z, hc2, Int.toNat_natCast, addr_add, hrz, hst, hw2, rkA, rkB, stepA, valA, simprocAttr]
        refine loopK_of (m' := m' - 1) (by omega) ?_
        simp -implicitDefEqProofs only [rkA, rkB, stepA, valA, simprocAttr]
        rw [foldZ_step] at hsto
        exact ⟨z + 1, _, by omega, hsto, by simp only [Int.natCast_add, Int.natCast_one]⟩
      · have hz : z = w - k := by omega
        subst hz
        have hrz := hM.row k hkn
        have hst := stM_frj (l := rowM w (foldZ w M k i (w - k)) k) (k := k) (x := normF w M k) (post := jnk (q k)) (by rw [rowM_length]; omega)
        have hsto := hM.store hkn (show k < w by omega) (normF w M k)
        simp -implicitDefEqProofs only [hw0, Nat.add_zero, addr_add, hrz, hst, rkA, rkB, stepA, valA, simprocAttr]
        refine ⟨_, rfl, hsto.congr fun a j ha hj => ?_⟩
        unfold setM foldZ foldF
        by_cases e : a = k
        · subst e
          by_cases e2 : j = a
          · subst e2
            rw [if_pos ⟨rfl, rfl⟩, if_pos rfl, if_neg (by omega), if_pos rfl]
          · rw [if_neg (fun h => e2 h.2), if_pos rfl, if_pos rfl, if_neg e2]
            by_cases h : j < a
            · rw [if_neg (by omega), if_pos h]
            · rw [if_pos (by omega), if_neg h]
        · rw [if_neg (fun h => e h.1), if_neg e, if_neg e]
end Go.Proofs.YtbflmeomkfjikaaGreat.A.E


set_option linter.unusedVariables false
set_option linter.unusedSimpArgs false
set_option maxRecDepth 100000
namespace Go.Proofs.YtbflmeomkfjikaaGreat.A
open Go Go.RowKit Go.Shelf

/-- What is saved is named. -/
theorem gen_sv {P : Program} {its : Option (Nat × List Item)} {c : AC} {Q : XA → St → Prop} {tm : List TV} {bx : List (Nat × List TV)} {ro : List (Nat × List PV)} {tk : List (Nat × Nat)} {sv : List (List TV)} {it : Nat} {mm : Mem}
    (h : ∀ SV, SV = sv → wpA P its c Q ⟨tm, bx, ro, tk, SV, it, mm⟩) : wpA P its c Q ⟨tm, bx, ro, tk, sv, it, mm⟩ := h sv rfl

/-! ### No diagonal below 0 -/
def signG (n : Nat) (l : List Fr) (i k : Nat) : Fr := if k ≤ i ∧ signF (atF n n l k k) < 0 then negF (atF n n l i k) else atF n n l i k
def signsF (n : Nat) (l : List Fr) : List Fr := gridP (signG n l) n n 0
set_option maxHeartbeats 1000000 in
theorem ok141 (n : Nat) (hn : 1 ≤ n ∧ n ≤ 16) (e : Bool) (l : List Fr) (h : l.length = n * n) : Ok Tryz.prog 141 [matV e n n (frs l)] (.tup [matV false n n (frs (signsF n l)), tru true]) := by
  have hr := right_sq hn h
  refine ok_fn mixed Tryz.func141 (code := ?_) (h := h141) ?_ k141 ?_
  rotate_left
  · exact rfl
  unfold h141 initS
  simp -implicitDefEqProofs only [rkA, rkB, stepA, valA, simprocAttr, Tryz.ntmps141, Tryz.results141]
  have h17 := ok100 e n n (frs l)
  have el : (frs l).length = l.length := by simp
  rw [el, hr] at h17
  refine call_fn rfl rfl rfl (h17) ?_
  simp -implicitDefEqProofs only [bne_self_eq_false, rkA, rkB, stepA, valA, simprocAttr]
  refine call_fn rfl rfl rfl (ok98 e n n l) ?_
  simp -implicitDefEqProofs only [rkA, rkB, stepA, valA, simprocAttr]
  have hlen := gridP_length (signG n l) n
  refine wp_rf' (items := rowsF n n l) rfl (it150 e n n l) (fun sv i s => i ≤ n ∧ s = ⟨[], [(1, [nt n, nt n, .v (.sl e (frs l))]), (2, [nt 0, nt 0, .acc 3002 []]), (4, [.acc 1004 (frs (gridP (signG n l) n i 0))])], [], [(1004, (gridP (signG n l) n i 0).length), (3002, 0)], sv, 0, nomem⟩) ?_ ?_ ?_
  · simp -implicitDefEqProofs only [rkA, rkB, stepA, valA, simprocAttr]
    exact ⟨Nat.zero_le _, rfl⟩
  · rintro i x' s' R hx ⟨hi, rfl⟩ hR
    obtain ⟨hlt, rfl, hxi⟩ := rowsF_all hr hx
    have hlt' : i < n := by simpa using hlt
    refine ⟨rfl, ?_⟩
    simp -implicitDefEqProofs only [rkA, rkB, stepA, valA, simprocAttr]
    refine gen_sv fun SV hSV => ?_
    have hkill : List.map (fun l => List.map (TV.killPtr 8) l) SV = SV := by rw [hSV]; rfl
    have lr : (frs (rowF n n l i)).length = n := by rw [List.length_map, rowF_len hr hlt, Int.toNat_natCast]
    rw [lr]
    refine wp_loop (fun m s => ∃ k : Nat, k + m = n ∧ s = ⟨[jk, .ptr 1 0, jk, jk, .ptr 4 0, .v (num i), jk, jk, jk, jk, jk, jk, jk, jk, jk, jk, jk, jk, jk, jk, jk, jk, jk, jk, .v (.sl false (frs (rowF n n l i))), nt n, nt k, jk, jk, jk, jk, jk, jk, jk, jk, jk, jk, jk, jk, jk, jk, jk, jk, jk, jk, jk, jk, jk, jk, jk, jk, jk, jk, jk, jk, jk, jk, jk, jk],
      [(1, [nt n, nt n, .v (.sl e (frs l))]), (2, [nt 0, nt 0, .acc 3002 []]), (4, [.acc 1004 (frs (gridP (signG n l) n i k))])], [], [(1004, (gridP (signG n l) n i k).length), (3002, 0)], SV, 0, nomem⟩) n ?_ ?_
    · simp -implicitDefEqProofs only [rkA, rkB, stepA, valA, simprocAttr]
      exact ⟨0, by simp, rfl⟩
    rintro m s ⟨k, hk, rfl⟩
    simp -implicitDefEqProofs only [rkA, rkB, stepA, valA, simprocAttr]
    refine gB_dec ?_ ?_ <;> intro hc <;> simp -implicitDefEqProofs only [hc, rkA, rkB, stepA, valA, simprocAttr]
    · have hk' : k < n := by omega
      have h0k : (0 : Int) ≤ (k : Int) := by omega
      have hgk := rowF_get hr hlt (k := k) (by simpa using hk')
      have hfit : ∀ x : Fr, fits 3 24 (frs (gridP (signG n l) n i k)) [frV x] = true := fun x => fits_frs (l := [x]) (by
        have := hlen i k
        have := side16 (n := i) (m := n) (by omega) (by omega)
        simp only [List.length_cons, List.length_nil]
        omega)
      have hlg : (frs (gridP (signG n l) n i k)).length = (gridP (signG n l) n i k).length := by simp
      have hw := wrapped (x := (k : Int) + 1) (by omega) (by omega)
      simp -implicitDefEqProofs only [h0k, hc, Int.toNat_natCast, hgk, hkill, rkA, rkB, stepA, valA, simprocAttr]
      have fin : ∀ x : Fr, x = signG n l i k → frs (gridP (signG n l) n i k) ++ [frV x] = frs (gridP (signG n l) n i (k + 1)) ∧ (gridP (signG n l) n i k).length + 1 = (gridP (signG n l) n i (k + 1)).length := fun x hx => by
        rw [gridP_succ, hx]
        simp only [frs, List.map_append, List.map_cons, List.map_nil, List.length_append, List.length_cons, List.length_nil, and_self]
      refine gB_dec ?_ ?_ <;> intro hik
      · simp -implicitDefEqProofs only [hik, rkA, rkB, stepA, valA, simprocAttr]
        refine call_fn rfl rfl rfl (ok75 e n n k k l) ?_
        simp -implicitDefEqProofs only [rkA, rkB, stepA, valA, simprocAttr]
        refine call_meth rfl rfl methSign (ok217 _) ?_
        simp -implicitDefEqProofs only [rkA, rkB, stepA, valA, simprocAttr]
        refine gB_dec ?_ ?_ <;> intro hsg <;> simp -implicitDefEqProofs only [hsg, rkA, rkB, stepA, valA, simprocAttr]
        · refine call_meth rfl rfl methNeg (ok214 _) ?_
          obtain ⟨f1, f2⟩ := fin (negF (atF n n l i k)) (if_pos ⟨by omega, hsg⟩).symm
          simp -implicitDefEqProofs only [hfit, hlg, f1, f2, hw, rkA, rkB, stepA, valA, simprocAttr]
          refine loopK_of (m' := m - 1) (by omega) ?_
          simp -implicitDefEqProofs only [rkA, rkB, stepA, valA, simprocAttr]
          exact ⟨k + 1, by omega, by simp only [Int.natCast_add, Int.natCast_one]⟩
        · obtain ⟨f1, f2⟩ := fin (atF n n l i k) (if_neg (fun h => hsg h.2)).symm
          simp -implicitDefEqProofs only [hfit, hlg, f1, f2, hw, rkA, rkB, stepA, valA, simprocAttr]
          refine loopK_of (m' := m - 1) (by omega) ?_
          simp -implicitDefEqProofs only [rkA, rkB, stepA, valA, simprocAttr]
          exact ⟨k + 1, by omega, by simp only [Int.natCast_add, Int.natCast_one]⟩
      · simp -implicitDefEqProofs only [hik, rkA, rkB, stepA, valA, simprocAttr]
        obtain ⟨f1, f2⟩ := fin (atF n n l i k) (if_neg (fun h => hik (by omega))).symm
        simp -implicitDefEqProofs only [hfit, hlg, f1, f2, hw, rkA, rkB, stepA, valA, simprocAttr]
        refine loopK_of (m' := m - 1) (by omega) ?_
        simp -implicitDefEqProofs only [rkA, rkB, stepA, valA, simprocAttr]
        exact ⟨k + 1, by omega, by simp only [Int.natCast_add, Int.natCast_one]⟩
    · have hkn : k = n := by omega
      subst hSV
      refine hR _ ⟨by omega, ?_⟩
      rw [hkn, gridP_next]
  · rintro s' ⟨hi, rfl⟩
    simp -implicitDefEqProofs only [rkA, rkB, stepA, valA, simprocAttr]
    have hL : (gridP (signG n l) n n 0).length = n * n := by rw [hlen, Nat.add_zero]
    rw [rowsF_length hr, Int.toNat_natCast]
    have h34 := ok71 n n false (gridP (signG n l) n n 0) (by rw [hL]; have := side16 (n := n) (m := n) (by omega) (by omega); omega)
    rw [right_sq hn hL, if_pos rfl] at h34
    refine call_fn rfl rfl rfl (h34) ?_
    simp -implicitDefEqProofs only [rkA, rkB, stepA, valA, simprocAttr, signsF]
end Go.Proofs.YtbflmeomkfjikaaGreat.A


set_option linter.unusedVariables false
set_option linter.unusedSimpArgs false
set_option maxRecDepth 100000
namespace Go.Proofs.YtbflmeomkfjikaaGreat.A.E
open Go Go.RowKit Go.Shelf

def signG (n : Nat) (l : List Fr) (i k : Nat) : Fr := if k ≤ i ∧ signF (atF n n l k k) < 0 then negF (atF n n l i k) else atF n n l i k
def signsF (n : Nat) (l : List Fr) : List Fr := gridP (signG n l) n n 0
set_option maxHeartbeats 1000000 in
theorem ok32 (n : Nat) (hn : 1 ≤ n ∧ n ≤ 16) (e : Bool) (l : List Fr) (h : l.length = n * n) : Ok Tryz.prog 32 [matV e n n (frs l)] (.tup [matV false n n (frs (signsF n l)), tru true]) := by
  have hr := right_sq hn h
  refine ok_fn mixed Tryz.func32 (code := ?_) (h := h32) ?_ k32 ?_
  rotate_left
  · exact rfl
  unfold h32 initS
  simp -implicitDefEqProofs only [rkA, rkB, stepA, valA, simprocAttr, Tryz.ntmps32, Tryz.results32]
  have h17 := ok88 e n n (frs l)
  have el : (frs l).length = l.length := by simp
  rw [el, hr] at h17
  refine call_fn rfl rfl rfl (h17) ?_
  simp -implicitDefEqProofs only [bne_self_eq_false, rkA, rkB, stepA, valA, simprocAttr]
  refine call_fn rfl rfl rfl (ok90 e n n l) ?_
  simp -implicitDefEqProofs only [rkA, rkB, stepA, valA, simprocAttr]
  have hlen := gridP_length (signG n l) n
  refine wp_rf' (items := rowsF n n l) rfl (it142 e n n l) (fun sv i s => i ≤ n ∧ s = ⟨[], [(1, [nt n, nt n, .v (.sl e (frs l))]), (2, [nt 0, nt 0, .acc 3002 []]), (4, [.acc 1004 (frs (gridP (signG n l) n i 0))])], [], [(1004, (gridP (signG n l) n i 0).length), (3002, 0)], sv, 0, nomem⟩) ?_ ?_ ?_
  · simp -implicitDefEqProofs only [rkA, rkB, stepA, valA, simprocAttr]
    exact ⟨Nat.zero_le _, rfl⟩
  · rintro i x' s' R hx ⟨hi, rfl⟩ hR
    obtain ⟨hlt, rfl, hxi⟩ := rowsF_all hr hx
    have hlt' : i < n := by simpa using hlt
    refine ⟨rfl, ?_⟩
    simp -implicitDefEqProofs only [rkA, rkB, stepA, valA, simprocAttr]
    refine gen_sv fun SV hSV => ?_
    have hkill : List.map (fun l => List.map (TV.killPtr 8) l) SV = SV := by rw [hSV]; rfl
    have lr : (frs (rowF n n l i)).length = n := by rw [List.length_map, rowF_len hr hlt, Int.toNat_natCast]
    rw [lr]
    refine wp_loop (fun m s => ∃ k : Nat, k + m = n ∧ s = ⟨[jk, .ptr 1 0, jk, jk, .ptr 4 0, .v (num i), jk, jk, jk, jk, jk, jk, jk, jk, jk, jk, jk, jk, jk, jk, jk, jk, jk, jk, .v (.sl false (frs (rowF n n l i))), nt n, nt k, jk, jk, jk, jk, jk, jk, jk, jk, jk, jk, jk, jk, jk, jk, jk, jk, jk, jk, jk, jk, jk, jk, jk, jk, jk, jk, jk, jk, jk, jk, jk, jk],
      [(1, [nt n, nt n, .v (.sl e (frs l))]), (2, [nt 0, nt 0, .acc 3002 []]), (4, [.acc 1004 (frs (gridP (signG n l) n i k))])], [], [(1004, (gridP (signG n l) n i k).length), (3002, 0)], SV, 0, nomem⟩) n ?_ ?_
    · simp -implicitDefEqProofs only [rkA, rkB, stepA, valA, simprocAttr]
      exact ⟨0, by simp, rfl⟩
    rintro m s ⟨k, hk, rfl⟩
    simp -implicitDefEqProofs only [rkA, rkB, stepA, valA, simprocAttr]
    refine gB_dec ?_ ?_ <;> intro hc <;> simp -implicitDefEqProofs only [hc, rkA, rkB, stepA, valA, simprocAttr]
    · have hk' : k < n := by omega
      have h0k : (0 : Int) ≤ (k : Int) := by omega
      have hgk := rowF_get hr hlt (k := k) (by simpa using hk')
      have hfit : ∀ x : Fr, fits 4 32 (frs (gridP (signG n l) n i k)) [frV x] = true := fun x => fits_frs (l := [x]) (by
        have := hlen i k
        have := side16 (n := i) (m := n) (by omega) (by omega)
        simp only [List.length_cons, List.length_nil]
        omega)
      have hlg : (frs (gridP (signG n l) n i k)).length = (gridP (signG n l) n i k).length := by simp
      have hw := wrapped (x := (k : Int) + 1) (by omega) (by omega)
      simp -implicitDefEqProofs only [h0k, hc, Int.toNat_natCast, hgk, hkill, rkA, rkB, stepA, valA, simprocAttr]
      have fin : ∀ x : Fr, x = signG n l i k → frs (gridP (signG n l) n i k) ++ [frV x] = frs (gridP (signG n l) n i (k + 1)) ∧ (gridP (signG n l) n i k).length + 1 = (gridP (signG n l) n i (k + 1)).length := fun x hx => by
        rw [gridP_succ, hx]
        simp only [frs, List.map_append, List.map_cons, List.map_nil, List.length_append, List.length_cons, List.length_nil, and_self]
      refine gB_dec ?_ ?_ <;> intro hik
      · simp -implicitDefEqProofs only [hik, rkA, rkB, stepA, valA, simprocAttr]
        refine call_fn rfl rfl rfl (ok35 e n n k k l) ?_
        simp -implicitDefEqProofs only [rkA, rkB, stepA, valA, simprocAttr]
        refine call_meth rfl rfl methSign (ok34 _) ?_
        simp -implicitDefEqProofs only [rkA, rkB, stepA, valA, simprocAttr]
        refine gB_dec ?_ ?_ <;> intro hsg <;> simp -implicitDefEqProofs only [hsg, rkA, rkB, stepA, valA, simprocAttr]
        · refine call_meth rfl rfl methNeg (ok36 _) ?_
          obtain ⟨f1, f2⟩ := fin (negF (atF n n l i k)) (if_pos ⟨by omega, hsg⟩).symm
          simp -implicitDefEqProofs only [hfit, hlg, f1, f2, hw, rkA, rkB, stepA, valA, simprocAttr]
          refine loopK_of (m' := m - 1) (by omega) ?_
          simp -implicitDefEqProofs only [rkA, rkB, stepA, valA, simprocAttr]
          exact ⟨k + 1, by omega, by simp only [Int.natCast_add, Int.natCast_one]⟩
        · obtain ⟨f1, f2⟩ := fin (atF n n l i k) (if_neg (fun h => hsg h.2)).symm
          simp -implicitDefEqProofs only [hfit, hlg, f1, f2, hw, rkA, rkB, stepA, valA, simprocAttr]
          refine loopK_of (m' := m - 1) (by omega) ?_
          simp -implicitDefEqProofs only [rkA, rkB, stepA, valA, simprocAttr]
          exact ⟨k + 1, by omega, by simp only [Int.natCast_add, Int.natCast_one]⟩
      · simp -implicitDefEqProofs only [hik, rkA, rkB, stepA, valA, simprocAttr]
        obtain ⟨f1, f2⟩ := fin (atF n n l i k) (if_neg (fun h => hik (by omega))).symm
        simp -implicitDefEqProofs only [hfit, hlg, f1, f2, hw, rkA, rkB, stepA, valA, simprocAttr]
        refine loopK_of (m' := m - 1) (by omega) ?_
        simp -implicitDefEqProofs only [rkA, rkB, stepA, valA, simprocAttr]
        exact ⟨k + 1, by omega, by simp only [Int.natCast_add, Int.natCast_one]⟩
    · have hkn : k = n := by omega
      subst hSV
      refine hR _ ⟨by omega, ?_⟩
      rw [hkn, gridP_next]
  · rintro s' ⟨hi, rfl⟩
    simp -implicitDefEqProofs only [rkA, rkB, stepA, valA, simprocAttr]
    have hL : (gridP (signG n l) n n 0).length = n * n := by rw [hlen, Nat.add_zero]
    rw [rowsF_length hr, Int.toNat_natCast]
    have h34 := ok26 n n false (gridP (signG n l) n n 0) (by rw [hL]; have := side16 (n := n) (m := n) (by omega) (by omega); omega)
    rw [right_sq hn hL, if_pos rfl] at h34
    refine call_fn rfl rfl rfl (h34) ?_
    simp -implicitDefEqProofs only [rkA, rkB, stepA, valA, simprocAttr, signsF]
end Go.Proofs.YtbflmeomkfjikaaGreat.A.E


set_option linter.unusedVariables false
set_option linter.unusedSimpArgs false
set_option maxRecDepth 100000
namespace Go.Proofs.YtbflmeomkfjikaaGreat.A
open Go Go.RowKit Go.Shelf

theorem wp_rfM' {P : Program} {Q : XA → St → Prop} {tm : List TV} {bx : List (Nat × List TV)} {ro : List (Nat × List PV)} {tk : List (Nat × Nat)} {sv : List (List TV)} {it : Nat} {mm : Mem} {f : Operand} {ps : Array Nat} {g : List Gh} {a b : Hint} {x y : Code} {p : PV} {items : List Item} (hf : ev ⟨tm, bx, ro, tk, sv, it, mm⟩ f = some (.v p)) (hI : IterOkM P p items)
    (Inv : List (List TV) → Nat → St → Prop) (h0 : opt (ghs g ⟨[], bx, ro, tk, tm :: sv, it, mm⟩) (Inv (tm :: sv) 0))
    (hr : ∀ (i : Nat) (x' : Item) (p : List PV) (m : Mem) (s' : St) (R : St → Prop), items[i]? = some x' → Inv (tm :: sv) i s' → x' p m → (∀ c, (m c).isSome = true → s'.mm c = none) → (∀ s1, Inv (tm :: sv) (i + 1) s1 → R s1) → p.length = ps.toList.length ∧ wpA P none (acOf a x) (rfK P (acOf b y) (roundK g R Q)) (enterR ps.toList p { s' with mm := s'.mm.join m }))
    (hq : ∀ s', Inv (tm :: sv) items.length s' → Q .normal (leaveR s')) :
    wpA P none (acOf (.f g a b) (.rangeFunc f ps x y)) Q ⟨tm, bx, ro, tk, sv, it, mm⟩ := wp_rfM hf hI (Inv (tm :: sv)) h0 hr hq
theorem fits_raw (c cap : Nat → Nat) (w i : Nat) (x : PV) (hx : ∃ b k j, x = .s (.slice b k j)) (hi : i ≤ 100) : fits 1 24 ((List.range i).map (rawC c cap w)) [x] = true := by
  obtain ⟨b, k, j, rfl⟩ := hx
  have h1 : ((List.range i).map (rawC c cap w)).all (fun e => e.ok && e.cells.length == 1) = true := by
    rw [List.all_eq_true]
    intro e he
    obtain ⟨a, _, rfl⟩ := List.mem_map.1 he
    rfl
  unfold fits
  rw [h1]
  simp [PV.ok, PV.cells]
  exact ⟨rfl, by omega⟩
theorem raw_grow (c cap : Nat → Nat) (w i b z : Nat) : (List.range i).map (rawC c cap w) ++ [.s (.slice (some ⟨b, 0, none⟩) w z)] = (List.range (i + 1)).map (rawC (fun j => if j = i then b else c j) (fun j => if j = i then z else cap j) w) := by
  rw [List.range_succ, List.map_append, List.map_singleton]
  congr 1
  · refine List.map_congr_left fun j hj => ?_
    have := List.mem_range.1 hj
    simp only [rawC, show ¬ j = i by omega, if_false]
  · simp only [rawC, if_true]
theorem RowsC.grow {mm : Mem} {c q : Nat → Nat} {i w b z : Nat} {M : Nat → Nat → Fr} (h : RowsC mm c q i w M) (hb : mm b = none) :
    RowsC (mm.put b (flat (frs (rowM w M i)) ++ jnk z)) (fun j => if j = i then b else c j) (fun j => if j = i then z else q j) (i + 1) w M := by
  have hcb : ∀ j, j < i → c j ≠ b := fun j hj e => by have := h.row j hj; rw [e, hb] at this; cases this
  refine ⟨fun j hj => ?_, fun j k hj hk => ?_⟩
  · by_cases e : j = i
    · subst e
      simp only [if_true]
      rw [Mem.put_same]
    · simp only [e, if_false]
      rw [Mem.put_other _ _ (hcb j (by omega))]
      exact h.row j (by omega)
  · by_cases e : j = i <;> by_cases e' : k = i
    · intro _; omega
    · simp only [e, e', if_true, if_false]
      exact fun h1 => absurd h1.symm (hcb k (by omega))
    · simp only [e, e', if_true, if_false]
      exact fun h1 => absurd h1 (hcb j (by omega))
    · simp only [e, e', if_false]
      exact h.inj j k (by omega) (by omega)
/-- A row's first numbers in memory, told as a value. -/
theorem tell_first {m : Mem} {b cap k : Nat} {l : List Fr} {post : List PV} (hm : m b = some (flat (frs l) ++ post)) (hk : k ≤ l.length) (hc : l.length ≤ cap) : Tell m (.s (.slice (some ⟨b, 0, none⟩) k cap)) (.sl false (frs (l.take k))) := by
  have hd := flat_frs_take (l := l) (k := k) post hk
  have hl3 : (flat (frs (l.take k))).length = k * 3 := by rw [flat_length (frs_cells _), List.length_map, List.length_take, Nat.min_eq_left hk]
  refine .row hm (frs_cells _) (by simp [Nat.min_eq_left hk]) ?_ (by omega) (fun h => by cases h) ?_
  · rw [List.length_append, hl3, flat_length (frs_cells _), List.length_map]
    have : k * 3 ≤ l.length * 3 := Nat.mul_le_mul_right _ hk
    omega
  · rw [List.drop_zero, hl3, hd]
    exact Tells.same _ _

/-! ### All columns folded -/
def startF (n w : Nat) (l : List Fr) : Nat → Nat → Fr := fun i c => atF n w l i c
def foldsF (w n : Nat) (M : Nat → Nat → Fr) : Nat → Nat → Nat → Fr
  | 0 => M
  | k + 1 => foldF w (foldsF w n M k) k n
def triF (n w : Nat) (l : List Fr) : List Fr := clearF n (signsF n (gridP (foldsF w n (startF n w l) n) n n 0))
theorem row_start {n w : Nat} {l : List Fr} (hr : right n w l.length = true) {i : Nat} (hi : i < n) : rowF n w l i = rowM w (startF n w l) i := by
  rw [rowF_eq ⟨0, 0, false⟩ hr (by simpa using hi), Int.toNat_natCast, rowM]
  refine List.map_congr_left fun j hj => ?_
  rw [startF, atF_eq hr (by simpa using hi) (by simpa using hj), Int.toNat_natCast]
set_option maxHeartbeats 2000000 in
theorem ok89 (n w : Nat) (hn : 1 ≤ n) (hnw : n ≤ w) (hw : w ≤ 16) (e : Bool) (l : List Fr) (h : l.length = n * w) : Ok Tryz.prog 89 [matV e n w (frs l)] (.tup [matV false n n (frs (triF n w l)), tru true]) := by
  have hr : right (n : Int) (w : Int) l.length = true := right_nat ⟨hn, by omega⟩ ⟨by omega, hw⟩ h
  refine okt_fn mixed Tryz.func89 (code := ?_) (h := h89) ?_ k89 ?_
  rotate_left
  · exact rfl
  unfold h89 initS
  simp -implicitDefEqProofs only [rkA, rkB, stepA, valA, simprocAttr, Tryz.ntmps89, Tryz.results89]
  have h17 := ok100 e n w (frs l)
  have el : (frs l).length = l.length := by simp
  rw [el, hr] at h17
  refine call_fn rfl rfl rfl (h17) ?_
  have hgt : ¬ (n : Int) > w := by omega
  simp -implicitDefEqProofs only [hgt, rkA, rkB, stepA, valA, simprocAttr]
  refine call_fn rfl rfl rfl (ok98 e n w l) ?_
  simp -implicitDefEqProofs only [rkA, rkB, stepA, valA, simprocAttr]
  refine wp_rfM' (items := rowItems n w l) rfl (itm150 e n w l hr) (fun sv i s => i ≤ n ∧ ∃ mm c cap q, RowsC mm c q i w (startF n w l) ∧ (∀ a, a < i → w ≤ cap a) ∧ s = ⟨[], [(1, [nt n, nt w, .v (.sl e (frs l))]), (2, [nt 0, nt 0, .acc 3002 []]), (4, [.acc 1004 ((List.range i).map (rawC c cap w))])], [], [(1004, i), (3002, 0)], sv, 0, mm⟩) ?_ ?_ ?_
  · simp -implicitDefEqProofs only [rkA, rkB, stepA, valA, simprocAttr]
    exact ⟨Nat.zero_le _, nomem, fun _ => 0, fun _ => 0, fun _ => 0, ⟨fun i h => by omega, fun i j h => by omega⟩, fun a h => by omega, rfl⟩
  · rintro i x' p m s' R hx ⟨hi, mm, c, cap, q, hM, hcap, rfl⟩ hxm hfr hR
    have hlt : i < n := by
      have := (List.getElem?_eq_some_iff.1 hx).1
      simpa [rowItems] using this
    have hx' : x' = rowItem n w l i := by
      rw [rowItems, List.getElem?_map, List.getElem?_range (by simpa using hlt), Option.map_some] at hx
      exact (Option.some.inj hx).symm
    subst hx'
    obtain ⟨b, cp, z, h1, rfl, rfl⟩ := hxm
    have hb : mm b = none := hfr b (by rw [Mem.put_same]; rfl)
    have lr : (frs (rowF n w l i)).length = w := by rw [List.length_map, row_start hr hlt, rowM_length]
    rw [lr] at h1
    rw [lr, row_start hr hlt]
    refine ⟨rfl, ?_⟩
    have hfit := fits_raw c cap w i (.s (.slice (some ⟨b, 0, none⟩) w cp)) ⟨_, _, _, rfl⟩ (by omega)
    have hl : ((List.range i).map (rawC c cap w)).length = i := by simp
    simp -implicitDefEqProofs only [hfit, hl, raw_grow, rkA, rkB, stepA, valA, simprocAttr]
    refine hR _ ⟨by omega, _, _, _, _, hM.grow (z := z) hb, fun a ha => ?_, rfl⟩
    by_cases e : a = i
    · simp only [e, if_true]; exact h1
    · simp only [e, if_false]; exact hcap a (by omega)
  · rintro s' ⟨hi, mm, c, cap, q, hM, hcap, rfl⟩
    have li : (rowItems n w l).length = n := by simp [rowItems]
    rw [li] at hM hcap ⊢
    clear hi
    simp -implicitDefEqProofs only [rkA, rkB, stepA, valA, simprocAttr]
    refine wp_loop (fun m s => ∃ (k : Nat) (mm : Mem), k + m = n ∧ RowsC mm c q n w (foldsF w n (startF n w l) k) ∧ s = ⟨[jk, .ptr 1 0, .ptr 2 0, jk, .ptr 4 0, jk, jk, jk, jk, jk, jk, jk, jk, jk, jk, jk, jk, jk, jk, jk, jk, jk, jk, jk, jk, jk, jk, jk, jk, jk, jk, jk, jk, nt n, nt k, jk, jk, jk, jk, jk, jk, jk, jk, jk, jk, jk, jk, jk, jk, jk, jk, jk, jk, jk, jk, jk, jk, jk, jk, jk, jk, jk, jk, jk, jk, jk, jk, jk, jk, jk, jk, jk],
      [(1, [nt n, nt w, .v (.sl e (frs l))]), (2, [nt 0, nt 0, .acc 3002 []]), (4, [.acc 1004 ((List.range n).map (rawC c cap w))])], [], [(1004, n), (3002, 0)], [], 0, mm⟩) n ?_ ?_
    · simp -implicitDefEqProofs only [rkA, rkB, stepA, valA, simprocAttr]
      exact ⟨0, mm, by omega, hM, rfl⟩
    clear hM mm
    rintro m s ⟨k, mm, hk, hM, rfl⟩
    simp -implicitDefEqProofs only [rkA, rkB, stepA, valA, simprocAttr]
    refine gB_dec ?_ ?_ <;> intro hc <;> simp -implicitDefEqProofs only [hc, rkA, rkB, stepA, valA, simprocAttr]
    · have hw2 := wrapped (x := (k : Int) + 1) (by omega) (by omega)
      refine mem_fn rfl rfl rfl (okm140 false n w k (by omega) hnw hw _ c cap q hcap mm hM) ?_
      intro r m' hm'
      simp -implicitDefEqProofs only [hw2, rkA, rkB, stepA, valA, simprocAttr]
      refine loopK_of (m' := m - 1) (by omega) ?_
      simp -implicitDefEqProofs only [rkA, rkB, stepA, valA, simprocAttr]
      exact ⟨k + 1, m', by omega, hm', by simp only [Int.natCast_add, Int.natCast_one]⟩
    · have hkn : k = n := by omega
      rw [hkn] at hM
      clear hc hk hkn
      generalize hS : foldsF w n (startF n w l) n = S at hM
      have ll : ((List.range n).map (rawC c cap w)).length = n := by simp
      simp -implicitDefEqProofs only [ll, rkA, rkB, stepA, valA, simprocAttr]
      have hlen := gridP_length S n
      refine wp_loop (fun m s => ∃ k : Nat, k + m = n ∧ s = ⟨[jk, .ptr 1 0, .ptr 2 0, jk, jk, jk, jk, jk, .acc 8 (frs (gridP S n k 0)), jk, jk, jk, jk, jk, jk, jk, jk, jk, jk, jk, jk, jk, jk, jk, jk, jk, jk, jk, jk, jk, jk, jk, jk, jk, jk, jk, jk, jk, jk, jk, jk, .acc 1004 ((List.range n).map (rawC c cap w)), nt n, nt k, jk, jk, jk, jk, jk, jk, jk, jk, jk, jk, jk, jk, jk, jk, jk, jk, jk, jk, jk, jk, jk, jk, jk, jk, jk, jk, jk, jk],
        [(1, [nt n, nt w, .v (.sl e (frs l))]), (2, [nt 0, nt 0, .acc 3002 []]), (4, [.acc 1004 ((List.range n).map (rawC c cap w))])], [], [(8, (gridP S n k 0).length), (1004, n), (3002, 0)], [], 0, mm⟩) n ?_ ?_
      · simp -implicitDefEqProofs only [rkA, rkB, stepA, valA, simprocAttr]
        exact ⟨0, by simp, rfl⟩
      rintro m s ⟨k, hk, rfl⟩
      simp -implicitDefEqProofs only [rkA, rkB, stepA, valA, simprocAttr]
      refine gB_dec ?_ ?_ <;> intro hc <;> simp -implicitDefEqProofs only [hc, rkA, rkB, stepA, valA, simprocAttr]
      · have hk' : k < n := by omega
        have h0k : (0 : Int) ≤ (k : Int) := by omega
        have h0n : (0 : Int) ≤ (n : Int) := by omega
        have gk : ((List.range n).map (rawC c cap w))[k]? = some (rawC c cap w k) := by simp [hk']
        have ck := hcap k hk'
        have ne : (cap k = 0) = False := by simp; omega
        have s2 : (n ≤ cap k) = True := by simp; omega
        have im : (False → True) = True := by simp
        have hz : (0 ≤ n) = True := by simp
        simp -implicitDefEqProofs only [h0k, h0n, hc, Int.toNat_natCast, gk, ne, s2, im, hz, addr_add, Nat.zero_mul, Nat.sub_zero, rkA, rkB, stepA, valA, simprocAttr]
        have hlr : (rowM w S k).length = w := rowM_length _ _ _
        have ht := tell_first (m := mm) (b := c k) (cap := cap k) (k := n) (hM.row k hk') (by omega) (by omega)
        refine appM_of rfl rfl ht (RFs_frs _) ?_
        have hfit : fits 3 24 (frs (gridP S n k 0)) (frs ((rowM w S k).take n)) = true := fits_frs (by
          have := hlen k 0
          have := side16 (n := k) (m := n) (by omega) (by omega)
          rw [List.length_take]
          omega)
        have hlg : (frs (gridP S n k 0)).length = (gridP S n k 0).length := by simp
        have hw2 := wrapped (x := (k : Int) + 1) (by omega) (by omega)
        have g1 : frs (gridP S n k 0) ++ frs ((rowM w S k).take n) = frs (gridP S n (k + 1) 0) := by
          rw [← List.map_append]
          congr 1
          rw [← gridP_next, gridP, gridP, rowM, ← List.map_take, List.take_range, Nat.min_eq_left hnw]
          simp
        have g2 : (gridP S n k 0).length + (frs ((rowM w S k).take n)).length = (gridP S n (k + 1) 0).length := by
          rw [hlen, hlen, List.length_map, List.length_take, hlr, Nat.min_eq_left hnw, Nat.succ_mul]
          omega
        simp -implicitDefEqProofs only [hfit, hlg, g1, g2, hw2, rkA, rkB, stepA, valA, simprocAttr]
        refine loopK_of (m' := m - 1) (by omega) ?_
        simp -implicitDefEqProofs only [rkA, rkB, stepA, valA, simprocAttr]
        exact ⟨k + 1, by omega, by simp only [Int.natCast_add, Int.natCast_one]⟩
      · have hkn : k = n := by omega
        subst hkn
        have hL : (gridP S k k 0).length = k * k := by rw [hlen, Nat.add_zero]
        have hb := side16 (n := k) (m := k) (by omega) (by omega)
        have h34 := ok71 k k false (gridP S k k 0) (by omega)
        rw [right_sq ⟨hn, by omega⟩ hL, if_pos rfl] at h34
        refine call_fn rfl rfl rfl (h34) ?_
        simp -implicitDefEqProofs only [rkA, rkB, stepA, valA, simprocAttr]
        refine call_fn rfl rfl rfl (ok141 k ⟨hn, by omega⟩ false (gridP S k k 0) hL) ?_
        simp -implicitDefEqProofs only [rkA, rkB, stepA, valA, simprocAttr]
        refine call_fn rfl rfl rfl (ok40 k ⟨hn, by omega⟩ false (signsF k (gridP S k k 0)) (by rw [signsF, gridP_length, Nat.add_zero])) ?_
        simp -implicitDefEqProofs only [rkA, rkB, stepA, valA, simprocAttr]
        rw [triF, hS]
        exact ⟨_, rfl, .same _⟩
end Go.Proofs.YtbflmeomkfjikaaGreat.A


set_option linter.unusedVariables false
set_option linter.unusedSimpArgs false
set_option maxRecDepth 100000
namespace Go.Proofs.YtbflmeomkfjikaaGreat.A.E
open Go Go.RowKit Go.Shelf

theorem RowsC.grow {mm : Mem} {c q : Nat → Nat} {i w b z : Nat} {M : Nat → Nat → Fr} (h : RowsC mm c q i w M) (hb : mm b = none) :
    RowsC (mm.put b (flat (frs (rowM w M i)) ++ jnk z)) (fun j => if j = i then b else c j) (fun j => if j = i then z else q j) (i + 1) w M := by
  have hcb : ∀ j, j < i → c j ≠ b := fun j hj e => by have := h.row j hj; rw [e, hb] at this; cases this
  refine ⟨fun j hj => ?_, fun j k hj hk => ?_⟩
  · by_cases e : j = i
    · subst e
      simp only [if_true]
      rw [Mem.put_same]
    · simp only [e, if_false]
      rw [Mem.put_other _ _ (hcb j (by omega))]
      exact h.row j (by omega)
  · by_cases e : j = i <;> by_cases e' : k = i
    · intro _; omega
    · simp only [e, e', if_true, if_false]
      exact fun h1 => absurd h1.symm (hcb k (by omega))
    · simp only [e, e', if_true, if_false]
      exact fun h1 => absurd h1 (hcb j (by omega))
    · simp only [e, e', if_false]
      exact h.inj j k (by omega) (by omega)
/-- A row's first numbers in memory, told as a value. -/
theorem tell_first {m : Mem} {b cap k : Nat} {l : List Fr} {post : List PV} (hm : m b = some (flat (frs l) ++ post)) (hk : k ≤ l.length) (hc : l.length ≤ cap) : Tell m (.s (.slice (some ⟨b, 0, none⟩) k cap)) (.sl false (frs (l.take k))) := by
  have hd := flat_frs_take (l := l) (k := k) post hk
  have hl3 : (flat (frs (l.take k))).length = k * 4 := by rw [flat_length (frs_cells _), List.length_map, List.length_take, Nat.min_eq_left hk]
  refine .row hm (frs_cells _) (by simp [Nat.min_eq_left hk]) ?_ (by omega) (fun h => by cases h) ?_
  · rw [List.length_append, hl3, flat_length (frs_cells _), List.length_map]
    have : k * 4 ≤ l.length * 4 := Nat.mul_le_mul_right _ hk
    omega
  · rw [List.drop_zero, hl3, hd]
    exact Tells.same _ _

def startF (n w : Nat) (l : List Fr) : Nat → Nat → Fr := fun i c => atF n w l i c
def foldsF (w n : Nat) (M : Nat → Nat → Fr) : Nat → Nat → Nat → Fr
  | 0 => M
  | k + 1 => foldF w (foldsF w n M k) k n
def triF (n w : Nat) (l : List Fr) : List Fr := clearF n (signsF n (gridP (foldsF w n (startF n w l) n) n n 0))
theorem row_start {n w : Nat} {l : List Fr} (hr : right n w l.length = true) {i : Nat} (hi : i < n) : rowF n w l i = rowM w (startF n w l) i := by
  rw [rowF_eq ⟨0, 0, 0, false⟩ hr (by simpa using hi), Int.toNat_natCast, rowM]
  refine List.map_congr_left fun j hj => ?_
  rw [startF, atF_eq hr (by simpa using hi) (by simpa using hj), Int.toNat_natCast]
set_option maxHeartbeats 2000000 in
theorem ok28 (n w : Nat) (hn : 1 ≤ n) (hnw : n ≤ w) (hw : w ≤ 16) (e : Bool) (l : List Fr) (h : l.length = n * w) : Ok Tryz.prog 28 [matV e n w (frs l)] (.tup [matV false n n (frs (triF n w l)), tru true]) := by
  have hr : right (n : Int) (w : Int) l.length = true := right_nat ⟨hn, by omega⟩ ⟨by omega, hw⟩ h
  refine okt_fn mixed Tryz.func28 (code := ?_) (h := h28) ?_ k28 ?_
  rotate_left
  · exact rfl
  unfold h28 initS
  simp -implicitDefEqProofs only [rkA, rkB, stepA, valA, simprocAttr, Tryz.ntmps28, Tryz.results28]
  have h17 := ok88 e n w (frs l)
  have el : (frs l).length = l.length := by simp
  rw [el, hr] at h17
  refine call_fn rfl rfl rfl (h17) ?_
  have hgt : ¬ (n : Int) > w := by omega
  simp -implicitDefEqProofs only [hgt, rkA, rkB, stepA, valA, simprocAttr]
  refine call_fn rfl rfl rfl (ok90 e n w l) ?_
  simp -implicitDefEqProofs only [rkA, rkB, stepA, valA, simprocAttr]
  refine wp_rfM' (items := rowItems n w l) rfl (itm142 e n w l hr) (fun sv i s => i ≤ n ∧ ∃ mm c cap q, RowsC mm c q i w (startF n w l) ∧ (∀ a, a < i → w ≤ cap a) ∧ s = ⟨[], [(1, [nt n, nt w, .v (.sl e (frs l))]), (2, [nt 0, nt 0, .acc 3002 []]), (4, [.acc 1004 ((List.range i).map (rawC c cap w))])], [], [(1004, i), (3002, 0)], sv, 0, mm⟩) ?_ ?_ ?_
  · simp -implicitDefEqProofs only [rkA, rkB, stepA, valA, simprocAttr]
    exact ⟨Nat.zero_le _, nomem, fun _ => 0, fun _ => 0, fun _ => 0, ⟨fun i h => by omega, fun i j h => by omega⟩, fun a h => by omega, rfl⟩
  · rintro i x' p m s' R hx ⟨hi, mm, c, cap, q, hM, hcap, rfl⟩ hxm hfr hR
    have hlt : i < n := by
      have := (List.getElem?_eq_some_iff.1 hx).1
      simpa [rowItems] using this
    have hx' : x' = rowItem n w l i := by
      rw [rowItems, List.getElem?_map, List.getElem?_range (by simpa using hlt), Option.map_some] at hx
      exact (Option.some.inj hx).symm
    subst hx'
    obtain ⟨b, cp, z, h1, rfl, rfl⟩ := hxm
    have hb : mm b = none := hfr b (by rw [Mem.put_same]; rfl)
    have lr : (frs (rowF n w l i)).length = w := by rw [List.length_map, row_start hr hlt, rowM_length]
    rw [lr] at h1
    rw [lr, row_start hr hlt]
    refine ⟨rfl, ?_⟩
    have hfit := fits_raw c cap w i (.s (.slice (some ⟨b, 0, none⟩) w cp)) ⟨_, _, _, rfl⟩ (by omega)
    have hl : ((List.range i).map (rawC c cap w)).length = i := by simp
    simp -implicitDefEqProofs only [hfit, hl, raw_grow, rkA, rkB, stepA, valA, simprocAttr]
    refine hR _ ⟨by omega, _, _, _, _, hM.grow (z := z) hb, fun a ha => ?_, rfl⟩
    by_cases e : a = i
    · simp only [e, if_true]; exact h1
    · simp only [e, if_false]; exact hcap a (by omega)
  · rintro s' ⟨hi, mm, c, cap, q, hM, hcap, rfl⟩
    have li : (rowItems n w l).length = n := by simp [rowItems]
    rw [li] at hM hcap ⊢
    clear hi
    simp -implicitDefEqProofs only [rkA, rkB, stepA, valA, simprocAttr]
    refine wp_loop (fun m s => ∃ (k : Nat) (mm : Mem), k + m = n ∧ RowsC mm c q n w (foldsF w n (startF n w l) k) ∧ s = ⟨[jk, .ptr 1 0, .ptr 2 0, jk, .ptr 4 0, jk, jk, jk, jk, jk, jk, jk, jk, jk, jk, jk, jk, jk, jk, jk, jk, jk, jk, jk, jk, jk, jk, jk, jk, jk, jk, jk, jk, nt n, nt k, jk, jk, jk, jk, jk, jk, jk, jk, jk, jk, jk, jk, jk, jk, jk, jk, jk, jk, jk, jk, jk, jk, jk, jk, jk, jk, jk, jk, jk, jk, jk, jk, jk, jk, jk, jk, jk],
      [(1, [nt n, nt w, .v (.sl e (frs l))]), (2, [nt 0, nt 0, .acc 3002 []]), (4, [.acc 1004 ((List.range n).map (rawC c cap w))])], [], [(1004, n), (3002, 0)], [], 0, mm⟩) n ?_ ?_
    · simp -implicitDefEqProofs only [rkA, rkB, stepA, valA, simprocAttr]
      exact ⟨0, mm, by omega, hM, rfl⟩
    clear hM mm
    rintro m s ⟨k, mm, hk, hM, rfl⟩
    simp -implicitDefEqProofs only [rkA, rkB, stepA, valA, simprocAttr]
    refine gB_dec ?_ ?_ <;> intro hc <;> simp -implicitDefEqProofs only [hc, rkA, rkB, stepA, valA, simprocAttr]
    · have hw2 := wrapped (x := (k : Int) + 1) (by omega) (by omega)
      refine mem_fn rfl rfl rfl (okm91 false n w k (by omega) hnw hw _ c cap q hcap mm hM) ?_
      intro r m' hm'
      simp -implicitDefEqProofs only [hw2, rkA, rkB, stepA, valA, simprocAttr]
      refine loopK_of (m' := m - 1) (by omega) ?_
      simp -implicitDefEqProofs only [rkA, rkB, stepA, valA, simprocAttr]
      exact ⟨k + 1, m', by omega, hm', by simp only [Int.natCast_add, Int.natCast_one]⟩
    · have hkn : k = n := by omega
      rw [hkn] at hM
      clear hc hk hkn
      generalize hS : foldsF w n (startF n w l) n = S at hM
      have ll : ((List.range n).map (rawC c cap w)).length = n := by simp
      simp -implicitDefEqProofs only [ll, rkA, rkB, stepA, valA, simprocAttr]
      have hlen := gridP_length S n
      refine wp_loop (fun m s => ∃ k : Nat, k + m = n ∧ s = ⟨[jk, .ptr 1 0, .ptr 2 0, jk, jk, jk, jk, jk, .acc 8 (frs (gridP S n k 0)), jk, jk, jk, jk, jk, jk, jk, jk, jk, jk, jk, jk, jk, jk, jk, jk, jk, jk, jk, jk, jk, jk, jk, jk, jk, jk, jk, jk, jk, jk, jk, jk, .acc 1004 ((List.range n).map (rawC c cap w)), nt n, nt k, jk, jk, jk, jk, jk, jk, jk, jk, jk, jk, jk, jk, jk, jk, jk, jk, jk, jk, jk, jk, jk, jk, jk, jk, jk, jk, jk, jk],
        [(1, [nt n, nt w, .v (.sl e (frs l))]), (2, [nt 0, nt 0, .acc 3002 []]), (4, [.acc 1004 ((List.range n).map (rawC c cap w))])], [], [(8, (gridP S n k 0).length), (1004, n), (3002, 0)], [], 0, mm⟩) n ?_ ?_
      · simp -implicitDefEqProofs only [rkA, rkB, stepA, valA, simprocAttr]
        exact ⟨0, by simp, rfl⟩
      rintro m s ⟨k, hk, rfl⟩
      simp -implicitDefEqProofs only [rkA, rkB, stepA, valA, simprocAttr]
      refine gB_dec ?_ ?_ <;> intro hc <;> simp -implicitDefEqProofs only [hc, rkA, rkB, stepA, valA, simprocAttr]
      · have hk' : k < n := by omega
        have h0k : (0 : Int) ≤ (k : Int) := by omega
        have h0n : (0 : Int) ≤ (n : Int) := by omega
        have gk : ((List.range n).map (rawC c cap w))[k]? = some (rawC c cap w k) := by simp [hk']
        have ck := hcap k hk'
        have ne : (cap k = 0) = False := by simp; omega
        have s2 : (n ≤ cap k) = True := by simp; omega
        have im : (False → True) = True := by simp
        have hz : (0 ≤ n) = True := by simp
        simp -implicitDefEqProofs only [h0k, h0n, hc, Int.toNat_natCast, gk, ne, s2, im, hz, addr_add, Nat.zero_mul, Nat.sub_zero, rkA, rkB, stepA, valA, simprocAttr]
        have hlr : (rowM w S k).length = w := rowM_length _ _ _
        have ht := tell_first (m := mm) (b := c k) (cap := cap k) (k := n) (hM.row k hk') (by omega) (by omega)
        refine appM_of rfl rfl ht (RFs_frs _) ?_
        have hfit : fits 4 32 (frs (gridP S n k 0)) (frs ((rowM w S k).take n)) = true := fits_frs (by
          have := hlen k 0
          have := side16 (n := k) (m := n) (by omega) (by omega)
          rw [List.length_take]
          omega)
        have hlg : (frs (gridP S n k 0)).length = (gridP S n k 0).length := by simp
        have hw2 := wrapped (x := (k : Int) + 1) (by omega) (by omega)
        have g1 : frs (gridP S n k 0) ++ frs ((rowM w S k).take n) = frs (gridP S n (k + 1) 0) := by
          rw [← List.map_append]
          congr 1
          rw [← gridP_next, gridP, gridP, rowM, ← List.map_take, List.take_range, Nat.min_eq_left hnw]
          simp
        have g2 : (gridP S n k 0).length + (frs ((rowM w S k).take n)).length = (gridP S n (k + 1) 0).length := by
          rw [hlen, hlen, List.length_map, List.length_take, hlr, Nat.min_eq_left hnw, Nat.succ_mul]
          omega
        simp -implicitDefEqProofs only [hfit, hlg, g1, g2, hw2, rkA, rkB, stepA, valA, simprocAttr]
        refine loopK_of (m' := m - 1) (by omega) ?_
        simp -implicitDefEqProofs only [rkA, rkB, stepA, valA, simprocAttr]
        exact ⟨k + 1, by omega, by simp only [Int.natCast_add, Int.natCast_one]⟩
      · have hkn : k = n := by omega
        subst hkn
        have hL : (gridP S k k 0).length = k * k := by rw [hlen, Nat.add_zero]
        have hb := side16 (n := k) (m := k) (by omega) (by omega)
        have h34 := ok26 k k false (gridP S k k 0) (by omega)
        rw [right_sq ⟨hn, by omega⟩ hL, if_pos rfl] at h34
        refine call_fn rfl rfl rfl (h34) ?_
        simp -implicitDefEqProofs only [rkA, rkB, stepA, valA, simprocAttr]
        refine call_fn rfl rfl rfl (ok32 k ⟨hn, by omega⟩ false (gridP S k k 0) hL) ?_
        simp -implicitDefEqProofs only [rkA, rkB, stepA, valA, simprocAttr]
        refine call_fn rfl rfl rfl (ok92 k ⟨hn, by omega⟩ false (signsF k (gridP S k k 0)) (by rw [signsF, gridP_length, Nat.add_zero])) ?_
        simp -implicitDefEqProofs only [rkA, rkB, stepA, valA, simprocAttr]
        rw [triF, hS]
        exact ⟨_, rfl, .same _⟩
end Go.Proofs.YtbflmeomkfjikaaGreat.A.E


set_option linter.unusedVariables false
set_option linter.unusedSimpArgs false
set_option maxRecDepth 100000
namespace Go.Proofs.YtbflmeomkfjikaaGreat.A.E
open Go Go.RowKit Go.Shelf

/-! ### Folding enclosed numbers, beside numbers -/
theorem drop_range {α : Type} (f : Nat → α) (w k : Nat) : ((List.range w).map f).drop k = (List.range (w - k)).map fun j => f (k + j) := by
  apply List.ext_getElem?
  intro j
  rw [List.getElem?_drop]
  by_cases h : k + j < w
  · simp [h, show j < w - k by omega]
  · rw [List.getElem?_eq_none (by simp; omega), List.getElem?_eq_none (by simp; omega)]
theorem sumR_drop {f : Nat → Rat} {k : Nat} (h : ∀ c, c < k → f c = 0) : ∀ {w : Nat}, k ≤ w → sumR w f = sumR (w - k) fun j => f (k + j) := by
  intro w hk
  induction w with
  | zero => simp [sumR]
  | succ w ih =>
    by_cases e : k = w + 1
    · subst e
      rw [Nat.sub_self, sumR, sumR_congr (g := fun _ => 0) (fun j hj => h j (by omega)), sumR_zero]
    · rw [show w + 1 - k = (w - k) + 1 by omega, sumR, sumR, ih (by omega), show k + (w - k) = w by omega]
def RqM (n w : Nat) (M : Nat → Nat → Fr) (A : Nat → Nat → Rat) : Prop := ∀ i c, i < n → c < w → Rq (M i c) (A i c)
section
variable {n w k : Nat} {M : Nat → Nat → Fr} {A : Nat → Nat → Rat} {p : Rat}
theorem v_rq (hM : RqM n w M A) (hk : k < n) (hnw : n ≤ w) (hp : Rq (normF w M k) p) {c : Nat} (hc : k ≤ c) (hcw : c < w) : Rq (vA w M k c) (vR A k p c) := by
  unfold vA vR
  by_cases e : c = k
  · subst e
    rw [if_pos rfl, if_neg (by omega), if_pos rfl]
    exact (hM c c hk hcw).sub hp
  · rw [if_neg e, if_neg (by omega), if_neg e]
    exact hM k c hk hcw
theorem v_zero {c : Nat} (hc : c < k) : vR A k p c = 0 := if_pos hc
theorem dot_rq (hM : RqM n w M A) (hk : k < n) (hnw : n ≤ w) (hp : Rq (normF w M k) p) {i : Nat} (hi : i < n) : Rq (dotF ((rowM w M i).drop k) (vF w M k)) (dR w A k p i) := by
  unfold rowM vF dR
  rw [drop_range, drop_range, sumR_drop (k := k) (fun c hc => by rw [v_zero hc]; grind) (by omega)]
  exact Rq.dot (fun j hj => hM i (k + j) hi (by omega)) (fun j hj => v_rq hM hk hnw hp (by omega) (by omega))
theorem q_rq (hM : RqM n w M A) (hk : k < n) (hnw : n ≤ w) (hp : Rq (normF w M k) p) : Rq (dotF (vF w M k) (vF w M k)) (qR w A k p) := by
  unfold vF qR
  rw [drop_range, sumR_drop (k := k) (fun c hc => by rw [v_zero hc]; grind) (by omega)]
  exact Rq.dot (fun j hj => v_rq hM hk hnw hp (by omega) (by omega)) (fun j hj => v_rq hM hk hnw hp (by omega) (by omega))
theorem t_rq (hM : RqM n w M A) (hk : k < n) (hnw : n ≤ w) (hp : Rq (normF w M k) p) {i : Nat} (hi : i < n) : Rq (tF w M k i) (tR w A k p i) :=
  ((dot_rq hM hk hnw hp hi).add (dot_rq hM hk hnw hp hi)).div (q_rq hM hk hnw hp)
theorem fold_rq (hM : RqM n w M A) (hk : k < n) (hnw : n ≤ w) (hp : Rq (normF w M k) p) : RqM n w (foldF w M k n) (foldR w A k p) := fun i c hi hc => by
  unfold foldF foldR
  by_cases e : i = k
  · subst e
    simp only [if_true, Nat.lt_irrefl, if_false, xR]
    by_cases h1 : c < i
    · simp only [h1, if_true]; exact hM i c hi hc
    · simp only [h1, if_false]
      by_cases h2 : c = i
      · simp only [h2, if_true]; exact hp
      · simp only [h2, if_false]; exact Rq.zero
  · rw [if_neg e]
    unfold foldTo
    by_cases h1 : i < k
    · rw [if_neg (by omega), if_pos h1]; exact hM i c hi hc
    · rw [if_neg h1, if_neg e]
      by_cases h2 : k ≤ c
      · rw [if_pos ⟨by omega, hi, h2⟩]
        exact (hM i c hi hc).sub ((v_rq hM hk hnw hp h2 hc).mul (t_rq hM hk hnw hp hi))
      · rw [if_neg (by omega), v_zero (by omega)]
        have e0 : A i c - 0 * tR w A k p i = A i c := by grind
        rw [e0]
        exact hM i c hi hc
end
/-- Numbers that are folded stay, left of the column at hand. -/
theorem folds_keep {w n : Nat} (M : Nat → Nat → Fr) {i c : Nat} : ∀ {m : Nat}, c < m → foldsF w n M m i c = foldsF w n M (c + 1) i c
  | m + 1, h => by
    by_cases e : c = m
    · rw [e]
    · rw [← folds_keep M (show c < m by omega), foldsF, foldF]
      by_cases e2 : i = m
      · rw [if_pos e2, if_pos (by omega), e2]
      · rw [if_neg e2, foldTo, if_neg (by omega)]
theorem folds_diag {w n : Nat} (M : Nat → Nat → Fr) {k m : Nat} (h : k < m) : foldsF w n M m k k = normF w (foldsF w n M k) k := by
  rw [folds_keep M h, foldsF, foldF, if_pos rfl, if_neg (by omega), if_pos rfl]
theorem folds_low {w n : Nat} (M : Nat → Nat → Fr) {i k m : Nat} (h : k < m) (hi : k < i) (hin : i < n) : foldsF w n M m i k = subF (foldsF w n M k i k) (mulF (vA w (foldsF w n M k) k k) (tF w (foldsF w n M k) k i)) := by
  rw [folds_keep M h, foldsF, foldF, if_neg (by omega), foldTo, if_pos ⟨hi, hin, Nat.le_refl _⟩]
theorem norm_snd (w : Nat) (M : Nat → Nat → Fr) (k : Nat) : SndE (normF w M k) := by
  unfold normF
  split
  · exact subF_snd _ _
  · exact root_snd _
end Go.Proofs.YtbflmeomkfjikaaGreat.A.E


set_option linter.unusedVariables false
set_option linter.unusedSimpArgs false
set_option maxRecDepth 100000
namespace Go.Proofs.YtbflmeomkfjikaaGreat.A.E
open Go Go.RowKit Go.Shelf

abbrev dz : Fr := ⟨0, 0, 0, false⟩
theorem grid_at {g : Nat → Nat → Fr} {n N i k : Nat} (hi : i < N) (hk : k < n) : (gridP g n N 0).getD (i * n + k) dz = g i k := by
  rw [List.getD_eq_getElem?_getD, gridP_get _ _ _ _ _ hi hk, Option.getD_some]
end Go.Proofs.YtbflmeomkfjikaaGreat.A.E


set_option linter.unusedVariables false
set_option linter.unusedSimpArgs false
set_option maxRecDepth 100000
namespace Go.Proofs.YtbflmeomkfjikaaGreat.A
open Go Go.RowKit Go.Shelf

/-! ### What a triangle times it is a row -/
end Go.Proofs.YtbflmeomkfjikaaGreat.A


set_option linter.unusedVariables false
set_option linter.unusedSimpArgs false
set_option maxRecDepth 100000
namespace Go.Proofs.YtbflmeomkfjikaaGreat.A
open Go Go.RowKit Go.Shelf

/-! ### What is solved, times the cleared triangle, is what was asked -/
end Go.Proofs.YtbflmeomkfjikaaGreat.A


set_option linter.unusedVariables false
set_option linter.unusedSimpArgs false
set_option maxRecDepth 100000
namespace Go.Proofs.YtbflmeomkfjikaaGreat.A.E
open Go Go.RowKit Go.Shelf

/-! ### The triangle's square encloses the square of what was folded -/
theorem Enc.near {x : Fr} {v : Rat} (h : ∀ e : Rat, 0 < e → ∃ g, Enc x g ∧ -e ≤ g - v ∧ g - v ≤ e) : Enc x v := by
  have hf : x.fine = true := by
    obtain ⟨g, hg, _⟩ := h 1 (by decide)
    exact hg.1
  refine ⟨hf, ?_, ?_⟩
  · by_cases hc : (x.lo : Rat) ≤ v * 16777216
    · exact hc
    · obtain ⟨g, ⟨_, g1, _⟩, g3, g4⟩ := h (((x.lo : Rat) - v * 16777216) / 33554432) (by grind)
      grind
  · by_cases hc : v * 16777216 ≤ (x.hi : Rat)
    · exact hc
    · obtain ⟨g, ⟨_, _, g2⟩, g3, g4⟩ := h ((v * 16777216 - (x.hi : Rat)) / 33554432) (by grind)
      grind
section
variable {n w : Nat} {l : List Fr}
theorem tri_at (hn : 1 ≤ n ∧ n ≤ 16) {i k : Nat} (hi : i < n) (hk : k < n) : (triF n w l).getD (i * n + k) dz = if i < k then newF 0 1 else
    if signF (foldsF w n (startF n w l) n k k) < 0 then negF (foldsF w n (startF n w l) n i k) else foldsF w n (startF n w l) n i k := by
  have lG : (gridP (foldsF w n (startF n w l) n) n n 0).length = n * n := by rw [gridP_length, Nat.add_zero]
  have lS : (signsF n (gridP (foldsF w n (startF n w l) n) n n 0)).length = n * n := by rw [signsF, gridP_length, Nat.add_zero]
  have aG : ∀ i k : Nat, i < n → k < n → atF n n (gridP (foldsF w n (startF n w l) n) n n 0) i k = foldsF w n (startF n w l) n i k := fun i k hi hk => by
    rw [atF_eq (right_sq hn lG) (by simpa using hi) (by simpa using hk), Int.toNat_natCast]
    exact grid_at hi hk
  unfold triF clearF
  rw [grid_at hi hk]
  unfold clearG
  by_cases h : i < k
  · rw [if_pos h, if_pos h]
  · rw [if_neg h, if_neg h, atF_eq (right_sq hn lS) (by simpa using hi) (by simpa using hk), Int.toNat_natCast]
    unfold signsF
    have e : (gridP (signG n (gridP (foldsF w n (startF n w l) n) n n 0)) n n 0).getD (i * n + k) ⟨0, 0, 0, false⟩ = signG n (gridP (foldsF w n (startF n w l) n) n n 0) i k := grid_at hi hk
    rw [e]
    unfold signG
    rw [aG k k hk hk, aG i k hi hk]
    by_cases hs : signF (foldsF w n (startF n w l) n k k) < 0
    · rw [if_pos ⟨by omega, hs⟩, if_pos hs]
    · rw [if_neg (fun h => hs h.2), if_neg hs]
theorem tri_len : (triF n w l).length = n * n := by rw [triF, clearF, gridP_length, Nat.add_zero]
/-- In numbers: the triangle, its signs set. -/
def triR (n : Nat) (M : Nat → Nat → Fr) (S : Nat → Nat → Rat) (i k : Nat) : Rat := if i < k then 0 else if signF (M k k) < 0 then -(S i k) else S i k
theorem tri_rq (hn : 1 ≤ n ∧ n ≤ 16) (hnw : n ≤ w) {S : Nat → Nat → Rat} (h : RqM n w (foldsF w n (startF n w l) n) S) {i k : Nat} (hi : i < n) (hk : k < n) :
    Rq ((triF n w l).getD (i * n + k) dz) (triR n (foldsF w n (startF n w l) n) S i k) := by
  rw [tri_at hn hi hk]
  unfold triR
  split
  · exact Rq.zero
  · split
    · exact (h i k hi (by omega)).neg
    · exact h i k hi (by omega)
end
end Go.Proofs.YtbflmeomkfjikaaGreat.A.E


set_option linter.unusedVariables false
set_option linter.unusedSimpArgs false
set_option maxRecDepth 100000
namespace Go.Proofs.YtbflmeomkfjikaaGreat.A
open Go Go.RowKit Go.Shelf

/-! ### What the document fixes of one row -/
theorem ok27 : Ok Tryz.prog 27 [] (tru true) := by
  refine ok_fn mixed Tryz.func27 (code := ?_) (h := h27) ?_ k27 ?_
  rotate_left
  · exact rfl
  unfold h27 initS
  simp -implicitDefEqProofs only [rkA, rkB, stepA, valA, simprocAttr, Tryz.ntmps27, Tryz.results27]
  have h1 := ok19 1 2 true [3, 4] (by simp)
  rw [if_pos (by decide)] at h1
  refine call_fn rfl rfl rfl (h1) ?_
  have u1 : triF 1 2 ([3, 4].map (newF · 1)) = [5].map (newF · 1) := by decide +kernel
  generalize hR : [3, 4].map (newF · 1) = R at *
  have lR : R.length = 2 := by subst hR; rfl
  simp -implicitDefEqProofs only [rkA, rkB, stepA, valA, simprocAttr]
  have h2 := ok89 1 2 (by omega) (by omega) (by omega) false R lR
  rw [u1] at h2
  refine call_fn rfl rfl rfl (h2) ?_
  simp -implicitDefEqProofs only [rkA, rkB, stepA, valA, simprocAttr]
  refine call_fn rfl rfl rfl (ok75 false 1 1 0 0 ([5].map (newF · 1))) ?_
  simp -implicitDefEqProofs only [rkA, rkB, stepA, valA, simprocAttr]
  refine call_fn rfl rfl rfl (ok44 5 1) ?_
  have e1 : atF 1 1 [newF 5 1] 0 0 = newF 5 1 := by decide +kernel
  simp -implicitDefEqProofs only [e1, eq_fr, rkA, rkB, stepA, valA, simprocAttr]
end Go.Proofs.YtbflmeomkfjikaaGreat.A


set_option linter.unusedVariables false
set_option linter.unusedSimpArgs false
set_option maxRecDepth 100000
namespace Go.Proofs.YtbflmeomkfjikaaGreat.A.E
open Go Go.RowKit Go.Shelf

end Go.Proofs.YtbflmeomkfjikaaGreat.A.E


set_option linter.unusedVariables false
set_option linter.unusedSimpArgs false
set_option maxRecDepth 100000
namespace Go.Proofs.YtbflmeomkfjikaaGreat.A.E
open Go Go.RowKit Go.Shelf

/-! ### What is solved: enclosed beside fractions -/
end Go.Proofs.YtbflmeomkfjikaaGreat.A.E


/- A slice that comes in, and how long it may be. -/
set_option linter.unusedVariables false
namespace Go.Proofs.YtbflmeomkfjikaaGreat.A
open Go Go.RowKit Go.Shelf Go.ChangeShapes Go.WideShapes Go.ChangeAt

theorem C.len {I : Imm} {ex : Bool} {els : List PV} {a : Option Addr} {len cap : Nat} (h : C I (.sl ex els) (.slice a len cap)) : els.length = len := by
  cases h <;> simp_all
section
variable {H : Type} {enc : TypeId × Value → H} {P : Program} {W : World} {base : Nat} {held : Bool}
end
end Go.Proofs.YtbflmeomkfjikaaGreat.A



set_option linter.unusedVariables false
set_option linter.unusedSimpArgs false
set_option maxRecDepth 100000
namespace Go.Proofs.YtbflmeomkfjikaaGreat.A.E
open Go Go.RowKit Go.Shelf

/-! ### The function HouseSigns -/
end Go.Proofs.YtbflmeomkfjikaaGreat.A.E


set_option linter.unusedVariables false
set_option linter.unusedSimpArgs false
set_option maxRecDepth 100000
namespace Go.Proofs.YtbflmeomkfjikaaGreat.A.E
open Go Go.RowKit Go.Shelf

/-! ### What is small is fine -/
def Sm (B : Int) (x : Fr) : Prop := x.fine = true ∧ -B ≤ x.lo ∧ x.hi ≤ B
theorem Sm.vb {B : Int} {x : Fr} (h : Sm B x) : -B ≤ x.v ∧ x.v ≤ B ∧ -B ≤ x.lo ∧ x.lo ≤ B ∧ -B ≤ x.hi ∧ x.hi ≤ B := by
  obtain ⟨hf, h1, h2⟩ := h
  obtain ⟨_, _, _, h3, h4⟩ := fine_is.1 hf
  omega
end Go.Proofs.YtbflmeomkfjikaaGreat.A.E



set_option linter.unusedVariables false
set_option linter.unusedSimpArgs false
set_option maxRecDepth 100000
namespace Go.Proofs.YtbflmeomkfjikaaGreat.A.E
open Go Go.RowKit Go.Shelf

/-! ### The function HouseSquares -/
end Go.Proofs.YtbflmeomkfjikaaGreat.A.E



set_option linter.unusedVariables false
set_option linter.unusedSimpArgs false
set_option maxRecDepth 100000
namespace Go.Proofs.YtbflmeomkfjikaaGreat.A.E
open Go Go.RowKit Go.Shelf

/-! ### One row's length -/
section
variable {l : List Int} {w : Nat}
end
/-! ### The function HouseRow -/
end Go.Proofs.YtbflmeomkfjikaaGreat.A.E


set_option linter.unusedVariables false
set_option linter.unusedSimpArgs false
set_option maxRecDepth 100000
namespace Go.Proofs.YtbflmeomkfjikaaGreat.A.E
open Go Go.RowKit Go.Shelf

/-! ### A whole triangle, folded, is enclosed -/
/-- This whole number, if fine. -/
def Ex (x : Fr) (z : Int) : Prop := x.fine = true → x = whole z
theorem Ex.whole (z : Int) : Ex (whole z) z := fun _ => rfl
theorem subF_whole {a b : Int} (ha : few a) (hb : few b) (hs : few (a - b)) : subF (whole a) (whole b) = whole (a - b) := by
  have e : subX (a * 16777216) (b * 16777216) = ((a - b) * 16777216, true) := by
    unfold subX toldF
    rw [← Int.sub_mul]
    simp [rightX_U ha, rightX_U hb, rightX_U hs]
  unfold subF madeE
  simp [okP, e, fine_whole ha, fine_whole hb, minL, maxL]
theorem few0 : few 0 := by unfold few; omega
theorem Ex.sub0 {a b : Fr} {z : Int} (hz : few z) (ha : Ex a z) (hb : Ex b 0) : Ex (subF a b) z := fun h => by
  rw [ha (made_fine h).1, hb (made_fine h).2, subF_whole hz few0 (by rw [Int.sub_zero]; exact hz), Int.sub_zero]
theorem md_zero {y m : Int} (h : (mulX 0 y m).2 = true) : (mulX 0 y m).1 = 0 := by
  have hs := mul_spec h
  rw [Int.zero_mul] at hs
  obtain ⟨h1, h2, _⟩ := hs
  omega
theorem Ex.mul0 {a b : Fr} (ha : Ex a 0) : Ex (mulF a b) 0 := fun h => by
  have e := ha (made_fine h).1
  subst e
  obtain ⟨_, _, hv, hp, _⟩ := made_is (fine_is.1 h).1
  have e0 : (0 : Int) * 16777216 = 0 := rfl
  simp only [allP, List.mem_cons, List.not_mem_nil, or_false, forall_eq_or_imp, forall_eq, e0] at hv hp
  obtain ⟨⟨a1, a2⟩, ⟨b1, b2⟩, _⟩ := hp
  unfold mulF madeE at h ⊢
  split at h
  · rename_i hc
    rw [if_pos hc]
    simp [allP, minL, maxL, md_zero hv, md_zero a1, md_zero a2, md_zero b1, md_zero b2]
  · cases h
theorem Ex.rq {x : Fr} {z : Int} (hz : few z) (h : Ex x z) : Rq x (z : Rat) := fun hf => by
  rw [h hf, ← newF_whole hz]
  exact whole_enc hz
theorem Ex.sq {a : Fr} {z : Int} (hz : few z) (hzz : few (z * z)) (h : Ex a z) : Ex (mulF a a) (z * z) := fun hf => by
  rw [h (made_fine hf).1, mulF_whole hz hz hzz]
theorem Ex.add {a b : Fr} {y z : Int} (hy : few y) (hz : few z) (hs : few (y + z)) (ha : Ex a y) (hb : Ex b z) : Ex (addF a b) (y + z) := fun h => by
  rw [ha (made_fine h).1, hb (made_fine h).2, addF_whole hy hz hs]
/-- A row of one number, and noughts behind it: its length, squared. -/
theorem Ex.dot {f : Nat → Fr} {z : Int} (hz : few z) (hzz : few (z * z)) (h0 : Ex (f 0) z) (hr : ∀ j, 0 < j → Ex (f j) 0) : ∀ {n : Nat}, 0 < n → Ex (dotF ((List.range n).map f) ((List.range n).map f)) (z * z)
  | n + 1, _ => by
    rw [dotF_range, sumF_succ]
    by_cases hn : n = 0
    · subst hn
      have e : sumF ((List.range 0).map fun j => mulF (f j) (f j)) = newF 0 1 := rfl
      rw [e, newF_whole few0]
      have := Ex.add few0 hzz (by rw [Int.zero_add]; exact hzz) (Ex.whole 0) (h0.sq hz hzz)
      rwa [Int.zero_add] at this
    · have ih := Ex.dot hz hzz h0 hr (show 0 < n by omega)
      rw [dotF_range] at ih
      have := Ex.add hzz few0 (by rw [Int.add_zero]; exact hzz) ih (Ex.mul0 (b := f n) (hr n (by omega)))
      rwa [Int.add_zero] at this

section
variable {n : Nat} {L : Nat → Nat → Int} {M : Nat → Nat → Fr}
theorem few_low (h : LowTri n L) (i k : Nat) : few (L i k) := few_h (h.small i k)
theorem few_sq (h : LowTri n L) (i k : Nat) : few (L i k * L i k) := by
  have := prod_small (h.small i k) (h.small i k)
  unfold few
  omega
/-- What is left to fold stays as it was, where it is fine. -/
theorem ex_step (h : LowTri n L) {k : Nat} (hk : k < n) (hM : ∀ i c, k ≤ i → i < n → k ≤ c → c < n → Ex (M i c) (L i c)) : ∀ i c, k + 1 ≤ i → i < n → k + 1 ≤ c → c < n → Ex (foldF n M k n i c) (L i c) := fun i c hi hin hc hcn => by
  unfold foldF
  rw [if_neg (by omega), foldTo, if_pos ⟨by omega, hin, by omega⟩]
  refine Ex.sub0 (few_low h i c) (hM i c (by omega) hin (by omega) hcn) (Ex.mul0 ?_)
  unfold vA
  rw [if_neg (by omega)]
  have := hM k c (Nat.le_refl _) hk (by omega) hcn
  rwa [h.zero k c (by omega) hcn] at this
theorem ex_dot (h : LowTri n L) {k : Nat} (hk : k < n) (hM : ∀ c, k ≤ c → c < n → Ex (M k c) (L k c)) : Ex (dotF (xF n M k) (xF n M k)) (L k k * L k k) := by
  have e : xF n M k = (List.range (n - k)).map fun j => if j < n - k then M k (k + j) else newF 0 1 := by
    unfold xF rowM
    rw [drop_range]
    exact List.map_congr_left fun j hj => by rw [if_pos (List.mem_range.1 hj)]
  rw [e]
  refine Ex.dot (few_low h k k) (few_sq h k k) ?_ (fun j hj => ?_) (by omega)
  · rw [if_pos (by omega)]
    exact hM k (Nat.le_refl _) hk
  · split
    · have := hM (k + j) (by omega) (by omega)
      rwa [h.zero k (k + j) (by omega) (by omega)] at this
    · rw [newF_whole few0]; exact Ex.whole 0
/-- What is folded, of numbers as they are in truth. -/
def doneR (L : Nat → Nat → Int) (k : Nat) (i c : Nat) : Rat := if c < k then -((L i c : Int) : Rat) else ((L i c : Int) : Rat)
theorem fold_done (h : LowTri n L) {k : Nat} (hk : k < n) {i c : Nat} (hi : i < n) (hc : c < n) : foldR n (doneR L k) k (-((L k k : Int) : Rat)) i c = doneR L (k + 1) i c := by
  have hz : ∀ i c : Nat, i < c → c < n → ((L i c : Int) : Rat) = 0 := fun i c h1 h2 => by rw [h.zero i c h1 h2]; rfl
  have hv : ∀ j, j < n → vR (doneR L k) k (-((L k k : Int) : Rat)) j = if j = k then ((L k k : Int) : Rat) + (L k k : Int) else 0 := fun j hj => by
    unfold vR doneR
    by_cases h1 : j < k
    · rw [if_pos h1, if_neg (by omega)]
    · by_cases h2 : j = k
      · rw [if_neg h1, if_pos h2, if_pos h2, if_neg (by omega)]
        grind
      · rw [if_neg h1, if_neg h2, if_neg h2, if_neg h1]
        exact hz k j (by omega) hj
  unfold foldR
  by_cases h1 : i < k
  · rw [if_pos h1]
    unfold doneR
    by_cases h2 : c < k
    · rw [if_pos h2, if_pos (by omega)]
    · rw [if_neg h2]
      split
      · rw [hz i c (by omega) hc]; rfl
      · rfl
  · rw [if_neg h1]
    by_cases h2 : i = k
    · subst h2
      rw [if_pos rfl]
      unfold xR doneR
      by_cases h3 : c < i
      · rw [if_pos h3, if_pos h3, if_pos (by omega)]
      · rw [if_neg h3]
        by_cases h4 : c = i
        · subst h4
          rw [if_pos rfl, if_pos (by omega)]
        · rw [if_neg h4, if_neg (by omega), hz i c (by omega) hc]
    · rw [if_neg h2, hv c hc]
      by_cases h3 : c = k
      · subst h3
        rw [if_pos rfl]
        have hd : dR n (doneR L c) c (-((L c c : Int) : Rat)) i = ((L i c : Int) : Rat) * (((L c c : Int) : Rat) + (L c c : Int)) := by
          unfold dR
          rw [← sumR_pick (fun j => ((L i j : Int) : Rat) * (((L c c : Int) : Rat) + (L c c : Int))) hk]
          refine sumR_congr fun j hj => ?_
          rw [hv j hj]
          split
          · rename_i e
            unfold doneR
            rw [if_neg (by omega)]
          · rw [Rat.mul_zero]
        have hq : qR n (doneR L c) c (-((L c c : Int) : Rat)) = (((L c c : Int) : Rat) + (L c c : Int)) * (((L c c : Int) : Rat) + (L c c : Int)) := by
          unfold qR
          rw [← sumR_pick (fun j => (((L c c : Int) : Rat) + (L c c : Int)) * (((L c c : Int) : Rat) + (L c c : Int))) hk]
          refine sumR_congr fun j hj => ?_
          rw [hv j hj]
          split
          · rfl
          · rw [Rat.mul_zero]
        have hne : ((L c c : Int) : Rat) ≠ 0 := A.cast_ne (by have := h.diag c hk; omega)
        unfold tR
        rw [hd, hq]
        unfold doneR
        rw [if_neg (by omega), if_pos (by omega)]
        grind
      · rw [if_neg h3, Rat.zero_mul]
        unfold doneR
        by_cases h4 : c < k
        · rw [if_pos h4, if_pos (by omega)]
          grind
        · rw [if_neg h4, if_neg (by omega)]
          grind
/-- The length of a row of one number: above 0; with a minus. -/
theorem norm_two (h : LowTri n L) {k : Nat} (hk : k < n) (hM : ∀ c, k ≤ c → c < n → Ex (M k c) (L k c)) (hf : (normF n M k).fine = true) : signF (normF n M k) < 0 ∧ Enc (normF n M k) (-((L k k : Int) : Rat)) := by
  have hD := ex_dot h hk hM
  have hdg := h.diag k hk
  have hrf : (rootF (dotF (xF n M k) (xF n M k))).fine = true := by
    unfold normF at hf
    split at hf
    · exact neg_fine hf
    · exact hf
  have hdf := root_fine hrf
  have hx : (M k k).fine = true := by
    unfold xF rowM at hdf
    rw [drop_range] at hdf
    exact (dot_fine hdf 0 (by omega)).1
  have e0 := hM k (Nat.le_refl _) hk hx
  have eD := hD hdf
  have hsg : signF (M k k) = 1 := by
    rw [e0]
    unfold signF
    rw [if_neg (by simp; omega), if_neg (by simp; omega)]
  have e1 : normF n M k = negF (rootF (dotF (xF n M k) (xF n M k))) := by
    unfold normF
    rw [if_pos (by omega)]
  rw [e1] at hf ⊢
  have hrq : Rq (rootF (dotF (xF n M k) (xF n M k))) ((L k k : Int) : Rat) := Rq.root (Ex.rq (few_sq h k k) hD) (by
    have : ((0 : Int) : Rat) ≤ (L k k : Rat) := Rat.intCast_le_intCast.2 (by omega)
    simpa using this) (by rw [Rat.intCast_mul])
  refine ⟨?_, hrq.neg hf⟩
  have hv : 1 ≤ (rootF (dotF (xF n M k) (xF n M k))).v := by
    rw [eD] at hrf ⊢
    obtain ⟨_, _, hv, _⟩ := made_is (fine_is.1 hrf).1
    obtain ⟨r, R, h1, h2, h3, h4, h5, h6, _⟩ := rt_spec (m := 0) (x := L k k * L k k * 16777216) hv
    have e : (rootF (whole (L k k * L k k))).v = (rtX (L k k * L k k * 16777216) 0).1 := by
      unfold rootF at hrf ⊢
      unfold madeE at hrf ⊢
      split
      · rfl
      · rename_i hn
        rw [if_neg hn] at hrf
        cases hrf
    rw [e, h1]
    have hr : 1 ≤ r := by
      rcases Nat.eq_zero_or_pos r with hr | hr
      · subst hr
        have : 1 ≤ L k k * L k k := by
          have := Int.mul_le_mul_of_nonneg_left hdg (show (0 : Int) ≤ L k k by omega)
          omega
        omega
      · exact hr
    omega
  have hnb := fine_is.1 hf
  have hnv : (negF (rootF (dotF (xF n M k) (xF n M k)))).v = 0 - (rootF (dotF (xF n M k) (xF n M k))).v := by
    generalize rootF (dotF (xF n M k) (xF n M k)) = R at hf hnb ⊢
    obtain ⟨_, _, hv, _⟩ := made_is hnb.1
    have hs := sub_spec hv
    have e : (negF R).v = (subX (point 0).v R.v).1 := by
      unfold negF subF at hf ⊢
      unfold madeE at hf ⊢
      split
      · rfl
      · rename_i hn
        rw [if_neg hn] at hf
        cases hf
    rw [e, hs.1]
    rfl
  unfold signF
  rw [if_neg (by rintro (hb | hb); · rw [hnb.1] at hb; cases hb
                 · omega), if_pos (by omega)]
  omega
/-- Folds of a triangle: what is known of them. -/
theorem folds_two (h : LowTri n L) (hM : ∀ i c, i < n → c < n → M i c = whole (L i c)) : ∀ k, k ≤ n → (∀ i c, k ≤ i → i < n → k ≤ c → c < n → Ex (foldsF n n M k i c) (L i c)) ∧ RqM n n (foldsF n n M k) (doneR L k)
  | 0, _ => by
    refine ⟨fun i c _ hi _ hc => ?_, fun i c hi hc => ?_⟩
    · show Ex (M i c) _
      rw [hM i c hi hc]
      exact Ex.whole _
    · show Rq (M i c) _
      rw [hM i c hi hc]
      unfold doneR
      rw [if_neg (by omega)]
      exact Ex.rq (few_low h i c) (Ex.whole _)
  | k + 1, hk => by
    obtain ⟨h1, h2⟩ := folds_two h hM k (by omega)
    refine ⟨ex_step h (by omega) h1, fun i c hi hc => ?_⟩
    have hn : Rq (normF n (foldsF n n M k) k) (-((L k k : Int) : Rat)) := fun hf => (norm_two h (by omega) (fun c h3 h4 => h1 k c (Nat.le_refl _) (by omega) h3 h4) hf).2
    have := fold_rq h2 (show k < n by omega) (Nat.le_refl _) hn i c hi hc
    rwa [fold_done h (by omega) hi hc] at this
theorem tri_two (hn : 1 ≤ n ∧ n ≤ 16) (h : LowTri n L) {l : List Fr} (hM : ∀ i c, i < n → c < n → startF n n l i c = whole (L i c)) {i k : Nat} (hi : i < n) (hk : k < n) (hb : ((triF n n l).getD (i * n + k) dz).bad = false) :
    Enc ((triF n n l).getD (i * n + k) dz) ((L i k : Int) : Rat) := by
  have hA := (folds_two h hM n (Nat.le_refl _)).2
  have hR := tri_rq hn (Nat.le_refl n) hA hi hk
  have e := tri_at (w := n) (l := l) hn hi hk
  unfold triR at hR
  by_cases h1 : i < k
  · rw [if_pos h1] at hR e
    rw [h.zero i k h1 hk]
    exact hR (by rw [e]; exact fine_whole few0)
  · rw [if_neg h1] at hR e
    have hE := (folds_two h hM k (by omega)).1
    have hfold : (foldsF n n (startF n n l) n i k).fine = true → (normF n (foldsF n n (startF n n l) k) k).fine = true := fun hf => by
      by_cases h2 : i = k
      · subst h2
        rw [folds_diag _ hk] at hf
        exact hf
      · rw [folds_low _ hk (by omega) hi] at hf
        have := (made_fine (made_fine hf).2).1
        unfold vA at this
        rw [if_pos rfl] at this
        exact (made_fine this).2
    have hsnd : SndE (foldsF n n (startF n n l) n i k) := by
      by_cases h2 : i = k
      · subst h2
        rw [folds_diag _ hk]
        exact norm_snd _ _ _
      · rw [folds_low _ hk (by omega) hi]
        exact subF_snd _ _
    have hfine : ((triF n n l).getD (i * n + k) dz).fine = true := by
      rw [e] at hb ⊢
      split at hb
      · rename_i hs
        rw [if_pos hs]
        exact subF_snd _ _ hb
      · rename_i hs
        rw [if_neg hs]
        exact hsnd hb
    have hff : (foldsF n n (startF n n l) n i k).fine = true := by
      rw [e] at hfine
      split at hfine
      · exact neg_fine hfine
      · exact hfine
    have hs := (norm_two h hk (fun c h3 h4 => hE k c (Nat.le_refl _) hk h3 h4) (hfold hff)).1
    rw [← folds_diag _ hk] at hs
    rw [if_pos hs] at hR
    have := hR hfine
    unfold doneR at this
    rw [if_pos hk, Rat.neg_neg] at this
    exact this
end
end Go.Proofs.YtbflmeomkfjikaaGreat.A.E



set_option linter.unusedVariables false
set_option linter.unusedSimpArgs false
set_option maxRecDepth 100000
namespace Go.Proofs.YtbflmeomkfjikaaGreat.A.E
open Go Go.RowKit Go.Shelf

/-! ### Whole numbers in memory -/
theorem okm43 (b cap : Nat) (xs : List Int) (q : List PV) (m : Mem) (hm : m b = some (xs.map num ++ q)) (hb : xs.length ≤ 4398046511104) :
    OkM Tryz.prog 43 [.s (.slice (some ⟨b, 0, none⟩) xs.length cap)] m (fun r m' => r = .sl false (frs (xs.map (newF · 1))) ∧ m' = m) := by
  refine okm_fn mixed Tryz.func43 (code := ?_) (h := h43) ?_ k43 ?_
  rotate_left
  · exact rfl
  unfold h43 initS
  simp -implicitDefEqProofs (maxSteps := 10000000) only [rkA, rkB, stepA, valA, simprocAttr, Tryz.ntmps43, Tryz.results43]
  refine wp_loop (fun mm s => ∃ i, i + mm = xs.length ∧ s = ⟨[jk, jk, jk, .acc 3 (frs ((xs.take i).map (newF · 1))), .ptr 4 0, jk, jk, .v (.s (.slice (some ⟨b, 0, none⟩) xs.length cap)), nt xs.length, nt i, jk, jk, jk, jk, jk, jk, jk, jk, jk, jk, jk, jk],
    [(4, [nt 0, nt 0, nt 0, .v (tru false)])], [], [(2, 0), (3, i)], [], 0, m⟩) xs.length ?_ ?_
  · simp -implicitDefEqProofs (maxSteps := 10000000) only [rkA, rkB, stepA, valA, simprocAttr]
    refine ⟨0, by simp, ?_⟩
    simp
  rintro mm s ⟨i, hi, rfl⟩
  simp -implicitDefEqProofs (maxSteps := 10000000) only [rkA, rkB, stepA, valA, simprocAttr]
  refine gB_dec ?_ ?_ <;> intro hc <;> simp -implicitDefEqProofs (maxSteps := 10000000) only [hc, rkA, rkB, stepA, valA, simprocAttr]
  · have hlt : i < xs.length := by omega
    have h0 : (0 : Int) ≤ (i : Int) := by omega
    have hg : (xs.map num ++ q)[i]? = some (num xs[i]) := by
      rw [List.getElem?_append_left (by simpa using hlt)]
      simp [hlt]
    have hld := ldM_one hg
    simp -implicitDefEqProofs (maxSteps := 10000000) only [h0, Int.toNat_natCast, addr_add, hm, hld, Nat.zero_add, Nat.mul_one, rkA, rkB, stepA, valA, simprocAttr]
    refine call_meth rfl rfl methOf (ok56 ⟨0, 0, 0, false⟩ xs[i]) ?_
    have hfit : fits 4 32 (frs ((xs.take i).map (newF · 1))) [frV (newF xs[i] 1)] = true := fits_frs (l := [newF xs[i] 1]) (by simp; omega)
    have hw := wrapped (x := (i : Int) + 1) (by omega) (by omega)
    have hl : (frs ((xs.take i).map (newF · 1))).length = i := by simp; omega
    simp -implicitDefEqProofs (maxSteps := 10000000) only [hfit, hl, hw, rkA, rkB, stepA, valA, simprocAttr]
    refine loopK_of (m' := mm - 1) (by omega) ?_
    simp -implicitDefEqProofs (maxSteps := 10000000) only [rkA, rkB, stepA, valA, simprocAttr]
    refine ⟨i + 1, by omega, ?_⟩
    rw [List.take_succ_eq_append_getElem hlt]
    simp only [frs, List.map_append, List.map_cons, List.map_nil, Int.natCast_add, Int.natCast_one]
  · have : xs.length ≤ i := by omega
    rw [List.take_of_length_le this]
    exact ⟨_, rfl, rfl⟩
theorem okm22 (r c : Int) (b cap : Nat) (xs : List Int) (q : List PV) (m : Mem) (hm : m b = some (xs.map num ++ q)) (hb : xs.length ≤ 4398046511104) :
    OkM Tryz.prog 22 [num r, num c, .s (.slice (some ⟨b, 0, none⟩) xs.length cap)] m (fun x m' => x = (if right r c xs.length = true then .tup [matV false r c (frs (xs.map (newF · 1))), tru true] else .tup [matNil, tru false]) ∧ m' = m) := by
  refine okm_fn mixed Tryz.func22 (code := ?_) (h := hN22) ?_ kN22 ?_
  rotate_left
  · exact rfl
  unfold hN22 initS
  simp -implicitDefEqProofs (maxSteps := 10000000) only [rkA, rkB, stepA, valA, simprocAttr, Tryz.ntmps22, Tryz.results22]
  refine mem_fn rfl rfl rfl (okm43 b cap xs q m hm hb) ?_
  rintro x m' ⟨rfl, rfl⟩
  simp -implicitDefEqProofs (maxSteps := 10000000) only [rkA, rkB, stepA, valA, simprocAttr]
  refine call_fn rfl rfl rfl (ok26 r c false (xs.map (newF · 1)) (by simpa using hb)) ?_
  simp only [List.length_map]
  cases hr : right r c xs.length with
  | true =>
    simp -implicitDefEqProofs (maxSteps := 10000000) only [rkA, rkB, stepA, valA, simprocAttr]
    exact ⟨_, rfl, rfl⟩
  | false =>
    simp -implicitDefEqProofs (maxSteps := 10000000) only [rkA, rkB, stepA, valA, simprocAttr]
    exact ⟨_, rfl, rfl⟩

/-! ### The function HouseTwice -/
/-- The first m numbers cleared, of n in a row. -/
def lowZ (l : List Int) (n m : Nat) : List Int := (List.range l.length).map fun j => if j < m ∧ j / n < j % n then 0 else l.getD j 0
theorem lowZ_len (l : List Int) (n m : Nat) : (lowZ l n m).length = l.length := by simp [lowZ]
theorem lowZ_zero (l : List Int) (n : Nat) : lowZ l n 0 = l := by
  unfold lowZ
  apply List.ext_getElem?
  intro j
  by_cases h : j < l.length
  · simp [h, List.getD_eq_getElem?_getD]
  · rw [List.getElem?_eq_none (by simp; omega), List.getElem?_eq_none (by omega)]
theorem lowZ_get {l : List Int} {n m j : Nat} (h : j < l.length) : (lowZ l n m)[j]? = some (if j < m ∧ j / n < j % n then 0 else l.getD j 0) := by
  unfold lowZ
  simp [h]
theorem lowZ_set {l : List Int} {n m : Nat} (h : m < l.length) (hz : m / n < m % n) : (lowZ l n m).set m 0 = lowZ l n (m + 1) := by
  apply List.ext_getElem?
  intro j
  by_cases hj : j < l.length
  · rw [List.getElem?_set, lowZ_get hj, lowZ_get hj, lowZ_len]
    by_cases e : m = j
    · subst e
      rw [if_pos rfl, if_pos h, if_pos ⟨by omega, hz⟩]
    · rw [if_neg e]
      by_cases h2 : j < m
      · have : j < m + 1 := by omega
        simp only [h2, this]
      · have : ¬ j < m + 1 := by omega
        simp only [h2, this]
  · rw [List.getElem?_eq_none (by simp [lowZ_len]; omega), List.getElem?_eq_none (by simp [lowZ_len]; omega)]
theorem lowZ_same {l : List Int} {n m : Nat} (hz : ¬ m / n < m % n) : lowZ l n (m + 1) = lowZ l n m := by
  unfold lowZ
  refine List.map_congr_left fun j hj => ?_
  by_cases h1 : j = m
  · subst h1
    simp [hz]
  · have : (j < m + 1) = (j < m) := by simp; omega
    simp only [this]
theorem at_div {n i k : Nat} (hk : k < n) : (i * n + k) / n = i ∧ (i * n + k) % n = k := by
  constructor
  · rw [Nat.mul_comm, Nat.mul_add_div (by omega), Nat.div_eq_of_lt hk, Nat.add_zero]
  · rw [Nat.mul_comm, Nat.mul_add_mod, Nat.mod_eq_of_lt hk]
/-- A number of a table, what stands above the diagonal cleared. -/
def lowA (l : List Int) (n j : Nat) : Int := if j / n < j % n then 0 else l.getD j 0
theorem flat_nums : ∀ l : List Int, flat (l.map num) = l.map num
  | [] => rfl
  | x :: l => by
    show (num x).cells ++ flat (l.map num) = _
    rw [flat_nums l]
    rfl
theorem RFs_nums : ∀ l : List Int, RFs (flat (l.map num)) = true
  | [] => rfl
  | x :: l => by
    show RFs ((num x).cells ++ flat (l.map num)) = true
    exact RFs_append rfl (RFs_nums l)
theorem lowZ_at {l : List Int} {n m j : Nat} (hj : j < m) (h : j < l.length) : (lowZ l n m)[j]? = some (lowA l n j) := by
  rw [lowZ_get h]
  unfold lowA
  simp only [hj, true_and]
theorem two_key {l : List Int} {n : Nat} (hn : 1 ≤ n ∧ n ≤ 3) (hl : l.length = n * n) (hB : ∀ j, j < n * n → -20 ≤ lowA l n j ∧ lowA l n j ≤ 20) (hD : ∀ r, r < n → 1 ≤ lowA l n (r * n + r)) :
    ∀ j, j < n * n → ((triF n n ((lowZ l n (n * n)).map (newF · 1))).getD j dz).bad = false → enclB ((triF n n ((lowZ l n (n * n)).map (newF · 1))).getD j dz) (lowA l n j) 1 = true := fun j hj hb => by
  have hlt : ∀ a b : Nat, a < n → b < n → a * n + b < n * n := fun a b ha hb => (at_table (i := a) (j := b) (n := n) (m := n) ha hb).1
  have hL : LowTri n (fun a b => if a < n ∧ b < n then lowA l n (a * n + b) else 0) :=
    { small := fun a b => by
        show -100 ≤ (if a < n ∧ b < n then lowA l n (a * n + b) else 0) ∧ (if a < n ∧ b < n then lowA l n (a * n + b) else 0) ≤ 100
        split
        · rename_i h
          have := hB _ (hlt a b h.1 h.2)
          omega
        · omega
      zero := fun a b h1 h2 => by
        show (if a < n ∧ b < n then lowA l n (a * n + b) else 0) = 0
        split
        · have := at_div (i := a) h2
          unfold lowA
          rw [if_pos (by rw [this.1, this.2]; exact h1)]
        · rfl
      diag := fun r hr => by
        show 1 ≤ (if r < n ∧ r < n then lowA l n (r * n + r) else 0)
        rw [if_pos ⟨hr, hr⟩]
        exact hD r hr }
  have hM : ∀ a b, a < n → b < n → startF n n ((lowZ l n (n * n)).map (newF · 1)) a b = whole (if a < n ∧ b < n then lowA l n (a * n + b) else 0) := fun a b ha hb => by
    have hab := hlt a b ha hb
    have hr : right (n : Int) (n : Int) ((lowZ l n (n * n)).map (newF · 1)).length = true := right_nat (by omega) (by omega) (by rw [List.length_map, lowZ_len, hl])
    unfold startF
    rw [if_pos ⟨ha, hb⟩, atF_eq hr (by simpa using ha) (by simpa using hb), Int.toNat_natCast, getD_newF (by rw [lowZ_len]; omega), List.getD_eq_getElem?_getD, lowZ_at hab (by omega), Option.getD_some]
    have := hB _ hab
    exact newF_whole (by unfold few; omega)
  have hq : j / n < n := Nat.div_lt_of_lt_mul hj
  have hr' : j % n < n := Nat.mod_lt _ (by omega)
  have e : j / n * n + j % n = j := by rw [Nat.mul_comm]; exact Nat.div_add_mod j n
  have h := tri_two (by omega) hL hM hq hr' (by rw [e]; exact hb)
  rw [if_pos ⟨hq, hr'⟩, e] at h
  have := hB j hj
  exact encl_int h (by omega)
set_option maxHeartbeats 4000000 in
theorem ok8 (l : List Int) (n : Int) : Ok Tryz.prog 8 [.sl false (l.map num), num n] (tru true) := by
  refine ok_fn mixed Tryz.func8 (code := ?_) (h := h8) ?_ k8 ?_
  rotate_left
  · exact rfl
  unfold h8 initS
  simp -implicitDefEqProofs (maxSteps := 10000000) only [rkA, rkB, stepA, valA, simprocAttr, Tryz.ntmps8, Tryz.results8]
  refine gB_dec ?_ ?_ <;> intro h1 <;> simp -implicitDefEqProofs (maxSteps := 10000000) only [h1, rkA, rkB, stepA, valA, simprocAttr]
  · refine call_fn rfl rfl rfl (ok27) ?_
    simp -implicitDefEqProofs (maxSteps := 10000000) only [rkA, rkB, stepA, valA, simprocAttr]
  refine gB_dec ?_ ?_ <;> intro h3 <;> simp -implicitDefEqProofs (maxSteps := 10000000) only [h3, rkA, rkB, stepA, valA, simprocAttr]
  · refine call_fn rfl rfl rfl (ok27) ?_
    simp -implicitDefEqProofs (maxSteps := 10000000) only [rkA, rkB, stepA, valA, simprocAttr]
  obtain ⟨n, rfl⟩ := Int.eq_ofNat_of_zero_le (show 0 ≤ n by omega)
  have hn : 1 ≤ n ∧ n ≤ 3 := by omega
  have hnn : n * n ≤ 3 * 3 := Nat.mul_le_mul hn.2 hn.2
  have c0 : (n : Int) * (n : Int) = ((n * n : Nat) : Int) := by simp
  have w0 := wrapped (x := ((n * n : Nat) : Int)) (by omega) (by omega)
  simp -implicitDefEqProofs (maxSteps := 10000000) only [c0, w0, rkA, rkB, stepA, valA, simprocAttr]
  cases hl : ((((l.map num).length : Nat) : Int) != ((n * n : Nat) : Int)) with
  | true =>
    simp -implicitDefEqProofs (maxSteps := 10000000) only [hl, rkA, rkB, stepA, valA, simprocAttr]
    refine call_fn rfl rfl rfl (ok27) ?_
    simp -implicitDefEqProofs (maxSteps := 10000000) only [rkA, rkB, stepA, valA, simprocAttr]
  | false =>
  simp -implicitDefEqProofs (maxSteps := 10000000) only [hl, rkA, rkB, stepA, valA, simprocAttr]
  have hl' : l.length = n * n := by
    have : (((l.map num).length : Nat) : Int) = ((n * n : Nat) : Int) := by simpa using hl
    rw [List.length_map] at this
    omega
  refine grow_of rfl rfl (.same _) (.same _) rfl (RFs_nums _) (fits_num (k := []) (l := l) (by simp only [List.length_nil]; omega)) (fun h => ?_) (fun _ c cap k hc hcap hk => ?_)
  · exfalso
    have : l = [] := by simpa using h
    subst this
    have : 1 * 1 ≤ n * n := Nat.mul_le_mul hn.1 hn.1
    simp at hl'
    omega
  simp -implicitDefEqProofs (maxSteps := 10000000) only [List.nil_append, rkA, rkB, stepA, valA, simprocAttr]
  have hk' : (flat (l.map num) ++ List.replicate k .junk) = (lowZ l n 0).map num ++ List.replicate k .junk := by rw [flat_nums, lowZ_zero]
  have hll : (l.map num).length = n * n := by rw [List.length_map, hl']
  rw [hk', hll]
  clear hk'
  refine wp_loop (fun m s => ∃ (i : Nat) (mm : Mem), i + m = n ∧ mm c = some ((lowZ l n (i * n)).map num ++ List.replicate k .junk) ∧ (∀ j, j < i * n → -20 ≤ lowA l n j ∧ lowA l n j ≤ 20) ∧ (∀ r, r < i → 1 ≤ lowA l n (r * n + r)) ∧
    s = ⟨[jk, .v (num n), jk, jk, jk, .v (.s (.slice (some ⟨c, 0, none⟩) (n * n) cap)), jk, jk, jk, jk, jk, jk, jk, jk, jk, jk, jk, jk, jk, jk, jk, jk, jk, jk, jk, jk, jk, jk, jk, jk, jk, jk, .v (num n), nt i, jk, jk, jk, jk, jk, jk, jk, jk, jk, jk, jk, jk, jk, jk, jk, jk, jk, jk, jk, jk, jk, jk, jk, jk, jk, jk, jk, jk, jk, jk, jk, jk, jk, jk, jk, jk, jk, jk, jk, jk, jk, jk, jk, jk, jk, jk, jk, jk, jk, jk, jk, jk, jk, jk, jk, jk, jk, jk, jk, jk, jk, jk, jk, jk, jk, jk, jk, jk, jk, jk, jk, jk, jk, jk, jk, jk, jk, jk, jk, jk, jk, jk, jk, jk, jk, jk, jk, jk, jk, jk, jk, jk, jk, jk], [], [], [], [], 0, mm⟩) n ?_ ?_
  · simp -implicitDefEqProofs (maxSteps := 10000000) only [rkA, rkB, stepA, valA, simprocAttr]
    exact ⟨0, _, by simp, by rw [Mem.put_same, Nat.zero_mul], fun j hj => by omega, fun r hr => by omega, rfl⟩
  rintro m s ⟨i, mm, him, hmm, hB, hD, rfl⟩
  simp -implicitDefEqProofs (maxSteps := 10000000) only [rkA, rkB, stepA, valA, simprocAttr]
  refine gB_dec ?_ ?_ <;> intro hc1 <;> simp -implicitDefEqProofs (maxSteps := 10000000) only [hc1, rkA, rkB, stepA, valA, simprocAttr]
  · refine wp_loop (fun m s => ∃ (k' : Nat) (mm : Mem), k' + m = n ∧ mm c = some ((lowZ l n (i * n + k')).map num ++ List.replicate k .junk) ∧ (∀ j, j < i * n + k' → -20 ≤ lowA l n j ∧ lowA l n j ≤ 20) ∧
      s = ⟨[jk, .v (num n), jk, jk, jk, .v (.s (.slice (some ⟨c, 0, none⟩) (n * n) cap)), nt i, jk, jk, jk, jk, jk, jk, jk, jk, jk, jk, jk, jk, jk, jk, jk, jk, jk, jk, jk, jk, jk, jk, jk, jk, jk, .v (num n), nt i, jk, jk, .v (num n), nt k', jk, jk, jk, jk, jk, jk, jk, jk, jk, jk, jk, jk, jk, jk, jk, jk, jk, jk, jk, jk, jk, jk, jk, jk, jk, jk, jk, jk, jk, jk, jk, jk, jk, jk, jk, jk, jk, jk, jk, jk, jk, jk, jk, jk, jk, jk, jk, jk, jk, jk, jk, jk, jk, jk, jk, jk, jk, jk, jk, jk, jk, jk, jk, jk, jk, jk, jk, jk, jk, jk, jk, jk, jk, jk, jk, jk, jk, jk, jk, jk, jk, jk, jk, jk, jk, jk, jk, jk, jk, jk], [], [], [], [], 0, mm⟩) n ?_ ?_
    · simp -implicitDefEqProofs (maxSteps := 10000000) only [rkA, rkB, stepA, valA, simprocAttr]
      exact ⟨0, mm, by simp, hmm, hB, rfl⟩
    rintro m1 s ⟨k', mm, hkm, hmm, hB, rfl⟩
    simp -implicitDefEqProofs (maxSteps := 10000000) only [rkA, rkB, stepA, valA, simprocAttr]
    refine gB_dec ?_ ?_ <;> intro hc2 <;> simp -implicitDefEqProofs (maxSteps := 10000000) only [hc2, rkA, rkB, stepA, valA, simprocAttr]
    · have t := at_table (i := i) (j := k') (n := n) (m := n) (by omega) (by omega)
      have hd := at_div (i := i) (show k' < n by omega)
      have c1' : (i : Int) * (n : Int) = ((i * n : Nat) : Int) := by simp
      have c3 : ((i * n : Nat) : Int) + (k' : Int) = ((i * n + k' : Nat) : Int) := by simp
      have w1 := wrapped (x := ((i * n : Nat) : Int)) (by omega) (by omega)
      have w3 := wrapped (x := ((i * n + k' : Nat) : Int)) (by omega) (by omega)
      have n1 : (0 : Int) ≤ ((i * n + k' : Nat) : Int) := by omega
      have n2 : ((i * n + k' : Nat) : Int) < ((n * n : Nat) : Int) := by omega
      have hlt : i * n + k' < l.length := by omega
      refine gB_dec ?_ ?_ <;> intro hki <;> simp -implicitDefEqProofs (maxSteps := 10000000) only [hki, rkA, rkB, stepA, valA, simprocAttr]
      · have hst := stM_one (cells := (lowZ l n (i * n + k')).map num ++ List.replicate k .junk) (i := i * n + k') (x := num 0) (by simp [lowZ_len]; omega) rfl rfl
        simp -implicitDefEqProofs (maxSteps := 10000000) only [c1', w1, c3, w3, n1, n2, Int.toNat_natCast, addr_add, Nat.zero_add, Nat.mul_one, hmm, hst, rkA, rkB, stepA, valA, simprocAttr]
        have hX : ((lowZ l n (i * n + k')).map num ++ List.replicate k PV.junk).set (i * n + k') (num 0) = (lowZ l n (i * n + k' + 1)).map num ++ List.replicate k .junk := by
          rw [List.set_append_left _ _ (by simp [lowZ_len]; omega), ← List.map_set, lowZ_set hlt (by rw [hd.1, hd.2]; omega)]
        rw [hX]
        have hmm2 : (mm.put c ((lowZ l n (i * n + k' + 1)).map num ++ List.replicate k .junk)) c = some ((lowZ l n (i * n + k' + 1)).map num ++ List.replicate k .junk) := Mem.put_same _ _ _
        clear hX hst
        generalize mm.put c _ = mm2 at hmm2 ⊢
        have hx := lowZ_at (l := l) (n := n) (m := i * n + k' + 1) (j := i * n + k') (by omega) hlt
        have hcell : ((lowZ l n (i * n + k' + 1)).map num ++ List.replicate k PV.junk)[i * n + k']? = some (num (lowA l n (i * n + k'))) := by
          rw [List.getElem?_append_left (by simp [lowZ_len]; omega), List.getElem?_map, hx]
          rfl
        have hld := ldM_one hcell
        simp -implicitDefEqProofs (maxSteps := 10000000) only [c1', w1, c3, w3, n1, n2, Int.toNat_natCast, addr_add, Nat.zero_add, Nat.mul_one, hmm2, hld, rkA, rkB, stepA, valA, simprocAttr]
        refine gB_dec ?_ ?_ <;> intro hlo <;> simp -implicitDefEqProofs (maxSteps := 10000000) only [hlo, rkA, rkB, stepA, valA, simprocAttr]
        · refine call_fn rfl rfl rfl (ok27) ?_
          simp -implicitDefEqProofs (maxSteps := 10000000) only [rkA, rkB, stepA, valA, simprocAttr]
        simp -implicitDefEqProofs (maxSteps := 10000000) only [c1', w1, c3, w3, n1, n2, Int.toNat_natCast, addr_add, Nat.zero_add, Nat.mul_one, hmm2, hld, rkA, rkB, stepA, valA, simprocAttr]
        refine gB_dec ?_ ?_ <;> intro hhi <;> simp -implicitDefEqProofs (maxSteps := 10000000) only [hhi, rkA, rkB, stepA, valA, simprocAttr]
        · refine call_fn rfl rfl rfl (ok27) ?_
          simp -implicitDefEqProofs (maxSteps := 10000000) only [rkA, rkB, stepA, valA, simprocAttr]
        have hw' := wrapped (x := (k' : Int) + 1) (by omega) (by omega)
        simp -implicitDefEqProofs (maxSteps := 10000000) only [hw', rkA, rkB, stepA, valA, simprocAttr]
        refine loopK_of (m' := m1 - 1) (by omega) ?_
        simp -implicitDefEqProofs (maxSteps := 10000000) only [rkA, rkB, stepA, valA, simprocAttr]
        refine ⟨k' + 1, _, by omega, hmm2, fun j hj => ?_, by simp only [Int.natCast_add, Int.natCast_one]⟩
        by_cases e : j = i * n + k'
        · subst e; omega
        · exact hB j (by omega)
      · have hmm2 : mm c = some ((lowZ l n (i * n + k' + 1)).map num ++ List.replicate k .junk) := by rw [lowZ_same (by rw [hd.1, hd.2]; omega)]; exact hmm
        have hx := lowZ_at (l := l) (n := n) (m := i * n + k' + 1) (j := i * n + k') (by omega) hlt
        have hcell : ((lowZ l n (i * n + k' + 1)).map num ++ List.replicate k PV.junk)[i * n + k']? = some (num (lowA l n (i * n + k'))) := by
          rw [List.getElem?_append_left (by simp [lowZ_len]; omega), List.getElem?_map, hx]
          rfl
        have hld := ldM_one hcell
        simp -implicitDefEqProofs (maxSteps := 10000000) only [c1', w1, c3, w3, n1, n2, Int.toNat_natCast, addr_add, Nat.zero_add, Nat.mul_one, hmm2, hld, rkA, rkB, stepA, valA, simprocAttr]
        refine gB_dec ?_ ?_ <;> intro hlo <;> simp -implicitDefEqProofs (maxSteps := 10000000) only [hlo, rkA, rkB, stepA, valA, simprocAttr]
        · refine call_fn rfl rfl rfl (ok27) ?_
          simp -implicitDefEqProofs (maxSteps := 10000000) only [rkA, rkB, stepA, valA, simprocAttr]
        simp -implicitDefEqProofs (maxSteps := 10000000) only [c1', w1, c3, w3, n1, n2, Int.toNat_natCast, addr_add, Nat.zero_add, Nat.mul_one, hmm2, hld, rkA, rkB, stepA, valA, simprocAttr]
        refine gB_dec ?_ ?_ <;> intro hhi <;> simp -implicitDefEqProofs (maxSteps := 10000000) only [hhi, rkA, rkB, stepA, valA, simprocAttr]
        · refine call_fn rfl rfl rfl (ok27) ?_
          simp -implicitDefEqProofs (maxSteps := 10000000) only [rkA, rkB, stepA, valA, simprocAttr]
        have hw' := wrapped (x := (k' : Int) + 1) (by omega) (by omega)
        simp -implicitDefEqProofs (maxSteps := 10000000) only [hw', rkA, rkB, stepA, valA, simprocAttr]
        refine loopK_of (m' := m1 - 1) (by omega) ?_
        simp -implicitDefEqProofs (maxSteps := 10000000) only [rkA, rkB, stepA, valA, simprocAttr]
        refine ⟨k' + 1, _, by omega, hmm2, fun j hj => ?_, by simp only [Int.natCast_add, Int.natCast_one]⟩
        by_cases e : j = i * n + k'
        · subst e; omega
        · exact hB j (by omega)
    · have hkn : k' = n := by omega
      subst hkn
      have hd := at_div (i := i) (show i < k' by omega)
      have t := at_table (i := i) (j := i) (n := k') (m := k') (by omega) (by omega)
      have hx := lowZ_at (l := l) (n := k') (m := i * k' + k') (j := i * k' + i) (by omega) (by omega)
      have hcell : ((lowZ l k' (i * k' + k')).map num ++ List.replicate k PV.junk)[i * k' + i]? = some (num (lowA l k' (i * k' + i))) := by
        rw [List.getElem?_append_left (by simp [lowZ_len]; omega), List.getElem?_map, hx]
        rfl
      have hld := ldM_one hcell
      have c1' : (i : Int) * (k' : Int) = ((i * k' : Nat) : Int) := by simp
      have c3 : ((i * k' : Nat) : Int) + (i : Int) = ((i * k' + i : Nat) : Int) := by simp
      have w1 := wrapped (x := ((i * k' : Nat) : Int)) (by omega) (by omega)
      have w3 := wrapped (x := ((i * k' + i : Nat) : Int)) (by omega) (by omega)
      have n1 : (0 : Int) ≤ ((i * k' + i : Nat) : Int) := by omega
      have n2 : ((i * k' + i : Nat) : Int) < ((k' * k' : Nat) : Int) := by omega
      simp -implicitDefEqProofs (maxSteps := 10000000) only [c1', w1, c3, w3, n1, n2, Int.toNat_natCast, addr_add, Nat.zero_add, Nat.mul_one, hmm, hld, rkA, rkB, stepA, valA, simprocAttr]
      refine gB_dec ?_ ?_ <;> intro hdg <;> simp -implicitDefEqProofs (maxSteps := 10000000) only [hdg, rkA, rkB, stepA, valA, simprocAttr]
      · refine call_fn rfl rfl rfl (ok27) ?_
        simp -implicitDefEqProofs (maxSteps := 10000000) only [rkA, rkB, stepA, valA, simprocAttr]
      have hw' := wrapped (x := (i : Int) + 1) (by omega) (by omega)
      simp -implicitDefEqProofs (maxSteps := 10000000) only [hw', rkA, rkB, stepA, valA, simprocAttr]
      refine loopK_of (m' := m - 1) (by omega) ?_
      simp -implicitDefEqProofs (maxSteps := 10000000) only [rkA, rkB, stepA, valA, simprocAttr]
      refine ⟨i + 1, mm, by omega, ?_, ?_, ?_, by simp only [Int.natCast_add, Int.natCast_one]⟩
      · rw [show (i + 1) * k' = i * k' + k' by rw [Nat.add_mul, Nat.one_mul]]; exact hmm
      · rw [show (i + 1) * k' = i * k' + k' by rw [Nat.add_mul, Nat.one_mul]]; exact hB
      · intro r hr
        by_cases e : r = i
        · subst e; omega
        · exact hD r (by omega)
  · have hin : i = n := by omega
    subst hin
    have hw29 := okm22 i i c cap (lowZ l i (i * i)) (List.replicate k .junk) mm hmm (by rw [lowZ_len]; omega)
    rw [lowZ_len, hl'] at hw29
    refine mem_fn rfl rfl rfl hw29 ?_
    rintro x m' ⟨rfl, rfl⟩
    have hr : right (i : Int) (i : Int) (i * i) = true := right_nat (by omega) (by omega) rfl
    have lM : ((lowZ l i (i * i)).map (newF · 1)).length = i * i := by rw [List.length_map, lowZ_len, hl']
    simp -implicitDefEqProofs (maxSteps := 10000000) only [hr, if_true, rkA, rkB, stepA, valA, simprocAttr]
    refine call_fn rfl rfl rfl (ok28 i i hn.1 (Nat.le_refl _) (by omega) false _ lM) ?_
    have lT : (triF i i ((lowZ l i (i * i)).map (newF · 1))).length = i * i := tri_len
    have lT' : (frs (triF i i ((lowZ l i (i * i)).map (newF · 1)))).length = i * i := by rw [List.length_map, lT]
    have hnn2 : ((((i * i : Nat) : Int)) != ((i * i : Nat) : Int)) = false := by simp
    simp -implicitDefEqProofs (maxSteps := 10000000) only [lT', c0, w0, hnn2, rkA, rkB, stepA, valA, simprocAttr]
    have key := two_key (l := l) hn hl' hB hD
    clear hw29
    generalize triF i i ((lowZ l i (i * i)).map (newF · 1)) = T at *
    refine wp_loop (fun m s => ∃ j : Nat, j + m = i * i ∧ s = ⟨[jk, jk, jk, jk, jk, .v (.s (.slice (some ⟨c, 0, none⟩) (i * i) cap)), jk, jk, jk, jk, jk, jk, jk, jk, jk, jk, jk, jk, jk, jk, jk, jk, jk, jk, jk, jk, jk, jk, jk, jk, jk, jk, jk, jk, jk, jk, jk, jk, jk, jk, jk, jk, jk, jk, jk, jk, jk, jk, jk, jk, jk, jk, jk, jk, jk, jk, jk, jk, jk, jk, jk, jk, jk, jk, jk, jk, jk, jk, jk, jk, jk, jk, jk, jk, jk, jk, jk, jk, jk, jk, jk, jk, jk, jk, jk, jk, jk, jk, jk, jk, jk, jk, jk, jk, jk, jk, jk, jk, jk, jk, jk, jk, jk, jk, jk, jk, jk, .v (.sl false (frs T)), nt ((i * i : Nat) : Int), nt j, jk, jk, jk, jk, jk, jk, jk, jk, jk, jk, jk, jk, jk, jk, jk, jk, jk, jk],
      [(8, [.v (num i), .v (num i), .v (.sl false (frs ((lowZ l i (i * i)).map (newF · 1))))]), (10, [.v (num i), .v (num i), .v (.sl false (frs T))])], [], [(3008, 0), (3010, 0)], [], 0, m'⟩) (i * i) ?_ ?_
    · simp -implicitDefEqProofs (maxSteps := 10000000) only [rkA, rkB, stepA, valA, simprocAttr]
      exact ⟨0, by simp, rfl⟩
    rintro m1 s ⟨j, hj, rfl⟩
    simp -implicitDefEqProofs (maxSteps := 10000000) only [rkA, rkB, stepA, valA, simprocAttr]
    refine gB_dec ?_ ?_ <;> intro hc2 <;> simp -implicitDefEqProofs (maxSteps := 10000000) only [hc2, rkA, rkB, stepA, valA, simprocAttr]
    · have hlt : j < i * i := by omega
      have hltT : j < T.length := by omega
      have h0 : (0 : Int) ≤ (j : Int) := by omega
      have gT : (frs T)[j]? = some (frV T[j]) := by simp [hltT]
      have hw' := wrapped (x := (j : Int) + 1) (by omega) (by omega)
      have hx := lowZ_at (l := l) (n := i) (m := i * i) (j := j) (by omega) (by omega)
      have hcell : ((lowZ l i (i * i)).map num ++ List.replicate k PV.junk)[j]? = some (num (lowA l i j)) := by
        rw [List.getElem?_append_left (by simp [lowZ_len]; omega), List.getElem?_map, hx]
        rfl
      have hld := ldM_one hcell
      have hkj := key j hlt
      rw [List.getD_eq_getElem?_getD, List.getElem?_eq_getElem hltT, Option.getD_some] at hkj
      simp -implicitDefEqProofs (maxSteps := 10000000) only [h0, Int.toNat_natCast, gT, rkA, rkB, stepA, valA, simprocAttr]
      cases hbj : T[j].bad with
      | true =>
        simp -implicitDefEqProofs (maxSteps := 10000000) only [hw', rkA, rkB, stepA, valA, simprocAttr]
        refine loopK_of (m' := m1 - 1) (by omega) ?_
        simp -implicitDefEqProofs (maxSteps := 10000000) only [rkA, rkB, stepA, valA, simprocAttr]
        exact ⟨j + 1, by omega, by simp only [Int.natCast_add, Int.natCast_one]⟩
      | false =>
        simp -implicitDefEqProofs (maxSteps := 10000000) only [h0, Int.toNat_natCast, addr_add, Nat.zero_add, Nat.mul_one, hc2, hmm, hld, hbj, rkA, rkB, stepA, valA, simprocAttr]
        have h31 := ok25 T[j] (lowA l i j) 1
        rw [hkj hbj] at h31
        simp only [frV, hbj] at h31
        refine call_fn rfl rfl rfl (h31) ?_
        simp -implicitDefEqProofs (maxSteps := 10000000) only [hw', rkA, rkB, stepA, valA, simprocAttr]
        refine loopK_of (m' := m1 - 1) (by omega) ?_
        simp -implicitDefEqProofs (maxSteps := 10000000) only [rkA, rkB, stepA, valA, simprocAttr]
        exact ⟨j + 1, by omega, by simp only [Int.natCast_add, Int.natCast_one]⟩
    · refine call_fn rfl rfl rfl (ok27) ?_
      simp -implicitDefEqProofs (maxSteps := 10000000) only [rkA, rkB, stepA, valA, simprocAttr]
end Go.Proofs.YtbflmeomkfjikaaGreat.A.E


