import Derived.Test.YtbflmeomkfjikaaGreatM5
set_option linter.unusedVariables false
set_option linter.unusedSimpArgs false
set_option maxRecDepth 100000
namespace Go.Proofs.YtbflmeomkfjikaaGreat.A.E
open Go Go.RowKit Go.Shelf

def rowM (n : Nat) (M : Nat → Nat → Fr) (i : Nat) : List Fr := (List.range n).map (M i)
def setM (M : Nat → Nat → Fr) (i k : Nat) (x : Fr) : Nat → Nat → Fr := fun a b => if a = i ∧ b = k then x else M a b
theorem rowM_length (n : Nat) (M : Nat → Nat → Fr) (i : Nat) : (rowM n M i).length = n := by simp [rowM]
theorem rowM_get {n : Nat} {M : Nat → Nat → Fr} {i k : Nat} (h : k < n) : (rowM n M i)[k]? = some (M i k) := by simp [rowM, h]
theorem rowM_set {n : Nat} {M : Nat → Nat → Fr} {i k : Nat} {x : Fr} (h : k < n) : (rowM n M i).set k x = rowM n (setM M i k x) i := by
  apply List.ext_getElem?
  intro j
  rw [List.getElem?_set]
  by_cases hj : j < n
  · by_cases e : k = j
    · subst e
      rw [if_pos rfl, if_pos (by rw [rowM_length]; exact h), rowM_get h]
      simp [setM]
    · rw [if_neg e, rowM_get hj, rowM_get hj]
      have : ¬ (j = k) := fun h => e h.symm
      simp [setM, this]
  · rw [if_neg (by omega), List.getElem?_eq_none (by rw [rowM_length]; omega), List.getElem?_eq_none (by rw [rowM_length]; omega)]
theorem rowM_other {n : Nat} {M : Nat → Nat → Fr} {i j k : Nat} {x : Fr} (h : j ≠ i) : rowM n (setM M i k x) j = rowM n M j := by
  simp [rowM, setM, h]

structure RowsIn (m : Mem) (R : Nat) (c : Nat → Nat) (n b : Nat) (M : Nat → Nat → Fr) : Prop where
  head : m R = some (headR n b c)
  row : ∀ i, i < b → m (c i) = some (flat (frs (rowM n M i)))
  ne : ∀ i, i < b → c i ≠ R
  inj : ∀ i j, i < b → j < b → c i = c j → i = j

theorem ldM_fr {l : List Fr} {k : Nat} {x : Fr} (h : l[k]? = some x) : ldM true 4 (k * 4) (flat (frs l)) = some (.v (frV x)) := by
  have := ldM_elem (els := frs l) (sz := 4) (k := k) (e := frV x) (frs_cells l) (by simp [h]) []
  rwa [List.append_nil] at this
theorem stM_fr {l : List Fr} {k : Nat} {x : Fr} (h : k < l.length) : stM 4 (k * 4) (flat (frs l)) (frV x) = some (flat (frs (l.set k x))) := by
  have := stM_elem (els := frs l) (sz := 4) (k := k) (e := frV x) (frs_cells l) (by simpa using h) rfl rfl []
  rw [List.append_nil, List.append_nil] at this
  rw [this]
  simp [frs, List.map_set]

theorem RowsIn.store {m : Mem} {R : Nat} {c : Nat → Nat} {n b : Nat} {M : Nat → Nat → Fr} (h : RowsIn m R c n b M) {i k : Nat} (hi : i < b) (hk : k < n) (x : Fr) :
    RowsIn (m.put (c i) (flat (frs ((rowM n M i).set k x)))) R c n b (setM M i k x) where
  head := by rw [Mem.put_other _ _ (fun e => h.ne i hi e.symm)]; exact h.head
  row := fun j hj => by
    by_cases e : j = i
    · subst e
      rw [Mem.put_same, rowM_set hk]
    · rw [Mem.put_other _ _ (fun e' => e (h.inj j i hj hi e')), rowM_other e]
      exact h.row j hj
  ne := h.ne
  inj := h.inj

/-- The rows, as values. -/
abbrev rowsV (n : Nat) (M : Nat → Nat → Fr) : PV := .sl true ((List.range n).map fun i => .sl false (frs (rowM n M i)))
theorem RowsIn.tell {m : Mem} {R : Nat} {c : Nat → Nat} {n : Nat} {M : Nat → Nat → Fr} (h : RowsIn m R c n n M) : Tell m (rawRow R n) (rowsV n M) := by
  have hf : flat ((List.range n).map fun i => PV.sl false (frs (rowM n M i))) = (List.range n).map fun i => PV.sl false (frs (rowM n M i)) := flat_one fun x hx => by
    obtain ⟨i, _, rfl⟩ := List.mem_map.1 hx
    rfl
  refine .row (sz := 1) h.head (fun x hx => ?_) (by simp) (by rw [hf, headR_length]; simp) (Nat.le_refl _) (fun _ => rfl) ?_
  · obtain ⟨i, _, rfl⟩ := List.mem_map.1 hx
    rfl
  · rw [hf, List.drop_zero, List.take_of_length_le (by rw [headR_length]; simp)]
    refine tells_map fun i hi => ?_
    have hi' := List.mem_range.1 hi
    rw [if_pos hi']
    have e := h.row i hi'
    rw [← List.append_nil (flat _)] at e
    have := tell_row (m := m) (b := c i) (cap := n) (q := 0) (l := rowM n M i) e (by simp [rowM_length])
    simpa [rowM_length] using this

theorem slice_to {l : List Fr} {ex : Bool} {k : Nat} (h : k ≤ l.length) : sliceA 4 (frs l) ex none (some k) none = some (.sl (exA none ex k (frs l).length) (frs (l.take k))) := by
  unfold sliceA
  have hc : ((frs l).all fun e => e.cells.length == 4) = true := by simp [PV.cells]
  simp only [Option.getD_some, Option.getD_none]
  rw [if_pos ⟨by omega, by simpa using h, by simp, hc⟩]
  simp [List.map_take]

def leftM (n : Nat) (p : List Fr) (M : Nat → Nat → Fr) (i k : Nat) : Fr := subF (atF n n p i k) (dotF ((rowM n M i).take k) ((rowM n M k).take k))

theorem ok80 (e : Bool) (n : Nat) (hn : n ≤ 16) (p : List Fr) (M : Nat → Nat → Fr) (i k : Nat) (hi : i < n) (hk : k < n) :
    Ok Tryz.prog 80 [num i, num k, .vp [num n, num n, .sl e (frs p)], .vp [rowsV n M]] (frV (leftM n p M i k)) := by
  have h0 : (0 : Int) ≤ (i : Int) := by omega
  have h0' : (0 : Int) ≤ (k : Int) := by omega
  have g1 : ((List.range n).map fun i => PV.sl false (frs (rowM n M i)))[i]? = some (.sl false (frs (rowM n M i))) := by simp [hi]
  have g2 : ((List.range n).map fun i => PV.sl false (frs (rowM n M i)))[k]? = some (.sl false (frs (rowM n M k))) := by simp [hk]
  have s1 := slice_to (l := rowM n M i) (ex := false) (k := k) (by rw [rowM_length]; omega)
  have s2 := slice_to (l := rowM n M k) (ex := false) (k := k) (by rw [rowM_length]; omega)
  refine ok_fn mixed Tryz.func80 (code := ?_) (h := h80) ?_ k80 ?_
  rotate_left
  · exact rfl
  unfold h80 initS
  simp -implicitDefEqProofs only [rkA, rkB, stepA, valA, simprocAttr, Tryz.ntmps80, Tryz.results80]
  refine call_fn rfl rfl rfl (ok35 e n n i k p) ?_
  simp -implicitDefEqProofs only [h0, h0', Int.toNat_natCast, g1, g2, s1, s2, rkA, rkB, stepA, valA, simprocAttr]
  refine call_fn rfl rfl rfl (ok81 _ _ ((rowM n M i).take k) ((rowM n M k).take k) (by simp [rowM_length]; omega) (by simp [rowM_length]; omega)) ?_
  simp -implicitDefEqProofs only [rkA, rkB, stepA, valA, simprocAttr]
  refine call_meth rfl rfl methSub (ok97 _ _) ?_
  simp -implicitDefEqProofs only [leftM, rkA, rkB, stepA, valA, simprocAttr]

theorem ok83 (n : Nat) (M : Nat → Nat → Fr) (i k : Nat) (hi : i < n) (hk : k < n) :
    Ok Tryz.prog 83 [num i, num k, .vp [rowsV n M]] (frV (M i k)) := by
  have h0 : (0 : Int) ≤ (i : Int) := by omega
  have h0' : (0 : Int) ≤ (k : Int) := by omega
  have g1 : ((List.range n).map fun i => PV.sl false (frs (rowM n M i)))[i]? = some (.sl false (frs (rowM n M i))) := by simp [hi]
  have g2 : (frs (rowM n M i))[k]? = some (frV (M i k)) := by simp [rowM, hk]
  refine ok_fn mixed Tryz.func83 (code := ?_) (h := h83) ?_ k83 ?_
  rotate_left
  · exact rfl
  unfold h83 initS
  simp -implicitDefEqProofs only [rkA, rkB, stepA, valA, simprocAttr, Tryz.ntmps83, Tryz.results83]
  simp -implicitDefEqProofs only [h0, h0', Int.toNat_natCast, g1, g2, rkA, rkB, stepA, valA, simprocAttr]

def stepD (n : Nat) (p : List Fr) (M : Nat → Nat → Fr) (k : Nat) : Nat → Nat → Fr := setM M k k (rootF (leftM n p M k k))
/-- One column: k + 1 rows below its diagonal are done for every one counted. -/
def colS (n : Nat) (p : List Fr) (k : Nat) (M : Nat → Nat → Fr) : Nat → Nat → Nat → Fr
  | 0 => stepD n p M k
  | j + 1 => setM (colS n p k M j) (k + 1 + j) k (divF (leftM n p (colS n p k M j) (k + 1 + j) k) (colS n p k M j k k))
def rootS (n : Nat) (p : List Fr) : Nat → Nat → Nat → Fr
  | 0 => fun _ _ => newF 0 1
  | k + 1 => colS n p k (rootS n p k) (n - (k + 1))
def rootMat (n : Nat) (p : List Fr) : List Fr := gridP (rootS n p n) n n 0
/-- While the rows are made: noughts so far, zero values behind. -/
def zeroM (i k : Nat) : Nat → Nat → Fr := fun a b => if a < i ∨ a = i ∧ b < k then newF 0 1 else ⟨0, 0, 0, false⟩

abbrev bxR (e : Bool) (n : Nat) (p : List Fr) (R : Nat) : List (Nat × List TV) := [(1, [nt n, nt n, .v (.sl e (frs p))]), (2, [nt 0, nt 0, .acc 3002 []]), (4, [nt 0, nt 0, nt 0, .v (tru false)]), (5, [.v (rawRow R n)])]

abbrev leftV (e : Bool) (n : Nat) (p : List Fr) (R : Nat) : PV := .fn (.func 80) [.vp [num n, num n, .sl e (frs p)], .vp [rawRow R n]]
theorem leftT {m : Mem} {R : Nat} {c : Nat → Nat} {n : Nat} {M : Nat → Nat → Fr} {e : Bool} {p : List Fr} {i k : Nat} (h : RowsIn m R c n n M) :
    Tells m ([num i, num k] ++ [.vp [num n, num n, .sl e (frs p)], .vp [rawRow R n]]) [num i, num k, .vp [num n, num n, .sl e (frs p)], .vp [rowsV n M]] :=
  .cons (.same _) (.cons (.same _) (.cons (.same _) (.cons (.vpIn (.cons h.tell .nil)) .nil)))

theorem RowsIn.head0 {m : Mem} {R n : Nat} {c : Nat → Nat} {M : Nat → Nat → Fr} : RowsIn (m.put R (List.replicate n [PV.s (.slice none 0 0)]).flatten) R c n 0 M where
  head := by
    rw [Mem.put_same]
    congr 1
    apply List.ext_getElem?
    intro j
    have : (List.replicate n [PV.s (.slice none 0 0)]).flatten = List.replicate n nilRow := by
      induction n with
      | zero => rfl
      | succ n ih => rw [List.replicate_succ, List.replicate_succ, List.flatten_cons, ih]; rfl
    rw [this]
    by_cases h : j < n
    · simp [headR, h]
    · rw [List.getElem?_eq_none (by simp; omega), List.getElem?_eq_none (by simp [headR]; omega)]
  row := fun i h => by omega
  ne := fun i h => by omega
  inj := fun i j h => by omega

theorem flat_zeros : ∀ (n : Nat), (List.replicate n [num 0, num 0, num 0, tru false]).flatten = flat (frs (List.replicate n (⟨0, 0, 0, false⟩ : Fr)))
  | 0 => rfl
  | n + 1 => by
    rw [List.replicate_succ, List.flatten_cons, flat_zeros n]
    rfl
theorem zero_row (n i : Nat) : rowM n (zeroM i 0) i = List.replicate n ⟨0, 0, 0, false⟩ := by
  apply List.ext_getElem?
  intro j
  by_cases h : j < n
  · rw [rowM_get h]; simp [zeroM, h]
  · rw [List.getElem?_eq_none (by rw [rowM_length]; omega), List.getElem?_eq_none (by simp; omega)]
theorem RowsIn.grow {m : Mem} {R : Nat} {c : Nat → Nat} {n i b : Nat} (h : RowsIn m R c n i (zeroM i 0)) (hi : i < n) (hb : m b = none) :
    RowsIn ((m.put b (flat (frs (List.replicate n (⟨0, 0, 0, false⟩ : Fr))))).put R (headR n (i + 1) (fun j => if j = i then b else c j))) R (fun j => if j = i then b else c j) n (i + 1) (zeroM i 0) := by
  have hRb : R ≠ b := fun e => by have := h.head; rw [e, hb] at this; cases this
  have hcb : ∀ j, j < i → c j ≠ b := fun j hj e => by have := h.row j hj; rw [e, hb] at this; cases this
  refine ⟨Mem.put_same _ _ _, fun j hj => ?_, fun j hj => ?_, fun j k hj hk => ?_⟩
  · by_cases e : j = i
    · subst e
      rw [if_pos rfl, Mem.put_other _ _ (fun e => hRb e.symm), Mem.put_same, zero_row]
    · rw [if_neg e, Mem.put_other _ _ (h.ne j (by omega)), Mem.put_other _ _ (hcb j (by omega))]
      exact h.row j (by omega)
  · by_cases e : j = i
    · rw [if_pos e]; exact fun e => hRb e.symm
    · rw [if_neg e]; exact h.ne j (by omega)
  · by_cases e : j = i <;> by_cases e' : k = i
    · intro _; omega
    · rw [if_pos e, if_neg e']
      exact fun h1 => absurd h1.symm (hcb k (by omega))
    · rw [if_neg e, if_pos e']
      exact fun h1 => absurd h1 (hcb j (by omega))
    · rw [if_neg e, if_neg e']
      exact h.inj j k (by omega) (by omega)
theorem zeroM_step (i k : Nat) : setM (zeroM i k) i k (newF 0 1) = zeroM i (k + 1) := by
  funext a b
  unfold setM zeroM
  by_cases h1 : a = i ∧ b = k
  · rw [if_pos h1, if_pos (.inr ⟨h1.1, by omega⟩)]
  · rw [if_neg h1]
    by_cases h2 : a < i ∨ a = i ∧ b < k
    · rw [if_pos h2, if_pos (by omega)]
    · rw [if_neg h2, if_neg (by omega)]
theorem RowsIn.congr {m : Mem} {R : Nat} {c : Nat → Nat} {n b : Nat} {M N : Nat → Nat → Fr} (h : RowsIn m R c n b M) (hMN : ∀ i k, i < b → k < n → M i k = N i k) : RowsIn m R c n b N :=
  ⟨h.head, fun i hi => by
    have e : rowM n N i = rowM n M i := by
      unfold rowM
      exact List.map_congr_left fun k hk => (hMN i k hi (List.mem_range.1 hk)).symm
    rw [e]
    exact h.row i hi, h.ne, h.inj⟩

theorem ok23 (n : Nat) (hn : 1 ≤ n ∧ n ≤ 16) (e : Bool) (p : List Fr) (hp : p.length = n * n) : Ok Tryz.prog 23 [matV e n n (frs p)] (.tup [matV false n n (frs (rootMat n p)), tru true]) := by
  have hr : right (n : Int) (n : Int) p.length = true := by
    simp only [right, Bool.and_eq_true, decide_eq_true_eq, beq_iff_eq]
    exact ⟨⟨by omega, by omega⟩, ⟨by omega, by omega⟩, by rw [hp, Int.natCast_mul]⟩
  have hsq : (right (n : Int) (n : Int) p.length && ((n : Int) == n)) = true := by rw [hr]; simp
  refine okt_fn mixed Tryz.func23 (code := ?_) (h := h23) ?_ k23 ?_
  rotate_left
  · exact rfl
  unfold h23 initS
  simp -implicitDefEqProofs only [rkA, rkB, stepA, valA, simprocAttr, Tryz.ntmps23, Tryz.results23]
  have h904 := ok79 e n n p
  rw [hsq] at h904
  refine call_fn rfl rfl rfl (h904) ?_
  simp -implicitDefEqProofs only [rkA, rkB, stepA, valA, simprocAttr]
  refine new_make (T := 24) (N := 1) rfl rfl rfl rfl rfl (by omega) (by omega) (by omega) ?_
  intro R hR
  simp -implicitDefEqProofs only [Int.toNat_natCast, rkA, rkB, stepA, valA, simprocAttr]
  refine wp_loop (fun m s => ∃ (i : Nat) (mm : Mem) (c : Nat → Nat), i + m = n ∧ RowsIn mm R c n i (zeroM i 0) ∧ s = ⟨[jk, .ptr 1 0, .ptr 2 0, jk, .ptr 4 0, .ptr 5 0, jk, jk, jk, jk, jk, jk, jk, jk, jk, jk, jk, jk, jk, nt n, nt i, jk, jk, jk, jk, jk, jk, jk, jk, jk, jk, jk, jk, jk, jk, jk, jk, jk, jk, jk, jk, jk, jk, jk, jk, jk, jk, jk, jk, jk, jk, jk, jk, jk, jk, jk, jk, jk, jk, jk, jk, jk, jk, jk, jk, jk, jk, jk, jk, jk, jk, jk, jk, jk, jk, jk, jk, jk, jk, jk, jk, jk, jk, jk, jk, jk, jk, jk, jk, jk, jk, jk, jk, jk, jk, jk, jk, jk, jk, jk], bxR e n p R, [], [(1005, 0), (3002, 0)], [], 0, mm⟩) n ?_ ?_
  · simp -implicitDefEqProofs only [rkA, rkB, stepA, valA, simprocAttr]
    exact ⟨0, _, fun _ => 0, by simp, RowsIn.head0, rfl⟩
  rintro m s ⟨i, mm, c, hi, hM, rfl⟩
  simp -implicitDefEqProofs only [rkA, rkB, stepA, valA, simprocAttr]
  refine gB_dec ?_ ?_ <;> intro hc <;> simp -implicitDefEqProofs only [hc, rkA, rkB, stepA, valA, simprocAttr]
  · refine new_make (T := 32) (N := 4) rfl rfl rfl rfl rfl (by omega) (by omega) (by omega) ?_
    intro b hb
    have hi' : i < n := by omega
    have h0 : (0 : Int) ≤ (i : Int) := by omega
    have hRb : R ≠ b := fun e => by have h1 := hM.head; have h2 : mm b = none := hb; rw [e, h2] at h1; cases h1
    have hRm := fun x => (Mem.put_other mm x hRb).trans hM.head
    have hst := stM_one (cells := headR n i c) (x := rawRow b n) (i := i) (by rw [headR_length]; exact hi') rfl rfl
    have hG := hM.grow hi' hb
    have hgt := headR_get (n := n) (b := i + 1) (c := fun j => if j = i then b else c j) (i := i) hi' (by omega)
    have hld := ldM_one hgt
    simp -implicitDefEqProofs only [h0, hc, Int.toNat_natCast, Nat.mul_one, hRm, hst, headR_set hi', hld, flat_zeros, rkA, rkB, stepA, valA, simprocAttr]
    clear hRm hst hb hRb hM
    generalize (mm.put b _).put R _ = mm2 at hG ⊢
    have hci : (fun j => if j = i then b else c j) i = b := if_pos rfl
    generalize (fun j => if j = i then b else c j) = c2 at hG hgt hld hci ⊢
    refine wp_loop (fun m s => ∃ (k : Nat) (mm : Mem), k + m = n ∧ RowsIn mm R c2 n (i + 1) (zeroM i k) ∧ s = ⟨[jk, .ptr 1 0, .ptr 2 0, jk, .ptr 4 0, .ptr 5 0, nt i, jk, jk, jk, jk, jk, jk, jk, jk, jk, jk, jk, jk, nt n, nt i, jk, jk, jk, jk, jk, jk, jk, jk, jk, jk, jk, jk, nt n, nt k, jk, jk, jk, jk, jk, jk, jk, jk, jk, jk, jk, jk, jk, jk, jk, jk, jk, jk, jk, jk, jk, jk, jk, jk, jk, jk, jk, jk, jk, jk, jk, jk, jk, jk, jk, jk, jk, jk, jk, jk, jk, jk, jk, jk, jk, jk, jk, jk, jk, jk, jk, jk, jk, jk, jk, jk, jk, jk, jk, jk, jk, jk, jk, jk, jk], bxR e n p R, [], [(1005, 0), (3002, 0)], [], 0, mm⟩) n ?_ ?_
    · simp -implicitDefEqProofs only [rkA, rkB, stepA, valA, simprocAttr]
      exact ⟨0, _, by simp, hG, rfl⟩
    clear hG mm2
    rintro m' s ⟨k, mm2, hk, hM, rfl⟩
    simp -implicitDefEqProofs only [rkA, rkB, stepA, valA, simprocAttr]
    refine gB_dec ?_ ?_ <;> intro hc2 <;> simp -implicitDefEqProofs only [hc2, rkA, rkB, stepA, valA, simprocAttr]
    · have hk' : k < n := by omega
      have h0k : (0 : Int) ≤ (k : Int) := by omega
      have hh := hM.head
      have hrow := hM.row i (by omega)
      have hsto := hM.store (i := i) (by omega) hk' (newF 0 1)
      rw [hci] at hrow hsto
      have hlr : (rowM n (zeroM i k) i).length = n := rowM_length _ _ _
      have hst := stM_fr (l := rowM n (zeroM i k) i) (k := k) (x := newF 0 1) (by rw [hlr]; exact hk')
      have hw := wrapped (x := (k : Int) + 1) (by omega) (by omega)
      simp -implicitDefEqProofs only [h0, h0k, hc, hc2, Int.toNat_natCast, Nat.mul_one, hh, hld, rkA, rkB, stepA, valA, simprocAttr]
      refine call_meth rfl rfl methOf (ok56 ⟨0, 0, 0, false⟩ 0) ?_
      simp -implicitDefEqProofs only [h0k, hc2, Int.toNat_natCast, hrow, hst, hw, rkA, rkB, stepA, valA, simprocAttr]
      refine loopK_of (m' := m' - 1) (by omega) ?_
      simp -implicitDefEqProofs only [rkA, rkB, stepA, valA, simprocAttr]
      refine ⟨k + 1, _, by omega, ?_, by simp only [Int.natCast_add, Int.natCast_one]; rfl⟩
      rw [← zeroM_step]
      exact hsto
    · have hkn : k = n := by omega
      subst hkn
      have hw := wrapped (x := (i : Int) + 1) (by omega) (by omega)
      simp -implicitDefEqProofs only [hw, rkA, rkB, stepA, valA, simprocAttr]
      refine loopK_of (m' := m - 1) (by omega) ?_
      simp -implicitDefEqProofs only [rkA, rkB, stepA, valA, simprocAttr]
      refine ⟨i + 1, mm2, c2, by omega, hM.congr fun a b ha hb => ?_, by simp only [Int.natCast_add, Int.natCast_one]⟩
      unfold zeroM
      rw [if_pos (by omega), if_pos (by omega)]
  · have : i = n := by omega
    subst this
    have hM0 : RowsIn mm R c i i (rootS i p 0) := hM.congr fun a b ha hb => by
      unfold zeroM rootS
      rw [if_pos (by omega)]
    clear hM
    refine wp_loop (fun m s => ∃ (k : Nat) (mm : Mem), k + m = i ∧ RowsIn mm R c i i (rootS i p k) ∧ s = ⟨[jk, .ptr 1 0, .ptr 2 0, jk, jk, .ptr 5 0, jk, jk, .v (leftV e i p R), jk, jk, jk, jk, jk, jk, jk, jk, jk, jk, jk, jk, jk, jk, jk, jk, jk, jk, jk, jk, jk, jk, jk, jk, jk, jk, jk, jk, jk, jk, jk, jk, jk, jk, jk, jk, jk, jk, jk, jk, jk, nt i, nt k, jk, jk, jk, jk, jk, jk, jk, jk, jk, jk, jk, jk, jk, jk, jk, jk, jk, jk, jk, jk, jk, jk, jk, jk, jk, jk, jk, jk, jk, jk, jk, jk, jk, jk, jk, jk, jk, jk, jk, jk, jk, jk, jk, jk, jk, jk, jk, jk],
      [(2, [nt 0, nt 0, .acc 3002 []]), (4, [nt 0, nt 0, nt 0, .v (tru false)])], [(1, [num i, num i, .sl e (frs p)]), (5, [rawRow R i])], [(1005, 0), (3002, 0)], [], 0, mm⟩) i ?_ ?_
    · simp -implicitDefEqProofs only [rkA, rkB, stepA, valA, simprocAttr]
      exact ⟨0, _, by simp, hM0, rfl⟩
    clear hM0 mm
    rintro m' s ⟨k, mm, hk, hM, rfl⟩
    simp -implicitDefEqProofs only [rkA, rkB, stepA, valA, simprocAttr]
    refine gB_dec ?_ ?_ <;> intro hc2 <;> simp -implicitDefEqProofs only [hc2, rkA, rkB, stepA, valA, simprocAttr]
    · have hk' : k < i := by omega
      have h0k : (0 : Int) ≤ (k : Int) := by omega
      have hh := hM.head
      have hld := ldM_one (headR_get (n := i) (b := i) (c := c) (i := k) hk' hk')
      simp -implicitDefEqProofs only [h0k, hc2, Int.toNat_natCast, Nat.mul_one, hh, hld, rkA, rkB, stepA, valA, simprocAttr]
      refine lend_fn rfl rfl (leftT (i := k) (k := k) hM) (ok80 e i (by omega) p _ k k hk' hk') rfl ?_
      simp -implicitDefEqProofs only [rkA, rkB, stepA, valA, simprocAttr]
      refine call_meth rfl rfl methRoot (ok229 _) ?_
      have hw := wrapped (x := (k : Int) + 1) (by omega) (by omega)
      have hrow := hM.row k hk'
      have hst := stM_fr (l := rowM i (rootS i p k) k) (k := k) (x := rootF (leftM i p (rootS i p k) k k)) (by rw [rowM_length]; exact hk')
      have hsto := hM.store (i := k) hk' hk' (rootF (leftM i p (rootS i p k) k k))
      simp -implicitDefEqProofs only [h0k, hc2, Int.toNat_natCast, hrow, hst, hw, rkA, rkB, stepA, valA, simprocAttr]
      have hk1 : (k : Int) + 1 = ((k + 1 : Nat) : Int) := by simp
      simp only [hk1]
      clear hM hh hst hrow hw
      refine wp_loop (fun m s => ∃ (j : Nat) (mm : Mem), k + 1 + j + m = i ∧ RowsIn mm R c i i (colS i p k (rootS i p k) j) ∧ s = ⟨[jk, .ptr 1 0, .ptr 2 0, jk, jk, .ptr 5 0, jk, jk, .v (leftV e i p R), nt k, nt (k + 1 + j : Nat), jk, jk, jk, jk, jk, jk, jk, jk, jk, jk, jk, jk, jk, jk, jk, jk, jk, jk, jk, jk, jk, jk, jk, jk, jk, jk, jk, jk, jk, jk, jk, jk, jk, jk, jk, jk, jk, jk, jk, nt i, nt k, jk, jk, jk, jk, jk, jk, jk, jk, jk, jk, jk, jk, jk, jk, jk, jk, jk, jk, jk, jk, jk, jk, jk, jk, jk, jk, jk, jk, jk, jk, jk, jk, jk, jk, jk, jk, jk, jk, jk, jk, jk, jk, jk, jk, jk, jk, jk, jk],
        [(2, [nt 0, nt 0, .acc 3002 []]), (4, [nt 0, nt 0, nt 0, .v (tru false)])], [(1, [num i, num i, .sl e (frs p)]), (5, [rawRow R i])], [(1005, 0), (3002, 0)], [], 0, mm⟩) (i - (k + 1)) ?_ ?_
      · simp -implicitDefEqProofs only [rkA, rkB, stepA, valA, simprocAttr]
        exact ⟨0, _, by omega, hsto, rfl⟩
      clear hsto mm
      rintro m2 s ⟨j, mm, hj, hM, rfl⟩
      simp -implicitDefEqProofs only [rkA, rkB, stepA, valA, simprocAttr]
      refine gB_dec ?_ ?_ <;> intro hc3 <;> simp -implicitDefEqProofs only [hc3, rkA, rkB, stepA, valA, simprocAttr]
      · have hi' : k + 1 + j < i := by omega
        have h0i : (0 : Int) ≤ ((k + 1 + j : Nat) : Int) := by omega
        have hh := hM.head
        have hldi := ldM_one (headR_get (n := i) (b := i) (c := c) (i := k + 1 + j) hi' hi')
        simp -implicitDefEqProofs only [h0k, hc2, h0i, hc3, Int.toNat_natCast, Nat.mul_one, hh, hldi, hld, rkA, rkB, stepA, valA, simprocAttr]
        refine lend_fn rfl rfl (leftT (i := k + 1 + j) (k := k) hM) (ok80 e i (by omega) p _ (k + 1 + j) k hi' hk') rfl ?_
        have hrk := hM.row k hk'
        have hlf := ldM_fr (rowM_get (n := i) (M := colS i p k (rootS i p k) j) (i := k) (k := k) hk')
        simp -implicitDefEqProofs only [h0k, hc2, h0i, hc3, Int.toNat_natCast, Nat.mul_one, hh, hldi, hld, hrk, hlf, rkA, rkB, stepA, valA, simprocAttr]
        refine call_meth rfl rfl methDiv (ok228 _ _) ?_
        have hw := wrapped (x := ((k + 1 + j : Nat) : Int) + 1) (by omega) (by omega)
        have hrow := hM.row _ hi'
        have hst := stM_fr (l := rowM i (colS i p k (rootS i p k) j) (k + 1 + j)) (k := k) (x := divF (leftM i p (colS i p k (rootS i p k) j) (k + 1 + j) k) (colS i p k (rootS i p k) j k k)) (by rw [rowM_length]; exact hk')
        have hsto := hM.store (i := k + 1 + j) hi' hk' (divF (leftM i p (colS i p k (rootS i p k) j) (k + 1 + j) k) (colS i p k (rootS i p k) j k k))
        simp -implicitDefEqProofs only [h0k, hc2, Int.toNat_natCast, hrow, hst, hw, rkA, rkB, stepA, valA, simprocAttr]
        refine loopK_of (m' := m2 - 1) (by omega) ?_
        simp -implicitDefEqProofs only [rkA, rkB, stepA, valA, simprocAttr]
        exact ⟨j + 1, _, by omega, hsto, by simp only [Int.natCast_add, Int.natCast_one]; rfl⟩
      · have hj' : j = i - (k + 1) := by omega
        have hw := wrapped (x := (k : Int) + 1) (by omega) (by omega)
        simp -implicitDefEqProofs only [hw, rkA, rkB, stepA, valA, simprocAttr]
        refine loopK_of (m' := m' - 1) (by omega) ?_
        simp -implicitDefEqProofs only [rkA, rkB, stepA, valA, simprocAttr]
        refine ⟨k + 1, mm, by omega, ?_, by simp only [Int.natCast_add, Int.natCast_one]⟩
        rw [hj'] at hM
        exact hM
    · have hki : k = i := by omega
      subst hki
      have hma := okm82 k hn _ _ (rootS k p k) (fun a b ha hb => ok83 k (rootS k p k) a b ha hb)
      refine lendNew_fn (l := [num k, .fn (.func 83) [.vp [rowsV k (rootS k p k)]]]) rfl rfl (.cons (.same _) (.cons (.fn (.cons (.vpIn (.cons hM.tell .nil)) .nil)) .nil)) hma ?_ ?_
      · rintro r m' ⟨b, cap, q, h1, rfl, rfl⟩
        refine ⟨rfl, fun c cells hc => ?_⟩
        by_cases e : c = b
        · subst e
          rw [Mem.put_same] at hc
          cases hc
          exact RFs_append (RFs_frs _) (RFs_junk q)
        · rw [Mem.put_other _ _ e] at hc
          cases hc
      · rintro r m' ⟨b, cap, q, h1, rfl, rfl⟩ hfr
        simp -implicitDefEqProofs only [rkA, rkB, stepA, valA, simprocAttr]
        exact ⟨_, rfl, .tup (.cons (.agg (.cons (.same _) (.cons (.same _) (.cons (tell_row (Mem.put_same _ _ _) h1) .nil)))) (.cons (.same _) .nil))⟩

end Go.Proofs.YtbflmeomkfjikaaGreat.A.E


set_option linter.unusedVariables false
set_option linter.unusedSimpArgs false
set_option maxRecDepth 100000
namespace Go.Proofs.YtbflmeomkfjikaaGreat.A.E
open Go Go.RowKit Go.Shelf

def diagF (n : Nat) (l : List Fr) : List Fr := (List.range n).map fun (i : Nat) => atF n n l i i
theorem rowF_get {r c : Int} {l : List Fr} (hr : right r c l.length = true) {i k : Nat} (hi : i < r.toNat) (hk : k < c.toNat) : (frs (rowF r c l i))[k]? = some (frV (atF r c l i k)) := by
  have h0 := rowF_eq ⟨0, 0, 0, false⟩ hr (i := i) hi
  have h1 := atF_eq hr (i := i) (k := k) hi hk
  rw [h0, List.getElem?_map, List.getElem?_map, List.getElem?_range hk, h1]
  rfl
end Go.Proofs.YtbflmeomkfjikaaGreat.A.E


set_option linter.unusedVariables false
set_option linter.unusedSimpArgs false
set_option maxRecDepth 100000
namespace Go.Proofs.YtbflmeomkfjikaaGreat.A
open Go Go.RowKit Go.Shelf

/-! ### Cleared -/
/-! ### The diagonal -/
def diagF (n : Nat) (l : List Fr) : List Fr := (List.range n).map fun (i : Nat) => atF n n l i i
theorem rowF_get {r c : Int} {l : List Fr} (hr : right r c l.length = true) {i k : Nat} (hi : i < r.toNat) (hk : k < c.toNat) : (frs (rowF r c l i))[k]? = some (frV (atF r c l i k)) := by
  have h0 := rowF_eq ⟨0, 0, false⟩ hr (i := i) hi
  have h1 := atF_eq hr (i := i) (k := k) hi hk
  rw [h0, List.getElem?_map, List.getElem?_map, List.getElem?_range hk, h1]
  rfl
theorem ok70 (n : Nat) (hn : 1 ≤ n ∧ n ≤ 16) (e : Bool) (l : List Fr) (h : l.length = n * n) : Ok Tryz.prog 70 [matV e n n (frs l)] (.sl false (frs (diagF n l))) := by
  have hr := right_sq hn h
  have hal : (diagF n l).length = n := by simp [diagF]
  refine ok_fn mixed Tryz.func70 (code := ?_) (h := h70) ?_ k70 ?_
  rotate_left
  · exact rfl
  unfold h70 initS
  simp -implicitDefEqProofs only [rkA, rkB, stepA, valA, simprocAttr, Tryz.ntmps70, Tryz.results70]
  refine call_fn rfl rfl rfl (ok98 e n n l) ?_
  simp -implicitDefEqProofs only [rkA, rkB, stepA, valA, simprocAttr]
  refine wp_rf' (items := rowsF n n l) rfl (it150 e n n l) (fun sv i s => i ≤ n ∧ s = ⟨[], [(1, [nt n, nt n, .v (.sl e (frs l))]), (3, [.acc 1003 (frs ((diagF n l).take i))])], [], [(2, 0), (1003, i)], sv, 0, nomem⟩) ?_ ?_ ?_
  · simp -implicitDefEqProofs only [rkA, rkB, stepA, valA, simprocAttr]
    exact Nat.zero_le _
  · rintro i x' s' R hx ⟨hi, rfl⟩ hR
    obtain ⟨hlt, rfl, hxi⟩ := rowsF_all hr hx
    have hlt' : i < n := by simpa using hlt
    refine ⟨rfl, ?_⟩
    have h904 := ok73 e n n l
    rw [hr, beq_self_eq_true] at h904
    simp -implicitDefEqProofs only [rkA, rkB, stepA, valA, simprocAttr]
    refine call_fn rfl rfl rfl (h904) ?_
    have h0 : (0 : Int) ≤ (i : Int) := by omega
    have hg := rowF_get hr hlt hlt
    have hfit : fits 3 24 (frs ((diagF n l).take i)) [frV (atF n n l i i)] = true := fits_frs (l := [atF n n l i i]) (by simp only [List.length_cons, List.length_nil, List.length_take]; omega)
    have hl : (frs ((diagF n l).take i)).length = i := by simp; omega
    simp -implicitDefEqProofs only [h0, Int.toNat_natCast, hg, hfit, hl, rkA, rkB, stepA, valA, simprocAttr]
    refine hR _ ⟨by omega, ?_⟩
    have hai : (diagF n l)[i]'(by omega) = atF n n l i i := by simp [diagF]
    rw [List.take_succ_eq_append_getElem (by omega), hai]
    simp only [frs, List.map_append, List.map_cons, List.map_nil]
  · rintro s' ⟨hi, rfl⟩
    simp -implicitDefEqProofs only [rkA, rkB, stepA, valA, simprocAttr]
    rw [rowsF_length hr, List.take_of_length_le (by simp [hal])]
/-! ### Is it a triangle? -/
theorem ok68 (e : Bool) (r c : Int) (l : List Fr) (K : Nat) (caps : List PV) (z : Fr → Bool) (b : Bool) (hz : ∀ x, Ok Tryz.prog K (frV x :: caps) (tru (z x)))
    (hb : b = true ↔ right r c l.length = true ∧ r = c ∧ ∀ i k : Nat, i < r.toNat → k < c.toNat → i < k → z (atF r c l i k) = true) : Ok Tryz.prog 68 [matV e r c (frs l), .fn (.func K) caps] (tru b) := by
  refine ok_fn mixed Tryz.func68 (code := ?_) (h := h68) ?_ k68 ?_
  rotate_left
  · exact rfl
  unfold h68 initS
  simp -implicitDefEqProofs only [rkA, rkB, stepA, valA, simprocAttr, Tryz.ntmps68, Tryz.results68]
  refine call_fn rfl rfl rfl (ok98 e r c l) ?_
  simp -implicitDefEqProofs only [rkA, rkB, stepA, valA, simprocAttr]
  refine wp_rf' (items := rowsF r c l) rfl (it150 e r c l) (fun sv i s => (∀ a k : Nat, a < i → k < c.toNat → a < k → z (atF r c l a k) = true) ∧ s = ⟨[], [(2, [nt r, nt c, .v (.sl e (frs l))]), (3, [.v (.fn (.func K) caps)]), (4, [.v (tru false)])], [], [], sv, 0, nomem⟩) ?_ ?_ ?_
  · simp -implicitDefEqProofs only [rkA, rkB, stepA, valA, simprocAttr]
    intro a k h
    omega
  · rintro i x' s' R hx ⟨hP, rfl⟩ hR
    have hr : right r c l.length = true := by
      cases hr : right r c l.length with
      | true => rfl
      | false => simp [rowsF, hr] at hx
    obtain ⟨r1, r2, c1, c2, hn⟩ := right_spec hr
    obtain ⟨hlt, rfl, hxi⟩ := rowsF_all hr hx
    refine ⟨rfl, ?_⟩
    have hw := wrapped (x := (i : Int) + 1) (by omega) (by omega)
    simp -implicitDefEqProofs only [hw, rkA, rkB, stepA, valA, simprocAttr]
    refine wp_loop (fun m s => ∃ k : Nat, i + 1 ≤ k ∧ k ≤ 17 ∧ c.toNat ≤ k + m ∧ (∀ q : Nat, i < q → q < k → q < c.toNat → z (atF r c l i q) = true) ∧ s = ⟨[jk, jk, .ptr 2 0, .ptr 3 0, .ptr 4 0, jk, .v (.sl false (frs (rowF r c l i))), nt k, jk, jk, jk, jk, jk, jk, jk, jk, jk, jk, jk, jk, jk, jk, jk, jk, jk, jk, jk, jk, jk],
      [(2, [nt r, nt c, .v (.sl e (frs l))]), (3, [.v (.fn (.func K) caps)]), (4, [.v (tru false)])], [], [], [[.v (matV e r c (frs l)), .v (.fn (.func K) caps), .ptr 2 0, .ptr 3 0, .ptr 4 0, jk, jk, jk, .v (.agg [num r, num c, .sl e (frs l)]), .v (.fn (.func 150) [.vp [num r, num c, .sl e (frs l)]]), jk, jk, jk, jk, jk, jk, jk, jk, jk, jk, jk, jk, jk, jk, jk, jk, jk, jk, jk]], 0, nomem⟩) c.toNat ?_ ?_
    · simp -implicitDefEqProofs only [rkA, rkB, stepA, valA, simprocAttr]
      exact ⟨i + 1, by omega, by omega, by omega, fun q h1 h2 => by omega, by simp only [Int.natCast_add, Int.natCast_one]⟩
    rintro m s ⟨k, hk, hk17, hm, hQ, rfl⟩
    simp -implicitDefEqProofs only [rkA, rkB, stepA, valA, simprocAttr]
    refine gB_dec ?_ ?_ <;> intro hc <;> simp -implicitDefEqProofs only [hc, rkA, rkB, stepA, valA, simprocAttr]
    · have hk' : k < c.toNat := by omega
      have h0 : (0 : Int) ≤ (k : Int) := by omega
      have hg := rowF_get hr hlt hk'
      simp -implicitDefEqProofs only [h0, Int.toNat_natCast, hg, rkA, rkB, stepA, valA, simprocAttr]
      refine call_fn rfl rfl rfl (hz (atF r c l i k)) ?_
      cases hzk : z (atF r c l i k) with
      | true =>
        have hw2 := wrapped (x := (k : Int) + 1) (by omega) (by omega)
        simp -implicitDefEqProofs only [hw2, rkA, rkB, stepA, valA, simprocAttr]
        refine loopK_of (m' := m - 1) (by omega) ?_
        simp -implicitDefEqProofs only [rkA, rkB, stepA, valA, simprocAttr]
        refine ⟨k + 1, by omega, by omega, by omega, fun q h1 h2 h3 => ?_, by simp only [Int.natCast_add, Int.natCast_one]⟩
        by_cases e : q = k
        · rw [e]; exact hzk
        · exact hQ q h1 (by omega) h3
      | false =>
        have hbf : b = false := by
          cases hbb : b with
          | false => rfl
          | true =>
            have := (hb.1 hbb).2.2 i k hlt hk' (by omega)
            rw [hzk] at this
            cases this
        subst hbf
        simp -implicitDefEqProofs only [rkA, rkB, stepA, valA, simprocAttr]
    · refine hR _ ⟨fun a q ha hq haq => ?_, rfl⟩
      by_cases e : a = i
      · subst e
        exact hQ q haq (by omega) hq
      · exact hP a q (by omega) hq haq
  · rintro s' ⟨hP, rfl⟩
    simp -implicitDefEqProofs only [rkA, rkB, stepA, valA, simprocAttr]
    refine call_fn rfl rfl rfl (ok73 e r c l) ?_
    have : (right r c l.length && (r == c)) = b := by
      rw [Bool.eq_iff_iff, hb, Bool.and_eq_true, beq_iff_eq]
      constructor
      · rintro ⟨h1, h2⟩
        refine ⟨h1, h2, fun a k ha hk hak => hP a k ?_ hk hak⟩
        rw [rowsF_length h1]
        exact ha
      · rintro ⟨h1, h2, _⟩
        exact ⟨h1, h2⟩
    rw [this]
    simp -implicitDefEqProofs only [rkA, rkB, stepA, valA, simprocAttr]
end Go.Proofs.YtbflmeomkfjikaaGreat.A


set_option linter.unusedVariables false
set_option linter.unusedSimpArgs false
set_option maxRecDepth 100000
namespace Go.Proofs.YtbflmeomkfjikaaGreat.A
open Go Go.RowKit Go.Shelf

/-! ### The document's answers, of whole numbers -/
def clearH (l : List Int) (n i k : Nat) : Int := if i < k then 0 else l.getD (i * n + k) 0
def clearI (l : List Int) (n : Nat) : List Int := gridP (clearH l n) n n 0
def turnH (l : List Int) (n k i : Nat) : Int := l.getD (i * n + k) 0
def turnI (l : List Int) (n : Nat) : List Int := gridP (turnH l n) n n 0
def squareI (l : List Int) (n : Nat) : List Int := mulI l (turnI l n) n n n

theorem ok18 (e : Bool) (l : List Int) (n : Nat) (hn : n ≤ 16) (hl : l.length = n * n) : Ok Tryz.prog 18 [.sl e (l.map num), num n] (.sl false ((clearI l n).map num)) := by
  refine ok_fn mixed Tryz.func18 (code := ?_) (h := h18) ?_ k18 ?_
  rotate_left
  · exact rfl
  unfold h18 initS
  simp -implicitDefEqProofs only [rkA, rkB, stepA, valA, simprocAttr, Tryz.ntmps18, Tryz.results18]
  have hlen := gridP_length (clearH l n) n
  have hbig : ∀ i k, i ≤ n → k ≤ n → i * n + k ≤ 272 := fun i k h1 h2 => by
    have : i * n ≤ 16 * 16 := Nat.mul_le_mul (by omega) (by omega)
    omega
  have s3 := side16 hn hn
  refine wp_loop (fun m s => ∃ i : Nat, i + m = n ∧ s = ⟨[.v (.sl e (l.map num)), .v (num n), jk, jk, jk, .acc 5 ((gridP (clearH l n) n i 0).map num), nt i, jk, jk, jk, jk, jk, jk, jk, jk, jk, jk, jk, jk, jk, jk, jk, jk, jk, jk, jk, jk, jk, jk, jk, jk, jk, jk, jk, jk, jk], [], [], [(4, 0), (5, (gridP (clearH l n) n i 0).length)], [], 0, nomem⟩) n ?_ ?_
  · simp -implicitDefEqProofs only [rkA, rkB, stepA, valA, simprocAttr]
    exact ⟨0, by simp, rfl⟩
  rintro m s ⟨i, hi, rfl⟩
  simp -implicitDefEqProofs only [rkA, rkB, stepA, valA, simprocAttr]
  refine gB_dec ?_ ?_ <;> intro hc <;> simp -implicitDefEqProofs only [hc, rkA, rkB, stepA, valA, simprocAttr]
  · refine wp_loop (fun m s => ∃ k : Nat, k + m = n ∧ s = ⟨[.v (.sl e (l.map num)), .v (num n), jk, jk, jk, .acc 5 ((gridP (clearH l n) n i k).map num), nt i, nt k, jk, jk, jk, jk, jk, jk, jk, jk, jk, jk, jk, jk, jk, jk, jk, jk, jk, jk, jk, jk, jk, jk, jk, jk, jk, jk, jk, jk], [], [], [(4, 0), (5, (gridP (clearH l n) n i k).length)], [], 0, nomem⟩) n ?_ ?_
    · simp -implicitDefEqProofs only [rkA, rkB, stepA, valA, simprocAttr]
      exact ⟨0, by simp, rfl⟩
    rintro m' s ⟨k, hk, rfl⟩
    simp -implicitDefEqProofs only [rkA, rkB, stepA, valA, simprocAttr]
    refine gB_dec ?_ ?_ <;> intro hc2 <;> simp -implicitDefEqProofs only [hc2, rkA, rkB, stepA, valA, simprocAttr]
    · have hl1 := hlen i k
      have hb := hbig i k (by omega) (by omega)
      have hfit : ∀ x : Int, fits 1 8 ((gridP (clearH l n) n i k).map num) [num x] = true := fun x => fits_num (l := [x]) (by simp only [List.length_cons, List.length_nil]; omega)
      have hl' : ((gridP (clearH l n) n i k).map num).length = (gridP (clearH l n) n i k).length := by simp
      have hw := wrapped (x := (k : Int) + 1) (by omega) (by omega)
      have t := at_table (i := i) (j := k) (n := n) (m := n) (by omega) (by omega)
      have c1 : (i : Int) * (n : Int) = ((i * n : Nat) : Int) := by simp
      have c3 : ((i * n : Nat) : Int) + (k : Int) = ((i * n + k : Nat) : Int) := by simp
      have w1 := wrapped (x := ((i * n : Nat) : Int)) (by omega) (by omega)
      have w3 := wrapped (x := ((i * n + k : Nat) : Int)) (by omega) (by omega)
      have g1 := at_num (a := l) (i := i * n + k) (by omega)
      have n1 : (0 : Int) ≤ ((i * n + k : Nat) : Int) := by omega
      refine gB_dec ?_ ?_ <;> intro hc3 <;> simp -implicitDefEqProofs only [hc3, hfit, hl', hw, rkA, rkB, stepA, valA, simprocAttr]
      · have e0 : clearH l n i k = 0 := if_pos (by omega)
        refine loopK_of (m' := m' - 1) (by omega) ?_
        simp -implicitDefEqProofs only [rkA, rkB, stepA, valA, simprocAttr]
        refine ⟨k + 1, by omega, ?_⟩
        rw [gridP_succ]
        simp only [e0, List.map_append, List.map_cons, List.map_nil, List.length_append, List.length_cons, List.length_nil, Int.natCast_add, Int.natCast_one]
      · have e0 : clearH l n i k = l.getD (i * n + k) 0 := if_neg (by omega)
        simp -implicitDefEqProofs only [c1, w1, c3, w3, n1, Int.toNat_natCast, g1, hfit, hl', hw, rkA, rkB, stepA, valA, simprocAttr]
        refine loopK_of (m' := m' - 1) (by omega) ?_
        simp -implicitDefEqProofs only [rkA, rkB, stepA, valA, simprocAttr]
        refine ⟨k + 1, by omega, ?_⟩
        rw [gridP_succ]
        simp only [e0, List.map_append, List.map_cons, List.map_nil, List.length_append, List.length_cons, List.length_nil, Int.natCast_add, Int.natCast_one]
    · have hkr : k = n := by omega
      have hw := wrapped (x := (i : Int) + 1) (by omega) (by omega)
      simp -implicitDefEqProofs only [hw, rkA, rkB, stepA, valA, simprocAttr]
      refine loopK_of (m' := m - 1) (by omega) ?_
      simp -implicitDefEqProofs only [rkA, rkB, stepA, valA, simprocAttr]
      refine ⟨i + 1, by omega, ?_⟩
      rw [hkr, gridP_next]
      simp only [Int.natCast_add, Int.natCast_one]
  · have : i = n := by omega
    subst this
    rfl
theorem ok72 (e : Bool) (l : List Int) (n : Nat) (hn : n ≤ 16) (hl : l.length = n * n) : Ok Tryz.prog 72 [.sl e (l.map num), num n] (.sl false ((turnI l n).map num)) := by
  refine ok_fn mixed Tryz.func72 (code := ?_) (h := h72) ?_ k72 ?_
  rotate_left
  · exact rfl
  unfold h72 initS
  simp -implicitDefEqProofs only [rkA, rkB, stepA, valA, simprocAttr, Tryz.ntmps72, Tryz.results72]
  have hlen := gridP_length (turnH l n) n
  have hbig : ∀ i k, i ≤ n → k ≤ n → i * n + k ≤ 272 := fun i k h1 h2 => by
    have : i * n ≤ 16 * 16 := Nat.mul_le_mul (by omega) (by omega)
    omega
  have s3 := side16 hn hn
  refine wp_loop (fun m s => ∃ i : Nat, i + m = n ∧ s = ⟨[.v (.sl e (l.map num)), .v (num n), jk, jk, jk, .acc 5 ((gridP (turnH l n) n i 0).map num), nt i, jk, jk, jk, jk, jk, jk, jk, jk, jk, jk, jk, jk, jk, jk, jk, jk, jk, jk, jk, jk, jk, jk, jk], [], [], [(4, 0), (5, (gridP (turnH l n) n i 0).length)], [], 0, nomem⟩) n ?_ ?_
  · simp -implicitDefEqProofs only [rkA, rkB, stepA, valA, simprocAttr]
    exact ⟨0, by simp, rfl⟩
  rintro m s ⟨i, hi, rfl⟩
  simp -implicitDefEqProofs only [rkA, rkB, stepA, valA, simprocAttr]
  refine gB_dec ?_ ?_ <;> intro hc <;> simp -implicitDefEqProofs only [hc, rkA, rkB, stepA, valA, simprocAttr]
  · refine wp_loop (fun m s => ∃ k : Nat, k + m = n ∧ s = ⟨[.v (.sl e (l.map num)), .v (num n), jk, jk, jk, .acc 5 ((gridP (turnH l n) n i k).map num), nt i, nt k, jk, jk, jk, jk, jk, jk, jk, jk, jk, jk, jk, jk, jk, jk, jk, jk, jk, jk, jk, jk, jk, jk], [], [], [(4, 0), (5, (gridP (turnH l n) n i k).length)], [], 0, nomem⟩) n ?_ ?_
    · simp -implicitDefEqProofs only [rkA, rkB, stepA, valA, simprocAttr]
      exact ⟨0, by simp, rfl⟩
    rintro m' s ⟨k, hk, rfl⟩
    simp -implicitDefEqProofs only [rkA, rkB, stepA, valA, simprocAttr]
    refine gB_dec ?_ ?_ <;> intro hc2 <;> simp -implicitDefEqProofs only [hc2, rkA, rkB, stepA, valA, simprocAttr]
    · have hl1 := hlen i k
      have hb := hbig i k (by omega) (by omega)
      have hfit : ∀ x : Int, fits 1 8 ((gridP (turnH l n) n i k).map num) [num x] = true := fun x => fits_num (l := [x]) (by simp only [List.length_cons, List.length_nil]; omega)
      have hl' : ((gridP (turnH l n) n i k).map num).length = (gridP (turnH l n) n i k).length := by simp
      have hw := wrapped (x := (k : Int) + 1) (by omega) (by omega)
      have t := at_table (i := k) (j := i) (n := n) (m := n) (by omega) (by omega)
      have c1 : (k : Int) * (n : Int) = ((k * n : Nat) : Int) := by simp
      have c3 : ((k * n : Nat) : Int) + (i : Int) = ((k * n + i : Nat) : Int) := by simp
      have w1 := wrapped (x := ((k * n : Nat) : Int)) (by omega) (by omega)
      have w3 := wrapped (x := ((k * n + i : Nat) : Int)) (by omega) (by omega)
      have g1 := at_num (a := l) (i := k * n + i) (by omega)
      have n1 : (0 : Int) ≤ ((k * n + i : Nat) : Int) := by omega
      simp -implicitDefEqProofs only [c1, w1, c3, w3, n1, Int.toNat_natCast, g1, hfit, hl', hw, rkA, rkB, stepA, valA, simprocAttr]
      refine loopK_of (m' := m' - 1) (by omega) ?_
      simp -implicitDefEqProofs only [rkA, rkB, stepA, valA, simprocAttr]
      refine ⟨k + 1, by omega, ?_⟩
      rw [gridP_succ]
      simp only [turnH, List.map_append, List.map_cons, List.map_nil, List.length_append, List.length_cons, List.length_nil, Int.natCast_add, Int.natCast_one]
    · have hkr : k = n := by omega
      have hw := wrapped (x := (i : Int) + 1) (by omega) (by omega)
      simp -implicitDefEqProofs only [hw, rkA, rkB, stepA, valA, simprocAttr]
      refine loopK_of (m' := m - 1) (by omega) ?_
      simp -implicitDefEqProofs only [rkA, rkB, stepA, valA, simprocAttr]
      refine ⟨i + 1, by omega, ?_⟩
      rw [hkr, gridP_next]
      simp only [Int.natCast_add, Int.natCast_one]
  · have : i = n := by omega
    subst this
    rfl
theorem ok16 (e : Bool) (l : List Int) (n : Int) : Ok Tryz.prog 16 [.sl e (l.map num), num n] (tru (decide (1 ≤ n ∧ n ≤ 5 ∧ (l.length : Int) = n * n) && fewB l)) := by
  refine ok_fn mixed Tryz.func16 (code := ?_) (h := h16) ?_ k16 ?_
  rotate_left
  · exact rfl
  unfold h16 initS
  simp -implicitDefEqProofs only [rkA, rkB, stepA, valA, simprocAttr, Tryz.ntmps16, Tryz.results16]
  refine gB_dec ?_ ?_ <;> intro h1 <;> simp -implicitDefEqProofs only [h1, rkA, rkB, stepA, valA, simprocAttr]
  · refine gB_dec ?_ ?_ <;> intro h2 <;> simp -implicitDefEqProofs only [h2, rkA, rkB, stepA, valA, simprocAttr]
    · have hb : 0 ≤ n * n ∧ n * n ≤ 25 := by
        obtain ⟨N, rfl⟩ := Int.eq_ofNat_of_zero_le (show 0 ≤ n by omega)
        have : N * N ≤ 5 * 5 := Nat.mul_le_mul (by omega) (by omega)
        rw [← Int.natCast_mul]
        omega
      have hw := wrapped (x := n * n) (by omega) (by omega)
      have hl : (l.map num).length = l.length := by simp
      simp -implicitDefEqProofs only [hw, hl, rkA, rkB, stepA, valA, simprocAttr]
      refine gB_bool ?_ ?_ <;> intro h3 <;> simp -implicitDefEqProofs only [h3, rkA, rkB, stepA, valA, simprocAttr]
      · have h3' : (l.length : Int) = n * n := by simpa using h3
        refine call_fn rfl rfl rfl (ok37 e l) ?_
        simp -implicitDefEqProofs only [rkA, rkB, stepA, valA, simprocAttr]
        have : 1 ≤ n ∧ n ≤ 5 ∧ (l.length : Int) = n * n := ⟨by omega, by omega, h3'⟩
        simp -implicitDefEqProofs only [this, rkA, rkB, stepA, valA, simprocAttr]
      · have h3' : ¬ (l.length : Int) = n * n := by simpa using h3
        simp -implicitDefEqProofs only [h3', rkA, rkB, stepA, valA, simprocAttr]
theorem ok69 (x : Fr) : Ok Tryz.prog 69 [frV x] (tru (x.n == 0)) := by
  refine ok_fn mixed Tryz.func69 (code := ?_) (h := h69) ?_ k69 ?_
  rotate_left
  · exact rfl
  unfold h69 initS
  simp -implicitDefEqProofs only [rkA, rkB, stepA, valA, simprocAttr, Tryz.ntmps69, Tryz.results69]

theorem small_turn {l : List Int} (h : small l) (n : Nat) : small (turnI l n) := by
  intro x hx
  rw [turnI, gridP_zero, List.mem_flatMap] at hx
  obtain ⟨i, _, hx⟩ := hx
  obtain ⟨k, _, rfl⟩ := List.mem_map.1 hx
  exact small_get h _
theorem ok20 (e : Bool) (l : List Int) (n : Nat) (hn : n ≤ 16) (hl : l.length = n * n) (hs : small l) : Ok Tryz.prog 20 [.sl e (l.map num), num n] (.sl false ((squareI l n).map num)) := by
  refine ok_fn mixed Tryz.func20 (code := ?_) (h := h20) ?_ k20 ?_
  rotate_left
  · exact rfl
  unfold h20 initS
  simp -implicitDefEqProofs only [rkA, rkB, stepA, valA, simprocAttr, Tryz.ntmps20, Tryz.results20]
  refine call_fn rfl rfl rfl (ok72 e l n hn hl) ?_
  simp -implicitDefEqProofs only [rkA, rkB, stepA, valA, simprocAttr]
  refine call_fn rfl rfl rfl (ok47 e false l (turnI l n) n n n hn hn hn hl (by rw [turnI, gridP_length, Nat.add_zero]) hs (small_turn hs n)) ?_
  simp -implicitDefEqProofs only [rkA, rkB, stepA, valA, simprocAttr, squareI]

/-! ### What the document fixes of a root -/
theorem ok17 : Ok Tryz.prog 17 [] (tru true) := by
  refine ok_fn mixed Tryz.func17 (code := ?_) (h := h17) ?_ k17 ?_
  rotate_left
  · exact rfl
  unfold h17 initS
  simp -implicitDefEqProofs only [rkA, rkB, stepA, valA, simprocAttr, Tryz.ntmps17, Tryz.results17]
  have h1 := ok19 2 2 true [4, 2, 2, 5] (by simp)
  rw [if_pos (by decide)] at h1
  refine call_fn rfl rfl rfl (h1) ?_
  have u1 : rootMat 2 ([4, 2, 2, 5].map (newF · 1)) = [2, 0, 1, 2].map (newF · 1) := by decide +kernel
  generalize hR : [4, 2, 2, 5].map (newF · 1) = R at *
  have lR : R.length = 4 := by subst hR; rfl
  simp -implicitDefEqProofs only [rkA, rkB, stepA, valA, simprocAttr]
  have h2 := ok21 2 (by omega) false R lR
  rw [u1] at h2
  refine call_fn rfl rfl rfl (h2) ?_
  simp -implicitDefEqProofs only [rkA, rkB, stepA, valA, simprocAttr]
  refine call_fn rfl rfl rfl (ok24 false true 2 2 ([2, 0, 1, 2].map (newF · 1)) [2, 0, 1, 2] (by simp) rfl) ?_
  simp -implicitDefEqProofs only [rkA, rkB, stepA, valA, simprocAttr]
  have hz : ∀ i k : Nat, i < Int.toNat 2 → k < Int.toNat 2 → i < k → ((atF 2 2 ([2, 0, 1, 2].map (newF · 1)) i k).n == 0) = true := by
    intro i k hi hk hik
    obtain ⟨rfl, rfl⟩ : i = 0 ∧ k = 1 := by omega
    decide +kernel
  refine call_fn rfl rfl rfl (ok68 false 2 2 ([2, 0, 1, 2].map (newF · 1)) _ [] (fun x => x.n == 0) true ok69 ⟨fun _ => ⟨by decide +kernel, rfl, hz⟩, fun _ => rfl⟩) ?_
  simp -implicitDefEqProofs only [rkA, rkB, stepA, valA, simprocAttr]
  refine call_fn rfl rfl rfl (ok70 2 (by omega) false ([2, 0, 1, 2].map (newF · 1)) (by simp)) ?_
  simp -implicitDefEqProofs only [rkA, rkB, stepA, valA, simprocAttr]
  have hd : (frs (diagF 2 [newF 2 1, newF 0 1, newF 1 1, newF 2 1])).length = 2 := by simp [diagF]
  have hd' : (diagF 2 [newF 2 1, newF 0 1, newF 1 1, newF 2 1]).length = 2 := by simp [diagF]
  simp only [hd', List.length_map]
  rfl
end Go.Proofs.YtbflmeomkfjikaaGreat.A


set_option linter.unusedVariables false
set_option linter.unusedSimpArgs false
set_option maxRecDepth 100000
namespace Go.Proofs.YtbflmeomkfjikaaGreat.A
open Go Go.RowKit Go.Shelf

/-! ### Plain laws of clearing -/
/-! ### The function TriClears -/
theorem five {n : Int} {m : Nat} (h : 1 ≤ n ∧ n ≤ 5 ∧ (m : Int) = n * n) : ∃ N : Nat, n = N ∧ 1 ≤ N ∧ N ≤ 5 ∧ m = N * N := by
  obtain ⟨N, rfl⟩ := Int.eq_ofNat_of_zero_le (show 0 ≤ n by omega)
  refine ⟨N, rfl, by omega, by omega, ?_⟩
  have := h.2.2
  rw [← Int.natCast_mul] at this
  omega
end Go.Proofs.YtbflmeomkfjikaaGreat.A


set_option linter.unusedVariables false
set_option linter.unusedSimpArgs false
set_option maxRecDepth 100000
namespace Go.Proofs.YtbflmeomkfjikaaGreat.A
open Go Go.RowKit Go.Shelf

/-! ### Plain laws of squares -/
theorem squareI_at {l : List Int} {n i k : Nat} (hi : i < n) (hk : k < n) : (squareI l n).getD (i * n + k) 0 = ((List.range n).map fun j => l.getD (i * n + j) 0 * l.getD (k * n + j) 0).sum := by
  unfold squareI mulI
  rw [grid_getD hi hk, dotI_sum]
  refine sum_congr fun j hj => ?_
  rw [turnI, grid_getD hj hk, turnH]
theorem squareI_len (l : List Int) (n : Nat) : (squareI l n).length = n * n := mulI_length _ _ _ _ _
end Go.Proofs.YtbflmeomkfjikaaGreat.A


set_option linter.unusedVariables false
set_option linter.unusedSimpArgs false
set_option maxRecDepth 100000
namespace Go.Proofs.YtbflmeomkfjikaaGreat.A
open Go Go.RowKit Go.Shelf

/-! ### What a root is, entry by entry -/
theorem take_rowM (n : Nat) (M : Nat → Nat → Fr) (i k : Nat) (hk : k ≤ n) : (rowM n M i).take k = (List.range k).map (M i) := by
  rw [rowM, ← List.map_take, List.take_range, Nat.min_eq_left hk]
theorem leftM_congr {n : Nat} {p : List Fr} {M N : Nat → Nat → Fr} {i k : Nat} (hk : k ≤ n) (h : ∀ j, j < k → M i j = N i j ∧ M k j = N k j) : leftM n p M i k = leftM n p N i k := by
  unfold leftM
  rw [take_rowM n M i k hk, take_rowM n M k k hk, take_rowM n N i k hk, take_rowM n N k k hk]
  congr 2
  · exact List.map_congr_left fun j hj => (h j (List.mem_range.1 hj)).1
  · exact List.map_congr_left fun j hj => (h j (List.mem_range.1 hj)).2
theorem colS_other (n : Nat) (p : List Fr) (k : Nat) (M : Nat → Nat → Fr) : ∀ (j a b : Nat), b ≠ k ∨ a < k → colS n p k M j a b = M a b
  | 0, a, b, h => by
    simp only [colS, stepD, setM]
    rw [if_neg (by omega)]
  | j + 1, a, b, h => by
    simp only [colS, setM]
    rw [if_neg (by omega)]
    exact colS_other n p k M j a b h
theorem colS_diag (n : Nat) (p : List Fr) (k : Nat) (M : Nat → Nat → Fr) : ∀ j, colS n p k M j k k = rootF (leftM n p M k k)
  | 0 => by
    simp only [colS, stepD, setM]
    rw [if_pos (by simp)]
  | j + 1 => by
    simp only [colS, setM]
    rw [if_neg (by rintro ⟨h, _⟩; omega)]
    exact colS_diag n p k M j
theorem colS_low (n : Nat) (p : List Fr) (k : Nat) (M : Nat → Nat → Fr) (hk : k ≤ n) : ∀ (j t : Nat), t < j → colS n p k M j (k + 1 + t) k = divF (leftM n p M (k + 1 + t) k) (rootF (leftM n p M k k))
  | 0, t, h => by omega
  | j + 1, t, h => by
    simp only [colS, setM]
    by_cases e : t = j
    · subst e
      rw [if_pos (by simp), colS_diag]
      congr 1
      exact leftM_congr hk fun q hq => ⟨colS_other n p k M t _ _ (.inl (by omega)), colS_other n p k M t _ _ (.inl (by omega))⟩
    · rw [if_neg (by omega)]
      exact colS_low n p k M hk j t (by omega)
theorem rootS_out (n : Nat) (p : List Fr) : ∀ (k a b : Nat), k ≤ b → rootS n p k a b = newF 0 1
  | 0, a, b, h => rfl
  | k + 1, a, b, h => by
    rw [rootS, colS_other n p k _ _ _ _ (.inl (by omega))]
    exact rootS_out n p k a b (by omega)
theorem rootS_keep (n : Nat) (p : List Fr) : ∀ (k a b : Nat), b < k → rootS n p k a b = rootS n p (b + 1) a b
  | 0, a, b, h => by omega
  | k + 1, a, b, h => by
    by_cases e : b = k
    · rw [e]
    · rw [rootS, colS_other n p k _ _ _ _ (.inl (by omega))]
      exact rootS_keep n p k a b (by omega)
theorem rootS_left {n : Nat} {p : List Fr} {i k : Nat} (hk : k ≤ n) : leftM n p (rootS n p k) i k = leftM n p (rootS n p n) i k :=
  leftM_congr hk fun j hj => ⟨(rootS_keep n p k i j hj).trans (rootS_keep n p n i j (by omega)).symm, (rootS_keep n p k k j hj).trans (rootS_keep n p n k j (by omega)).symm⟩
theorem root_up {n : Nat} {p : List Fr} {i k : Nat} (h : i < k) (hk : k < n) : rootS n p n i k = newF 0 1 := by
  rw [rootS_keep n p n i k hk, rootS, colS_other n p k _ _ _ _ (.inr h)]
  exact rootS_out n p k i k (Nat.le_refl _)
theorem root_diag {n : Nat} {p : List Fr} {k : Nat} (hk : k < n) : rootS n p n k k = rootF (leftM n p (rootS n p n) k k) := by
  rw [rootS_keep n p n k k hk, rootS, colS_diag, rootS_left (by omega)]
theorem root_low {n : Nat} {p : List Fr} {i k : Nat} (h : k < i) (hi : i < n) : rootS n p n i k = divF (leftM n p (rootS n p n) i k) (rootS n p n k k) := by
  rw [rootS_keep n p n i k (by omega), rootS]
  have := colS_low n p k (rootS n p k) (by omega) (n - (k + 1)) (i - (k + 1)) (by omega)
  rw [show k + 1 + (i - (k + 1)) = i by omega] at this
  rw [this, rootS_left (by omega), rootS_left (by omega), ← root_diag (by omega)]

end Go.Proofs.YtbflmeomkfjikaaGreat.A


set_option linter.unusedVariables false
set_option linter.unusedSimpArgs false
set_option maxRecDepth 100000
namespace Go.Proofs.YtbflmeomkfjikaaGreat.A.E
open Go Go.RowKit Go.Shelf

theorem take_rowM (n : Nat) (M : Nat → Nat → Fr) (i k : Nat) (hk : k ≤ n) : (rowM n M i).take k = (List.range k).map (M i) := by
  rw [rowM, ← List.map_take, List.take_range, Nat.min_eq_left hk]
theorem leftM_congr {n : Nat} {p : List Fr} {M N : Nat → Nat → Fr} {i k : Nat} (hk : k ≤ n) (h : ∀ j, j < k → M i j = N i j ∧ M k j = N k j) : leftM n p M i k = leftM n p N i k := by
  unfold leftM
  rw [take_rowM n M i k hk, take_rowM n M k k hk, take_rowM n N i k hk, take_rowM n N k k hk]
  congr 2
  · exact List.map_congr_left fun j hj => (h j (List.mem_range.1 hj)).1
  · exact List.map_congr_left fun j hj => (h j (List.mem_range.1 hj)).2
theorem colS_other (n : Nat) (p : List Fr) (k : Nat) (M : Nat → Nat → Fr) : ∀ (j a b : Nat), b ≠ k ∨ a < k → colS n p k M j a b = M a b
  | 0, a, b, h => by
    simp only [colS, stepD, setM]
    rw [if_neg (by omega)]
  | j + 1, a, b, h => by
    simp only [colS, setM]
    rw [if_neg (by omega)]
    exact colS_other n p k M j a b h
theorem colS_diag (n : Nat) (p : List Fr) (k : Nat) (M : Nat → Nat → Fr) : ∀ j, colS n p k M j k k = rootF (leftM n p M k k)
  | 0 => by
    simp only [colS, stepD, setM]
    rw [if_pos (by simp)]
  | j + 1 => by
    simp only [colS, setM]
    rw [if_neg (by rintro ⟨h, _⟩; omega)]
    exact colS_diag n p k M j
theorem colS_low (n : Nat) (p : List Fr) (k : Nat) (M : Nat → Nat → Fr) (hk : k ≤ n) : ∀ (j t : Nat), t < j → colS n p k M j (k + 1 + t) k = divF (leftM n p M (k + 1 + t) k) (rootF (leftM n p M k k))
  | 0, t, h => by omega
  | j + 1, t, h => by
    simp only [colS, setM]
    by_cases e : t = j
    · subst e
      rw [if_pos (by simp), colS_diag]
      congr 1
      exact leftM_congr hk fun q hq => ⟨colS_other n p k M t _ _ (.inl (by omega)), colS_other n p k M t _ _ (.inl (by omega))⟩
    · rw [if_neg (by omega)]
      exact colS_low n p k M hk j t (by omega)
theorem rootS_out (n : Nat) (p : List Fr) : ∀ (k a b : Nat), k ≤ b → rootS n p k a b = newF 0 1
  | 0, a, b, h => rfl
  | k + 1, a, b, h => by
    rw [rootS, colS_other n p k _ _ _ _ (.inl (by omega))]
    exact rootS_out n p k a b (by omega)
theorem rootS_keep (n : Nat) (p : List Fr) : ∀ (k a b : Nat), b < k → rootS n p k a b = rootS n p (b + 1) a b
  | 0, a, b, h => by omega
  | k + 1, a, b, h => by
    by_cases e : b = k
    · rw [e]
    · rw [rootS, colS_other n p k _ _ _ _ (.inl (by omega))]
      exact rootS_keep n p k a b (by omega)
theorem rootS_left {n : Nat} {p : List Fr} {i k : Nat} (hk : k ≤ n) : leftM n p (rootS n p k) i k = leftM n p (rootS n p n) i k :=
  leftM_congr hk fun j hj => ⟨(rootS_keep n p k i j hj).trans (rootS_keep n p n i j (by omega)).symm, (rootS_keep n p k k j hj).trans (rootS_keep n p n k j (by omega)).symm⟩
theorem root_up {n : Nat} {p : List Fr} {i k : Nat} (h : i < k) (hk : k < n) : rootS n p n i k = newF 0 1 := by
  rw [rootS_keep n p n i k hk, rootS, colS_other n p k _ _ _ _ (.inr h)]
  exact rootS_out n p k i k (Nat.le_refl _)
theorem root_diag {n : Nat} {p : List Fr} {k : Nat} (hk : k < n) : rootS n p n k k = rootF (leftM n p (rootS n p n) k k) := by
  rw [rootS_keep n p n k k hk, rootS, colS_diag, rootS_left (by omega)]
theorem root_low {n : Nat} {p : List Fr} {i k : Nat} (h : k < i) (hi : i < n) : rootS n p n i k = divF (leftM n p (rootS n p n) i k) (rootS n p n k k) := by
  rw [rootS_keep n p n i k (by omega), rootS]
  have := colS_low n p k (rootS n p k) (by omega) (n - (k + 1)) (i - (k + 1)) (by omega)
  rw [show k + 1 + (i - (k + 1)) = i by omega] at this
  rw [this, rootS_left (by omega), rootS_left (by omega), ← root_diag (by omega)]

end Go.Proofs.YtbflmeomkfjikaaGreat.A.E



set_option linter.unusedVariables false
set_option linter.unusedSimpArgs false
set_option maxRecDepth 100000
namespace Go.Proofs.YtbflmeomkfjikaaGreat.A
open Go Go.RowKit Go.Shelf

/-! ### Nothing's triangles -/
/-! ### Plain laws of clearing, of whole numbers -/
theorem atF_whole {l : List Int} {n i k : Nat} (hn : 1 ≤ n ∧ n ≤ 16) (hl : l.length = n * n) (hi : i < n) (hk : k < n) : atF n n (l.map (newF · 1)) i k = newF (l.getD (i * n + k) 0) 1 := by
  have hb := at_table (i := i) (j := k) (n := n) (m := n) hi hk
  rw [atF_eq (right_sq hn (by rw [List.length_map, hl])) (by simpa using hi) (by simpa using hk), Int.toNat_natCast, getD_newF (by omega)]
/-! ### The function TriTells -/
end Go.Proofs.YtbflmeomkfjikaaGreat.A


set_option linter.unusedVariables false
set_option linter.unusedSimpArgs false
set_option maxRecDepth 100000
namespace Go.Proofs.YtbflmeomkfjikaaGreat.A
open Go Go.RowKit Go.Shelf

/-! ### Sums of whole numbers -/
def sumZ : Nat → (Nat → Int) → Int
  | 0, _ => 0
  | n + 1, f => sumZ n f + f n
theorem sumZ_congr {f g : Nat → Int} : ∀ {n : Nat}, (∀ j, j < n → f j = g j) → sumZ n f = sumZ n g
  | 0, _ => rfl
  | n + 1, h => by rw [sumZ, sumZ, sumZ_congr fun j hj => h j (by omega), h n (by omega)]
theorem sumZ_list (f : Nat → Int) : ∀ n, ((List.range n).map f).sum = sumZ n f
  | 0 => rfl
  | n + 1 => by rw [List.range_succ, List.map_append, List.sum_append, sumZ_list f n, sumZ]; simp
theorem sumZ_tail {f : Nat → Int} {k n : Nat} (hk : k ≤ n) (h : ∀ j, k ≤ j → j < n → f j = 0) : sumZ n f = sumZ k f := by
  induction n with
  | zero => rw [show k = 0 by omega]
  | succ n ih =>
    by_cases e : k = n + 1
    · rw [e]
    · rw [sumZ, ih (by omega) (fun j h1 h2 => h j h1 (by omega)), h n (by omega) (by omega), Int.add_zero]
theorem sumZ_bnd {f : Nat → Int} {B : Int} (hB : 0 ≤ B) (hf : ∀ j, -B ≤ f j ∧ f j ≤ B) : ∀ n : Nat, -((n : Int) * B) ≤ sumZ n f ∧ sumZ n f ≤ (n : Int) * B
  | 0 => by simp [sumZ]
  | n + 1 => by
    have h := sumZ_bnd hB hf n
    have h2 := hf n
    have e : ((n + 1 : Nat) : Int) * B = (n : Int) * B + B := by rw [Int.natCast_add, Int.add_mul]; simp
    rw [sumZ, e]
    omega
theorem sumZ_cast (f : Nat → Int) : ∀ n, ((sumZ n f : Int) : Rat) = sumR n fun j => (f j : Rat)
  | 0 => rfl
  | n + 1 => by rw [sumZ, Rat.intCast_add, sumZ_cast f n, sumR]
/-- The dot of whole numbers. -/
theorem dot_whole {f g : Nat → Int} (hf : ∀ j, -100 ≤ f j ∧ f j ≤ 100) (hg : ∀ j, -100 ≤ g j ∧ g j ≤ 100) {n : Nat} (hn : n ≤ 16) :
    dotF ((List.range n).map fun j => newF (f j) 1) ((List.range n).map fun j => newF (g j) 1) = newF (sumZ n fun j => f j * g j) 1 := by
  have hb : ∀ j, -10000 ≤ f j * g j ∧ f j * g j ≤ 10000 := fun j => prod_small (hf j) (hg j)
  have hs : ∀ j, j ≤ 16 → few (sumZ j fun j => f j * g j) := fun j hj => by
    have := sumZ_bnd (B := 10000) (by omega) hb j
    unfold few
    omega
  unfold dotF
  rw [newF_whole (hs n hn), List.zipWith_map, List.zipWith_self]
  have e : ∀ j, mulF (newF (f j) 1) (newF (g j) 1) = whole (f j * g j) := fun j => by
    have h3 := hb j
    rw [newF_whole (few_small (hf j)), newF_whole (few_small (hg j)), mulF_whole (few_small (hf j)) (few_small (hg j)) (by unfold few; omega)]
  simp only [e]
  exact sumF_whole (fun j => f j * g j) (fun j => sumZ j fun j => f j * g j) rfl (fun j => rfl) n (fun j _ => by have := hb j; unfold few; omega) (fun j hj => hs j (by omega)) n (Nat.le_refl _)

/-! ### Roots of squares of whole triangles -/
theorem rootI_sq {s : Int} (h : 0 ≤ s ∧ s ≤ 100) : rootI (s * s) = s := by
  obtain ⟨S, rfl⟩ : ∃ S : Nat, s = S := ⟨s.toNat, by omega⟩
  have e : ((S : Int) * S).toNat = S * S := by rw [← Int.natCast_mul, Int.toNat_natCast]
  have hs : S < 2 ^ 16 := by omega
  unfold rootI
  rw [e, rtB_sq hs, if_pos rfl]
theorem root_whole {s : Int} (h : 0 ≤ s ∧ s ≤ 100) : rootF (newF (s * s) 1) = newF s 1 := by
  have hb : 0 ≤ s * s ∧ s * s ≤ 10000 := ⟨Int.mul_nonneg h.1 h.1, (prod_small ⟨by omega, h.2⟩ ⟨by omega, h.2⟩).2⟩
  have hf : few (s * s) := by unfold few; omega
  rw [newF_whole hf]
  unfold rootF
  have r1 := rootI_sq h
  have r2 : rootI 1 = 1 := by decide +kernel
  simp only [fine_whole hf]
  show (if true = false ∨ s * s < 0 ∨ rootI (s * s) < 0 ∨ rootI 1 < 0 then Fr.wrong else newF (rootI (s * s)) (rootI 1)) = _
  rw [r1, r2, if_neg (by rintro (h1 | h1 | h1 | h1) <;> first | cases h1 | omega)]
theorem div_whole {a b : Int} (ha : -100 ≤ a ∧ a ≤ 100) (hb : 1 ≤ b ∧ b ≤ 100) : divF (newF (a * b) 1) (newF b 1) = newF a 1 := by
  have hp := prod_small (x := a) (y := b) ha ⟨by omega, hb.2⟩
  have f1 : few (a * b) := by unfold few; omega
  have f2 : few b := by unfold few; omega
  have f3 : few a := by unfold few; omega
  rw [newF_whole f1, newF_whole f2]
  unfold divF
  rw [fine_whole f1, fine_whole f2, if_neg (by simp)]
  simp only [whole]
  rw [Int.mul_one, Int.one_mul]
  have h1 : newF (a * b) b = newF a 1 := by
    have hb0 : b ≠ 0 := by omega
    have i1 : Is (newF (a * b) b) (a : Rat) := by
      have hg : Int.gcd (a * b) b = b.natAbs := by
        show Nat.gcd (a * b).natAbs b.natAbs = _
        rw [Int.natAbs_mul]
        exact Nat.gcd_eq_right (Nat.dvd_mul_left _ _)
      have hq : (newF (a * b) b).bad = false := by
        unfold newF
        rw [if_neg (by omega)]
        simp only [show ¬ b < 0 by omega, if_false, hg]
        have e1 : ((b.natAbs : Nat) : Int) = b := by omega
        rw [e1, Int.mul_tdiv_cancel _ hb0, Int.tdiv_self hb0, if_neg (by omega)]
      obtain ⟨g1, g2, g3⟩ := newF_fine hq
      refine ⟨g1, g2.trans ?_⟩
      have := cast_ne hb0
      rw [Rat.intCast_mul]
      grind
    exact i1.inj (whole_is f3)
  exact h1
section
variable {n : Nat} {L : Nat → Nat → Int}
/-- A lower triangle of small whole numbers, its diagonal above 0. -/
structure LowTri (n : Nat) (L : Nat → Nat → Int) : Prop where
  small : ∀ i k, -100 ≤ L i k ∧ L i k ≤ 100
  zero : ∀ i k, i < k → k < n → L i k = 0
  diag : ∀ k, k < n → 1 ≤ L k k
theorem LowTri.sum (h : LowTri n L) {i k : Nat} (hk : k < n) (hki : k ≤ i) : sumZ n (fun j => L i j * L k j) = sumZ k (fun j => L i j * L k j) + L i k * L k k := by
  have : sumZ n (fun j => L i j * L k j) = sumZ (k + 1) (fun j => L i j * L k j) := sumZ_tail (by omega) fun j h1 h2 => by rw [h.zero k j (by omega) h2, Int.mul_zero]
  rw [this, sumZ]
theorem LowTri.left (hn : 1 ≤ n ∧ n ≤ 16) (h : LowTri n L) {p : List Fr} (hp : ∀ i k, i < n → k < n → atF n n p i k = newF (sumZ n fun j => L i j * L k j) 1) {S : Nat → Nat → Fr} {i k : Nat} (hk : k < n) (hki : k ≤ i) (hi : i < n)
    (hS : ∀ j, j < k → S i j = newF (L i j) 1 ∧ S k j = newF (L k j) 1) : leftM n p S i k = newF (L i k * L k k) 1 := by
  unfold leftM
  rw [take_rowM n S i k (by omega), take_rowM n S k k (by omega), hp i k hi hk, h.sum hk hki]
  have e1 : (List.range k).map (S i) = (List.range k).map fun j => newF (L i j) 1 := List.map_congr_left fun j hj => (hS j (List.mem_range.1 hj)).1
  have e2 : (List.range k).map (S k) = (List.range k).map fun j => newF (L k j) 1 := List.map_congr_left fun j hj => (hS j (List.mem_range.1 hj)).2
  rw [e1, e2, dot_whole (h.small i) (h.small k) (by omega)]
  have hb : ∀ j, -10000 ≤ L i j * L k j ∧ L i j * L k j ≤ 10000 := fun j => prod_small (h.small i j) (h.small k j)
  have hs := sumZ_bnd (B := 10000) (by omega) hb k
  have hk' := hb k
  generalize sumZ k (fun j => L i j * L k j) = s at *
  rw [newF_whole (n := s + L i k * L k k) (by unfold few; omega), newF_whole (n := s) (by unfold few; omega), subF_whole (by unfold few; omega) (by unfold few; omega) (by unfold few; omega), newF_whole (by unfold few; omega)]
  congr 1
  omega
theorem LowTri.root (hn : 1 ≤ n ∧ n ≤ 16) (h : LowTri n L) {p : List Fr} (hp : ∀ i k, i < n → k < n → atF n n p i k = newF (sumZ n fun j => L i j * L k j) 1) : ∀ k i, k < n → i < n → rootS n p n i k = newF (L i k) 1 := by
  intro k
  induction k using Nat.strongRecOn with
  | ind k ih =>
    intro i hk hi
    have hdiag : rootS n p n k k = newF (L k k) 1 := by
      rw [root_diag hk, LowTri.left hn h hp hk (Nat.le_refl _) hk (fun j hj => ⟨ih j hj k (by omega) hk, ih j hj k (by omega) hk⟩)]
      exact root_whole ⟨by have := h.diag k hk; omega, (h.small k k).2⟩
    rcases Nat.lt_trichotomy i k with h1 | h1 | h1
    · rw [root_up h1 hk, h.zero i k h1 hk]
    · rw [h1]; exact hdiag
    · rw [root_low h1 hi, hdiag, LowTri.left hn h hp hk (by omega) hi (fun j hj => ⟨ih j hj i (by omega) hi, ih j hj k (by omega) hk⟩)]
      exact div_whole (h.small i k) ⟨h.diag k hk, (h.small k k).2⟩
end
end Go.Proofs.YtbflmeomkfjikaaGreat.A


set_option linter.unusedVariables false
set_option linter.unusedSimpArgs false
set_option maxRecDepth 100000
namespace Go.Proofs.YtbflmeomkfjikaaGreat.A.E
open Go Go.RowKit Go.Shelf

/-! ### Roots of squares of whole triangles, enclosed -/
section
variable {n : Nat} {L : Nat → Nat → Int}
theorem low_left (hn : 1 ≤ n ∧ n ≤ 16) (h : LowTri n L) {p : List Fr} (hp : ∀ i k, i < n → k < n → atF n n p i k = newF (sumZ n fun j => L i j * L k j) 1) {S : Nat → Nat → Fr} {i k : Nat} (hk : k < n) (hki : k ≤ i) (hi : i < n)
    (hS : ∀ j, j < k → Rq (S i j) (L i j : Rat) ∧ Rq (S k j) (L k j : Rat)) : Rq (leftM n p S i k) ((L i k : Rat) * (L k k : Rat)) := by
  unfold leftM
  rw [take_rowM n S i k (by omega), take_rowM n S k k (by omega), hp i k hi hk, h.sum hk hki]
  have hb : ∀ j, -10000 ≤ L i j * L k j ∧ L i j * L k j ≤ 10000 := fun j => prod_small (h.small i j) (h.small k j)
  have hs := sumZ_bnd (B := 10000) (by omega) hb k
  have hk' := hb k
  have hw := Rq.whole (n := sumZ k (fun j => L i j * L k j) + L i k * L k k) (by unfold few; omega)
  have hd : Rq (dotF ((List.range k).map (S i)) ((List.range k).map (S k))) (sumR k fun j => (L i j : Rat) * (L k j : Rat)) := Rq.dot (fun j hj => (hS j hj).1) (fun j hj => (hS j hj).2)
  have := hw.sub hd
  have e : ((sumZ k (fun j => L i j * L k j) + L i k * L k k : Int) : Rat) - (sumR k fun j => (L i j : Rat) * (L k j : Rat)) = (L i k : Rat) * (L k k : Rat) := by
    rw [Rat.intCast_add, sumZ_cast, Rat.intCast_mul]
    simp only [Rat.intCast_mul]
    grind
  rw [e] at this
  exact this
theorem low_root (hn : 1 ≤ n ∧ n ≤ 16) (h : LowTri n L) {p : List Fr} (hp : ∀ i k, i < n → k < n → atF n n p i k = newF (sumZ n fun j => L i j * L k j) 1) : ∀ k i, k < n → i < n → Rq (rootS n p n i k) (L i k : Rat) := by
  intro k
  induction k using Nat.strongRecOn with
  | ind k ih =>
    intro i hk hi
    have hdg := h.diag k hk
    have hdiag : Rq (rootS n p n k k) (L k k : Rat) := by
      rw [root_diag hk]
      exact Rq.root (low_left hn h hp hk (Nat.le_refl _) hk (fun j hj => ⟨ih j hj k (by omega) hk, ih j hj k (by omega) hk⟩)) (by
        have : ((0 : Int) : Rat) ≤ (L k k : Rat) := Rat.intCast_le_intCast.2 (by omega)
        simpa using this) rfl
    rcases Nat.lt_trichotomy i k with h1 | h1 | h1
    · rw [root_up h1 hk, h.zero i k h1 hk]
      exact Rq.zero
    · rw [h1]; exact hdiag
    · rw [root_low h1 hi]
      have := (low_left hn h hp hk (by omega) hi (fun j hj => ⟨ih j hj i (by omega) hi, ih j hj k (by omega) hk⟩)).div hdiag
      have hne : (L k k : Rat) ≠ 0 := A.cast_ne (by omega)
      have e : (L i k : Rat) * (L k k : Rat) / (L k k : Rat) = (L i k : Rat) := by grind
      rw [e] at this
      exact this
end
theorem encl_int {x : Fr} {n : Int} (h : Enc x (n : Rat)) (hn : -1000000 ≤ n ∧ n ≤ 1000000) : enclB x n 1 = true := by
  obtain ⟨hf, h1, h2⟩ := h
  unfold enclB
  have hr : rightW n = true := by unfold rightW; rw [decide_eq_true_eq]; omega
  have hr1 : rightW 1 = true := by decide
  have e : (n : Rat) * 16777216 = ((n * 16777216 : Int) : Rat) := by rw [Rat.intCast_mul]; rfl
  rw [e] at h1 h2
  have i1 := Rat.intCast_le_intCast.1 h1
  have i2 := Rat.intCast_le_intCast.1 h2
  rw [hf, hr, hr1, cmpF_is, cmpF_is]
  simp only [Int.mul_one, Bool.true_and, Bool.and_eq_true, decide_eq_true_eq]
  refine ⟨by omega, ?_, ?_⟩
  · split
    · omega
    · rw [if_neg (by omega)]; omega
  · split
    · omega
    · rw [if_neg (by omega)]; omega
theorem root_snd (a : Fr) : SndE (rootF a) := fun h => by
  have hb := h
  unfold rootF at hb
  obtain ⟨k1, k2, k3, k4, k5⟩ := made_is hb
  obtain ⟨_, _, _, q1, q2⟩ := fine_is.1 k1
  have p1 := k4 (a.lo, a.lo) (by simp)
  have p2 := k4 (a.hi, a.hi) (by simp)
  unfold rootF
  refine (made_enc (w := ((rtX a.lo 1).1 : Rat) / 16777216) hb (fun x y m hh => (by obtain ⟨r, R, e1, _, e3, _⟩ := rt_spec hh; rw [e1]; exact e3)) ⟨(a.lo, a.lo), by simp, ?_⟩ ⟨(a.hi, a.hi), by simp, ?_⟩
    ⟨(a.lo, a.lo), by simp, rt_lohi p1.1 k3 q1⟩ ⟨(a.hi, a.hi), by simp, rt_hilo k3 p2.2 q2⟩).1
  · grind
  · have e : ((rtX a.lo 1).1 : Rat) / 16777216 * 16777216 = ((rtX a.lo 1).1 : Rat) := by grind
    rw [e]
    exact Rat.intCast_le_intCast.2 (Int.le_trans (rt_lohi p1.1 k3 q1) (rt_hilo k3 p2.2 q2))
theorem point0_fine : (newF 0 1).fine = true := (whole_enc (n := 0) (by unfold few; omega)).1
end Go.Proofs.YtbflmeomkfjikaaGreat.A.E


set_option linter.unusedVariables false
set_option linter.unusedSimpArgs false
set_option maxRecDepth 100000
namespace Go.Proofs.YtbflmeomkfjikaaGreat.A.E
open Go Go.RowKit Go.Shelf

abbrev dz : Fr := ⟨0, 0, 0, false⟩
theorem grid_at {g : Nat → Nat → Fr} {n N i k : Nat} (hi : i < N) (hk : k < n) : (gridP g n N 0).getD (i * n + k) dz = g i k := by
  rw [List.getD_eq_getElem?_getD, gridP_get _ _ _ _ _ hi hk, Option.getD_some]
end Go.Proofs.YtbflmeomkfjikaaGreat.A.E


set_option linter.unusedVariables false
set_option linter.unusedSimpArgs false
set_option maxRecDepth 100000
namespace Go.Proofs.YtbflmeomkfjikaaGreat.A.E
open Go Go.RowKit Go.Shelf

end Go.Proofs.YtbflmeomkfjikaaGreat.A.E


set_option linter.unusedVariables false
set_option linter.unusedSimpArgs false
set_option maxRecDepth 100000
namespace Go.Proofs.YtbflmeomkfjikaaGreat.A
open Go Go.RowKit Go.Shelf

/-! ### What a triangle times it is a row -/
end Go.Proofs.YtbflmeomkfjikaaGreat.A


set_option linter.unusedVariables false
set_option linter.unusedSimpArgs false
set_option maxRecDepth 100000
namespace Go.Proofs.YtbflmeomkfjikaaGreat.A.E
open Go Go.RowKit Go.Shelf

/-! ### What is solved: enclosed beside fractions -/
theorem divF_snd (a b : Fr) : SndE (divF a b) := fun h => by
  have hf : a.fine = true ∧ b.fine = true := by
    unfold divF at h
    split at h
    · cases h
    · exact ⟨(made_is h).1, (made_is h).2.1⟩
  exact (divF_enc (fun _ => self_enc hf.1) (fun _ => self_enc hf.2) h).1
end Go.Proofs.YtbflmeomkfjikaaGreat.A.E



set_option linter.unusedVariables false
set_option linter.unusedSimpArgs false
set_option maxRecDepth 100000
namespace Go.Proofs.YtbflmeomkfjikaaGreat.A.E
open Go Go.RowKit Go.Shelf

/-! ### The function TriRoots -/
theorem clear_small {l : List Int} (h : small l) (n : Nat) : small (clearI l n) := by
  intro x hx
  rw [clearI, gridP_zero, List.mem_flatMap] at hx
  obtain ⟨i, _, hx⟩ := hx
  obtain ⟨k, _, rfl⟩ := List.mem_map.1 hx
  unfold clearH
  split
  · omega
  · exact small_get h _
theorem clear_low {l : List Int} (h : small l) {n : Nat} (hd : ∀ k, k < n → 1 ≤ (clearI l n).getD (k * n + k) 0) : LowTri n (clearH l n) where
  small := fun i k => by
    unfold clearH
    split
    · omega
    · exact small_get h _
  zero := fun i k h1 h2 => if_pos h1
  diag := fun k hk => by
    have := hd k hk
    rwa [clearI, grid_getD hk hk] at this
theorem clear_sq {l : List Int} {n i k : Nat} (hi : i < n) (hk : k < n) : (squareI (clearI l n) n).getD (i * n + k) 0 = sumZ n fun j => clearH l n i j * clearH l n k j := by
  rw [squareI_at hi hk, sumZ_list]
  exact sumZ_congr fun j hj => by rw [clearI, grid_getD hi hj, grid_getD hk hj]
theorem clear_len (l : List Int) (n : Nat) : (clearI l n).length = n * n := by rw [clearI, gridP_length, Nat.add_zero]
theorem rootS_snd {n : Nat} {p : List Fr} {i k : Nat} (hi : i < n) (hk : k < n) : SndE (rootS n p n i k) := by
  rcases Nat.lt_trichotomy i k with h1 | h1 | h1
  · rw [root_up h1 hk]; exact fun _ => point0_fine
  · subst h1; rw [root_diag hi]; exact root_snd _
  · rw [root_low h1 hi]; exact divF_snd _ _
set_option maxHeartbeats 4000000 in
theorem ok3 (e : Bool) (l : List Int) (n : Int) : Ok Tryz.prog 3 [.sl e (l.map num), num n] (tru true) := by
  refine ok_fn mixed Tryz.func3 (code := ?_) (h := h3) ?_ k3 ?_
  rotate_left
  · exact rfl
  unfold h3 initS
  simp -implicitDefEqProofs (maxSteps := 10000000) only [rkA, rkB, stepA, valA, simprocAttr, Tryz.ntmps3, Tryz.results3]
  have out : True := trivial
  by_cases hn : 1 ≤ n ∧ n ≤ 5
  · have h1 : ¬ n < 1 := by omega
    have h2 : ¬ n > 5 := by omega
    simp -implicitDefEqProofs (maxSteps := 10000000) only [h1, h2, rkA, rkB, stepA, valA, simprocAttr]
    refine call_fn rfl rfl rfl (ok16 e l n) ?_
    cases hq : (decide (1 ≤ n ∧ n ≤ 5 ∧ (l.length : Int) = n * n) && fewB l) with
    | false =>
      simp -implicitDefEqProofs (maxSteps := 10000000) only [rkA, rkB, stepA, valA, simprocAttr]
      refine call_fn rfl rfl rfl (ok17) ?_
      simp -implicitDefEqProofs (maxSteps := 10000000) only [rkA, rkB, stepA, valA, simprocAttr]
    | true =>
      obtain ⟨h3, h4⟩ := Bool.and_eq_true_iff.1 hq
      obtain ⟨N, rfl, n1, n5, hl⟩ := five (of_decide_eq_true h3)
      have hs : small l := (of_decide_eq_true h4).2
      clear hq h3 h4
      simp -implicitDefEqProofs (maxSteps := 10000000) only [rkA, rkB, stepA, valA, simprocAttr]
      refine call_fn rfl rfl rfl (ok18 e l N (by omega) hl) ?_
      simp -implicitDefEqProofs (maxSteps := 10000000) only [rkA, rkB, stepA, valA, simprocAttr]
      have lC := clear_len l N
      have sC := clear_small hs N
      refine wp_loop (fun m s => ∃ k : Nat, k + m = N ∧ (∀ j, j < k → 1 ≤ (clearI l N).getD (j * N + j) 0) ∧ s = ⟨[jk, .v (num N), jk, jk, jk, .v (.sl false ((clearI l N).map num)), jk, jk, jk, jk, jk, jk, jk, jk, jk, jk, jk, jk, jk, jk, jk, jk, jk, jk, jk, jk, jk, jk, jk, jk, jk, jk, jk, .v (num N), nt k, jk, jk, jk, jk, jk, jk, jk, jk, jk, jk, jk, jk, jk, jk, jk, jk, jk, jk, jk, jk, jk, jk, jk, jk, jk, jk, jk, jk, jk, jk, jk, jk, jk, jk, jk, jk, jk, jk, jk, jk, jk, jk, jk, jk, jk, jk, jk, jk, jk, jk, jk, jk, jk, jk, jk, jk, jk, jk, jk, jk, jk, jk, jk, jk, jk, jk, jk, jk, jk, jk, jk, jk, jk, jk, jk, jk, jk, jk, jk, jk, jk, jk, jk, jk, jk, jk, jk, jk, jk, jk, jk, jk, jk, jk], [], [], [], [], 0, nomem⟩) N ?_ ?_
      · simp -implicitDefEqProofs (maxSteps := 10000000) only [rkA, rkB, stepA, valA, simprocAttr]
        exact ⟨0, by simp, fun j h => by omega, rfl⟩
      rintro m s ⟨k, hk, hd, rfl⟩
      simp -implicitDefEqProofs (maxSteps := 10000000) only [rkA, rkB, stepA, valA, simprocAttr]
      refine gB_dec ?_ ?_ <;> intro hc <;> simp -implicitDefEqProofs (maxSteps := 10000000) only [hc, rkA, rkB, stepA, valA, simprocAttr]
      · have t := at_table (i := k) (j := k) (n := N) (m := N) (by omega) (by omega)
        have hNN : N * N ≤ 5 * 5 := Nat.mul_le_mul n5 n5
        have c1 : (k : Int) * (N : Int) = ((k * N : Nat) : Int) := by simp
        have c3 : ((k * N : Nat) : Int) + (k : Int) = ((k * N + k : Nat) : Int) := by simp
        have w1 := wrapped (x := ((k * N : Nat) : Int)) (by omega) (by omega)
        have w3 := wrapped (x := ((k * N + k : Nat) : Int)) (by omega) (by omega)
        have w4 := wrapped (x := (k : Int) + 1) (by omega) (by omega)
        have g1 := at_num (a := clearI l N) (i := k * N + k) (by omega)
        have n1 : (0 : Int) ≤ ((k * N + k : Nat) : Int) := by omega
        simp -implicitDefEqProofs (maxSteps := 10000000) only [c1, w1, c3, w3, n1, Int.toNat_natCast, g1, rkA, rkB, stepA, valA, simprocAttr]
        refine gB_dec ?_ ?_ <;> intro hlt <;> simp -implicitDefEqProofs (maxSteps := 10000000) only [hlt, rkA, rkB, stepA, valA, simprocAttr]
        · refine call_fn rfl rfl rfl (ok17) ?_
          simp -implicitDefEqProofs (maxSteps := 10000000) only [rkA, rkB, stepA, valA, simprocAttr]
        · simp -implicitDefEqProofs (maxSteps := 10000000) only [w4, rkA, rkB, stepA, valA, simprocAttr]
          refine loopK_of (m' := m - 1) (by omega) ?_
          simp -implicitDefEqProofs (maxSteps := 10000000) only [rkA, rkB, stepA, valA, simprocAttr]
          refine ⟨k + 1, by omega, fun j hj => ?_, by simp only [Int.natCast_add, Int.natCast_one]⟩
          by_cases e : j = k
          · subst e; omega
          · exact hd j (by omega)
      · have hkN : k = N := by omega
        subst hkN
        have hL := clear_low hs hd
        have sq := @clear_sq l k
        have lq : (squareI (clearI l k) k).length = k * k := squareI_len _ _
        have hNN : k * k ≤ 5 * 5 := Nat.mul_le_mul n5 n5
        have hn' : 1 ≤ k ∧ k ≤ 16 := by omega
        refine call_fn rfl rfl rfl (ok20 false (clearI l k) k (by omega) lC sC) ?_
        simp -implicitDefEqProofs (maxSteps := 10000000) only [rkA, rkB, stepA, valA, simprocAttr]
        have h12 := A.ok19 k k false (squareI (clearI l k) k) (by omega)
        rw [if_pos (right_nat hn' hn' lq)] at h12
        refine call_fn rfl rfl rfl (h12) ?_
        simp -implicitDefEqProofs (maxSteps := 10000000) only [rkA, rkB, stepA, valA, simprocAttr]
        refine call_fn rfl rfl rfl (A.ok21 k hn' false _ (by rw [List.length_map, lq])) ?_
        simp -implicitDefEqProofs (maxSteps := 10000000) only [rkA, rkB, stepA, valA, simprocAttr]
        refine call_fn rfl rfl rfl (ok20 false (clearI l k) k (by omega) lC sC) ?_
        simp -implicitDefEqProofs (maxSteps := 10000000) only [rkA, rkB, stepA, valA, simprocAttr]
        have h29 := ok22 k k false (squareI (clearI l k) k) (by omega)
        rw [if_pos (right_nat hn' hn' lq)] at h29
        refine call_fn rfl rfl rfl (h29) ?_
        simp -implicitDefEqProofs (maxSteps := 10000000) only [rkA, rkB, stepA, valA, simprocAttr]
        refine call_fn rfl rfl rfl (ok23 k hn' false _ (by rw [List.length_map, lq])) ?_
        have hex : A.rootMat k ((squareI (clearI l k) k).map (A.newF · 1)) = (clearI l k).map (A.newF · 1) := by
          unfold A.rootMat
          conv => rhs; rw [clearI, A.gridP_map]
          refine gridP_congr fun i j hi hj => ?_
          refine LowTri.root hn' hL (fun i j hi hj => ?_) j i hj hi
          rw [A.atF_whole hn' lq hi hj, ← sq hi hj]
        have hen : ∀ i j, i < k → j < k → Rq (rootS k ((squareI (clearI l k) k).map (newF · 1)) k i j) (clearH l k i j : Rat) := fun i j hi hj => by
          refine low_root hn' hL (fun i j hi hj => ?_) j i hj hi
          have hb := at_table (i := i) (j := j) (n := k) (m := k) hi hj
          rw [atF_eq (right_sq hn' (by rw [List.length_map, lq])) (by simpa using hi) (by simpa using hj), Int.toNat_natCast, getD_newF (by omega), sq hi hj]
        have lE : (rootMat k ((squareI (clearI l k) k).map (newF · 1))).length = k * k := by rw [rootMat, gridP_length, Nat.add_zero]
        have lE' : (frs (rootMat k ((squareI (clearI l k) k).map (newF · 1)))).length = k * k := by rw [List.length_map, lE]
        have hfit : ∀ j (hj : j < (rootMat k ((squareI (clearI l k) k).map (newF · 1))).length), (rootMat k ((squareI (clearI l k) k).map (newF · 1)))[j].bad = false → enclB (rootMat k ((squareI (clearI l k) k).map (newF · 1)))[j] ((clearI l k).getD j 0) 1 = true := fun j hj hb => by
          have hj' : j < k * k := by omega
          have hq : j / k < k := Nat.div_lt_of_lt_mul hj'
          have hr : j % k < k := Nat.mod_lt _ (by omega)
          have ej : j / k * k + j % k = j := by rw [Nat.mul_comm]; exact Nat.div_add_mod j k
          have eE : (rootMat k ((squareI (clearI l k) k).map (newF · 1)))[j] = rootS k ((squareI (clearI l k) k).map (newF · 1)) k (j / k) (j % k) := by
            have := grid_at (g := rootS k ((squareI (clearI l k) k).map (newF · 1)) k) hq hr
            rw [ej, List.getD_eq_getElem?_getD] at this
            rw [← this]
            show _ = ((rootMat k ((squareI (clearI l k) k).map (newF · 1)))[j]?).getD dz
            rw [List.getElem?_eq_getElem hj, Option.getD_some]
          have eC : (clearI l k).getD j 0 = clearH l k (j / k) (j % k) := by
            have := grid_getD (g := clearH l k) hq hr
            rw [ej] at this
            exact this
          rw [eE] at hb ⊢
          rw [eC]
          have hsm := hL.small (j / k) (j % k)
          exact encl_int (hen _ _ hq hr (rootS_snd hq hr hb)) (by omega)
        rw [hex]
        generalize rootMat k ((squareI (clearI l k) k).map (newF · 1)) = E at *
        have cN : (k : Int) * (k : Int) = ((k * k : Nat) : Int) := by simp
        have wN := wrapped (x := ((k * k : Nat) : Int)) (by omega) (by omega)
        simp -implicitDefEqProofs (maxSteps := 10000000) only [lE', cN, wN, bne_self_eq_false, rkA, rkB, stepA, valA, simprocAttr]
        refine call_fn rfl rfl rfl (A.ok24 false false k k _ (clearI l k) (by omega) rfl) ?_
        simp -implicitDefEqProofs (maxSteps := 10000000) only [lE', rkA, rkB, stepA, valA, simprocAttr]
        refine wp_loop (fun m s => ∃ j : Nat, j + m = k * k ∧ s = ⟨[jk, jk, jk, jk, jk, .v (.sl false ((clearI l k).map num)), jk, jk, jk, jk, jk, jk, jk, jk, jk, jk, jk, jk, jk, jk, jk, jk, jk, jk, jk, jk, jk, jk, jk, jk, jk, jk, jk, jk, jk, jk, jk, jk, jk, jk, jk, jk, jk, jk, jk, jk, jk, jk, jk, jk, jk, jk, jk, jk, jk, jk, jk, jk, jk, jk, jk, jk, jk, jk, jk, jk, jk, jk, jk, jk, jk, jk, jk, jk, jk, jk, jk, jk, jk, jk, jk, jk, jk, jk, jk, jk, jk, jk, jk, jk, jk, jk, jk, jk, jk, jk, jk, jk, jk, jk, jk, jk, jk, jk, jk, jk, jk, jk, .v (.sl false (frs E)), nt ((k * k : Nat) : Int), nt j, jk, jk, jk, jk, jk, jk, jk, jk, jk, jk, jk, jk, jk, jk, jk, jk, jk, jk],
          [(7, [.v (num k), .v (num k), .v (.sl false (A.frs ((squareI (clearI l k) k).map (A.newF · 1))))]), (9, [.v (num k), .v (num k), .v (.sl false (A.frs ((clearI l k).map (A.newF · 1))))]), (11, [.v (num k), .v (num k), .v (.sl false (frs ((squareI (clearI l k) k).map (newF · 1))))]), (13, [.v (num k), .v (num k), .v (.sl false (frs E))])], [], [(3007, 0), (3009, 0), (3011, 0), (3013, 0)], [], 0, nomem⟩) (k * k) ?_ ?_
        · simp -implicitDefEqProofs (maxSteps := 10000000) only [rkA, rkB, stepA, valA, simprocAttr]
          exact ⟨0, by simp, rfl⟩
        rintro m s ⟨j, hj, rfl⟩
        simp -implicitDefEqProofs (maxSteps := 10000000) only [rkA, rkB, stepA, valA, simprocAttr]
        refine gB_dec ?_ ?_ <;> intro hc <;> simp -implicitDefEqProofs (maxSteps := 10000000) only [hc, rkA, rkB, stepA, valA, simprocAttr]
        · have hlt : j < k * k := by omega
          have hltE : j < E.length := by omega
          have h0 : (0 : Int) ≤ (j : Int) := by omega
          have gE : (frs E)[j]? = some (frV E[j]) := by simp [hltE]
          have gC := at_num (a := clearI l k) (i := j) (by omega)
          have hw := wrapped (x := (j : Int) + 1) (by omega) (by omega)
          have hfj := hfit j hltE
          simp -implicitDefEqProofs (maxSteps := 10000000) only [h0, Int.toNat_natCast, gE, rkA, rkB, stepA, valA, simprocAttr]
          cases hb : E[j].bad with
          | true =>
            simp -implicitDefEqProofs (maxSteps := 10000000) only [hw, rkA, rkB, stepA, valA, simprocAttr]
            refine loopK_of (m' := m - 1) (by omega) ?_
            simp -implicitDefEqProofs (maxSteps := 10000000) only [rkA, rkB, stepA, valA, simprocAttr]
            exact ⟨j + 1, by omega, by simp only [Int.natCast_add, Int.natCast_one]⟩
          | false =>
            simp -implicitDefEqProofs (maxSteps := 10000000) only [h0, Int.toNat_natCast, gC, rkA, rkB, stepA, valA, simprocAttr]
            have h31 := ok25 E[j] ((clearI l k).getD j 0) 1
            rw [hfj hb] at h31
            simp only [frV, hb] at h31
            refine call_fn rfl rfl rfl (h31) ?_
            simp -implicitDefEqProofs (maxSteps := 10000000) only [hw, rkA, rkB, stepA, valA, simprocAttr]
            refine loopK_of (m' := m - 1) (by omega) ?_
            simp -implicitDefEqProofs (maxSteps := 10000000) only [rkA, rkB, stepA, valA, simprocAttr]
            exact ⟨j + 1, by omega, by simp only [Int.natCast_add, Int.natCast_one]⟩
        · refine call_fn rfl rfl rfl (ok17) ?_
          simp -implicitDefEqProofs (maxSteps := 10000000) only [rkA, rkB, stepA, valA, simprocAttr]
  · repeat' (refine gB_dec ?_ ?_ <;> intro hc <;> first | (exfalso; omega) | simp -implicitDefEqProofs (maxSteps := 10000000) only [hc, rkA, rkB, stepA, valA, simprocAttr])
    all_goals (refine call_fn rfl rfl rfl (ok17) ?_; simp -implicitDefEqProofs (maxSteps := 10000000) only [rkA, rkB, stepA, valA, simprocAttr])
end Go.Proofs.YtbflmeomkfjikaaGreat.A.E


