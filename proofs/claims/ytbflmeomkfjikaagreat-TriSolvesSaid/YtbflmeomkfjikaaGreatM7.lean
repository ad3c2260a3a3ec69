import Derived.Test.YtbflmeomkfjikaaGreatM6
set_option linter.unusedVariables false
set_option linter.unusedSimpArgs false
set_option maxRecDepth 100000
namespace Go.Proofs.YtbflmeomkfjikaaGreat.A
open Go Go.RowKit Go.Shelf

/-! ### Squares in memory, row by row -/
def rowM (n : Nat) (M : Nat → Nat → Fr) (i : Nat) : List Fr := (List.range n).map (M i)
def setM (M : Nat → Nat → Fr) (i k : Nat) (x : Fr) : Nat → Nat → Fr := fun a b => if a = i ∧ b = k then x else M a b
theorem rowM_length (n : Nat) (M : Nat → Nat → Fr) (i : Nat) : (rowM n M i).length = n := by simp [rowM]
theorem rowM_get {n : Nat} {M : Nat → Nat → Fr} {i k : Nat} (h : k < n) : (rowM n M i)[k]? = some (M i k) := by simp [rowM, h]
theorem rowM_set {n : Nat} {M : Nat → Nat → Fr} {i k : Nat} {x : Fr} (h : k < n) : (rowM n M i).set k x = rowM n (setM M i k x) i := by
  apply List.ext_getElem?
  intro j
  rw [List.getElem?_set]
  by_cases hj : j < n
  · by_cases e : k = j
    · subst e
      rw [if_pos rfl, if_pos (by rw [rowM_length]; exact h), rowM_get h]
      simp [setM]
    · rw [if_neg e, rowM_get hj, rowM_get hj]
      have : ¬ (j = k) := fun h => e h.symm
      simp [setM, this]
  · rw [if_neg (by omega), List.getElem?_eq_none (by rw [rowM_length]; omega), List.getElem?_eq_none (by rw [rowM_length]; omega)]
theorem rowM_other {n : Nat} {M : Nat → Nat → Fr} {i j k : Nat} {x : Fr} (h : j ≠ i) : rowM n (setM M i k x) j = rowM n M j := by
  simp [rowM, setM, h]

abbrev rawRow (c n : Nat) : PV := .s (.slice (some ⟨c, 0, none⟩) n n)
abbrev nilRow : PV := .s (.slice none 0 0)
/-- The rows' row: b of n are there. -/
def headR (n b : Nat) (c : Nat → Nat) : List PV := (List.range n).map fun j => if j < b then rawRow (c j) n else nilRow
theorem headR_length (n b : Nat) (c : Nat → Nat) : (headR n b c).length = n := by simp [headR]
theorem headR_get {n b : Nat} {c : Nat → Nat} {i : Nat} (h : i < n) (hb : i < b) : (headR n b c)[i]? = some (rawRow (c i) n) := by simp [headR, h, hb]

structure RowsIn (m : Mem) (R : Nat) (c : Nat → Nat) (n b : Nat) (M : Nat → Nat → Fr) : Prop where
  head : m R = some (headR n b c)
  row : ∀ i, i < b → m (c i) = some (flat (frs (rowM n M i)))
  ne : ∀ i, i < b → c i ≠ R
  inj : ∀ i j, i < b → j < b → c i = c j → i = j

theorem ldM_fr {l : List Fr} {k : Nat} {x : Fr} (h : l[k]? = some x) : ldM true 3 (k * 3) (flat (frs l)) = some (.v (frV x)) := by
  have := ldM_elem (els := frs l) (sz := 3) (k := k) (e := frV x) (frs_cells l) (by simp [h]) []
  rwa [List.append_nil] at this
theorem stM_fr {l : List Fr} {k : Nat} {x : Fr} (h : k < l.length) : stM 3 (k * 3) (flat (frs l)) (frV x) = some (flat (frs (l.set k x))) := by
  have := stM_elem (els := frs l) (sz := 3) (k := k) (e := frV x) (frs_cells l) (by simpa using h) rfl rfl []
  rw [List.append_nil, List.append_nil] at this
  rw [this]
  simp [frs, List.map_set]

theorem RowsIn.store {m : Mem} {R : Nat} {c : Nat → Nat} {n b : Nat} {M : Nat → Nat → Fr} (h : RowsIn m R c n b M) {i k : Nat} (hi : i < b) (hk : k < n) (x : Fr) :
    RowsIn (m.put (c i) (flat (frs ((rowM n M i).set k x)))) R c n b (setM M i k x) where
  head := by rw [Mem.put_other _ _ (fun e => h.ne i hi e.symm)]; exact h.head
  row := fun j hj => by
    by_cases e : j = i
    · subst e
      rw [Mem.put_same, rowM_set hk]
    · rw [Mem.put_other _ _ (fun e' => e (h.inj j i hj hi e')), rowM_other e]
      exact h.row j hj
  ne := h.ne
  inj := h.inj

theorem tells_map {α : Type} {m : Mem} {f g : α → PV} : ∀ {l : List α}, (∀ x ∈ l, Tell m (f x) (g x)) → Tells m (l.map f) (l.map g)
  | [], _ => .nil
  | x :: l, h => .cons (h x (by simp)) (tells_map fun y hy => h y (by simp [hy]))

/-- The rows, as values. -/
abbrev rowsV (n : Nat) (M : Nat → Nat → Fr) : PV := .sl true ((List.range n).map fun i => .sl false (frs (rowM n M i)))
theorem flat_one {l : List PV} (h : ∀ x ∈ l, x.cells = [x]) : flat l = l := by
  induction l with
  | nil => rfl
  | cons x l ih =>
    have e1 := h x (by simp)
    have e2 := ih fun y hy => h y (by simp [hy])
    simp only [flat, List.flatMap_cons, e1] at e2 ⊢
    rw [e2]
    rfl
theorem RowsIn.tell {m : Mem} {R : Nat} {c : Nat → Nat} {n : Nat} {M : Nat → Nat → Fr} (h : RowsIn m R c n n M) : Tell m (rawRow R n) (rowsV n M) := by
  have hf : flat ((List.range n).map fun i => PV.sl false (frs (rowM n M i))) = (List.range n).map fun i => PV.sl false (frs (rowM n M i)) := flat_one fun x hx => by
    obtain ⟨i, _, rfl⟩ := List.mem_map.1 hx
    rfl
  refine .row (sz := 1) h.head (fun x hx => ?_) (by simp) (by rw [hf, headR_length]; simp) (Nat.le_refl _) (fun _ => rfl) ?_
  · obtain ⟨i, _, rfl⟩ := List.mem_map.1 hx
    rfl
  · rw [hf, List.drop_zero, List.take_of_length_le (by rw [headR_length]; simp)]
    refine tells_map fun i hi => ?_
    have hi' := List.mem_range.1 hi
    rw [if_pos hi']
    have e := h.row i hi'
    rw [← List.append_nil (flat _)] at e
    have := tell_row (m := m) (b := c i) (cap := n) (q := 0) (l := rowM n M i) e (by simp [rowM_length])
    simpa [rowM_length] using this

/-! ### The root of a square -/
theorem slice_to {l : List Fr} {ex : Bool} {k : Nat} (h : k ≤ l.length) : sliceA 3 (frs l) ex none (some k) none = some (.sl (exA none ex k (frs l).length) (frs (l.take k))) := by
  unfold sliceA
  have hc : ((frs l).all fun e => e.cells.length == 3) = true := by simp [PV.cells]
  simp only [Option.getD_some, Option.getD_none]
  rw [if_pos ⟨by omega, by simpa using h, by simp, hc⟩]
  simp [List.map_take]

def leftM (n : Nat) (p : List Fr) (M : Nat → Nat → Fr) (i k : Nat) : Fr := subF (atF n n p i k) (dotF ((rowM n M i).take k) ((rowM n M k).take k))

theorem ok74 (e : Bool) (n : Nat) (hn : n ≤ 16) (p : List Fr) (M : Nat → Nat → Fr) (i k : Nat) (hi : i < n) (hk : k < n) :
    Ok Tryz.prog 74 [num i, num k, .vp [num n, num n, .sl e (frs p)], .vp [rowsV n M]] (frV (leftM n p M i k)) := by
  have h0 : (0 : Int) ≤ (i : Int) := by omega
  have h0' : (0 : Int) ≤ (k : Int) := by omega
  have g1 : ((List.range n).map fun i => PV.sl false (frs (rowM n M i)))[i]? = some (.sl false (frs (rowM n M i))) := by simp [hi]
  have g2 : ((List.range n).map fun i => PV.sl false (frs (rowM n M i)))[k]? = some (.sl false (frs (rowM n M k))) := by simp [hk]
  have s1 := slice_to (l := rowM n M i) (ex := false) (k := k) (by rw [rowM_length]; omega)
  have s2 := slice_to (l := rowM n M k) (ex := false) (k := k) (by rw [rowM_length]; omega)
  refine ok_fn mixed Tryz.func74 (code := ?_) (h := h74) ?_ k74 ?_
  rotate_left
  · exact rfl
  unfold h74 initS
  simp -implicitDefEqProofs only [rkA, rkB, stepA, valA, simprocAttr, Tryz.ntmps74, Tryz.results74]
  refine call_fn rfl rfl rfl (ok75 e n n i k p) ?_
  simp -implicitDefEqProofs only [h0, h0', Int.toNat_natCast, g1, g2, s1, s2, rkA, rkB, stepA, valA, simprocAttr]
  refine call_fn rfl rfl rfl (ok76 _ _ ((rowM n M i).take k) ((rowM n M k).take k) (by simp [rowM_length]; omega) (by simp [rowM_length]; omega)) ?_
  simp -implicitDefEqProofs only [rkA, rkB, stepA, valA, simprocAttr]
  refine call_meth rfl rfl methSub (ok218 _ _) ?_
  simp -implicitDefEqProofs only [leftM, rkA, rkB, stepA, valA, simprocAttr]

theorem ok78 (n : Nat) (M : Nat → Nat → Fr) (i k : Nat) (hi : i < n) (hk : k < n) :
    Ok Tryz.prog 78 [num i, num k, .vp [rowsV n M]] (frV (M i k)) := by
  have h0 : (0 : Int) ≤ (i : Int) := by omega
  have h0' : (0 : Int) ≤ (k : Int) := by omega
  have g1 : ((List.range n).map fun i => PV.sl false (frs (rowM n M i)))[i]? = some (.sl false (frs (rowM n M i))) := by simp [hi]
  have g2 : (frs (rowM n M i))[k]? = some (frV (M i k)) := by simp [rowM, hk]
  refine ok_fn mixed Tryz.func78 (code := ?_) (h := h78) ?_ k78 ?_
  rotate_left
  · exact rfl
  unfold h78 initS
  simp -implicitDefEqProofs only [rkA, rkB, stepA, valA, simprocAttr, Tryz.ntmps78, Tryz.results78]
  simp -implicitDefEqProofs only [h0, h0', Int.toNat_natCast, g1, g2, rkA, rkB, stepA, valA, simprocAttr]

theorem methRoot : Meth Tryz.prog 32 "Root" 216 := by
  intro v xs w
  rfl

def stepD (n : Nat) (p : List Fr) (M : Nat → Nat → Fr) (k : Nat) : Nat → Nat → Fr := setM M k k (rootF (leftM n p M k k))
/-- One column: k + 1 rows below its diagonal are done for every one counted. -/
def colS (n : Nat) (p : List Fr) (k : Nat) (M : Nat → Nat → Fr) : Nat → Nat → Nat → Fr
  | 0 => stepD n p M k
  | j + 1 => setM (colS n p k M j) (k + 1 + j) k (divF (leftM n p (colS n p k M j) (k + 1 + j) k) (colS n p k M j k k))
def rootS (n : Nat) (p : List Fr) : Nat → Nat → Nat → Fr
  | 0 => fun _ _ => newF 0 1
  | k + 1 => colS n p k (rootS n p k) (n - (k + 1))
def rootMat (n : Nat) (p : List Fr) : List Fr := gridP (rootS n p n) n n 0
/-- While the rows are made: noughts so far, zero values behind. -/
def zeroM (i k : Nat) : Nat → Nat → Fr := fun a b => if a < i ∨ a = i ∧ b < k then newF 0 1 else ⟨0, 0, false⟩

abbrev bxR (e : Bool) (n : Nat) (p : List Fr) (R : Nat) : List (Nat × List TV) := [(1, [nt n, nt n, .v (.sl e (frs p))]), (2, [nt 0, nt 0, .acc 3002 []]), (4, [nt 0, nt 0, .v (tru false)]), (5, [.v (rawRow R n)])]

abbrev leftV (e : Bool) (n : Nat) (p : List Fr) (R : Nat) : PV := .fn (.func 74) [.vp [num n, num n, .sl e (frs p)], .vp [rawRow R n]]
theorem leftT {m : Mem} {R : Nat} {c : Nat → Nat} {n : Nat} {M : Nat → Nat → Fr} {e : Bool} {p : List Fr} {i k : Nat} (h : RowsIn m R c n n M) :
    Tells m ([num i, num k] ++ [.vp [num n, num n, .sl e (frs p)], .vp [rawRow R n]]) [num i, num k, .vp [num n, num n, .sl e (frs p)], .vp [rowsV n M]] :=
  .cons (.same _) (.cons (.same _) (.cons (.same _) (.cons (.vpIn (.cons h.tell .nil)) .nil)))

theorem RowsIn.head0 {m : Mem} {R n : Nat} {c : Nat → Nat} {M : Nat → Nat → Fr} : RowsIn (m.put R (List.replicate n [PV.s (.slice none 0 0)]).flatten) R c n 0 M where
  head := by
    rw [Mem.put_same]
    congr 1
    apply List.ext_getElem?
    intro j
    have : (List.replicate n [PV.s (.slice none 0 0)]).flatten = List.replicate n nilRow := by
      induction n with
      | zero => rfl
      | succ n ih => rw [List.replicate_succ, List.replicate_succ, List.flatten_cons, ih]; rfl
    rw [this]
    by_cases h : j < n
    · simp [headR, h]
    · rw [List.getElem?_eq_none (by simp; omega), List.getElem?_eq_none (by simp [headR]; omega)]
  row := fun i h => by omega
  ne := fun i h => by omega
  inj := fun i j h => by omega

theorem flat_zeros : ∀ (n : Nat), (List.replicate n [num 0, num 0, tru false]).flatten = flat (frs (List.replicate n (⟨0, 0, false⟩ : Fr)))
  | 0 => rfl
  | n + 1 => by
    rw [List.replicate_succ, List.flatten_cons, flat_zeros n]
    rfl
theorem zero_row (n i : Nat) : rowM n (zeroM i 0) i = List.replicate n ⟨0, 0, false⟩ := by
  apply List.ext_getElem?
  intro j
  by_cases h : j < n
  · rw [rowM_get h]; simp [zeroM, h]
  · rw [List.getElem?_eq_none (by rw [rowM_length]; omega), List.getElem?_eq_none (by simp; omega)]
theorem headR_set {n i b : Nat} {c : Nat → Nat} (h : i < n) : (headR n i c).set i (rawRow b n) = headR n (i + 1) (fun j => if j = i then b else c j) := by
  apply List.ext_getElem?
  intro j
  rw [List.getElem?_set]
  by_cases hj : j < n
  · by_cases e : i = j
    · subst e
      simp [headR, h]
    · rw [if_neg e]
      have e1 : ¬ j = i := fun h => e h.symm
      have e2 : (j < i + 1) = (j < i) := by apply propext; omega
      simp [headR, hj, e1, e2]
  · rw [if_neg (by omega), List.getElem?_eq_none (by rw [headR_length]; omega), List.getElem?_eq_none (by rw [headR_length]; omega)]
theorem RowsIn.grow {m : Mem} {R : Nat} {c : Nat → Nat} {n i b : Nat} (h : RowsIn m R c n i (zeroM i 0)) (hi : i < n) (hb : m b = none) :
    RowsIn ((m.put b (flat (frs (List.replicate n (⟨0, 0, false⟩ : Fr))))).put R (headR n (i + 1) (fun j => if j = i then b else c j))) R (fun j => if j = i then b else c j) n (i + 1) (zeroM i 0) := by
  have hRb : R ≠ b := fun e => by have := h.head; rw [e, hb] at this; cases this
  have hcb : ∀ j, j < i → c j ≠ b := fun j hj e => by have := h.row j hj; rw [e, hb] at this; cases this
  refine ⟨Mem.put_same _ _ _, fun j hj => ?_, fun j hj => ?_, fun j k hj hk => ?_⟩
  · by_cases e : j = i
    · subst e
      rw [if_pos rfl, Mem.put_other _ _ (fun e => hRb e.symm), Mem.put_same, zero_row]
    · rw [if_neg e, Mem.put_other _ _ (h.ne j (by omega)), Mem.put_other _ _ (hcb j (by omega))]
      exact h.row j (by omega)
  · by_cases e : j = i
    · rw [if_pos e]; exact fun e => hRb e.symm
    · rw [if_neg e]; exact h.ne j (by omega)
  · by_cases e : j = i <;> by_cases e' : k = i
    · intro _; omega
    · rw [if_pos e, if_neg e']
      exact fun h1 => absurd h1.symm (hcb k (by omega))
    · rw [if_neg e, if_pos e']
      exact fun h1 => absurd h1 (hcb j (by omega))
    · rw [if_neg e, if_neg e']
      exact h.inj j k (by omega) (by omega)
theorem zeroM_step (i k : Nat) : setM (zeroM i k) i k (newF 0 1) = zeroM i (k + 1) := by
  funext a b
  unfold setM zeroM
  by_cases h1 : a = i ∧ b = k
  · rw [if_pos h1, if_pos (.inr ⟨h1.1, by omega⟩)]
  · rw [if_neg h1]
    by_cases h2 : a < i ∨ a = i ∧ b < k
    · rw [if_pos h2, if_pos (by omega)]
    · rw [if_neg h2, if_neg (by omega)]
theorem RowsIn.congr {m : Mem} {R : Nat} {c : Nat → Nat} {n b : Nat} {M N : Nat → Nat → Fr} (h : RowsIn m R c n b M) (hMN : ∀ i k, i < b → k < n → M i k = N i k) : RowsIn m R c n b N :=
  ⟨h.head, fun i hi => by
    have e : rowM n N i = rowM n M i := by
      unfold rowM
      exact List.map_congr_left fun k hk => (hMN i k hi (List.mem_range.1 hk)).symm
    rw [e]
    exact h.row i hi, h.ne, h.inj⟩

theorem ok21 (n : Nat) (hn : 1 ≤ n ∧ n ≤ 16) (e : Bool) (p : List Fr) (hp : p.length = n * n) : Ok Tryz.prog 21 [matV e n n (frs p)] (.tup [matV false n n (frs (rootMat n p)), tru true]) := by
  have hr : right (n : Int) (n : Int) p.length = true := by
    simp only [right, Bool.and_eq_true, decide_eq_true_eq, beq_iff_eq]
    exact ⟨⟨by omega, by omega⟩, ⟨by omega, by omega⟩, by rw [hp, Int.natCast_mul]⟩
  have hsq : (right (n : Int) (n : Int) p.length && ((n : Int) == n)) = true := by rw [hr]; simp
  refine okt_fn mixed Tryz.func21 (code := ?_) (h := h21) ?_ k21 ?_
  rotate_left
  · exact rfl
  unfold h21 initS
  simp -implicitDefEqProofs only [rkA, rkB, stepA, valA, simprocAttr, Tryz.ntmps21, Tryz.results21]
  have h904 := ok73 e n n p
  rw [hsq] at h904
  refine call_fn rfl rfl rfl (h904) ?_
  simp -implicitDefEqProofs only [rkA, rkB, stepA, valA, simprocAttr]
  refine new_make (T := 24) (N := 1) rfl rfl rfl rfl rfl (by omega) (by omega) (by omega) ?_
  intro R hR
  simp -implicitDefEqProofs only [Int.toNat_natCast, rkA, rkB, stepA, valA, simprocAttr]
  refine wp_loop (fun m s => ∃ (i : Nat) (mm : Mem) (c : Nat → Nat), i + m = n ∧ RowsIn mm R c n i (zeroM i 0) ∧ s = ⟨[jk, .ptr 1 0, .ptr 2 0, jk, .ptr 4 0, .ptr 5 0, jk, jk, jk, jk, jk, jk, jk, jk, jk, jk, jk, jk, jk, nt n, nt i, jk, jk, jk, jk, jk, jk, jk, jk, jk, jk, jk, jk, jk, jk, jk, jk, jk, jk, jk, jk, jk, jk, jk, jk, jk, jk, jk, jk, jk, jk, jk, jk, jk, jk, jk, jk, jk, jk, jk, jk, jk, jk, jk, jk, jk, jk, jk, jk, jk, jk, jk, jk, jk, jk, jk, jk, jk, jk, jk, jk, jk, jk, jk, jk, jk, jk, jk, jk, jk, jk, jk, jk, jk, jk, jk, jk, jk, jk, jk], bxR e n p R, [], [(1005, 0), (3002, 0)], [], 0, mm⟩) n ?_ ?_
  · simp -implicitDefEqProofs only [rkA, rkB, stepA, valA, simprocAttr]
    exact ⟨0, _, fun _ => 0, by simp, RowsIn.head0, rfl⟩
  rintro m s ⟨i, mm, c, hi, hM, rfl⟩
  simp -implicitDefEqProofs only [rkA, rkB, stepA, valA, simprocAttr]
  refine gB_dec ?_ ?_ <;> intro hc <;> simp -implicitDefEqProofs only [hc, rkA, rkB, stepA, valA, simprocAttr]
  · refine new_make (T := 24) (N := 3) rfl rfl rfl rfl rfl (by omega) (by omega) (by omega) ?_
    intro b hb
    have hi' : i < n := by omega
    have h0 : (0 : Int) ≤ (i : Int) := by omega
    have hRb : R ≠ b := fun e => by have h1 := hM.head; have h2 : mm b = none := hb; rw [e, h2] at h1; cases h1
    have hRm := fun x => (Mem.put_other mm x hRb).trans hM.head
    have hst := stM_one (cells := headR n i c) (x := rawRow b n) (i := i) (by rw [headR_length]; exact hi') rfl rfl
    have hG := hM.grow hi' hb
    have hgt := headR_get (n := n) (b := i + 1) (c := fun j => if j = i then b else c j) (i := i) hi' (by omega)
    have hld := ldM_one hgt
    simp -implicitDefEqProofs only [h0, hc, Int.toNat_natCast, Nat.mul_one, hRm, hst, headR_set hi', hld, flat_zeros, rkA, rkB, stepA, valA, simprocAttr]
    clear hRm hst hb hRb hM
    generalize (mm.put b _).put R _ = mm2 at hG ⊢
    have hci : (fun j => if j = i then b else c j) i = b := if_pos rfl
    generalize (fun j => if j = i then b else c j) = c2 at hG hgt hld hci ⊢
    refine wp_loop (fun m s => ∃ (k : Nat) (mm : Mem), k + m = n ∧ RowsIn mm R c2 n (i + 1) (zeroM i k) ∧ s = ⟨[jk, .ptr 1 0, .ptr 2 0, jk, .ptr 4 0, .ptr 5 0, nt i, jk, jk, jk, jk, jk, jk, jk, jk, jk, jk, jk, jk, nt n, nt i, jk, jk, jk, jk, jk, jk, jk, jk, jk, jk, jk, jk, nt n, nt k, jk, jk, jk, jk, jk, jk, jk, jk, jk, jk, jk, jk, jk, jk, jk, jk, jk, jk, jk, jk, jk, jk, jk, jk, jk, jk, jk, jk, jk, jk, jk, jk, jk, jk, jk, jk, jk, jk, jk, jk, jk, jk, jk, jk, jk, jk, jk, jk, jk, jk, jk, jk, jk, jk, jk, jk, jk, jk, jk, jk, jk, jk, jk, jk, jk], bxR e n p R, [], [(1005, 0), (3002, 0)], [], 0, mm⟩) n ?_ ?_
    · simp -implicitDefEqProofs only [rkA, rkB, stepA, valA, simprocAttr]
      exact ⟨0, _, by simp, hG, rfl⟩
    clear hG mm2
    rintro m' s ⟨k, mm2, hk, hM, rfl⟩
    simp -implicitDefEqProofs only [rkA, rkB, stepA, valA, simprocAttr]
    refine gB_dec ?_ ?_ <;> intro hc2 <;> simp -implicitDefEqProofs only [hc2, rkA, rkB, stepA, valA, simprocAttr]
    · have hk' : k < n := by omega
      have h0k : (0 : Int) ≤ (k : Int) := by omega
      have hh := hM.head
      have hrow := hM.row i (by omega)
      have hsto := hM.store (i := i) (by omega) hk' (newF 0 1)
      rw [hci] at hrow hsto
      have hlr : (rowM n (zeroM i k) i).length = n := rowM_length _ _ _
      have hst := stM_fr (l := rowM n (zeroM i k) i) (k := k) (x := newF 0 1) (by rw [hlr]; exact hk')
      have hw := wrapped (x := (k : Int) + 1) (by omega) (by omega)
      simp -implicitDefEqProofs only [h0, h0k, hc, hc2, Int.toNat_natCast, Nat.mul_one, hh, hld, rkA, rkB, stepA, valA, simprocAttr]
      refine call_meth rfl rfl methOf (ok215 ⟨0, 0, false⟩ 0) ?_
      simp -implicitDefEqProofs only [h0k, hc2, Int.toNat_natCast, hrow, hst, hw, rkA, rkB, stepA, valA, simprocAttr]
      refine loopK_of (m' := m' - 1) (by omega) ?_
      simp -implicitDefEqProofs only [rkA, rkB, stepA, valA, simprocAttr]
      refine ⟨k + 1, _, by omega, ?_, by simp only [Int.natCast_add, Int.natCast_one]; rfl⟩
      rw [← zeroM_step]
      exact hsto
    · have hkn : k = n := by omega
      subst hkn
      have hw := wrapped (x := (i : Int) + 1) (by omega) (by omega)
      simp -implicitDefEqProofs only [hw, rkA, rkB, stepA, valA, simprocAttr]
      refine loopK_of (m' := m - 1) (by omega) ?_
      simp -implicitDefEqProofs only [rkA, rkB, stepA, valA, simprocAttr]
      refine ⟨i + 1, mm2, c2, by omega, hM.congr fun a b ha hb => ?_, by simp only [Int.natCast_add, Int.natCast_one]⟩
      unfold zeroM
      rw [if_pos (by omega), if_pos (by omega)]
  · have : i = n := by omega
    subst this
    have hM0 : RowsIn mm R c i i (rootS i p 0) := hM.congr fun a b ha hb => by
      unfold zeroM rootS
      rw [if_pos (by omega)]
    clear hM
    refine wp_loop (fun m s => ∃ (k : Nat) (mm : Mem), k + m = i ∧ RowsIn mm R c i i (rootS i p k) ∧ s = ⟨[jk, .ptr 1 0, .ptr 2 0, jk, jk, .ptr 5 0, jk, jk, .v (leftV e i p R), jk, jk, jk, jk, jk, jk, jk, jk, jk, jk, jk, jk, jk, jk, jk, jk, jk, jk, jk, jk, jk, jk, jk, jk, jk, jk, jk, jk, jk, jk, jk, jk, jk, jk, jk, jk, jk, jk, jk, jk, jk, nt i, nt k, jk, jk, jk, jk, jk, jk, jk, jk, jk, jk, jk, jk, jk, jk, jk, jk, jk, jk, jk, jk, jk, jk, jk, jk, jk, jk, jk, jk, jk, jk, jk, jk, jk, jk, jk, jk, jk, jk, jk, jk, jk, jk, jk, jk, jk, jk, jk, jk],
      [(2, [nt 0, nt 0, .acc 3002 []]), (4, [nt 0, nt 0, .v (tru false)])], [(1, [num i, num i, .sl e (frs p)]), (5, [rawRow R i])], [(1005, 0), (3002, 0)], [], 0, mm⟩) i ?_ ?_
    · simp -implicitDefEqProofs only [rkA, rkB, stepA, valA, simprocAttr]
      exact ⟨0, _, by simp, hM0, rfl⟩
    clear hM0 mm
    rintro m' s ⟨k, mm, hk, hM, rfl⟩
    simp -implicitDefEqProofs only [rkA, rkB, stepA, valA, simprocAttr]
    refine gB_dec ?_ ?_ <;> intro hc2 <;> simp -implicitDefEqProofs only [hc2, rkA, rkB, stepA, valA, simprocAttr]
    · have hk' : k < i := by omega
      have h0k : (0 : Int) ≤ (k : Int) := by omega
      have hh := hM.head
      have hld := ldM_one (headR_get (n := i) (b := i) (c := c) (i := k) hk' hk')
      simp -implicitDefEqProofs only [h0k, hc2, Int.toNat_natCast, Nat.mul_one, hh, hld, rkA, rkB, stepA, valA, simprocAttr]
      refine lend_fn rfl rfl (leftT (i := k) (k := k) hM) (ok74 e i (by omega) p _ k k hk' hk') rfl ?_
      simp -implicitDefEqProofs only [rkA, rkB, stepA, valA, simprocAttr]
      refine call_meth rfl rfl methRoot (ok216 _) ?_
      have hw := wrapped (x := (k : Int) + 1) (by omega) (by omega)
      have hrow := hM.row k hk'
      have hst := stM_fr (l := rowM i (rootS i p k) k) (k := k) (x := rootF (leftM i p (rootS i p k) k k)) (by rw [rowM_length]; exact hk')
      have hsto := hM.store (i := k) hk' hk' (rootF (leftM i p (rootS i p k) k k))
      simp -implicitDefEqProofs only [h0k, hc2, Int.toNat_natCast, hrow, hst, hw, rkA, rkB, stepA, valA, simprocAttr]
      have hk1 : (k : Int) + 1 = ((k + 1 : Nat) : Int) := by simp
      simp only [hk1]
      clear hM hh hst hrow hw
      refine wp_loop (fun m s => ∃ (j : Nat) (mm : Mem), k + 1 + j + m = i ∧ RowsIn mm R c i i (colS i p k (rootS i p k) j) ∧ s = ⟨[jk, .ptr 1 0, .ptr 2 0, jk, jk, .ptr 5 0, jk, jk, .v (leftV e i p R), nt k, nt (k + 1 + j : Nat), jk, jk, jk, jk, jk, jk, jk, jk, jk, jk, jk, jk, jk, jk, jk, jk, jk, jk, jk, jk, jk, jk, jk, jk, jk, jk, jk, jk, jk, jk, jk, jk, jk, jk, jk, jk, jk, jk, jk, nt i, nt k, jk, jk, jk, jk, jk, jk, jk, jk, jk, jk, jk, jk, jk, jk, jk, jk, jk, jk, jk, jk, jk, jk, jk, jk, jk, jk, jk, jk, jk, jk, jk, jk, jk, jk, jk, jk, jk, jk, jk, jk, jk, jk, jk, jk, jk, jk, jk, jk],
        [(2, [nt 0, nt 0, .acc 3002 []]), (4, [nt 0, nt 0, .v (tru false)])], [(1, [num i, num i, .sl e (frs p)]), (5, [rawRow R i])], [(1005, 0), (3002, 0)], [], 0, mm⟩) (i - (k + 1)) ?_ ?_
      · simp -implicitDefEqProofs only [rkA, rkB, stepA, valA, simprocAttr]
        exact ⟨0, _, by omega, hsto, rfl⟩
      clear hsto mm
      rintro m2 s ⟨j, mm, hj, hM, rfl⟩
      simp -implicitDefEqProofs only [rkA, rkB, stepA, valA, simprocAttr]
      refine gB_dec ?_ ?_ <;> intro hc3 <;> simp -implicitDefEqProofs only [hc3, rkA, rkB, stepA, valA, simprocAttr]
      · have hi' : k + 1 + j < i := by omega
        have h0i : (0 : Int) ≤ ((k + 1 + j : Nat) : Int) := by omega
        have hh := hM.head
        have hldi := ldM_one (headR_get (n := i) (b := i) (c := c) (i := k + 1 + j) hi' hi')
        simp -implicitDefEqProofs only [h0k, hc2, h0i, hc3, Int.toNat_natCast, Nat.mul_one, hh, hldi, hld, rkA, rkB, stepA, valA, simprocAttr]
        refine lend_fn rfl rfl (leftT (i := k + 1 + j) (k := k) hM) (ok74 e i (by omega) p _ (k + 1 + j) k hi' hk') rfl ?_
        have hrk := hM.row k hk'
        have hlf := ldM_fr (rowM_get (n := i) (M := colS i p k (rootS i p k) j) (i := k) (k := k) hk')
        simp -implicitDefEqProofs only [h0k, hc2, h0i, hc3, Int.toNat_natCast, Nat.mul_one, hh, hldi, hld, hrk, hlf, rkA, rkB, stepA, valA, simprocAttr]
        refine call_meth rfl rfl methDiv (ok211 _ _) ?_
        have hw := wrapped (x := ((k + 1 + j : Nat) : Int) + 1) (by omega) (by omega)
        have hrow := hM.row _ hi'
        have hst := stM_fr (l := rowM i (colS i p k (rootS i p k) j) (k + 1 + j)) (k := k) (x := divF (leftM i p (colS i p k (rootS i p k) j) (k + 1 + j) k) (colS i p k (rootS i p k) j k k)) (by rw [rowM_length]; exact hk')
        have hsto := hM.store (i := k + 1 + j) hi' hk' (divF (leftM i p (colS i p k (rootS i p k) j) (k + 1 + j) k) (colS i p k (rootS i p k) j k k))
        simp -implicitDefEqProofs only [h0k, hc2, Int.toNat_natCast, hrow, hst, hw, rkA, rkB, stepA, valA, simprocAttr]
        refine loopK_of (m' := m2 - 1) (by omega) ?_
        simp -implicitDefEqProofs only [rkA, rkB, stepA, valA, simprocAttr]
        exact ⟨j + 1, _, by omega, hsto, by simp only [Int.natCast_add, Int.natCast_one]; rfl⟩
      · have hj' : j = i - (k + 1) := by omega
        have hw := wrapped (x := (k : Int) + 1) (by omega) (by omega)
        simp -implicitDefEqProofs only [hw, rkA, rkB, stepA, valA, simprocAttr]
        refine loopK_of (m' := m' - 1) (by omega) ?_
        simp -implicitDefEqProofs only [rkA, rkB, stepA, valA, simprocAttr]
        refine ⟨k + 1, mm, by omega, ?_, by simp only [Int.natCast_add, Int.natCast_one]⟩
        rw [hj'] at hM
        exact hM
    · have hki : k = i := by omega
      subst hki
      have hma := okm77 k hn _ _ (rootS k p k) (fun a b ha hb => ok78 k (rootS k p k) a b ha hb)
      refine lendNew_fn (l := [num k, .fn (.func 78) [.vp [rowsV k (rootS k p k)]]]) rfl rfl (.cons (.same _) (.cons (.fn (.cons (.vpIn (.cons hM.tell .nil)) .nil)) .nil)) hma ?_ ?_
      · rintro r m' ⟨b, cap, q, h1, rfl, rfl⟩
        refine ⟨rfl, fun c cells hc => ?_⟩
        by_cases e : c = b
        · subst e
          rw [Mem.put_same] at hc
          cases hc
          exact RFs_append (RFs_frs _) (RFs_junk q)
        · rw [Mem.put_other _ _ e] at hc
          cases hc
      · rintro r m' ⟨b, cap, q, h1, rfl, rfl⟩ hfr
        simp -implicitDefEqProofs only [rkA, rkB, stepA, valA, simprocAttr]
        exact ⟨_, rfl, .tup (.cons (.agg (.cons (.same _) (.cons (.same _) (.cons (tell_row (Mem.put_same _ _ _) h1) .nil)))) (.cons (.same _) .nil))⟩

theorem ok21n (e : Bool) (r c : Int) (l : List Fr) (h : (right r c l.length && (r == c)) = false) : Ok Tryz.prog 21 [matV e r c (frs l)] (.tup [matV true 0 0 [], tru false]) := by
  refine okt_fn mixed Tryz.func21 (code := ?_) (h := h21) ?_ k21 ?_
  rotate_left
  · exact rfl
  unfold h21 initS
  simp -implicitDefEqProofs only [rkA, rkB, stepA, valA, simprocAttr, Tryz.ntmps21, Tryz.results21]
  have h904 := ok73 e r c l
  rw [h] at h904
  refine call_fn rfl rfl rfl (h904) ?_
  simp -implicitDefEqProofs only [rkA, rkB, stepA, valA, simprocAttr]
  exact ⟨_, rfl, .tup (.cons (.agg (.cons (.same _) (.cons (.same _) (.cons .nil .nil)))) (.cons (.same _) .nil))⟩
end Go.Proofs.YtbflmeomkfjikaaGreat.A

set_option linter.unusedVariables false
set_option linter.unusedSimpArgs false
set_option maxRecDepth 100000
namespace Go.Proofs.YtbflmeomkfjikaaGreat.A
open Go Go.RowKit Go.Shelf

theorem ok77 (n : Nat) (hn : 1 ≤ n ∧ n ≤ 16) (K : Nat) (caps : List PV) (g : Nat → Nat → Fr) (hg : ∀ i k : Nat, i < n → k < n → Ok Tryz.prog K (num i :: num k :: caps) (frV (g i k))) :
    Ok Tryz.prog 77 [num n, .fn (.func K) caps] (.tup [matV false n n (frs (gridP g n n 0)), tru true]) := by
  refine Ok.ofM (okm77 n hn K caps g hg) ?_
  rintro r m ⟨b, cap, q, h1, rfl, rfl⟩
  have hl : (frs (gridP g n n 0)).length = (gridP g n n 0).length := by simp
  exact .tup (.cons (.agg (.cons (.same _) (.cons (.same _) (.cons (tell_row (Mem.put_same _ _ _) h1) .nil)))) (.cons (.same _) .nil))

/-! ### Cleared -/
def clearG (n : Nat) (l : List Fr) (i k : Nat) : Fr := if i < k then newF 0 1 else atF n n l i k
def clearF (n : Nat) (l : List Fr) : List Fr := gridP (clearG n l) n n 0
theorem ok99 (e : Bool) (n : Nat) (l : List Fr) (i k : Nat) : Ok Tryz.prog 99 [num i, num k, .vp [num 0, num 0, tru false], .vp [num n, num n, .sl e (frs l)]] (frV (clearG n l i k)) := by
  refine ok_fn mixed Tryz.func99 (code := ?_) (h := h99) ?_ k99 ?_
  rotate_left
  · exact rfl
  unfold h99 initS
  simp -implicitDefEqProofs only [rkA, rkB, stepA, valA, simprocAttr, Tryz.ntmps99, Tryz.results99]
  unfold clearG
  refine gB_dec ?_ ?_ <;> intro hc <;> simp -implicitDefEqProofs only [hc, rkA, rkB, stepA, valA, simprocAttr]
  · have : i < k := by omega
    refine call_meth rfl rfl methOf (ok215 ⟨0, 0, false⟩ 0) ?_
    rw [if_pos this]
    simp -implicitDefEqProofs only [rkA, rkB, stepA, valA, simprocAttr]
  · have : ¬ i < k := by omega
    refine call_fn rfl rfl rfl (ok75 e n n i k l) ?_
    rw [if_neg this]
    simp -implicitDefEqProofs only [rkA, rkB, stepA, valA, simprocAttr]

theorem ok40 (n : Nat) (hn : 1 ≤ n ∧ n ≤ 16) (e : Bool) (l : List Fr) (h : l.length = n * n) : Ok Tryz.prog 40 [matV e n n (frs l)] (.tup [matV false n n (frs (clearF n l)), tru true]) := by
  have hr := right_sq hn h
  refine ok_fn mixed Tryz.func40 (code := ?_) (h := h40) ?_ k40 ?_
  rotate_left
  · exact rfl
  unfold h40 initS
  simp -implicitDefEqProofs only [rkA, rkB, stepA, valA, simprocAttr, Tryz.ntmps40, Tryz.results40]
  refine call_fn rfl rfl rfl (ok73 e n n l) ?_
  simp -implicitDefEqProofs only [hr, beq_self_eq_true, rkA, rkB, stepA, valA, simprocAttr]
  refine call_fn rfl rfl rfl (ok77 n hn _ _ (clearG n l) (fun i k _ _ => ok99 e n l i k)) ?_
  simp -implicitDefEqProofs only [rkA, rkB, stepA, valA, simprocAttr, clearF]

theorem ok40n (e : Bool) (r c : Int) (l : List Fr) (h : (right r c l.length && (r == c)) = false) : Ok Tryz.prog 40 [matV e r c (frs l)] (.tup [matNil, tru false]) := by
  refine ok_fn mixed Tryz.func40 (code := ?_) (h := h40) ?_ k40 ?_
  rotate_left
  · exact rfl
  unfold h40 initS
  simp -implicitDefEqProofs only [rkA, rkB, stepA, valA, simprocAttr, Tryz.ntmps40, Tryz.results40]
  have h904 := ok73 e r c l
  rw [h] at h904
  refine call_fn rfl rfl rfl (h904) ?_
  simp -implicitDefEqProofs only [rkA, rkB, stepA, valA, simprocAttr]

theorem ok110n (e : Bool) (r c : Int) (l : List Fr) (h : (right r c l.length && (r == c)) = false) : Ok Tryz.prog 110 [matV e r c (frs l)] (.tup [matNil, tru false]) := by
  refine ok_fn mixed Tryz.func110 (code := ?_) (h := h110) ?_ k110 ?_
  rotate_left
  · exact rfl
  unfold h110 initS
  simp -implicitDefEqProofs only [rkA, rkB, stepA, valA, simprocAttr, Tryz.ntmps110, Tryz.results110]
  have h904 := ok73 e r c l
  rw [h] at h904
  refine call_fn rfl rfl rfl (h904) ?_
  simp -implicitDefEqProofs only [rkA, rkB, stepA, valA, simprocAttr]

/-! ### The diagonal -/
def diagF (n : Nat) (l : List Fr) : List Fr := (List.range n).map fun (i : Nat) => atF n n l i i
theorem rowF_get {r c : Int} {l : List Fr} (hr : right r c l.length = true) {i k : Nat} (hi : i < r.toNat) (hk : k < c.toNat) : (frs (rowF r c l i))[k]? = some (frV (atF r c l i k)) := by
  have h0 := rowF_eq ⟨0, 0, false⟩ hr (i := i) hi
  have h1 := atF_eq hr (i := i) (k := k) hi hk
  rw [h0, List.getElem?_map, List.getElem?_map, List.getElem?_range hk, h1]
  rfl
theorem ok70 (n : Nat) (hn : 1 ≤ n ∧ n ≤ 16) (e : Bool) (l : List Fr) (h : l.length = n * n) : Ok Tryz.prog 70 [matV e n n (frs l)] (.sl false (frs (diagF n l))) := by
  have hr := right_sq hn h
  have hal : (diagF n l).length = n := by simp [diagF]
  refine ok_fn mixed Tryz.func70 (code := ?_) (h := h70) ?_ k70 ?_
  rotate_left
  · exact rfl
  unfold h70 initS
  simp -implicitDefEqProofs only [rkA, rkB, stepA, valA, simprocAttr, Tryz.ntmps70, Tryz.results70]
  refine call_fn rfl rfl rfl (ok98 e n n l) ?_
  simp -implicitDefEqProofs only [rkA, rkB, stepA, valA, simprocAttr]
  refine wp_rf' (items := rowsF n n l) rfl (it150 e n n l) (fun sv i s => i ≤ n ∧ s = ⟨[], [(1, [nt n, nt n, .v (.sl e (frs l))]), (3, [.acc 1003 (frs ((diagF n l).take i))])], [], [(2, 0), (1003, i)], sv, 0, nomem⟩) ?_ ?_ ?_
  · simp -implicitDefEqProofs only [rkA, rkB, stepA, valA, simprocAttr]
    exact Nat.zero_le _
  · rintro i x' s' R hx ⟨hi, rfl⟩ hR
    obtain ⟨hlt, rfl, hxi⟩ := rowsF_all hr hx
    have hlt' : i < n := by simpa using hlt
    refine ⟨rfl, ?_⟩
    have h904 := ok73 e n n l
    rw [hr, beq_self_eq_true] at h904
    simp -implicitDefEqProofs only [rkA, rkB, stepA, valA, simprocAttr]
    refine call_fn rfl rfl rfl (h904) ?_
    have h0 : (0 : Int) ≤ (i : Int) := by omega
    have hg := rowF_get hr hlt hlt
    have hfit : fits 3 24 (frs ((diagF n l).take i)) [frV (atF n n l i i)] = true := fits_frs (l := [atF n n l i i]) (by simp only [List.length_cons, List.length_nil, List.length_take]; omega)
    have hl : (frs ((diagF n l).take i)).length = i := by simp; omega
    simp -implicitDefEqProofs only [h0, Int.toNat_natCast, hg, hfit, hl, rkA, rkB, stepA, valA, simprocAttr]
    refine hR _ ⟨by omega, ?_⟩
    have hai : (diagF n l)[i]'(by omega) = atF n n l i i := by simp [diagF]
    rw [List.take_succ_eq_append_getElem (by omega), hai]
    simp only [frs, List.map_append, List.map_cons, List.map_nil]
  · rintro s' ⟨hi, rfl⟩
    simp -implicitDefEqProofs only [rkA, rkB, stepA, valA, simprocAttr]
    rw [rowsF_length hr, List.take_of_length_le (by simp [hal])]
theorem ok70n (e : Bool) (r c : Int) (l : List Fr) (h : (right r c l.length && (r == c)) = false) : Ok Tryz.prog 70 [matV e r c (frs l)] (.sl false []) := by
  refine ok_fn mixed Tryz.func70 (code := ?_) (h := h70) ?_ k70 ?_
  rotate_left
  · exact rfl
  unfold h70 initS
  simp -implicitDefEqProofs only [rkA, rkB, stepA, valA, simprocAttr, Tryz.ntmps70, Tryz.results70]
  refine call_fn rfl rfl rfl (ok98 e r c l) ?_
  simp -implicitDefEqProofs only [rkA, rkB, stepA, valA, simprocAttr]
  refine wp_rf' (items := rowsF r c l) rfl (it150 e r c l) (fun sv i s => s = ⟨[], [(1, [nt r, nt c, .v (.sl e (frs l))]), (3, [.acc 1003 []])], [], [(2, 0), (1003, 0)], sv, 0, nomem⟩) ?_ ?_ ?_
  · simp -implicitDefEqProofs only [rkA, rkB, stepA, valA, simprocAttr]
  · rintro i x' s' R hx rfl hR
    have hr : right r c l.length = true := by
      cases hr : right r c l.length with
      | true => rfl
      | false => simp [rowsF, hr] at hx
    obtain ⟨hlt, rfl, hxi⟩ := rowsF_all hr hx
    refine ⟨rfl, ?_⟩
    have h904 := ok73 e r c l
    rw [h] at h904
    simp -implicitDefEqProofs only [rkA, rkB, stepA, valA, simprocAttr]
    refine call_fn rfl rfl rfl (h904) ?_
    simp -implicitDefEqProofs only [rkA, rkB, stepA, valA, simprocAttr]
    exact hR _ rfl
  · rintro s' rfl
    simp -implicitDefEqProofs only [rkA, rkB, stepA, valA, simprocAttr]

/-! ### Is it a triangle? -/
theorem ok68 (e : Bool) (r c : Int) (l : List Fr) (K : Nat) (caps : List PV) (z : Fr → Bool) (b : Bool) (hz : ∀ x, Ok Tryz.prog K (frV x :: caps) (tru (z x)))
    (hb : b = true ↔ right r c l.length = true ∧ r = c ∧ ∀ i k : Nat, i < r.toNat → k < c.toNat → i < k → z (atF r c l i k) = true) : Ok Tryz.prog 68 [matV e r c (frs l), .fn (.func K) caps] (tru b) := by
  refine ok_fn mixed Tryz.func68 (code := ?_) (h := h68) ?_ k68 ?_
  rotate_left
  · exact rfl
  unfold h68 initS
  simp -implicitDefEqProofs only [rkA, rkB, stepA, valA, simprocAttr, Tryz.ntmps68, Tryz.results68]
  refine call_fn rfl rfl rfl (ok98 e r c l) ?_
  simp -implicitDefEqProofs only [rkA, rkB, stepA, valA, simprocAttr]
  refine wp_rf' (items := rowsF r c l) rfl (it150 e r c l) (fun sv i s => (∀ a k : Nat, a < i → k < c.toNat → a < k → z (atF r c l a k) = true) ∧ s = ⟨[], [(2, [nt r, nt c, .v (.sl e (frs l))]), (3, [.v (.fn (.func K) caps)]), (4, [.v (tru false)])], [], [], sv, 0, nomem⟩) ?_ ?_ ?_
  · simp -implicitDefEqProofs only [rkA, rkB, stepA, valA, simprocAttr]
    intro a k h
    omega
  · rintro i x' s' R hx ⟨hP, rfl⟩ hR
    have hr : right r c l.length = true := by
      cases hr : right r c l.length with
      | true => rfl
      | false => simp [rowsF, hr] at hx
    obtain ⟨r1, r2, c1, c2, hn⟩ := right_spec hr
    obtain ⟨hlt, rfl, hxi⟩ := rowsF_all hr hx
    refine ⟨rfl, ?_⟩
    have hw := wrapped (x := (i : Int) + 1) (by omega) (by omega)
    simp -implicitDefEqProofs only [hw, rkA, rkB, stepA, valA, simprocAttr]
    refine wp_loop (fun m s => ∃ k : Nat, i + 1 ≤ k ∧ k ≤ 17 ∧ c.toNat ≤ k + m ∧ (∀ q : Nat, i < q → q < k → q < c.toNat → z (atF r c l i q) = true) ∧ s = ⟨[jk, jk, .ptr 2 0, .ptr 3 0, .ptr 4 0, jk, .v (.sl false (frs (rowF r c l i))), nt k, jk, jk, jk, jk, jk, jk, jk, jk, jk, jk, jk, jk, jk, jk, jk, jk, jk, jk, jk, jk, jk],
      [(2, [nt r, nt c, .v (.sl e (frs l))]), (3, [.v (.fn (.func K) caps)]), (4, [.v (tru false)])], [], [], [[.v (matV e r c (frs l)), .v (.fn (.func K) caps), .ptr 2 0, .ptr 3 0, .ptr 4 0, jk, jk, jk, .v (.agg [num r, num c, .sl e (frs l)]), .v (.fn (.func 150) [.vp [num r, num c, .sl e (frs l)]]), jk, jk, jk, jk, jk, jk, jk, jk, jk, jk, jk, jk, jk, jk, jk, jk, jk, jk, jk]], 0, nomem⟩) c.toNat ?_ ?_
    · simp -implicitDefEqProofs only [rkA, rkB, stepA, valA, simprocAttr]
      exact ⟨i + 1, by omega, by omega, by omega, fun q h1 h2 => by omega, by simp only [Int.natCast_add, Int.natCast_one]⟩
    rintro m s ⟨k, hk, hk17, hm, hQ, rfl⟩
    simp -implicitDefEqProofs only [rkA, rkB, stepA, valA, simprocAttr]
    refine gB_dec ?_ ?_ <;> intro hc <;> simp -implicitDefEqProofs only [hc, rkA, rkB, stepA, valA, simprocAttr]
    · have hk' : k < c.toNat := by omega
      have h0 : (0 : Int) ≤ (k : Int) := by omega
      have hg := rowF_get hr hlt hk'
      simp -implicitDefEqProofs only [h0, Int.toNat_natCast, hg, rkA, rkB, stepA, valA, simprocAttr]
      refine call_fn rfl rfl rfl (hz (atF r c l i k)) ?_
      cases hzk : z (atF r c l i k) with
      | true =>
        have hw2 := wrapped (x := (k : Int) + 1) (by omega) (by omega)
        simp -implicitDefEqProofs only [hw2, rkA, rkB, stepA, valA, simprocAttr]
        refine loopK_of (m' := m - 1) (by omega) ?_
        simp -implicitDefEqProofs only [rkA, rkB, stepA, valA, simprocAttr]
        refine ⟨k + 1, by omega, by omega, by omega, fun q h1 h2 h3 => ?_, by simp only [Int.natCast_add, Int.natCast_one]⟩
        by_cases e : q = k
        · rw [e]; exact hzk
        · exact hQ q h1 (by omega) h3
      | false =>
        have hbf : b = false := by
          cases hbb : b with
          | false => rfl
          | true =>
            have := (hb.1 hbb).2.2 i k hlt hk' (by omega)
            rw [hzk] at this
            cases this
        subst hbf
        simp -implicitDefEqProofs only [rkA, rkB, stepA, valA, simprocAttr]
    · refine hR _ ⟨fun a q ha hq haq => ?_, rfl⟩
      by_cases e : a = i
      · subst e
        exact hQ q haq (by omega) hq
      · exact hP a q (by omega) hq haq
  · rintro s' ⟨hP, rfl⟩
    simp -implicitDefEqProofs only [rkA, rkB, stepA, valA, simprocAttr]
    refine call_fn rfl rfl rfl (ok73 e r c l) ?_
    have : (right r c l.length && (r == c)) = b := by
      rw [Bool.eq_iff_iff, hb, Bool.and_eq_true, beq_iff_eq]
      constructor
      · rintro ⟨h1, h2⟩
        refine ⟨h1, h2, fun a k ha hk hak => hP a k ?_ hk hak⟩
        rw [rowsF_length h1]
        exact ha
      · rintro ⟨h1, h2, _⟩
        exact ⟨h1, h2⟩
    rw [this]
    simp -implicitDefEqProofs only [rkA, rkB, stepA, valA, simprocAttr]
end Go.Proofs.YtbflmeomkfjikaaGreat.A

set_option linter.unusedVariables false
set_option linter.unusedSimpArgs false
set_option maxRecDepth 100000
namespace Go.Proofs.YtbflmeomkfjikaaGreat.A
open Go Go.RowKit Go.Shelf

/-! ### What a triangle times it is a row -/
def solveP (n : Nat) (l b : List Fr) : Nat → List Fr
  | 0 => []
  | i + 1 => solveP n l b i ++ [divF (subF (b.getD i ⟨0, 0, false⟩) (dotF ((rowF n n l i).take i) (solveP n l b i))) (atF n n l i i)]
theorem solveP_len (n : Nat) (l b : List Fr) : ∀ i, (solveP n l b i).length = i
  | 0 => rfl
  | i + 1 => by rw [solveP, List.length_append, solveP_len n l b i]; rfl
theorem ok38n (e eb : Bool) (r c : Int) (l b : List Fr) (h : ¬ (right r c l.length = true ∧ r = c ∧ (b.length : Int) = r)) : Ok Tryz.prog 38 [matV e r c (frs l), .sl eb (frs b)] (.tup [.sl false [], tru false]) := by
  refine ok_fn mixed Tryz.func38 (code := ?_) (h := h38) ?_ k38 ?_
  rotate_left
  · exact rfl
  unfold h38 initS
  simp -implicitDefEqProofs only [rkA, rkB, stepA, valA, simprocAttr, Tryz.ntmps38, Tryz.results38]
  refine call_fn rfl rfl rfl (ok73 e r c l) ?_
  have lb : (frs b).length = b.length := by simp
  cases hq : (right r c l.length && (r == c)) with
  | false => simp -implicitDefEqProofs only [rkA, rkB, stepA, valA, simprocAttr]
  | true =>
    rw [Bool.and_eq_true, beq_iff_eq] at hq
    have hne : ((b.length : Int) != r) = true := by
      have : ¬ (b.length : Int) = r := fun e => h ⟨hq.1, hq.2, e⟩
      simpa using this
    simp -implicitDefEqProofs only [lb, hne, rkA, rkB, stepA, valA, simprocAttr]
theorem ok38 (e eb : Bool) (n : Nat) (hn : 1 ≤ n ∧ n ≤ 16) (l b : List Fr) (h : l.length = n * n) (hb : b.length = n) : Ok Tryz.prog 38 [matV e n n (frs l), .sl eb (frs b)] (.tup [.sl false (frs (solveP n l b n)), tru true]) := by
  have hr := right_sq hn h
  have lb : (frs b).length = n := by simp [hb]
  refine ok_fn mixed Tryz.func38 (code := ?_) (h := h38) ?_ k38 ?_
  rotate_left
  · exact rfl
  unfold h38 initS
  simp -implicitDefEqProofs only [rkA, rkB, stepA, valA, simprocAttr, Tryz.ntmps38, Tryz.results38]
  refine call_fn rfl rfl rfl (ok73 e n n l) ?_
  simp -implicitDefEqProofs only [hr, beq_self_eq_true, lb, bne_self_eq_false, rkA, rkB, stepA, valA, simprocAttr]
  refine call_fn rfl rfl rfl (ok98 e n n l) ?_
  simp -implicitDefEqProofs only [rkA, rkB, stepA, valA, simprocAttr]
  refine wp_rf' (items := rowsF n n l) rfl (it150 e n n l) (fun sv i s => i ≤ n ∧ s = ⟨[], [(2, [nt n, nt n, .v (.sl e (frs l))]), (3, [.v (.sl eb (frs b))]), (6, [.acc 1006 (frs (solveP n l b i))])], [], [(4, 0), (1006, i)], sv, 0, nomem⟩) ?_ ?_ ?_
  · simp -implicitDefEqProofs only [rkA, rkB, stepA, valA, simprocAttr]
    exact ⟨Nat.zero_le _, rfl⟩
  · rintro i x' s' R hx ⟨hi, rfl⟩ hR
    obtain ⟨hlt, rfl, hxi⟩ := rowsF_all hr hx
    have hlt' : i < n := by simpa using hlt
    refine ⟨rfl, ?_⟩
    have h0 : (0 : Int) ≤ (i : Int) := by omega
    have hg : (frs b)[i]? = some (frV (b.getD i ⟨0, 0, false⟩)) := by
      have : i < b.length := by omega
      simp [this]
    have hrl := rowF_len hr hlt
    rw [Int.toNat_natCast] at hrl
    have hs := slice_to (l := rowF n n l i) (ex := false) (k := i) (by omega)
    have hgr := rowF_get hr hlt hlt
    have lS := solveP_len n l b i
    simp -implicitDefEqProofs only [h0, Int.toNat_natCast, hg, hs, rkA, rkB, stepA, valA, simprocAttr]
    refine call_fn rfl rfl rfl (ok76 false false ((rowF n n l i).take i) (solveP n l b i) (by rw [List.length_take]; omega) (by omega)) ?_
    simp -implicitDefEqProofs only [rkA, rkB, stepA, valA, simprocAttr]
    refine call_meth rfl rfl methSub (ok218 _ _) ?_
    simp -implicitDefEqProofs only [h0, Int.toNat_natCast, hgr, rkA, rkB, stepA, valA, simprocAttr]
    refine call_meth rfl rfl methDiv (ok211 _ _) ?_
    have hfit : fits 3 24 (frs (solveP n l b i)) [frV (divF (subF (b.getD i ⟨0, 0, false⟩) (dotF ((rowF n n l i).take i) (solveP n l b i))) (atF n n l i i))] = true := fits_frs (l := [_]) (by simp only [List.length_cons, List.length_nil]; omega)
    have hlS : (frs (solveP n l b i)).length = i := by simp [lS]
    simp -implicitDefEqProofs only [hfit, hlS, rkA, rkB, stepA, valA, simprocAttr]
    refine hR _ ⟨by omega, ?_⟩
    rw [solveP]
    simp only [frs, List.map_append, List.map_cons, List.map_nil]
  · rintro s' ⟨hi, rfl⟩
    simp -implicitDefEqProofs only [rkA, rkB, stepA, valA, simprocAttr]
    rw [rowsF_length hr, Int.toNat_natCast]
end Go.Proofs.YtbflmeomkfjikaaGreat.A

set_option linter.unusedVariables false
set_option linter.unusedSimpArgs false
set_option maxRecDepth 100000
namespace Go.Proofs.YtbflmeomkfjikaaGreat.A.E
open Go Go.RowKit Go.Shelf

/-! ### What is solved: enclosed beside fractions -/
theorem divF_snd (a b : Fr) : SndE (divF a b) := fun h => by
  have hf : a.fine = true ∧ b.fine = true := by
    unfold divF at h
    split at h
    · cases h
    · exact ⟨(made_is h).1, (made_is h).2.1⟩
  exact (divF_enc (fun _ => self_enc hf.1) (fun _ => self_enc hf.2) h).1
theorem divA_snd (a b : A.Fr) : SndA (A.divF a b) := fun h => (A.divF_is h).2.2.2.1
theorem solve_rl {l b : List Fr} {l' b' : List A.Fr} (hl : RL l l') (hb : RL b b') (n : Nat) : ∀ i, RL (solveP n l b i) (A.solveP n l' b' i)
  | 0 => RL.nil
  | i + 1 => RL.append (solve_rl hl hb n i) (RL.cons (((hb.2 i).sub (dot_rl (RL.take (row_rl hl _ _ _) _) (solve_rl hl hb n i))).div (at_rl hl _ _ _ _)) RL.nil)
theorem solve_snd (n : Nat) (l b : List Fr) : ∀ i, ∀ x ∈ solveP n l b i, SndE x
  | 0, x, h => by cases h
  | i + 1, x, h => by
    rw [solveP, List.mem_append] at h
    rcases h with h | h
    · exact solve_snd n l b i x h
    · rw [List.mem_singleton] at h
      subst h
      exact divF_snd _ _
theorem solveA_snd (n : Nat) (l b : List A.Fr) : ∀ i, ∀ x ∈ A.solveP n l b i, SndA x
  | 0, x, h => by cases h
  | i + 1, x, h => by
    rw [A.solveP, List.mem_append] at h
    rcases h with h | h
    · exact solveA_snd n l b i x h
    · rw [List.mem_singleton] at h
      subst h
      exact divA_snd _ _
end Go.Proofs.YtbflmeomkfjikaaGreat.A.E

set_option linter.unusedVariables false
set_option linter.unusedSimpArgs false
set_option maxRecDepth 100000
namespace Go.Proofs.YtbflmeomkfjikaaGreat.A
open Go Go.RowKit Go.Shelf

/-! ### The document's answers, of whole numbers -/
def clearH (l : List Int) (n i k : Nat) : Int := if i < k then 0 else l.getD (i * n + k) 0
def clearI (l : List Int) (n : Nat) : List Int := gridP (clearH l n) n n 0
def turnH (l : List Int) (n k i : Nat) : Int := l.getD (i * n + k) 0
def turnI (l : List Int) (n : Nat) : List Int := gridP (turnH l n) n n 0
def squareI (l : List Int) (n : Nat) : List Int := mulI l (turnI l n) n n n

theorem ok18 (e : Bool) (l : List Int) (n : Nat) (hn : n ≤ 16) (hl : l.length = n * n) : Ok Tryz.prog 18 [.sl e (l.map num), num n] (.sl false ((clearI l n).map num)) := by
  refine ok_fn mixed Tryz.func18 (code := ?_) (h := h18) ?_ k18 ?_
  rotate_left
  · exact rfl
  unfold h18 initS
  simp -implicitDefEqProofs only [rkA, rkB, stepA, valA, simprocAttr, Tryz.ntmps18, Tryz.results18]
  have hlen := gridP_length (clearH l n) n
  have hbig : ∀ i k, i ≤ n → k ≤ n → i * n + k ≤ 272 := fun i k h1 h2 => by
    have : i * n ≤ 16 * 16 := Nat.mul_le_mul (by omega) (by omega)
    omega
  have s3 := side16 hn hn
  refine wp_loop (fun m s => ∃ i : Nat, i + m = n ∧ s = ⟨[.v (.sl e (l.map num)), .v (num n), jk, jk, jk, .acc 5 ((gridP (clearH l n) n i 0).map num), nt i, jk, jk, jk, jk, jk, jk, jk, jk, jk, jk, jk, jk, jk, jk, jk, jk, jk, jk, jk, jk, jk, jk, jk, jk, jk, jk, jk, jk, jk], [], [], [(4, 0), (5, (gridP (clearH l n) n i 0).length)], [], 0, nomem⟩) n ?_ ?_
  · simp -implicitDefEqProofs only [rkA, rkB, stepA, valA, simprocAttr]
    exact ⟨0, by simp, rfl⟩
  rintro m s ⟨i, hi, rfl⟩
  simp -implicitDefEqProofs only [rkA, rkB, stepA, valA, simprocAttr]
  refine gB_dec ?_ ?_ <;> intro hc <;> simp -implicitDefEqProofs only [hc, rkA, rkB, stepA, valA, simprocAttr]
  · refine wp_loop (fun m s => ∃ k : Nat, k + m = n ∧ s = ⟨[.v (.sl e (l.map num)), .v (num n), jk, jk, jk, .acc 5 ((gridP (clearH l n) n i k).map num), nt i, nt k, jk, jk, jk, jk, jk, jk, jk, jk, jk, jk, jk, jk, jk, jk, jk, jk, jk, jk, jk, jk, jk, jk, jk, jk, jk, jk, jk, jk], [], [], [(4, 0), (5, (gridP (clearH l n) n i k).length)], [], 0, nomem⟩) n ?_ ?_
    · simp -implicitDefEqProofs only [rkA, rkB, stepA, valA, simprocAttr]
      exact ⟨0, by simp, rfl⟩
    rintro m' s ⟨k, hk, rfl⟩
    simp -implicitDefEqProofs only [rkA, rkB, stepA, valA, simprocAttr]
    refine gB_dec ?_ ?_ <;> intro hc2 <;> simp -implicitDefEqProofs only [hc2, rkA, rkB, stepA, valA, simprocAttr]
    · have hl1 := hlen i k
      have hb := hbig i k (by omega) (by omega)
      have hfit : ∀ x : Int, fits 1 8 ((gridP (clearH l n) n i k).map num) [num x] = true := fun x => fits_num (l := [x]) (by simp only [List.length_cons, List.length_nil]; omega)
      have hl' : ((gridP (clearH l n) n i k).map num).length = (gridP (clearH l n) n i k).length := by simp
      have hw := wrapped (x := (k : Int) + 1) (by omega) (by omega)
      have t := at_table (i := i) (j := k) (n := n) (m := n) (by omega) (by omega)
      have c1 : (i : Int) * (n : Int) = ((i * n : Nat) : Int) := by simp
      have c3 : ((i * n : Nat) : Int) + (k : Int) = ((i * n + k : Nat) : Int) := by simp
      have w1 := wrapped (x := ((i * n : Nat) : Int)) (by omega) (by omega)
      have w3 := wrapped (x := ((i * n + k : Nat) : Int)) (by omega) (by omega)
      have g1 := at_num (a := l) (i := i * n + k) (by omega)
      have n1 : (0 : Int) ≤ ((i * n + k : Nat) : Int) := by omega
      refine gB_dec ?_ ?_ <;> intro hc3 <;> simp -implicitDefEqProofs only [hc3, hfit, hl', hw, rkA, rkB, stepA, valA, simprocAttr]
      · have e0 : clearH l n i k = 0 := if_pos (by omega)
        refine loopK_of (m' := m' - 1) (by omega) ?_
        simp -implicitDefEqProofs only [rkA, rkB, stepA, valA, simprocAttr]
        refine ⟨k + 1, by omega, ?_⟩
        rw [gridP_succ]
        simp only [e0, List.map_append, List.map_cons, List.map_nil, List.length_append, List.length_cons, List.length_nil, Int.natCast_add, Int.natCast_one]
      · have e0 : clearH l n i k = l.getD (i * n + k) 0 := if_neg (by omega)
        simp -implicitDefEqProofs only [c1, w1, c3, w3, n1, Int.toNat_natCast, g1, hfit, hl', hw, rkA, rkB, stepA, valA, simprocAttr]
        refine loopK_of (m' := m' - 1) (by omega) ?_
        simp -implicitDefEqProofs only [rkA, rkB, stepA, valA, simprocAttr]
        refine ⟨k + 1, by omega, ?_⟩
        rw [gridP_succ]
        simp only [e0, List.map_append, List.map_cons, List.map_nil, List.length_append, List.length_cons, List.length_nil, Int.natCast_add, Int.natCast_one]
    · have hkr : k = n := by omega
      have hw := wrapped (x := (i : Int) + 1) (by omega) (by omega)
      simp -implicitDefEqProofs only [hw, rkA, rkB, stepA, valA, simprocAttr]
      refine loopK_of (m' := m - 1) (by omega) ?_
      simp -implicitDefEqProofs only [rkA, rkB, stepA, valA, simprocAttr]
      refine ⟨i + 1, by omega, ?_⟩
      rw [hkr, gridP_next]
      simp only [Int.natCast_add, Int.natCast_one]
  · have : i = n := by omega
    subst this
    rfl
theorem ok72 (e : Bool) (l : List Int) (n : Nat) (hn : n ≤ 16) (hl : l.length = n * n) : Ok Tryz.prog 72 [.sl e (l.map num), num n] (.sl false ((turnI l n).map num)) := by
  refine ok_fn mixed Tryz.func72 (code := ?_) (h := h72) ?_ k72 ?_
  rotate_left
  · exact rfl
  unfold h72 initS
  simp -implicitDefEqProofs only [rkA, rkB, stepA, valA, simprocAttr, Tryz.ntmps72, Tryz.results72]
  have hlen := gridP_length (turnH l n) n
  have hbig : ∀ i k, i ≤ n → k ≤ n → i * n + k ≤ 272 := fun i k h1 h2 => by
    have : i * n ≤ 16 * 16 := Nat.mul_le_mul (by omega) (by omega)
    omega
  have s3 := side16 hn hn
  refine wp_loop (fun m s => ∃ i : Nat, i + m = n ∧ s = ⟨[.v (.sl e (l.map num)), .v (num n), jk, jk, jk, .acc 5 ((gridP (turnH l n) n i 0).map num), nt i, jk, jk, jk, jk, jk, jk, jk, jk, jk, jk, jk, jk, jk, jk, jk, jk, jk, jk, jk, jk, jk, jk, jk], [], [], [(4, 0), (5, (gridP (turnH l n) n i 0).length)], [], 0, nomem⟩) n ?_ ?_
  · simp -implicitDefEqProofs only [rkA, rkB, stepA, valA, simprocAttr]
    exact ⟨0, by simp, rfl⟩
  rintro m s ⟨i, hi, rfl⟩
  simp -implicitDefEqProofs only [rkA, rkB, stepA, valA, simprocAttr]
  refine gB_dec ?_ ?_ <;> intro hc <;> simp -implicitDefEqProofs only [hc, rkA, rkB, stepA, valA, simprocAttr]
  · refine wp_loop (fun m s => ∃ k : Nat, k + m = n ∧ s = ⟨[.v (.sl e (l.map num)), .v (num n), jk, jk, jk, .acc 5 ((gridP (turnH l n) n i k).map num), nt i, nt k, jk, jk, jk, jk, jk, jk, jk, jk, jk, jk, jk, jk, jk, jk, jk, jk, jk, jk, jk, jk, jk, jk], [], [], [(4, 0), (5, (gridP (turnH l n) n i k).length)], [], 0, nomem⟩) n ?_ ?_
    · simp -implicitDefEqProofs only [rkA, rkB, stepA, valA, simprocAttr]
      exact ⟨0, by simp, rfl⟩
    rintro m' s ⟨k, hk, rfl⟩
    simp -implicitDefEqProofs only [rkA, rkB, stepA, valA, simprocAttr]
    refine gB_dec ?_ ?_ <;> intro hc2 <;> simp -implicitDefEqProofs only [hc2, rkA, rkB, stepA, valA, simprocAttr]
    · have hl1 := hlen i k
      have hb := hbig i k (by omega) (by omega)
      have hfit : ∀ x : Int, fits 1 8 ((gridP (turnH l n) n i k).map num) [num x] = true := fun x => fits_num (l := [x]) (by simp only [List.length_cons, List.length_nil]; omega)
      have hl' : ((gridP (turnH l n) n i k).map num).length = (gridP (turnH l n) n i k).length := by simp
      have hw := wrapped (x := (k : Int) + 1) (by omega) (by omega)
      have t := at_table (i := k) (j := i) (n := n) (m := n) (by omega) (by omega)
      have c1 : (k : Int) * (n : Int) = ((k * n : Nat) : Int) := by simp
      have c3 : ((k * n : Nat) : Int) + (i : Int) = ((k * n + i : Nat) : Int) := by simp
      have w1 := wrapped (x := ((k * n : Nat) : Int)) (by omega) (by omega)
      have w3 := wrapped (x := ((k * n + i : Nat) : Int)) (by omega) (by omega)
      have g1 := at_num (a := l) (i := k * n + i) (by omega)
      have n1 : (0 : Int) ≤ ((k * n + i : Nat) : Int) := by omega
      simp -implicitDefEqProofs only [c1, w1, c3, w3, n1, Int.toNat_natCast, g1, hfit, hl', hw, rkA, rkB, stepA, valA, simprocAttr]
      refine loopK_of (m' := m' - 1) (by omega) ?_
      simp -implicitDefEqProofs only [rkA, rkB, stepA, valA, simprocAttr]
      refine ⟨k + 1, by omega, ?_⟩
      rw [gridP_succ]
      simp only [turnH, List.map_append, List.map_cons, List.map_nil, List.length_append, List.length_cons, List.length_nil, Int.natCast_add, Int.natCast_one]
    · have hkr : k = n := by omega
      have hw := wrapped (x := (i : Int) + 1) (by omega) (by omega)
      simp -implicitDefEqProofs only [hw, rkA, rkB, stepA, valA, simprocAttr]
      refine loopK_of (m' := m - 1) (by omega) ?_
      simp -implicitDefEqProofs only [rkA, rkB, stepA, valA, simprocAttr]
      refine ⟨i + 1, by omega, ?_⟩
      rw [hkr, gridP_next]
      simp only [Int.natCast_add, Int.natCast_one]
  · have : i = n := by omega
    subst this
    rfl
theorem ok16 (e : Bool) (l : List Int) (n : Int) : Ok Tryz.prog 16 [.sl e (l.map num), num n] (tru (decide (1 ≤ n ∧ n ≤ 5 ∧ (l.length : Int) = n * n) && fewB l)) := by
  refine ok_fn mixed Tryz.func16 (code := ?_) (h := h16) ?_ k16 ?_
  rotate_left
  · exact rfl
  unfold h16 initS
  simp -implicitDefEqProofs only [rkA, rkB, stepA, valA, simprocAttr, Tryz.ntmps16, Tryz.results16]
  refine gB_dec ?_ ?_ <;> intro h1 <;> simp -implicitDefEqProofs only [h1, rkA, rkB, stepA, valA, simprocAttr]
  · refine gB_dec ?_ ?_ <;> intro h2 <;> simp -implicitDefEqProofs only [h2, rkA, rkB, stepA, valA, simprocAttr]
    · have hb : 0 ≤ n * n ∧ n * n ≤ 25 := by
        obtain ⟨N, rfl⟩ := Int.eq_ofNat_of_zero_le (show 0 ≤ n by omega)
        have : N * N ≤ 5 * 5 := Nat.mul_le_mul (by omega) (by omega)
        rw [← Int.natCast_mul]
        omega
      have hw := wrapped (x := n * n) (by omega) (by omega)
      have hl : (l.map num).length = l.length := by simp
      simp -implicitDefEqProofs only [hw, hl, rkA, rkB, stepA, valA, simprocAttr]
      refine gB_bool ?_ ?_ <;> intro h3 <;> simp -implicitDefEqProofs only [h3, rkA, rkB, stepA, valA, simprocAttr]
      · have h3' : (l.length : Int) = n * n := by simpa using h3
        refine call_fn rfl rfl rfl (ok37 e l) ?_
        simp -implicitDefEqProofs only [rkA, rkB, stepA, valA, simprocAttr]
        have : 1 ≤ n ∧ n ≤ 5 ∧ (l.length : Int) = n * n := ⟨by omega, by omega, h3'⟩
        simp -implicitDefEqProofs only [this, rkA, rkB, stepA, valA, simprocAttr]
      · have h3' : ¬ (l.length : Int) = n * n := by simpa using h3
        simp -implicitDefEqProofs only [h3', rkA, rkB, stepA, valA, simprocAttr]
theorem ok69 (x : Fr) : Ok Tryz.prog 69 [frV x] (tru (x.n == 0)) := by
  refine ok_fn mixed Tryz.func69 (code := ?_) (h := h69) ?_ k69 ?_
  rotate_left
  · exact rfl
  unfold h69 initS
  simp -implicitDefEqProofs only [rkA, rkB, stepA, valA, simprocAttr, Tryz.ntmps69, Tryz.results69]

theorem small_turn {l : List Int} (h : small l) (n : Nat) : small (turnI l n) := by
  intro x hx
  rw [turnI, gridP_zero, List.mem_flatMap] at hx
  obtain ⟨i, _, hx⟩ := hx
  obtain ⟨k, _, rfl⟩ := List.mem_map.1 hx
  exact small_get h _
theorem ok20 (e : Bool) (l : List Int) (n : Nat) (hn : n ≤ 16) (hl : l.length = n * n) (hs : small l) : Ok Tryz.prog 20 [.sl e (l.map num), num n] (.sl false ((squareI l n).map num)) := by
  refine ok_fn mixed Tryz.func20 (code := ?_) (h := h20) ?_ k20 ?_
  rotate_left
  · exact rfl
  unfold h20 initS
  simp -implicitDefEqProofs only [rkA, rkB, stepA, valA, simprocAttr, Tryz.ntmps20, Tryz.results20]
  refine call_fn rfl rfl rfl (ok72 e l n hn hl) ?_
  simp -implicitDefEqProofs only [rkA, rkB, stepA, valA, simprocAttr]
  refine call_fn rfl rfl rfl (ok47 e false l (turnI l n) n n n hn hn hn hl (by rw [turnI, gridP_length, Nat.add_zero]) hs (small_turn hs n)) ?_
  simp -implicitDefEqProofs only [rkA, rkB, stepA, valA, simprocAttr, squareI]

/-! ### What the document fixes of a root -/
theorem ok17 : Ok Tryz.prog 17 [] (tru true) := by
  refine ok_fn mixed Tryz.func17 (code := ?_) (h := h17) ?_ k17 ?_
  rotate_left
  · exact rfl
  unfold h17 initS
  simp -implicitDefEqProofs only [rkA, rkB, stepA, valA, simprocAttr, Tryz.ntmps17, Tryz.results17]
  have h1 := ok19 2 2 true [4, 2, 2, 5] (by simp)
  rw [if_pos (by decide)] at h1
  refine call_fn rfl rfl rfl (h1) ?_
  have u1 : rootMat 2 ([4, 2, 2, 5].map (newF · 1)) = [2, 0, 1, 2].map (newF · 1) := by decide +kernel
  generalize hR : [4, 2, 2, 5].map (newF · 1) = R at *
  have lR : R.length = 4 := by subst hR; rfl
  simp -implicitDefEqProofs only [rkA, rkB, stepA, valA, simprocAttr]
  have h2 := ok21 2 (by omega) false R lR
  rw [u1] at h2
  refine call_fn rfl rfl rfl (h2) ?_
  simp -implicitDefEqProofs only [rkA, rkB, stepA, valA, simprocAttr]
  refine call_fn rfl rfl rfl (ok24 false true 2 2 ([2, 0, 1, 2].map (newF · 1)) [2, 0, 1, 2] (by simp) rfl) ?_
  simp -implicitDefEqProofs only [rkA, rkB, stepA, valA, simprocAttr]
  have hz : ∀ i k : Nat, i < Int.toNat 2 → k < Int.toNat 2 → i < k → ((atF 2 2 ([2, 0, 1, 2].map (newF · 1)) i k).n == 0) = true := by
    intro i k hi hk hik
    obtain ⟨rfl, rfl⟩ : i = 0 ∧ k = 1 := by omega
    decide +kernel
  refine call_fn rfl rfl rfl (ok68 false 2 2 ([2, 0, 1, 2].map (newF · 1)) _ [] (fun x => x.n == 0) true ok69 ⟨fun _ => ⟨by decide +kernel, rfl, hz⟩, fun _ => rfl⟩) ?_
  simp -implicitDefEqProofs only [rkA, rkB, stepA, valA, simprocAttr]
  refine call_fn rfl rfl rfl (ok70 2 (by omega) false ([2, 0, 1, 2].map (newF · 1)) (by simp)) ?_
  simp -implicitDefEqProofs only [rkA, rkB, stepA, valA, simprocAttr]
  have hd : (frs (diagF 2 [newF 2 1, newF 0 1, newF 1 1, newF 2 1])).length = 2 := by simp [diagF]
  have hd' : (diagF 2 [newF 2 1, newF 0 1, newF 1 1, newF 2 1]).length = 2 := by simp [diagF]
  simp only [hd', List.length_map]
  rfl
end Go.Proofs.YtbflmeomkfjikaaGreat.A

set_option linter.unusedVariables false
set_option linter.unusedSimpArgs false
set_option maxRecDepth 100000
namespace Go.Proofs.YtbflmeomkfjikaaGreat.A
open Go Go.RowKit Go.Shelf

/-! ### Plain laws of clearing -/
theorem grid_sq {g : Nat → Nat → Fr} {n : Nat} (hn : 1 ≤ n ∧ n ≤ 16) : right (n : Int) (n : Int) (gridP g n n 0).length = true := right_sq hn (by rw [gridP_length, Nat.add_zero])
theorem atF_grid {g : Nat → Nat → Fr} {n i k : Nat} (hn : 1 ≤ n ∧ n ≤ 16) (hi : i < n) (hk : k < n) : atF n n (gridP g n n 0) i k = g i k := by
  have h1 := atF_eq (grid_sq (g := g) hn) (i := i) (k := k) (by simpa using hi) (by simpa using hk)
  rw [h1, Int.toNat_natCast]
  exact grid_at hi hk
theorem clear_clear {n : Nat} (hn : 1 ≤ n ∧ n ≤ 16) (l : List Fr) : clearF n (clearF n l) = clearF n l := by
  refine gridP_congr fun i k hi hk => ?_
  unfold clearG
  by_cases h : i < k
  · rw [if_pos h, if_pos h]
  · rw [if_neg h, if_neg h, clearF, atF_grid hn hi hk, clearG, if_neg h]
theorem diag_clear {n : Nat} (hn : 1 ≤ n ∧ n ≤ 16) (l : List Fr) : diagF n (clearF n l) = diagF n l := by
  refine List.map_congr_left fun i hi => ?_
  have hi' := List.mem_range.1 hi
  rw [clearF, atF_grid hn hi' hi', clearG, if_neg (by omega)]

/-! ### The function TriClears -/
theorem five {n : Int} {m : Nat} (h : 1 ≤ n ∧ n ≤ 5 ∧ (m : Int) = n * n) : ∃ N : Nat, n = N ∧ 1 ≤ N ∧ N ≤ 5 ∧ m = N * N := by
  obtain ⟨N, rfl⟩ := Int.eq_ofNat_of_zero_le (show 0 ≤ n by omega)
  refine ⟨N, rfl, by omega, by omega, ?_⟩
  have := h.2.2
  rw [← Int.natCast_mul] at this
  omega
end Go.Proofs.YtbflmeomkfjikaaGreat.A

set_option linter.unusedVariables false
set_option linter.unusedSimpArgs false
set_option maxRecDepth 100000
namespace Go.Proofs.YtbflmeomkfjikaaGreat.A
open Go Go.RowKit Go.Shelf

/-! ### Plain laws of squares -/
theorem squareI_at {l : List Int} {n i k : Nat} (hi : i < n) (hk : k < n) : (squareI l n).getD (i * n + k) 0 = ((List.range n).map fun j => l.getD (i * n + j) 0 * l.getD (k * n + j) 0).sum := by
  unfold squareI mulI
  rw [grid_getD hi hk, dotI_sum]
  refine sum_congr fun j hj => ?_
  rw [turnI, grid_getD hj hk, turnH]
theorem squareI_len (l : List Int) (n : Nat) : (squareI l n).length = n * n := mulI_length _ _ _ _ _
theorem squareI_mir (l : List Int) (n : Nat) : mirI (squareI l n) n n n 0 = squareI l n := by
  have e : mirI (squareI l n) n n n 0 = gridP (fun i k => (squareI l n).getD (max i k * n + min i k) 0) n n 0 := if_pos rfl
  have e2 : squareI l n = gridP (fun i k => (squareI l n).getD (i * n + k) 0) n n 0 := by
    conv => lhs; unfold squareI mulI
    refine gridP_congr fun i k hi hk => ?_
    unfold squareI mulI
    rw [grid_getD hi hk]
  rw [e]
  conv => rhs; rw [e2]
  refine gridP_congr fun i k hi hk => ?_
  rw [squareI_at (by omega) (by omega), squareI_at hi hk]
  rcases Nat.le_total i k with h | h
  · rw [Nat.max_eq_right h, Nat.min_eq_left h]
    exact sum_congr fun j _ => Int.mul_comm _ _
  · rw [Nat.max_eq_left h, Nat.min_eq_right h]
theorem sq_whole {l : List Int} {n : Nat} (hn : 1 ≤ n ∧ n ≤ 16) (hl : l.length = n * n) (hs : small l) : sqF n (l.map (newF · 1)) = (squareI l n).map (newF · 1) := by
  have hr := right_nat (n := l.length) hn hn hl
  have ht : (turnI l n).length = n * n := by rw [turnI, gridP_length, Nat.add_zero]
  unfold sqF
  rw [turI_eq hn hn hl, show turI l n n n 0 = turnI l n from rfl, prodF_whole hr (right_nat hn hn ht) hs (small_turn hs n)]
  simp only [Int.toNat_natCast]
  have := mirI_eq (a := squareI l n) hn hn (squareI_len l n) rfl
  rw [squareI_mir] at this
  exact this
theorem squareI_bnd {l : List Int} {n : Nat} (hn : n ≤ 16) (hs : small l) : bnd 160000 (squareI l n) := by
  have := mulI_bnd (small_bnd hs) (small_bnd (small_turn hs n)) n n n
  intro x hx
  have := this x hx
  have h2 : n * (100 * 100) ≤ 16 * (100 * 100) := Nat.mul_le_mul_right _ hn
  omega
theorem sqF_len' (n : Nat) (l : List Fr) : (sqF n l).length = n * n := by rw [sqF, mirF, gridP_length]; simp
theorem sqF_mir {n : Nat} (hn : 1 ≤ n ∧ n ≤ 16) (l : List Fr) : mirF n (sqF n l) = sqF n l := by
  unfold sqF
  generalize prodF n n n l (turnF n n l) = p
  conv => lhs; unfold mirF
  conv => rhs; unfold mirF
  simp only [Int.toNat_natCast]
  refine gridP_congr fun i k hi hk => ?_
  rw [atF_grid hn (by omega) (by omega)]
  congr 1 <;> omega
theorem sqF_turn {n : Nat} (hn : 1 ≤ n ∧ n ≤ 16) (l : List Fr) : turnF n n (sqF n l) = sqF n l := by
  rw [turnF_eq (right_sq hn (sqF_len' n l))]
  unfold sqF
  generalize prodF n n n l (turnF n n l) = p
  conv => rhs; unfold mirF
  simp only [Int.toNat_natCast]
  refine gridP_congr fun i k hi hk => ?_
  unfold mirF
  simp only [Int.toNat_natCast]
  rw [atF_grid hn hk hi]
  congr 1 <;> omega
theorem diag_dot {n : Nat} (hn : 1 ≤ n ∧ n ≤ 16) {l : List Fr} (hl : l.length = n * n) {i : Nat} (hi : i < n) : atF n n (sqF n l) i i = dotF (rowF n n l i) (rowF n n l i) := by
  have hr := right_sq hn hl
  have lt : (turnF n n l).length = n * n := turnF_len hn hn hl
  have lp : (prodF n n n l (turnF n n l)).length = n * n := by rw [prodF_len]; simp
  unfold sqF
  unfold mirF
  simp only [Int.toNat_natCast]
  rw [atF_grid hn hi hi, Nat.max_self, Nat.min_self, atF_eq (right_sq hn lp) (by simpa using hi) (by simpa using hi), Int.toNat_natCast, show (⟨0, 0, false⟩ : Fr) = dz from rfl, prodF_grid hn hn hn hl lt, grid_at hi hi,
    rowF_eq dz hr (by simpa using hi), Int.toNat_natCast]
  congr 1
  refine List.map_congr_left fun j hj => ?_
  exact turn_at hn hn hl hi (List.mem_range.1 hj)
theorem sum_sq (f : Nat → Int) : ∀ n, 0 ≤ ((List.range n).map fun j => f j * f j).sum
  | 0 => by simp
  | n + 1 => by
    have h := sum_sq f n
    have h2 : 0 ≤ f n * f n := by
      rcases Int.le_total 0 (f n) with h | h
      · exact Int.mul_nonneg h h
      · have := Int.mul_nonneg (show 0 ≤ - f n by omega) (show 0 ≤ - f n by omega)
        rwa [Int.neg_mul_neg] at this
    simp only [List.range_succ, List.map_append, List.sum_append, List.map_cons, List.map_nil, List.sum_cons, List.sum_nil]
    omega
theorem sign_up {x : Int} (h0 : 0 ≤ x) (h1 : x ≤ 160000) : ¬ signF (newF x 1) < 0 := by
  have hf : few x := ⟨by omega, by omega⟩
  rw [newF_whole hf]
  unfold signF
  rw [if_neg (by rw [fine_whole hf]; simp)]
  simp only [whole]
  split
  · omega
  · rw [if_neg (by omega)]
    omega
theorem diag_sign {n : Nat} (hn : 1 ≤ n ∧ n ≤ 16) {l : List Int} (hl : l.length = n * n) (hs : small l) {i : Nat} (hi : i < n) : ¬ signF (atF n n (sqF n (l.map (newF · 1))) i i) < 0 := by
  rw [sq_whole hn hl hs]
  have hb := at_table (i := i) (j := i) (n := n) (m := n) hi hi
  have h := squareI_len l n
  rw [atF_eq (right_sq hn (by rw [List.length_map, h])) (by simpa using hi) (by simpa using hi), Int.toNat_natCast, getD_newF (by omega)]
  have e := squareI_at (l := l) hi hi
  have h0 := sum_sq (fun j => l.getD (i * n + j) 0) n
  have h1 := bnd_get (squareI_bnd hn.2 hs) (i * n + i)
  rw [← e] at h0
  exact sign_up h0 (by omega)
end Go.Proofs.YtbflmeomkfjikaaGreat.A

set_option linter.unusedVariables false
set_option linter.unusedSimpArgs false
set_option maxRecDepth 100000
namespace Go.Proofs.YtbflmeomkfjikaaGreat.A
open Go Go.RowKit Go.Shelf

/-! ### What is solved, times the cleared triangle, is what was asked -/
theorem solveP_at (n : Nat) (l b : List Fr) : ∀ (m k : Nat), k < m → (solveP n l b m).getD k dz = divF (subF (b.getD k ⟨0, 0, false⟩) (dotF ((rowF n n l k).take k) (solveP n l b k))) (atF n n l k k)
  | 0, k, h => by omega
  | m + 1, k, h => by
    rw [solveP]
    by_cases e : k = m
    · subst e
      rw [List.getD_eq_getElem?_getD, List.getElem?_append_right (by rw [solveP_len]; omega), solveP_len, Nat.sub_self]
      rfl
    · rw [List.getD_eq_getElem?_getD, List.getElem?_append_left (by rw [solveP_len]; omega), ← List.getD_eq_getElem?_getD]
      exact solveP_at n l b m k (by omega)
theorem solveP_row (n : Nat) (l b : List Fr) {m k : Nat} (h : k ≤ m) : solveP n l b k = (List.range k).map fun j => (solveP n l b m).getD j dz := by
  rw [list_range (solveP_len n l b k)]
  refine List.map_congr_left fun j hj => ?_
  have hj' := List.mem_range.1 hj
  rw [solveP_at n l b k j hj', solveP_at n l b m j (by omega)]
theorem sumR_cut (f : Nat → Rat) {k n : Nat} (hk : k ≤ n) (h : ∀ j, k ≤ j → j < n → f j = 0) : sumR n f = sumR k f := by
  induction n with
  | zero => rw [show k = 0 by omega]
  | succ n ih =>
    by_cases e : k = n + 1
    · rw [e]
    · rw [sumR, ih (by omega) (fun j h1 h2 => h j h1 (by omega)), h n (by omega) (by omega)]
      grind
theorem zero_valF : (newF 0 1).val = 0 := by
  have := (whole_is (n := 0) (by unfold few; omega)).2
  rw [this]
  rfl
theorem solve_is {n : Nat} (hn : 1 ≤ n ∧ n ≤ 16) {l b : List Fr} (hl : l.length = n * n) {k : Nat} (hk : k < n) (hbf : (b.getD k dz).fine = true)
    (h : ((applyF n n (clearF n l) (solveP n l b n)).getD k dz).bad = false) : (applyF n n (clearF n l) (solveP n l b n)).getD k dz = b.getD k dz := by
  have lC : (clearF n l).length = n * n := by rw [clearF, gridP_length, Nat.add_zero]
  have hr := right_sq hn hl
  rw [apply_at hn lC hk, list_range (solveP_len n l b n)] at h ⊢
  obtain ⟨f1, f2⟩ := dot_is _ _ n h
  have hc : ∀ j, j < n → (clearF n l).getD (k * n + j) dz = clearG n l k j := fun j hj => grid_at hk hj
  have hx : ∀ j, j < n → ((solveP n l b n).getD j dz).fine = true := fun j hj => (f1 j hj).2
  have hxk := hx k hk
  rw [solveP_at n l b n k hk] at hxk
  obtain ⟨g1, g2, g3, g4⟩ := divF_is (fine_bad hxk)
  obtain ⟨s1, s2, s3⟩ := subF_is (fine_bad g1)
  have hrow : (rowF n n l k).take k = (List.range k).map fun j => l.getD (k * n + j) dz := by
    rw [rowF_eq dz hr (by simpa using hk), Int.toNat_natCast, ← List.map_take, List.take_range, Nat.min_eq_left (by omega)]
  rw [hrow, solveP_row n l b (show k ≤ n by omega)] at s2 s3
  have d := dot_is _ _ k (fine_bad s2)
  have hat : atF n n l k k = l.getD (k * n + k) dz := by
    rw [atF_eq hr (by simpa using hk) (by simpa using hk), Int.toNat_natCast]
  have hz : ∀ j, k + 1 ≤ j → j < n → ((clearF n l).getD (k * n + j) dz).val * ((solveP n l b n).getD j dz).val = 0 := fun j h1 h2 => by
    rw [hc j h2, clearG, if_pos (by omega), zero_valF]
    grind
  have e1 : sumR n (fun j => ((clearF n l).getD (k * n + j) dz).val * ((solveP n l b n).getD j dz).val) = sumR (k + 1) (fun j => (l.getD (k * n + j) dz).val * ((solveP n l b n).getD j dz).val) := by
    rw [sumR_cut _ (by omega) hz]
    refine sumR_congr fun j hj => ?_
    rw [hc j (by omega), clearG, if_neg (by omega), atF_eq hr (by simpa using hk) (by simp; omega), Int.toNat_natCast]
  refine fine_inj f2.1 hbf (f2.2.trans ?_)
  rw [e1, sumR, ← d.2.2]
  have hv := g4.2
  rw [← solveP_at n l b n k hk, hrow, solveP_row n l b (show k ≤ n by omega), s3.2, d.2.2] at hv
  rw [hat] at g3 hv
  rw [d.2.2]
  have hm : (l.getD (k * n + k) dz).val * ((solveP n l b n).getD k dz).val = (b.getD k dz).val - sumR k (fun j => (l.getD (k * n + j) dz).val * ((solveP n l b n).getD j dz).val) := by
    rw [hv]
    generalize (l.getD (k * n + k) dz).val = q at *
    grind
  rw [hm]
  grind
end Go.Proofs.YtbflmeomkfjikaaGreat.A


set_option linter.unusedVariables false
set_option linter.unusedSimpArgs false
set_option maxRecDepth 100000
namespace Go.Proofs.YtbflmeomkfjikaaGreat.A.E
open Go Go.RowKit Go.Shelf

/-! ### The function TriSolves -/
theorem few_small' {l : List Int} (h : small l) : ∀ x ∈ l, few x := fun x hx => by
  have := h x hx
  unfold few
  omega
set_option maxHeartbeats 8000000 in
theorem ok6 (e eb : Bool) (l b : List Int) (n : Int) : Ok Tryz.prog 6 [.sl e (l.map num), .sl eb (b.map num), num n] (tru true) := by
  refine ok_fn mixed Tryz.func6 (code := ?_) (h := h6) ?_ k6 ?_
  rotate_left
  · exact rfl
  unfold h6 initS
  simp -implicitDefEqProofs (maxSteps := 10000000) only [rkA, rkB, stepA, valA, simprocAttr, Tryz.ntmps6, Tryz.results6]
  refine call_fn rfl rfl rfl (ok16 e l n) ?_
  cases hq : (decide (1 ≤ n ∧ n ≤ 5 ∧ (l.length : Int) = n * n) && fewB l) with
  | false =>
    simp -implicitDefEqProofs (maxSteps := 10000000) only [rkA, rkB, stepA, valA, simprocAttr]
    refine call_fn rfl rfl rfl (ok17) ?_
    simp -implicitDefEqProofs (maxSteps := 10000000) only [rkA, rkB, stepA, valA, simprocAttr]
  | true =>
    have lb : (b.map num).length = b.length := by simp
    simp -implicitDefEqProofs (maxSteps := 10000000) only [lb, rkA, rkB, stepA, valA, simprocAttr]
    refine gB_dec ?_ ?_ <;> intro h20
    · simp -implicitDefEqProofs (maxSteps := 10000000) only [h20, rkA, rkB, stepA, valA, simprocAttr]
      refine call_fn rfl rfl rfl (ok17) ?_
      simp -implicitDefEqProofs (maxSteps := 10000000) only [rkA, rkB, stepA, valA, simprocAttr]
    · simp -implicitDefEqProofs (maxSteps := 10000000) only [h20, rkA, rkB, stepA, valA, simprocAttr]
      refine call_fn rfl rfl rfl (ok37 eb b) ?_
      cases hfb : fewB b with
      | false =>
        simp -implicitDefEqProofs (maxSteps := 10000000) only [rkA, rkB, stepA, valA, simprocAttr]
        refine call_fn rfl rfl rfl (ok17) ?_
        simp -implicitDefEqProofs (maxSteps := 10000000) only [rkA, rkB, stepA, valA, simprocAttr]
      | true =>
        obtain ⟨h1, h2⟩ := Bool.and_eq_true_iff.1 hq
        obtain ⟨N, rfl, n1, n5, hl⟩ := five (of_decide_eq_true h1)
        clear hq h1
        have hn : 1 ≤ N ∧ N ≤ 16 := ⟨n1, by omega⟩
        have hs : small l := (of_decide_eq_true h2).2
        have hsb : small b := (of_decide_eq_true hfb).2
        have hNN : N * N ≤ 5 * 5 := Nat.mul_le_mul n5 n5
        have hll : l.length ≤ 25 := by omega
        simp -implicitDefEqProofs (maxSteps := 10000000) only [rkA, rkB, stepA, valA, simprocAttr]
        have h12 := A.ok19 N N e l (by omega)
        rw [if_pos (right_nat hn hn hl)] at h12
        refine call_fn rfl rfl rfl (h12) ?_
        simp -implicitDefEqProofs (maxSteps := 10000000) only [rkA, rkB, stepA, valA, simprocAttr]
        refine call_fn rfl rfl rfl (A.ok39 eb b (by omega)) ?_
        simp -implicitDefEqProofs (maxSteps := 10000000) only [rkA, rkB, stepA, valA, simprocAttr]
        have lM : (l.map (A.newF · 1)).length = N * N := by rw [List.length_map, hl]
        by_cases hbn : b.length = N
        · refine call_fn rfl rfl rfl (A.ok38 false false N hn (l.map (A.newF · 1)) (b.map (A.newF · 1)) lM (by rw [List.length_map, hbn])) ?_
          have hne : ((b.length : Int) != (N : Int)) = false := by simp [hbn]
          simp -implicitDefEqProofs (maxSteps := 10000000) only [lb, hne, rkA, rkB, stepA, valA, simprocAttr]
          refine call_fn rfl rfl rfl (A.ok40 N hn false (l.map (A.newF · 1)) lM) ?_
          simp -implicitDefEqProofs (maxSteps := 10000000) only [rkA, rkB, stepA, valA, simprocAttr]
          have lX := A.solveP_len N (l.map (A.newF · 1)) (b.map (A.newF · 1)) N
          have lC : (A.clearF N (l.map (A.newF · 1))).length = N * N := by rw [A.clearF, gridP_length, Nat.add_zero]
          have h22 := A.ok41 false false N N (A.clearF N (l.map (A.newF · 1))) (A.solveP N (l.map (A.newF · 1)) (b.map (A.newF · 1)) N) (by omega)
          rw [if_pos ⟨right_nat hn hn lC, by rw [lX]⟩] at h22
          refine call_fn rfl rfl rfl (h22) ?_
          simp -implicitDefEqProofs (maxSteps := 10000000) only [rkA, rkB, stepA, valA, simprocAttr]
          have h29 := ok22 N N e l (by omega)
          rw [if_pos (right_nat hn hn hl)] at h29
          refine call_fn rfl rfl rfl (h29) ?_
          simp -implicitDefEqProofs (maxSteps := 10000000) only [rkA, rkB, stepA, valA, simprocAttr]
          refine call_fn rfl rfl rfl (ok43 eb b (by omega)) ?_
          simp -implicitDefEqProofs (maxSteps := 10000000) only [rkA, rkB, stepA, valA, simprocAttr]
          refine call_fn rfl rfl rfl (ok42 false false N hn (l.map (newF · 1)) (b.map (newF · 1)) (by rw [List.length_map, hl]) (by rw [List.length_map, hbn])) ?_
          have hW := wth_of (solve_rl (whole_rl (few_small' hs)) (whole_rl (few_small' hsb)) N N) (solve_snd _ _ _ _) (solveA_snd _ _ _ _)
          have lZ := solveP_len N (l.map (newF · 1)) (b.map (newF · 1)) N
          have hY : ∀ k, k < N → ((A.applyF N N (A.clearF N (l.map (A.newF · 1))) (A.solveP N (l.map (A.newF · 1)) (b.map (A.newF · 1)) N)).getD k A.dz).bad = false → (A.applyF N N (A.clearF N (l.map (A.newF · 1))) (A.solveP N (l.map (A.newF · 1)) (b.map (A.newF · 1)) N)).getD k A.dz = A.newF (b.getD k 0) 1 := fun k hk h => by
            have hbk : (b.map (A.newF · 1)).getD k A.dz = A.newF (b.getD k 0) 1 := A.getD_newF (by omega) _
            have := A.solve_is hn lM hk (by
              rw [hbk]
              have hk' := small_get hsb k
              exact (A.whole_is (by unfold A.few; omega)).1) h
            rw [this, hbk]
          have lY : (A.applyF N N (A.clearF N (l.map (A.newF · 1))) (A.solveP N (l.map (A.newF · 1)) (b.map (A.newF · 1)) N)).length = N := by
            simp [A.applyF, A.allF]
          generalize A.applyF N N (A.clearF N (l.map (A.newF · 1))) (A.solveP N (l.map (A.newF · 1)) (b.map (A.newF · 1)) N) = Y at *
          generalize A.solveP N (l.map (A.newF · 1)) (b.map (A.newF · 1)) N = X at *
          generalize solveP N (l.map (newF · 1)) (b.map (newF · 1)) N = Z at *
          have lY' : (A.frs Y).length = N := by simp [lY]
          have lZ' : (frs Z).length = N := by simp [lZ]
          simp -implicitDefEqProofs (maxSteps := 10000000) only [lY', lZ', bne_self_eq_false, rkA, rkB, stepA, valA, simprocAttr]
          refine wp_loop (fun m s => ∃ k : Nat, k + m = N ∧ s = ⟨[jk, .v (.sl eb (b.map num)), jk, jk, jk, jk, jk, jk, jk, .v (.sl false (A.frs X)), jk, jk, jk, .v (.sl false (A.frs Y)), jk, jk, jk, .v (.sl false (frs Z)), jk, jk, jk, jk, jk, jk, jk, jk, jk, jk, jk, jk, jk, jk, jk, jk, jk, jk, jk, jk, jk, jk, jk, jk, jk, jk, jk, jk, jk, jk, jk, jk, jk, jk, jk, jk, jk, jk, jk, jk, jk, jk, jk, jk, jk, jk, jk, jk, jk, jk, jk, jk, jk, jk, jk, jk, jk, jk, jk, jk, jk, jk, jk, jk, jk, jk, jk, jk, jk, jk, jk, jk, jk, jk, jk, jk, jk, jk, jk, jk, jk, jk, jk, jk, jk, jk, jk, jk, .v (num N), nt k, jk, jk, jk, jk, jk, jk, jk, jk, jk, jk, jk, jk, jk, jk, jk, jk, jk, jk, jk, jk, jk, jk, jk, jk, jk, jk, jk, jk, jk, jk, jk, jk, jk, jk, jk, jk, jk, jk, jk, jk, jk, jk, jk, jk, jk, jk, jk, jk, jk, jk, jk, jk, jk, jk],
            [(7, [.v (num N), .v (num N), .v (.sl false (A.frs (l.map (A.newF · 1))))]), (11, [.v (num N), .v (num N), .v (.sl false (A.frs (A.clearF N (l.map (A.newF · 1)))))]), (15, [.v (num N), .v (num N), .v (.sl false (frs (l.map (newF · 1))))])], [], [(3007, 0), (3011, 0), (3015, 0)], [], 0, nomem⟩) N ?_ ?_
          · simp -implicitDefEqProofs (maxSteps := 10000000) only [rkA, rkB, stepA, valA, simprocAttr]
            exact ⟨0, by simp, rfl⟩
          rintro m s ⟨k, hk, rfl⟩
          simp -implicitDefEqProofs (maxSteps := 10000000) only [rkA, rkB, stepA, valA, simprocAttr]
          refine gB_dec ?_ ?_ <;> intro hc <;> simp -implicitDefEqProofs (maxSteps := 10000000) only [hc, rkA, rkB, stepA, valA, simprocAttr]
          · have hlt : k < N := by omega
            have h0 : (0 : Int) ≤ (k : Int) := by omega
            have gX : (A.frs X)[k]? = some (A.frV X[k]) := by simp [lX, hlt]
            have gY : (A.frs Y)[k]? = some (A.frV Y[k]) := by simp [lY, hlt]
            have gZ : (frs Z)[k]? = some (frV Z[k]) := by simp [lZ, hlt]
            have gb : (b.map num)[k]? = some (num b[k]) := by simp [hbn, hlt]
            have hYk := hY k hlt
            rw [List.getD_eq_getElem?_getD, List.getElem?_eq_getElem (by omega), Option.getD_some, List.getD_eq_getElem?_getD, List.getElem?_eq_getElem (by omega), Option.getD_some] at hYk
            have hWk := hW.2 k (by omega) (by omega)
            have hw := wrapped (x := (k : Int) + 1) (by omega) (by omega)
            simp -implicitDefEqProofs (maxSteps := 10000000) only [h0, Int.toNat_natCast, gX, rkA, rkB, stepA, valA, simprocAttr]
            cases hxb : (X[k]).bad with
            | true =>
              simp -implicitDefEqProofs (maxSteps := 10000000) only [rkA, rkB, stepA, valA, simprocAttr]
              refine call_fn rfl rfl rfl (ok17) ?_
              simp -implicitDefEqProofs (maxSteps := 10000000) only [rkA, rkB, stepA, valA, simprocAttr]
            | false =>
              simp -implicitDefEqProofs (maxSteps := 10000000) only [h0, Int.toNat_natCast, gY, rkA, rkB, stepA, valA, simprocAttr]
              have fin : (Z[k].bad = true ∨ (Z[k].bad = false ∧ enclB Z[k] X[k].n X[k].d = true)) := by
                cases hzb : Z[k].bad with
                | true => exact .inl rfl
                | false => exact .inr ⟨rfl, hWk hxb hzb⟩
              cases hyb : (Y[k]).bad with
              | true =>
                simp -implicitDefEqProofs (maxSteps := 10000000) only [h0, Int.toNat_natCast, gZ, rkA, rkB, stepA, valA, simprocAttr]
                rcases fin with hzb | ⟨hzb, he⟩
                · simp -implicitDefEqProofs (maxSteps := 10000000) only [hzb, hw, rkA, rkB, stepA, valA, simprocAttr]
                  refine loopK_of (m' := m - 1) (by omega) ?_
                  simp -implicitDefEqProofs (maxSteps := 10000000) only [rkA, rkB, stepA, valA, simprocAttr]
                  exact ⟨k + 1, by omega, by simp only [Int.natCast_add, Int.natCast_one]⟩
                · simp -implicitDefEqProofs (maxSteps := 10000000) only [hzb, h0, Int.toNat_natCast, gZ, gX, rkA, rkB, stepA, valA, simprocAttr]
                  have h31 := ok25 Z[k] X[k].n X[k].d
                  rw [he] at h31
                  simp only [frV, hzb] at h31
                  refine call_fn rfl rfl rfl (h31) ?_
                  simp -implicitDefEqProofs (maxSteps := 10000000) only [hw, rkA, rkB, stepA, valA, simprocAttr]
                  refine loopK_of (m' := m - 1) (by omega) ?_
                  simp -implicitDefEqProofs (maxSteps := 10000000) only [rkA, rkB, stepA, valA, simprocAttr]
                  exact ⟨k + 1, by omega, by simp only [Int.natCast_add, Int.natCast_one]⟩
              | false =>
                have hyk := hYk hyb
                simp -implicitDefEqProofs (maxSteps := 10000000) only [h0, Int.toNat_natCast, gY, gb, rkA, rkB, stepA, valA, simprocAttr]
                refine call_fn rfl rfl rfl (A.ok44 b[k] 1) ?_
                simp -implicitDefEqProofs (maxSteps := 10000000) only [A.eq_fr, ← hyk, h0, Int.toNat_natCast, gZ, rkA, rkB, stepA, valA, simprocAttr]
                rcases fin with hzb | ⟨hzb, he⟩
                · simp -implicitDefEqProofs (maxSteps := 10000000) only [hzb, hw, rkA, rkB, stepA, valA, simprocAttr]
                  refine loopK_of (m' := m - 1) (by omega) ?_
                  simp -implicitDefEqProofs (maxSteps := 10000000) only [rkA, rkB, stepA, valA, simprocAttr]
                  exact ⟨k + 1, by omega, by simp only [Int.natCast_add, Int.natCast_one]⟩
                · simp -implicitDefEqProofs (maxSteps := 10000000) only [hzb, h0, Int.toNat_natCast, gZ, gX, rkA, rkB, stepA, valA, simprocAttr]
                  have h31 := ok25 Z[k] X[k].n X[k].d
                  rw [he] at h31
                  simp only [frV, hzb] at h31
                  refine call_fn rfl rfl rfl (h31) ?_
                  simp -implicitDefEqProofs (maxSteps := 10000000) only [hw, rkA, rkB, stepA, valA, simprocAttr]
                  refine loopK_of (m' := m - 1) (by omega) ?_
                  simp -implicitDefEqProofs (maxSteps := 10000000) only [rkA, rkB, stepA, valA, simprocAttr]
                  exact ⟨k + 1, by omega, by simp only [Int.natCast_add, Int.natCast_one]⟩
          · refine call_fn rfl rfl rfl (ok17) ?_
            simp -implicitDefEqProofs (maxSteps := 10000000) only [rkA, rkB, stepA, valA, simprocAttr]
        · have hne : ((b.length : Int) != (N : Int)) = true := by
            have : ¬ (b.length : Int) = (N : Int) := by omega
            simpa using this
          refine call_fn rfl rfl rfl (A.ok38n false false N N (l.map (A.newF · 1)) (b.map (A.newF · 1)) (fun h => by have := h.2.2; rw [List.length_map] at this; omega)) ?_
          simp -implicitDefEqProofs (maxSteps := 10000000) only [lb, hne, rkA, rkB, stepA, valA, simprocAttr]
          refine call_fn rfl rfl rfl (ok17) ?_
          simp -implicitDefEqProofs (maxSteps := 10000000) only [rkA, rkB, stepA, valA, simprocAttr]
end Go.Proofs.YtbflmeomkfjikaaGreat.A.E

