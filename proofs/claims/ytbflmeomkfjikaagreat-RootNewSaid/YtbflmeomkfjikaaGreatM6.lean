import Derived.Test.YtbflmeomkfjikaaGreatM5
import Derived.Test.YtbflmeomkfjikaaGreatM4
import Derived.Shelf.Spec.SlicesGrow
set_option linter.unusedVariables false
set_option linter.unusedSimpArgs false
set_option maxRecDepth 100000
namespace Go.Proofs.YtbflmeomkfjikaaGreat.A
open Go Go.RowKit Go.Shelf

/-! ### Rows in memory: each in a block of its own -/
abbrev rawC (c cap : Nat → Nat) (w i : Nat) : PV := .s (.slice (some ⟨c i, 0, none⟩) w (cap i))
abbrev jnk (q : Nat) : List PV := List.replicate q .junk
structure RowsC (m : Mem) (c q : Nat → Nat) (n w : Nat) (M : Nat → Nat → Fr) : Prop where
  row : ∀ i, i < n → m (c i) = some (flat (frs (rowM w M i)) ++ jnk (q i))
  inj : ∀ i j, i < n → j < n → c i = c j → i = j
theorem ldM_frj {l : List Fr} {k : Nat} {x : Fr} {post : List PV} (h : l[k]? = some x) : ldM true 3 (k * 3) (flat (frs l) ++ post) = some (.v (frV x)) :=
  ldM_elem (els := frs l) (sz := 3) (k := k) (e := frV x) (frs_cells l) (by simp [h]) post
theorem stM_frj {l : List Fr} {k : Nat} {x : Fr} {post : List PV} (h : k < l.length) : stM 3 (k * 3) (flat (frs l) ++ post) (frV x) = some (flat (frs (l.set k x)) ++ post) := by
  have := stM_elem (els := frs l) (sz := 3) (k := k) (e := frV x) (frs_cells l) (by simpa using h) rfl rfl post
  rw [this]
  simp [frs, List.map_set]
theorem frs_ok (l : List Fr) : (frs l).all (fun e => e.ok && e.cells.length == 3) = true := by
  rw [List.all_eq_true]
  intro e he
  obtain ⟨x, _, rfl⟩ := List.mem_map.1 he
  rfl
/-! ### One column folded -/
def xF (w : Nat) (M : Nat → Nat → Fr) (k : Nat) : List Fr := (rowM w M k).drop k
def normF (w : Nat) (M : Nat → Nat → Fr) (k : Nat) : Fr := if 0 ≤ signF (M k k) then negF (rootF (dotF (xF w M k) (xF w M k))) else rootF (dotF (xF w M k) (xF w M k))
def vA (w : Nat) (M : Nat → Nat → Fr) (k c : Nat) : Fr := if c = k then subF (M k k) (normF w M k) else M k c
def vF (w : Nat) (M : Nat → Nat → Fr) (k : Nat) : List Fr := ((List.range w).map (vA w M k)).drop k
def tF (w : Nat) (M : Nat → Nat → Fr) (k i : Nat) : Fr := divF (addF (dotF ((rowM w M i).drop k) (vF w M k)) (dotF ((rowM w M i).drop k) (vF w M k))) (dotF (vF w M k) (vF w M k))
def foldTo (w : Nat) (M : Nat → Nat → Fr) (k j : Nat) : Nat → Nat → Fr := fun a c => if k < a ∧ a < j ∧ k ≤ c then subF (M a c) (mulF (vA w M k c) (tF w M k a)) else M a c
/-- One row more is folded. -/
theorem RowsC.fold {mm : Mem} {c q : Nat → Nat} {n w k i : Nat} {M : Nat → Nat → Fr} (h : RowsC mm c q n w (foldTo w M k i)) (hi : i < n) (hki : k < i) :
    RowsC (mm.put (c i) (flat (frs (rowM w (foldTo w M k (i + 1)) i)) ++ jnk (q i))) c q n w (foldTo w M k (i + 1)) := ⟨fun a ha => by
  by_cases e : a = i
  · subst e
    rw [Mem.put_same]
  · rw [Mem.put_other _ _ (fun e' => e (h.inj a i ha hi e')), h.row a ha]
    congr 3
    unfold rowM
    congr 1
    refine List.map_congr_left fun j _ => ?_
    unfold foldTo
    by_cases h1 : k < a ∧ a < i ∧ k ≤ j
    · rw [if_pos h1, if_pos (by omega)]
    · rw [if_neg h1, if_neg (by omega)], h.inj⟩
theorem RowsC.congr {mm : Mem} {c q : Nat → Nat} {n w : Nat} {M N : Nat → Nat → Fr} (h : RowsC mm c q n w M) (hMN : ∀ a j, a < n → j < w → M a j = N a j) : RowsC mm c q n w N := ⟨fun a ha => by
  have e : rowM w N a = rowM w M a := by
    unfold rowM
    exact List.map_congr_left fun j hj => (hMN a j ha (List.mem_range.1 hj)).symm
  rw [e]
  exact h.row a ha, h.inj⟩
theorem RowsC.store {mm : Mem} {c q : Nat → Nat} {n w : Nat} {M : Nat → Nat → Fr} (h : RowsC mm c q n w M) {i k : Nat} (hi : i < n) (hk : k < w) (x : Fr) :
    RowsC (mm.put (c i) (flat (frs ((rowM w M i).set k x)) ++ jnk (q i))) c q n w (setM M i k x) := ⟨fun j hj => by
  by_cases e : j = i
  · subst e
    rw [Mem.put_same, rowM_set hk]
  · rw [Mem.put_other _ _ (fun e' => e (h.inj j i hj hi e')), rowM_other e]
    exact h.row j hj, h.inj⟩
end Go.Proofs.YtbflmeomkfjikaaGreat.A


set_option linter.unusedVariables false
set_option linter.unusedSimpArgs false
set_option maxRecDepth 100000
namespace Go.Proofs.YtbflmeomkfjikaaGreat.A.E
open Go Go.RowKit Go.Shelf

structure RowsC (m : Mem) (c q : Nat → Nat) (n w : Nat) (M : Nat → Nat → Fr) : Prop where
  row : ∀ i, i < n → m (c i) = some (flat (frs (rowM w M i)) ++ jnk (q i))
  inj : ∀ i j, i < n → j < n → c i = c j → i = j
theorem ldM_frj {l : List Fr} {k : Nat} {x : Fr} {post : List PV} (h : l[k]? = some x) : ldM true 4 (k * 4) (flat (frs l) ++ post) = some (.v (frV x)) :=
  ldM_elem (els := frs l) (sz := 4) (k := k) (e := frV x) (frs_cells l) (by simp [h]) post
theorem stM_frj {l : List Fr} {k : Nat} {x : Fr} {post : List PV} (h : k < l.length) : stM 4 (k * 4) (flat (frs l) ++ post) (frV x) = some (flat (frs (l.set k x)) ++ post) := by
  have := stM_elem (els := frs l) (sz := 4) (k := k) (e := frV x) (frs_cells l) (by simpa using h) rfl rfl post
  rw [this]
  simp [frs, List.map_set]
theorem frs_ok (l : List Fr) : (frs l).all (fun e => e.ok && e.cells.length == 4) = true := by
  rw [List.all_eq_true]
  intro e he
  obtain ⟨x, _, rfl⟩ := List.mem_map.1 he
  rfl
def xF (w : Nat) (M : Nat → Nat → Fr) (k : Nat) : List Fr := (rowM w M k).drop k
def normF (w : Nat) (M : Nat → Nat → Fr) (k : Nat) : Fr := if 0 ≤ signF (M k k) then negF (rootF (dotF (xF w M k) (xF w M k))) else rootF (dotF (xF w M k) (xF w M k))
def vA (w : Nat) (M : Nat → Nat → Fr) (k c : Nat) : Fr := if c = k then subF (M k k) (normF w M k) else M k c
def vF (w : Nat) (M : Nat → Nat → Fr) (k : Nat) : List Fr := ((List.range w).map (vA w M k)).drop k
def tF (w : Nat) (M : Nat → Nat → Fr) (k i : Nat) : Fr := divF (addF (dotF ((rowM w M i).drop k) (vF w M k)) (dotF ((rowM w M i).drop k) (vF w M k))) (dotF (vF w M k) (vF w M k))
def foldTo (w : Nat) (M : Nat → Nat → Fr) (k j : Nat) : Nat → Nat → Fr := fun a c => if k < a ∧ a < j ∧ k ≤ c then subF (M a c) (mulF (vA w M k c) (tF w M k a)) else M a c
/-- One row more is folded. -/
theorem RowsC.fold {mm : Mem} {c q : Nat → Nat} {n w k i : Nat} {M : Nat → Nat → Fr} (h : RowsC mm c q n w (foldTo w M k i)) (hi : i < n) (hki : k < i) :
    RowsC (mm.put (c i) (flat (frs (rowM w (foldTo w M k (i + 1)) i)) ++ jnk (q i))) c q n w (foldTo w M k (i + 1)) := ⟨fun a ha => by
  by_cases e : a = i
  · subst e
    rw [Mem.put_same]
  · rw [Mem.put_other _ _ (fun e' => e (h.inj a i ha hi e')), h.row a ha]
    congr 3
    unfold rowM
    congr 1
    refine List.map_congr_left fun j _ => ?_
    unfold foldTo
    by_cases h1 : k < a ∧ a < i ∧ k ≤ j
    · rw [if_pos h1, if_pos (by omega)]
    · rw [if_neg h1, if_neg (by omega)], h.inj⟩
theorem RowsC.congr {mm : Mem} {c q : Nat → Nat} {n w : Nat} {M N : Nat → Nat → Fr} (h : RowsC mm c q n w M) (hMN : ∀ a j, a < n → j < w → M a j = N a j) : RowsC mm c q n w N := ⟨fun a ha => by
  have e : rowM w N a = rowM w M a := by
    unfold rowM
    exact List.map_congr_left fun j hj => (hMN a j ha (List.mem_range.1 hj)).symm
  rw [e]
  exact h.row a ha, h.inj⟩
theorem RowsC.store {mm : Mem} {c q : Nat → Nat} {n w : Nat} {M : Nat → Nat → Fr} (h : RowsC mm c q n w M) {i k : Nat} (hi : i < n) (hk : k < w) (x : Fr) :
    RowsC (mm.put (c i) (flat (frs ((rowM w M i).set k x)) ++ jnk (q i))) c q n w (setM M i k x) := ⟨fun j hj => by
  by_cases e : j = i
  · subst e
    rw [Mem.put_same, rowM_set hk]
  · rw [Mem.put_other _ _ (fun e' => e (h.inj j i hj hi e')), rowM_other e]
    exact h.row j hj, h.inj⟩
end Go.Proofs.YtbflmeomkfjikaaGreat.A.E


set_option linter.unusedVariables false
set_option linter.unusedSimpArgs false
set_option maxRecDepth 100000
namespace Go.Proofs.YtbflmeomkfjikaaGreat.A
open Go Go.RowKit Go.Shelf

/-! ### No diagonal below 0 -/
end Go.Proofs.YtbflmeomkfjikaaGreat.A


set_option linter.unusedVariables false
set_option linter.unusedSimpArgs false
set_option maxRecDepth 100000
namespace Go.Proofs.YtbflmeomkfjikaaGreat.A.E
open Go Go.RowKit Go.Shelf

end Go.Proofs.YtbflmeomkfjikaaGreat.A.E


set_option linter.unusedVariables false
set_option linter.unusedSimpArgs false
set_option maxRecDepth 100000
namespace Go.Proofs.YtbflmeomkfjikaaGreat.A
open Go Go.RowKit Go.Shelf

theorem wp_rfM' {P : Program} {Q : XA → St → Prop} {tm : List TV} {bx : List (Nat × List TV)} {ro : List (Nat × List PV)} {tk : List (Nat × Nat)} {sv : List (List TV)} {it : Nat} {mm : Mem} {f : Operand} {ps : Array Nat} {g : List Gh} {a b : Hint} {x y : Code} {p : PV} {items : List Item} (hf : ev ⟨tm, bx, ro, tk, sv, it, mm⟩ f = some (.v p)) (hI : IterOkM P p items)
    (Inv : List (List TV) → Nat → St → Prop) (h0 : opt (ghs g ⟨[], bx, ro, tk, tm :: sv, it, mm⟩) (Inv (tm :: sv) 0))
    (hr : ∀ (i : Nat) (x' : Item) (p : List PV) (m : Mem) (s' : St) (R : St → Prop), items[i]? = some x' → Inv (tm :: sv) i s' → x' p m → (∀ c, (m c).isSome = true → s'.mm c = none) → (∀ s1, Inv (tm :: sv) (i + 1) s1 → R s1) → p.length = ps.toList.length ∧ wpA P none (acOf a x) (rfK P (acOf b y) (roundK g R Q)) (enterR ps.toList p { s' with mm := s'.mm.join m }))
    (hq : ∀ s', Inv (tm :: sv) items.length s' → Q .normal (leaveR s')) :
    wpA P none (acOf (.f g a b) (.rangeFunc f ps x y)) Q ⟨tm, bx, ro, tk, sv, it, mm⟩ := wp_rfM hf hI (Inv (tm :: sv)) h0 hr hq
theorem fits_raw (c cap : Nat → Nat) (w i : Nat) (x : PV) (hx : ∃ b k j, x = .s (.slice b k j)) (hi : i ≤ 100) : fits 1 24 ((List.range i).map (rawC c cap w)) [x] = true := by
  obtain ⟨b, k, j, rfl⟩ := hx
  have h1 : ((List.range i).map (rawC c cap w)).all (fun e => e.ok && e.cells.length == 1) = true := by
    rw [List.all_eq_true]
    intro e he
    obtain ⟨a, _, rfl⟩ := List.mem_map.1 he
    rfl
  unfold fits
  rw [h1]
  simp [PV.ok, PV.cells]
  exact ⟨rfl, by omega⟩
theorem raw_grow (c cap : Nat → Nat) (w i b z : Nat) : (List.range i).map (rawC c cap w) ++ [.s (.slice (some ⟨b, 0, none⟩) w z)] = (List.range (i + 1)).map (rawC (fun j => if j = i then b else c j) (fun j => if j = i then z else cap j) w) := by
  rw [List.range_succ, List.map_append, List.map_singleton]
  congr 1
  · refine List.map_congr_left fun j hj => ?_
    have := List.mem_range.1 hj
    simp only [rawC, show ¬ j = i by omega, if_false]
  · simp only [rawC, if_true]
theorem RowsC.grow {mm : Mem} {c q : Nat → Nat} {i w b z : Nat} {M : Nat → Nat → Fr} (h : RowsC mm c q i w M) (hb : mm b = none) :
    RowsC (mm.put b (flat (frs (rowM w M i)) ++ jnk z)) (fun j => if j = i then b else c j) (fun j => if j = i then z else q j) (i + 1) w M := by
  have hcb : ∀ j, j < i → c j ≠ b := fun j hj e => by have := h.row j hj; rw [e, hb] at this; cases this
  refine ⟨fun j hj => ?_, fun j k hj hk => ?_⟩
  · by_cases e : j = i
    · subst e
      simp only [if_true]
      rw [Mem.put_same]
    · simp only [e, if_false]
      rw [Mem.put_other _ _ (hcb j (by omega))]
      exact h.row j (by omega)
  · by_cases e : j = i <;> by_cases e' : k = i
    · intro _; omega
    · simp only [e, e', if_true, if_false]
      exact fun h1 => absurd h1.symm (hcb k (by omega))
    · simp only [e, e', if_true, if_false]
      exact fun h1 => absurd h1 (hcb j (by omega))
    · simp only [e, e', if_false]
      exact h.inj j k (by omega) (by omega)
/-! ### All columns folded -/
def startF (n w : Nat) (l : List Fr) : Nat → Nat → Fr := fun i c => atF n w l i c
theorem row_start {n w : Nat} {l : List Fr} (hr : right n w l.length = true) {i : Nat} (hi : i < n) : rowF n w l i = rowM w (startF n w l) i := by
  rw [rowF_eq ⟨0, 0, false⟩ hr (by simpa using hi), Int.toNat_natCast, rowM]
  refine List.map_congr_left fun j hj => ?_
  rw [startF, atF_eq hr (by simpa using hi) (by simpa using hj), Int.toNat_natCast]
end Go.Proofs.YtbflmeomkfjikaaGreat.A


set_option linter.unusedVariables false
set_option linter.unusedSimpArgs false
set_option maxRecDepth 100000
namespace Go.Proofs.YtbflmeomkfjikaaGreat.A.E
open Go Go.RowKit Go.Shelf

theorem RowsC.grow {mm : Mem} {c q : Nat → Nat} {i w b z : Nat} {M : Nat → Nat → Fr} (h : RowsC mm c q i w M) (hb : mm b = none) :
    RowsC (mm.put b (flat (frs (rowM w M i)) ++ jnk z)) (fun j => if j = i then b else c j) (fun j => if j = i then z else q j) (i + 1) w M := by
  have hcb : ∀ j, j < i → c j ≠ b := fun j hj e => by have := h.row j hj; rw [e, hb] at this; cases this
  refine ⟨fun j hj => ?_, fun j k hj hk => ?_⟩
  · by_cases e : j = i
    · subst e
      simp only [if_true]
      rw [Mem.put_same]
    · simp only [e, if_false]
      rw [Mem.put_other _ _ (hcb j (by omega))]
      exact h.row j (by omega)
  · by_cases e : j = i <;> by_cases e' : k = i
    · intro _; omega
    · simp only [e, e', if_true, if_false]
      exact fun h1 => absurd h1.symm (hcb k (by omega))
    · simp only [e, e', if_true, if_false]
      exact fun h1 => absurd h1 (hcb j (by omega))
    · simp only [e, e', if_false]
      exact h.inj j k (by omega) (by omega)
def startF (n w : Nat) (l : List Fr) : Nat → Nat → Fr := fun i c => atF n w l i c
theorem row_start {n w : Nat} {l : List Fr} (hr : right n w l.length = true) {i : Nat} (hi : i < n) : rowF n w l i = rowM w (startF n w l) i := by
  rw [rowF_eq ⟨0, 0, 0, false⟩ hr (by simpa using hi), Int.toNat_natCast, rowM]
  refine List.map_congr_left fun j hj => ?_
  rw [startF, atF_eq hr (by simpa using hi) (by simpa using hj), Int.toNat_natCast]
end Go.Proofs.YtbflmeomkfjikaaGreat.A.E



set_option linter.unusedVariables false
set_option linter.unusedSimpArgs false
set_option maxRecDepth 100000
namespace Go.Proofs.YtbflmeomkfjikaaGreat.A
open Go Go.RowKit Go.Shelf

/-! ### root.column: one column of a triangle, behind a measurement -/
/-- The rows, as far as row t; what was gathered. -/
def colM (M : Nat → Nat → Fr) (E : Nat → Fr) (j : Nat) (d c : Fr) (t : Nat) : Nat → Nat → Fr := fun i k => if k = j ∧ j ≤ i ∧ i < t then subF (mulF (M i j) d) (mulF (E i) c) else M i k
def colE (M : Nat → Nat → Fr) (E : Nat → Fr) (j : Nat) (w : Fr) (t : Nat) : Nat → Fr := fun i => if j ≤ i ∧ i < t then addF (E i) (mulF (M i j) w) else E i
def rootD (a b : Fr) : Fr := rootF (divF a b)
def rootC (w a b : Fr) : Fr := divF w (rootF (mulF a b))
theorem colM_first (M : Nat → Nat → Fr) (E : Nat → Fr) (j : Nat) (d c : Fr) : colM M E j d c j = M := by
  funext i k
  unfold colM
  rw [if_neg (by omega)]
theorem colE_first (M : Nat → Nat → Fr) (E : Nat → Fr) (j : Nat) (w : Fr) : colE M E j w j = E := by
  funext i
  unfold colE
  rw [if_neg (by omega)]
theorem colM_step (M : Nat → Nat → Fr) (E : Nat → Fr) (j : Nat) (d c : Fr) {t : Nat} (h : j ≤ t) : setM (colM M E j d c t) t j (subF (mulF (M t j) d) (mulF (E t) c)) = colM M E j d c (t + 1) := by
  funext i k
  unfold setM colM
  by_cases e : i = t ∧ k = j
  · obtain ⟨rfl, rfl⟩ := e
    rw [if_pos ⟨rfl, rfl⟩, if_pos ⟨rfl, h, by omega⟩]
  · rw [if_neg e]
    by_cases h1 : k = j ∧ j ≤ i ∧ i < t
    · rw [if_pos h1, if_pos (by omega)]
    · rw [if_neg h1, if_neg (by omega)]
theorem colE_step (M : Nat → Nat → Fr) (E : Nat → Fr) (j : Nat) (w : Fr) {t n : Nat} (h : j ≤ t) (ht : t < n) : ((List.range n).map (colE M E j w t)).set t (addF (E t) (mulF (M t j) w)) = (List.range n).map (colE M E j w (t + 1)) := by
  apply List.ext_getElem?
  intro i
  rw [List.getElem?_set]
  by_cases hi : i < n
  · rw [List.getElem?_map, List.getElem?_map, List.getElem?_range hi]
    by_cases e : t = i
    · subst e
      rw [if_pos rfl, if_pos (by simpa using ht)]
      simp only [Option.map_some]
      unfold colE
      rw [if_pos ⟨h, by omega⟩]
    · rw [if_neg e]
      simp only [Option.map_some]
      unfold colE
      by_cases h1 : j ≤ i ∧ i < t
      · rw [if_pos h1, if_pos (by omega)]
      · rw [if_neg h1, if_neg (by omega)]
  · rw [List.getElem?_eq_none (by simp; omega), List.getElem?_eq_none (by simp; omega), if_neg (by omega)]
/-- Rows lie as they lay, whatever is written elsewhere. -/
theorem RowsC.other {mm : Mem} {c q : Nat → Nat} {n w b : Nat} {M : Nat → Nat → Fr} {x : List PV} (h : RowsC mm c q n w M) (hb : ∀ i, i < n → c i ≠ b) : RowsC (mm.put b x) c q n w M :=
  ⟨fun i hi => by rw [Mem.put_other _ _ (hb i hi)]; exact h.row i hi, h.inj⟩
set_option maxHeartbeats 4000000 in
theorem okm120 (ex : Bool) (n j : Nat) (hj : j < n) (hn : n ≤ 16) (M : Nat → Nat → Fr) (E : Nat → Fr) (w a b : Fr) (c cap q : Nat → Nat) (hcap : ∀ i, i < n → n ≤ cap i) (eb : Nat) (m : Mem) (hm : RowsC m c q n n M) (he : m eb = some (flat (frs ((List.range n).map E)))) (hce : ∀ i, i < n → c i ≠ eb) :
    OkM Tryz.prog 120 [.sl ex ((List.range n).map (rawC c cap n)), num j, frV w, frV a, frV b, .s (.slice (some ⟨eb, 0, none⟩) n n)] m
      (fun _ m' => RowsC m' c q n n (colM M E j (rootD a b) (rootC w a b) n) ∧ m' eb = some (flat (frs ((List.range n).map (colE M E j w n))))) := by
  refine okm_fn mixed Tryz.func120 (code := ?_) (h := h120) ?_ k120 ?_
  rotate_left
  · exact rfl
  unfold h120 initS
  simp -implicitDefEqProofs (maxSteps := 10000000) only [rkA, rkB, stepA, valA, simprocAttr, Tryz.ntmps120, Tryz.results120]
  refine call_meth rfl rfl methDiv (ok211 _ _) ?_
  simp -implicitDefEqProofs (maxSteps := 10000000) only [rkA, rkB, stepA, valA, simprocAttr]
  refine call_meth rfl rfl methRoot (ok216 _) ?_
  simp -implicitDefEqProofs (maxSteps := 10000000) only [rkA, rkB, stepA, valA, simprocAttr]
  refine call_meth rfl rfl methMul (ok213 _ _) ?_
  simp -implicitDefEqProofs (maxSteps := 10000000) only [rkA, rkB, stepA, valA, simprocAttr]
  refine call_meth rfl rfl methRoot (ok216 _) ?_
  simp -implicitDefEqProofs (maxSteps := 10000000) only [rkA, rkB, stepA, valA, simprocAttr]
  refine call_meth rfl rfl methDiv (ok211 _ _) ?_
  simp -implicitDefEqProofs (maxSteps := 10000000) only [rkA, rkB, stepA, valA, simprocAttr]
  have eD : rootF (divF a b) = rootD a b := rfl
  have eC : divF w (rootF (mulF a b)) = rootC w a b := rfl
  simp only [eD, eC]
  refine wp_loop (fun z s => ∃ (t : Nat) (mm : Mem), j ≤ t ∧ t + z = n ∧ RowsC mm c q n n (colM M E j (rootD a b) (rootC w a b) t) ∧ mm eb = some (flat (frs ((List.range n).map (colE M E j w t)))) ∧
    s = ⟨[.v (.sl ex ((List.range n).map (rawC c cap n))), .v (num j), jk, jk, jk, .v (.s (.slice (some ⟨eb, 0, none⟩) n n)), jk, jk, .ptr 8 0, jk, jk, jk, .ptr 12 0, .ptr 13 0, nt t, jk, jk, jk, jk, jk, jk, jk, jk, jk, jk, jk, jk, jk, jk, jk, jk, jk, jk, jk, jk, jk, jk, jk, jk, jk, jk, jk, jk, jk, jk, jk, jk, jk, jk, jk, jk, jk, jk, jk, jk, jk, jk, jk, jk, jk, jk, jk, jk, jk, jk, jk, jk, jk, jk, jk, jk, jk, jk, jk, jk, jk, jk],
      [(8, [.v (num w.n), .v (num w.d), .v (tru w.bad)]), (9, [.v (num a.n), .v (num a.d), .v (tru a.bad)]), (10, [.v (num b.n), .v (num b.d), .v (tru b.bad)]), (12, [.v (num (rootD a b).n), .v (num (rootD a b).d), .v (tru (rootD a b).bad)]), (13, [.v (num (rootC w a b).n), .v (num (rootC w a b).d), .v (tru (rootC w a b).bad)])], [], [], [], 0, mm⟩) (n - j) ?_ ?_
  · simp -implicitDefEqProofs (maxSteps := 10000000) only [rkA, rkB, stepA, valA, simprocAttr]
    exact ⟨j, m, by omega, by omega, by rw [colM_first]; exact hm, by rw [colE_first]; exact he, rfl⟩
  clear hm he m
  rintro z s ⟨t, mm, hjt, htz, hM, hE, rfl⟩
  have li : ((List.range n).map (rawC c cap n)).length = n := by simp
  simp -implicitDefEqProofs (maxSteps := 10000000) only [li, rkA, rkB, stepA, valA, simprocAttr]
  refine gB_dec ?_ ?_ <;> intro hc <;> simp -implicitDefEqProofs (maxSteps := 10000000) only [hc, rkA, rkB, stepA, valA, simprocAttr]
  · have hi : t < n := by omega
    have h0t : (0 : Int) ≤ (t : Int) := by omega
    have h0j : (0 : Int) ≤ (j : Int) := by omega
    have hjn : (j : Int) < (n : Int) := by omega
    have gi : ((List.range n).map (rawC c cap n))[t]? = some (rawC c cap n t) := by simp [hi]
    have hrow := hM.row t hi
    have gM : colM M E j (rootD a b) (rootC w a b) t t j = M t j := by unfold colM; rw [if_neg (by omega)]
    have gE : colE M E j w t t = E t := by unfold colE; rw [if_neg (by omega)]
    have hld := ldM_frj (post := jnk (q t)) (rowM_get (n := n) (M := colM M E j (rootD a b) (rootC w a b) t) (i := t) (k := j) hj)
    have hle : ((List.range n).map (colE M E j w t))[t]? = some (E t) := by simp [hi, gE]
    have hlde := ldM_fr hle
    rw [gM] at hld
    simp -implicitDefEqProofs (maxSteps := 10000000) only [h0t, h0j, hjn, Int.toNat_natCast, gi, addr_add, Nat.zero_add, hrow, hld, rkA, rkB, stepA, valA, simprocAttr]
    refine call_meth rfl rfl methMul (ok213 _ _) ?_
    have hte : (t : Int) < (n : Int) := by omega
    simp -implicitDefEqProofs (maxSteps := 10000000) only [h0t, hte, Int.toNat_natCast, addr_add, Nat.zero_add, hE, hlde, rkA, rkB, stepA, valA, simprocAttr]
    refine call_meth rfl rfl methMul (ok213 _ _) ?_
    simp -implicitDefEqProofs (maxSteps := 10000000) only [rkA, rkB, stepA, valA, simprocAttr]
    refine call_meth rfl rfl methSub (ok218 _ _) ?_
    have hst := stM_frj (l := rowM n (colM M E j (rootD a b) (rootC w a b) t) t) (k := j) (x := subF (mulF (M t j) (rootD a b)) (mulF (E t) (rootC w a b))) (post := jnk (q t)) (by rw [rowM_length]; exact hj)
    simp -implicitDefEqProofs (maxSteps := 10000000) only [h0j, hjn, Int.toNat_natCast, addr_add, Nat.zero_add, hrow, hst, rkA, rkB, stepA, valA, simprocAttr]
    have hM2 := hM.store hi hj (subF (mulF (M t j) (rootD a b)) (mulF (E t) (rootC w a b)))
    rw [colM_step M E j (rootD a b) (rootC w a b) hjt] at hM2
    have hE2 : (mm.put (c t) (flat (frs ((rowM n (colM M E j (rootD a b) (rootC w a b) t) t).set j (subF (mulF (M t j) (rootD a b)) (mulF (E t) (rootC w a b))))) ++ jnk (q t))) eb = some (flat (frs ((List.range n).map (colE M E j w t)))) := by
      rw [Mem.put_other _ _ (fun e => hce t hi e.symm)]
      exact hE
    generalize mm.put (c t) _ = mm2 at hM2 hE2 ⊢
    simp -implicitDefEqProofs (maxSteps := 10000000) only [h0t, hte, Int.toNat_natCast, addr_add, Nat.zero_add, hE2, hlde, rkA, rkB, stepA, valA, simprocAttr]
    refine call_meth rfl rfl methMul (ok213 _ _) ?_
    simp -implicitDefEqProofs (maxSteps := 10000000) only [rkA, rkB, stepA, valA, simprocAttr]
    refine call_meth rfl rfl methAdd (ok210 _ _) ?_
    have hse := stM_frj (l := (List.range n).map (colE M E j w t)) (k := t) (x := addF (E t) (mulF (M t j) w)) (post := []) (by simp; exact hi)
    rw [List.append_nil, List.append_nil, colE_step M E j w hjt hi] at hse
    have hw' := wrapped (x := (t : Int) + 1) (by omega) (by omega)
    simp -implicitDefEqProofs (maxSteps := 10000000) only [h0t, hte, Int.toNat_natCast, addr_add, Nat.zero_add, hE2, hse, hw', rkA, rkB, stepA, valA, simprocAttr]
    refine loopK_of (m' := z - 1) (by omega) ?_
    simp -implicitDefEqProofs (maxSteps := 10000000) only [rkA, rkB, stepA, valA, simprocAttr]
    refine ⟨t + 1, mm2.put eb (flat (frs ((List.range n).map (colE M E j w (t + 1))))), by omega, by omega, ?_, Mem.put_same _ _ _, by simp only [Int.natCast_add, Int.natCast_one]⟩
    exact hM2.other (fun i hi' => hce i hi')
  · have e : t = n := by omega
    subst e
    exact ⟨_, rfl, hM, hE⟩
end Go.Proofs.YtbflmeomkfjikaaGreat.A



set_option linter.unusedVariables false
set_option linter.unusedSimpArgs false
set_option maxRecDepth 100000
namespace Go.Proofs.YtbflmeomkfjikaaGreat.A.E
open Go Go.RowKit Go.Shelf

/-- The rows, as far as row t; what was gathered. -/
def colM (M : Nat → Nat → Fr) (E : Nat → Fr) (j : Nat) (d c : Fr) (t : Nat) : Nat → Nat → Fr := fun i k => if k = j ∧ j ≤ i ∧ i < t then subF (mulF (M i j) d) (mulF (E i) c) else M i k
def colE (M : Nat → Nat → Fr) (E : Nat → Fr) (j : Nat) (w : Fr) (t : Nat) : Nat → Fr := fun i => if j ≤ i ∧ i < t then addF (E i) (mulF (M i j) w) else E i
def rootD (a b : Fr) : Fr := rootF (divF a b)
def rootC (w a b : Fr) : Fr := divF w (rootF (mulF a b))
theorem colM_first (M : Nat → Nat → Fr) (E : Nat → Fr) (j : Nat) (d c : Fr) : colM M E j d c j = M := by
  funext i k
  unfold colM
  rw [if_neg (by omega)]
theorem colE_first (M : Nat → Nat → Fr) (E : Nat → Fr) (j : Nat) (w : Fr) : colE M E j w j = E := by
  funext i
  unfold colE
  rw [if_neg (by omega)]
theorem colM_step (M : Nat → Nat → Fr) (E : Nat → Fr) (j : Nat) (d c : Fr) {t : Nat} (h : j ≤ t) : setM (colM M E j d c t) t j (subF (mulF (M t j) d) (mulF (E t) c)) = colM M E j d c (t + 1) := by
  funext i k
  unfold setM colM
  by_cases e : i = t ∧ k = j
  · obtain ⟨rfl, rfl⟩ := e
    rw [if_pos ⟨rfl, rfl⟩, if_pos ⟨rfl, h, by omega⟩]
  · rw [if_neg e]
    by_cases h1 : k = j ∧ j ≤ i ∧ i < t
    · rw [if_pos h1, if_pos (by omega)]
    · rw [if_neg h1, if_neg (by omega)]
theorem colE_step (M : Nat → Nat → Fr) (E : Nat → Fr) (j : Nat) (w : Fr) {t n : Nat} (h : j ≤ t) (ht : t < n) : ((List.range n).map (colE M E j w t)).set t (addF (E t) (mulF (M t j) w)) = (List.range n).map (colE M E j w (t + 1)) := by
  apply List.ext_getElem?
  intro i
  rw [List.getElem?_set]
  by_cases hi : i < n
  · rw [List.getElem?_map, List.getElem?_map, List.getElem?_range hi]
    by_cases e : t = i
    · subst e
      rw [if_pos rfl, if_pos (by simpa using ht)]
      simp only [Option.map_some]
      unfold colE
      rw [if_pos ⟨h, by omega⟩]
    · rw [if_neg e]
      simp only [Option.map_some]
      unfold colE
      by_cases h1 : j ≤ i ∧ i < t
      · rw [if_pos h1, if_pos (by omega)]
      · rw [if_neg h1, if_neg (by omega)]
  · rw [List.getElem?_eq_none (by simp; omega), List.getElem?_eq_none (by simp; omega), if_neg (by omega)]
/-- Rows lie as they lay, whatever is written elsewhere. -/
theorem RowsC.other {mm : Mem} {c q : Nat → Nat} {n w b : Nat} {M : Nat → Nat → Fr} {x : List PV} (h : RowsC mm c q n w M) (hb : ∀ i, i < n → c i ≠ b) : RowsC (mm.put b x) c q n w M :=
  ⟨fun i hi => by rw [Mem.put_other _ _ (hb i hi)]; exact h.row i hi, h.inj⟩
set_option maxHeartbeats 4000000 in
theorem okm113 (ex : Bool) (n j : Nat) (hj : j < n) (hn : n ≤ 16) (M : Nat → Nat → Fr) (E : Nat → Fr) (w a b : Fr) (c cap q : Nat → Nat) (hcap : ∀ i, i < n → n ≤ cap i) (eb : Nat) (m : Mem) (hm : RowsC m c q n n M) (he : m eb = some (flat (frs ((List.range n).map E)))) (hce : ∀ i, i < n → c i ≠ eb) :
    OkM Tryz.prog 113 [.sl ex ((List.range n).map (rawC c cap n)), num j, frV w, frV a, frV b, .s (.slice (some ⟨eb, 0, none⟩) n n)] m
      (fun _ m' => RowsC m' c q n n (colM M E j (rootD a b) (rootC w a b) n) ∧ m' eb = some (flat (frs ((List.range n).map (colE M E j w n))))) := by
  refine okm_fn mixed Tryz.func113 (code := ?_) (h := h113) ?_ k113 ?_
  rotate_left
  · exact rfl
  unfold h113 initS
  simp -implicitDefEqProofs (maxSteps := 10000000) only [rkA, rkB, stepA, valA, simprocAttr, Tryz.ntmps113, Tryz.results113]
  refine call_meth rfl rfl methDiv (ok228 _ _) ?_
  simp -implicitDefEqProofs (maxSteps := 10000000) only [rkA, rkB, stepA, valA, simprocAttr]
  refine call_meth rfl rfl methRoot (ok229 _) ?_
  simp -implicitDefEqProofs (maxSteps := 10000000) only [rkA, rkB, stepA, valA, simprocAttr]
  refine call_meth rfl rfl methMul (ok45 _ _) ?_
  simp -implicitDefEqProofs (maxSteps := 10000000) only [rkA, rkB, stepA, valA, simprocAttr]
  refine call_meth rfl rfl methRoot (ok229 _) ?_
  simp -implicitDefEqProofs (maxSteps := 10000000) only [rkA, rkB, stepA, valA, simprocAttr]
  refine call_meth rfl rfl methDiv (ok228 _ _) ?_
  simp -implicitDefEqProofs (maxSteps := 10000000) only [rkA, rkB, stepA, valA, simprocAttr]
  have eD : rootF (divF a b) = rootD a b := rfl
  have eC : divF w (rootF (mulF a b)) = rootC w a b := rfl
  simp only [eD, eC]
  refine wp_loop (fun z s => ∃ (t : Nat) (mm : Mem), j ≤ t ∧ t + z = n ∧ RowsC mm c q n n (colM M E j (rootD a b) (rootC w a b) t) ∧ mm eb = some (flat (frs ((List.range n).map (colE M E j w t)))) ∧
    s = ⟨[.v (.sl ex ((List.range n).map (rawC c cap n))), .v (num j), jk, jk, jk, .v (.s (.slice (some ⟨eb, 0, none⟩) n n)), jk, jk, .ptr 8 0, jk, jk, jk, .ptr 12 0, .ptr 13 0, nt t, jk, jk, jk, jk, jk, jk, jk, jk, jk, jk, jk, jk, jk, jk, jk, jk, jk, jk, jk, jk, jk, jk, jk, jk, jk, jk, jk, jk, jk, jk, jk, jk, jk, jk, jk, jk, jk, jk, jk, jk, jk, jk, jk, jk, jk, jk, jk, jk, jk, jk, jk, jk, jk, jk, jk, jk, jk, jk, jk, jk, jk, jk],
      [(8, [.v (num w.v), .v (num w.lo), .v (num w.hi), .v (tru w.bad)]), (9, [.v (num a.v), .v (num a.lo), .v (num a.hi), .v (tru a.bad)]), (10, [.v (num b.v), .v (num b.lo), .v (num b.hi), .v (tru b.bad)]), (12, [.v (num (rootD a b).v), .v (num (rootD a b).lo), .v (num (rootD a b).hi), .v (tru (rootD a b).bad)]), (13, [.v (num (rootC w a b).v), .v (num (rootC w a b).lo), .v (num (rootC w a b).hi), .v (tru (rootC w a b).bad)])], [], [], [], 0, mm⟩) (n - j) ?_ ?_
  · simp -implicitDefEqProofs (maxSteps := 10000000) only [rkA, rkB, stepA, valA, simprocAttr]
    exact ⟨j, m, by omega, by omega, by rw [colM_first]; exact hm, by rw [colE_first]; exact he, rfl⟩
  clear hm he m
  rintro z s ⟨t, mm, hjt, htz, hM, hE, rfl⟩
  have li : ((List.range n).map (rawC c cap n)).length = n := by simp
  simp -implicitDefEqProofs (maxSteps := 10000000) only [li, rkA, rkB, stepA, valA, simprocAttr]
  refine gB_dec ?_ ?_ <;> intro hc <;> simp -implicitDefEqProofs (maxSteps := 10000000) only [hc, rkA, rkB, stepA, valA, simprocAttr]
  · have hi : t < n := by omega
    have h0t : (0 : Int) ≤ (t : Int) := by omega
    have h0j : (0 : Int) ≤ (j : Int) := by omega
    have hjn : (j : Int) < (n : Int) := by omega
    have gi : ((List.range n).map (rawC c cap n))[t]? = some (rawC c cap n t) := by simp [hi]
    have hrow := hM.row t hi
    have gM : colM M E j (rootD a b) (rootC w a b) t t j = M t j := by unfold colM; rw [if_neg (by omega)]
    have gE : colE M E j w t t = E t := by unfold colE; rw [if_neg (by omega)]
    have hld := ldM_frj (post := jnk (q t)) (rowM_get (n := n) (M := colM M E j (rootD a b) (rootC w a b) t) (i := t) (k := j) hj)
    have hle : ((List.range n).map (colE M E j w t))[t]? = some (E t) := by simp [hi, gE]
    have hlde := ldM_fr hle
    rw [gM] at hld
    simp -implicitDefEqProofs (maxSteps := 10000000) only [h0t, h0j, hjn, Int.toNat_natCast, gi, addr_add, Nat.zero_add, hrow, hld, rkA, rkB, stepA, valA, simprocAttr]
    refine call_meth rfl rfl methMul (ok45 _ _) ?_
    have hte : (t : Int) < (n : Int) := by omega
    simp -implicitDefEqProofs (maxSteps := 10000000) only [h0t, hte, Int.toNat_natCast, addr_add, Nat.zero_add, hE, hlde, rkA, rkB, stepA, valA, simprocAttr]
    refine call_meth rfl rfl methMul (ok45 _ _) ?_
    simp -implicitDefEqProofs (maxSteps := 10000000) only [rkA, rkB, stepA, valA, simprocAttr]
    refine call_meth rfl rfl methSub (ok97 _ _) ?_
    have hst := stM_frj (l := rowM n (colM M E j (rootD a b) (rootC w a b) t) t) (k := j) (x := subF (mulF (M t j) (rootD a b)) (mulF (E t) (rootC w a b))) (post := jnk (q t)) (by rw [rowM_length]; exact hj)
    simp -implicitDefEqProofs (maxSteps := 10000000) only [h0j, hjn, Int.toNat_natCast, addr_add, Nat.zero_add, hrow, hst, rkA, rkB, stepA, valA, simprocAttr]
    have hM2 := hM.store hi hj (subF (mulF (M t j) (rootD a b)) (mulF (E t) (rootC w a b)))
    rw [colM_step M E j (rootD a b) (rootC w a b) hjt] at hM2
    have hE2 : (mm.put (c t) (flat (frs ((rowM n (colM M E j (rootD a b) (rootC w a b) t) t).set j (subF (mulF (M t j) (rootD a b)) (mulF (E t) (rootC w a b))))) ++ jnk (q t))) eb = some (flat (frs ((List.range n).map (colE M E j w t)))) := by
      rw [Mem.put_other _ _ (fun e => hce t hi e.symm)]
      exact hE
    generalize mm.put (c t) _ = mm2 at hM2 hE2 ⊢
    simp -implicitDefEqProofs (maxSteps := 10000000) only [h0t, hte, Int.toNat_natCast, addr_add, Nat.zero_add, hE2, hlde, rkA, rkB, stepA, valA, simprocAttr]
    refine call_meth rfl rfl methMul (ok45 _ _) ?_
    simp -implicitDefEqProofs (maxSteps := 10000000) only [rkA, rkB, stepA, valA, simprocAttr]
    refine call_meth rfl rfl methAdd (ok227 _ _) ?_
    have hse := stM_frj (l := (List.range n).map (colE M E j w t)) (k := t) (x := addF (E t) (mulF (M t j) w)) (post := []) (by simp; exact hi)
    rw [List.append_nil, List.append_nil, colE_step M E j w hjt hi] at hse
    have hw' := wrapped (x := (t : Int) + 1) (by omega) (by omega)
    simp -implicitDefEqProofs (maxSteps := 10000000) only [h0t, hte, Int.toNat_natCast, addr_add, Nat.zero_add, hE2, hse, hw', rkA, rkB, stepA, valA, simprocAttr]
    refine loopK_of (m' := z - 1) (by omega) ?_
    simp -implicitDefEqProofs (maxSteps := 10000000) only [rkA, rkB, stepA, valA, simprocAttr]
    refine ⟨t + 1, mm2.put eb (flat (frs ((List.range n).map (colE M E j w (t + 1))))), by omega, by omega, ?_, Mem.put_same _ _ _, by simp only [Int.natCast_add, Int.natCast_one]⟩
    exact hM2.other (fun i hi' => hce i hi')
  · have e : t = n := by omega
    subst e
    exact ⟨_, rfl, hM, hE⟩
end Go.Proofs.YtbflmeomkfjikaaGreat.A.E


/- slices.Grow of a row that is nil, off the library's shelf. -/
set_option linter.unusedVariables false
set_option maxRecDepth 100000
namespace Go.Proofs.YtbflmeomkfjikaaGreat.A
open Go Go.RowKit Go.Shelf
theorem isAgg_no' {P : Program} {t : TypeId} (h : tAgg P t = some false) (w : World) : (isAgg t).run P w = .ok false w := run_isAgg_of h w
theorem sizeOf_one' {P : Program} {t : TypeId} {n : Nat} (h : tSize P t = some n) (w : World) : (Go.sizeOf t).run P w = .ok n w := run_sizeOf_of h w
theorem zero_is' {P : Program} {t : TypeId} {v : Value} (h : tZero P t = some v) (w : World) : (zeroValue t).run P w = .ok v w := run_zero_of h w
/-- New memory with room for n elements of sz cells each. -/
def GrownR (n sz : Nat) (r : PV) (m : Mem) : Prop := ∃ c cap, n ≤ cap ∧ r = .s (.slice (some ⟨c, 0, none⟩) 0 cap) ∧ m = nomem.put c (List.replicate (cap * sz) .junk)
theorem grown_rf {n sz : Nat} : ∀ r m', GrownR n sz r m' → RF r = true ∧ ∀ c cells, m' c = some cells → RFs cells = true := by
  rintro r m' ⟨c, cap, _, rfl, rfl⟩
  refine ⟨rfl, fun d cells hd => ?_⟩
  by_cases e : d = c
  · subst e
    rw [Mem.put_same] at hd
    cases hd
    have : ∀ k, RFs (List.replicate k PV.junk) = true := fun k => by
      induction k with
      | zero => rfl
      | succ k ih => rw [List.replicate_succ]; exact ih
    exact this _
  · rw [Mem.put_other _ _ e] at hd
    cases hd
theorem grown_of {P : Program} {ρ : Ren} (L : Lays8.n4 P ρ) {i0 : TypeInfo} {z : Value} {S B : Nat} (hi : P.info? (ρ.t 25) = some i0) (hz : i0.zero = some z) (hS : i0.size = S) (hB : i0.bytes = B) (hzs : z.cells.size = S) (h0 : 0 < S) (hen : Enters P (ρ.f 4)) (n : Nat) (h1 : 1 ≤ n) (h2 : n * B ≤ 140737488355328) (h3 : n ≤ 4611686018427387904) :
    OkM P (ρ.f 4) [.s (.slice none 0 0), num n] nomem (GrownR n S) := by
  refine ⟨hen, fun I w vs hg hm hc => ?_⟩
  cases hc with
  | cons c1 c2 =>
    cases c2 with
    | cons c3 c4 =>
      cases c4
      cases c1
      cases c3
      subst hS hB
      refine (Any8.slices_Grow_grow L i0 z hi hz h0 none 0 0 n [] w (by omega) (by omega) (by simpa using h2) (by omega) (by simp) (fun _ => rfl) (fun a h => by cases h)).mono ?_
      rintro e w' ⟨rfl, rfl⟩
      have hge := grownCap_ge w (0 + n) 0 (ρ.t 25)
      generalize grownCap w (0 + n) 0 (ρ.t 25) = cap at hge ⊢
      have hnone : I w.heap.size = none := by
        cases h : I w.heap.size with
        | none => rfl
        | some arr => exact absurd (hg.lt h) (by omega)
      refine ⟨_, I, _, nomem.put w.heap.size (List.replicate (cap * i0.size) .junk), rfl, ⟨w.heap.size, cap, by omega, rfl, rfl⟩, ?_, Imm.le_refl _, ?_, fun _ _ => rfl, ?_, ?_, .s _⟩
      · have hb : Below w.heap.size w (w.drew.alloc (.cells (([] : List Value).toArray ++ Builtin.zeroCells z.cells (0 + n - 0) ++ Builtin.zeroCells z.cells (cap - (0 + n))) (ρ.t 25))) := ((Below.refl _ w).drew).alloc (Nat.le_refl _) _
        exact ⟨hb.os, hb.tape, hb.output, hb.size, fun k hk _ => hb.block k hk⟩
      · exact hg.below (((Below.refl _ w).drew).alloc (Nat.le_refl _) _)
      · intro c cells hcc
        by_cases e : c = w.heap.size
        · subst e
          rw [Mem.put_same] at hcc
          cases hcc
          refine ⟨hnone, _, ρ.t 25, (by show (w.heap.push _)[w.heap.size]? = _; exact Array.getElem?_push_size), ?_⟩
          have hsz : ∀ k : Nat, (Builtin.zeroCells z.cells k).size = k * i0.size := fun k => by rw [size_zeroCells, hzs]
          have hl : (([] : List Value).toArray ++ Builtin.zeroCells z.cells (0 + n - 0) ++ Builtin.zeroCells z.cells (cap - (0 + n))).toList.length = cap * i0.size := by
            rw [Array.length_toList, Array.size_append, Array.size_append, hsz, hsz]
            rw [show (([] : List Value).toArray).size = 0 from rfl, Nat.zero_add, ← Nat.add_mul]
            congr 1
            omega
          rw [← hl]
          exact cs_rest I _
        · rw [Mem.put_other _ _ e] at hcc
          cases hcc
      · intro c hlt _
        exact Mem.put_other _ _ (by omega)
def reng160 : Ren := { f := fun | 4 => 160 | x => x, t := fun | 0 => 0 | 3 => 3 | 4 => 4 | 9 => 9 | 20 => 20 | 22 => 26 | 25 => 32 | x => x, g := fun x => x }
theorem laysg160 : Lays8.n4 Tryz.prog reng160 where
  mixed := by kernel_rfl
  f4 := ⟨"slices.Grow[[]couplet/frac.Frac,couplet/frac.Frac]", by decide, Tryz.func160⟩
  t0 := by kernel_rfl
  a0 := isAgg_no' (by kernel_rfl)
  z0 := sizeOf_one' (by kernel_rfl)
  v0 := zero_is' (by kernel_rfl)
  t3 := by kernel_rfl
  a3 := isAgg_no' (by kernel_rfl)
  z3 := sizeOf_one' (by kernel_rfl)
  v3 := zero_is' (by kernel_rfl)
  t4 := by kernel_rfl
  a4 := isAgg_no' (by kernel_rfl)
  z4 := sizeOf_one' (by kernel_rfl)
  v4 := zero_is' (by kernel_rfl)
  t9 := by kernel_rfl
  a9 := isAgg_no' (by kernel_rfl)
  z9 := sizeOf_one' (by kernel_rfl)
  v9 := zero_is' (by kernel_rfl)
  t20 := by kernel_rfl
  a20 := isAgg_no' (by kernel_rfl)
  z20 := sizeOf_one' (by kernel_rfl)
  v20 := zero_is' (by kernel_rfl)
  t22 := by kernel_rfl
  a22 := isAgg_no' (by kernel_rfl)
  z22 := sizeOf_one' (by kernel_rfl)
  v22 := zero_is' (by kernel_rfl)
theorem okg160 (n : Nat) (h1 : 1 ≤ n) (h2 : n * 24 ≤ 140737488355328) : OkM Tryz.prog 160 [.s (.slice none 0 0), num n] nomem (GrownR n 3) :=
  grown_of laysg160 (i0 := Tryz.t32) (z := (Tryz.t32).zero.getD .nilIface) (S := 3) (B := 24) (by kernel_rfl) (by kernel_rfl) (by kernel_rfl) (by kernel_rfl) (by kernel_rfl) (by decide) (enters_of Tryz.func160 (by kernel_rfl) rfl) n h1 h2 (by omega)
def reng158 : Ren := { f := fun | 4 => 158 | x => x, t := fun | 0 => 0 | 3 => 3 | 4 => 4 | 9 => 9 | 20 => 20 | 22 => 34 | 25 => 40 | x => x, g := fun x => x }
theorem laysg158 : Lays8.n4 Tryz.prog reng158 where
  mixed := by kernel_rfl
  f4 := ⟨"slices.Grow[[]couplet/env.Num,couplet/env.Num]", by decide, Tryz.func158⟩
  t0 := by kernel_rfl
  a0 := isAgg_no' (by kernel_rfl)
  z0 := sizeOf_one' (by kernel_rfl)
  v0 := zero_is' (by kernel_rfl)
  t3 := by kernel_rfl
  a3 := isAgg_no' (by kernel_rfl)
  z3 := sizeOf_one' (by kernel_rfl)
  v3 := zero_is' (by kernel_rfl)
  t4 := by kernel_rfl
  a4 := isAgg_no' (by kernel_rfl)
  z4 := sizeOf_one' (by kernel_rfl)
  v4 := zero_is' (by kernel_rfl)
  t9 := by kernel_rfl
  a9 := isAgg_no' (by kernel_rfl)
  z9 := sizeOf_one' (by kernel_rfl)
  v9 := zero_is' (by kernel_rfl)
  t20 := by kernel_rfl
  a20 := isAgg_no' (by kernel_rfl)
  z20 := sizeOf_one' (by kernel_rfl)
  v20 := zero_is' (by kernel_rfl)
  t22 := by kernel_rfl
  a22 := isAgg_no' (by kernel_rfl)
  z22 := sizeOf_one' (by kernel_rfl)
  v22 := zero_is' (by kernel_rfl)
theorem okg158 (n : Nat) (h1 : 1 ≤ n) (h2 : n * 32 ≤ 140737488355328) : OkM Tryz.prog 158 [.s (.slice none 0 0), num n] nomem (GrownR n 4) :=
  grown_of laysg158 (i0 := Tryz.t40) (z := (Tryz.t40).zero.getD .nilIface) (S := 4) (B := 32) (by kernel_rfl) (by kernel_rfl) (by kernel_rfl) (by kernel_rfl) (by kernel_rfl) (by decide) (enters_of Tryz.func158 (by kernel_rfl) rfl) n h1 h2 (by omega)
end Go.Proofs.YtbflmeomkfjikaaGreat.A


set_option linter.unusedVariables false
namespace Go.Proofs.YtbflmeomkfjikaaGreat.A
open Go Go.RowKit Go.Shelf
/- slices.Concat(()couplet/frac.Frac,couplet/frac.Frac) -/
def hN121 : Hint := .s (.r [(0, { acc := [(0, 2)] })]) (.s (.o) (.s (.s (.o) (.b (.l [.junk [1, 2, 4, 5, 6, 7, 8, 12, 13, 14, 15, 16, 17, 18, 19, 20, 21, 22, 23, 24, 25, 26, 27, 28, 29, 30, 31, 32, 33, 34, 35]] (.s (.o) (.s (.s (.o) (.o)) (.s (.b (.s (.r [(0, { n := 1 }), (1, { n := 1, agg := false })]) (.s (.o) (.s (.o) (.s (.no) (.o)))))) (.o))))))) (.s (.r [(1, { mc := 6 })]) (.s (.s (.o) (.b (.l [.junk [0, 1, 2, 3, 4, 5, 7, 8, 9, 10, 11, 12, 13, 14, 15, 16, 17, 18, 19, 20, 21, 22, 23, 24, 28, 29, 30, 31, 32, 33, 34, 35]] (.s (.o) (.s (.s (.o) (.o)) (.s (.b (.s (.r [(0, { n := 1 }), (1, { n := 1, agg := false })]) (.r [(2, { n := 3, t := 24, mc := 7 })]))) (.o))))))) (.s (.o) (.o))))))
theorem kN121 : okF Tryz.prog Tryz.f121 hN121 [(false, 0)] = true := by kernel_rfl

/- slices.Concat(()couplet/env.Num,couplet/env.Num) -/
def hN114 : Hint := .s (.r [(0, { acc := [(0, 2)] })]) (.s (.o) (.s (.s (.o) (.b (.l [.junk [1, 2, 4, 5, 6, 7, 8, 12, 13, 14, 15, 16, 17, 18, 19, 20, 21, 22, 23, 24, 25, 26, 27, 28, 29, 30, 31, 32, 33, 34, 35]] (.s (.o) (.s (.s (.o) (.o)) (.s (.b (.s (.r [(0, { n := 1 }), (1, { n := 1, agg := false })]) (.s (.o) (.s (.o) (.s (.no) (.o)))))) (.o))))))) (.s (.r [(1, { mc := 6 })]) (.s (.s (.o) (.b (.l [.junk [0, 1, 2, 3, 4, 5, 7, 8, 9, 10, 11, 12, 13, 14, 15, 16, 17, 18, 19, 20, 21, 22, 23, 24, 28, 29, 30, 31, 32, 33, 34, 35]] (.s (.o) (.s (.s (.o) (.o)) (.s (.b (.s (.r [(0, { n := 1 }), (1, { n := 1, agg := false })]) (.r [(2, { n := 4, t := 32, mc := 7 })]))) (.o))))))) (.s (.o) (.o))))))
theorem kN114 : okF Tryz.prog Tryz.f114 hN114 [(false, 0)] = true := by kernel_rfl

end Go.Proofs.YtbflmeomkfjikaaGreat.A



set_option linter.unusedVariables false
set_option linter.unusedSimpArgs false
set_option maxRecDepth 100000
namespace Go.Proofs.YtbflmeomkfjikaaGreat.A
open Go Go.RowKit Go.Shelf

/-! ### slices.Concat -/
abbrev catV (rows : List (List Fr)) : List PV := rows.map fun r => .sl false (frs r)
theorem flatten_take_succ {α : Type} {l : List (List α)} {i : Nat} (h : i < l.length) : (l.take (i + 1)).flatten = (l.take i).flatten ++ l[i] := by
  rw [List.take_succ_eq_append_getElem h, List.flatten_append, List.flatten_singleton]
theorem flatten_take_le {α : Type} (l : List (List α)) (i : Nat) : (l.take i).flatten.length ≤ l.flatten.length := by
  conv => rhs; rw [← List.take_append_drop i l, List.flatten_append, List.length_append]
  omega
theorem RFs_replicate : ∀ k, RFs (List.replicate k PV.junk) = true
  | 0 => rfl
  | k + 1 => by rw [List.replicate_succ]; exact RFs_replicate k
theorem cells_put (L M : List PV) (K : Nat) : (L ++ List.replicate K PV.junk).take L.length ++ M ++ (L ++ List.replicate K PV.junk).drop (L.length + M.length) = (L ++ M) ++ List.replicate (K - M.length) PV.junk := by
  rw [List.take_append_of_le_length (Nat.le_refl _), List.take_length, List.drop_append, List.drop_of_length_le (by omega), List.nil_append, List.drop_replicate]
  congr 3
  omega
theorem cells_putF (A B : List Fr) {C : List Fr} (h : C = A ++ B) (K : Nat) : (flat (frs A) ++ List.replicate (K - (flat (frs A)).length) PV.junk).take (flat (frs A)).length ++ flat (frs B) ++ (flat (frs A) ++ List.replicate (K - (flat (frs A)).length) PV.junk).drop ((flat (frs A)).length + (flat (frs B)).length) = flat (frs C) ++ List.replicate (K - (flat (frs C)).length) PV.junk := by
  have e : flat (frs C) = flat (frs A) ++ flat (frs B) := by rw [h, frs, List.map_append, flat_append]
  rw [cells_put, e, List.length_append, Nat.sub_sub]
set_option maxHeartbeats 2000000 in
theorem okn121 (ex : Bool) (rows : List (List Fr)) (h0 : rows.flatten ≠ []) (h1 : rows.flatten.length ≤ 1000000) (h2 : rows.length ≤ 1000000) : OkN Tryz.prog 121 [.sl ex (catV rows)] (frs rows.flatten) := by
  have hlr : (catV rows).length = rows.length := by simp
  have hpos : 0 < rows.flatten.length := List.length_pos_iff.2 h0
  refine okn_fn mixed Tryz.func121 (code := ?_) (h := hN121) ?_ kN121 rfl (RFs_frs _) ?_
  rotate_left
  · exact rfl
  unfold hN121 initS
  simp -implicitDefEqProofs (maxSteps := 10000000) only [rkA, rkB, stepA, valA, simprocAttr, Tryz.ntmps121, Tryz.results121]
  refine wp_loop (fun m s => ∃ i, i + m = rows.length ∧ s = ⟨[.v (.sl ex (catV rows)), jk, jk, nt ((rows.take i).flatten.length : Nat), jk, jk, jk, jk, jk, .v (.sl ex (catV rows)), nt rows.length, nt i, jk, jk, jk, jk, jk, jk, jk, jk, jk, jk, jk, jk, jk, jk, jk, jk, jk, jk, jk, jk, jk, jk, jk, jk], [], [], [(2, 0)], [], 0, nomem⟩) rows.length ?_ ?_
  · simp -implicitDefEqProofs (maxSteps := 10000000) only [hlr, rkA, rkB, stepA, valA, simprocAttr]
    exact ⟨0, by simp, rfl⟩
  rintro m s ⟨i, hi, rfl⟩
  simp -implicitDefEqProofs (maxSteps := 10000000) only [rkA, rkB, stepA, valA, simprocAttr]
  refine gB_dec ?_ ?_ <;> intro hc <;> simp -implicitDefEqProofs (maxSteps := 10000000) only [hc, rkA, rkB, stepA, valA, simprocAttr]
  · have hlt : i < rows.length := by omega
    have h0i : (0 : Int) ≤ (i : Int) := by omega
    have hg : (catV rows)[i]? = some (.sl false (frs rows[i])) := by simp [hlt]
    have e1 := flatten_take_succ hlt
    have e2 := flatten_take_le rows (i + 1)
    have e3 : (rows.take (i + 1)).flatten.length = (rows.take i).flatten.length + rows[i].length := by rw [e1, List.length_append]
    have e4 : (frs rows[i]).length = rows[i].length := by simp
    have w1 : IntKind.wrap .i64 (((rows.take i).flatten.length : Nat) + (rows[i].length : Nat) : Int) = ((rows.take (i + 1)).flatten.length : Nat) := by rw [wrapped (by omega) (by omega)]; omega
    have w2 := wrapped (x := (i : Int) + 1) (by omega) (by omega)
    have g0 : ¬ (((rows.take (i + 1)).flatten.length : Nat) : Int) < 0 := by omega
    simp -implicitDefEqProofs (maxSteps := 10000000) only [h0i, Int.toNat_natCast, hg, e4, w1, w2, g0, rkA, rkB, stepA, valA, simprocAttr]
    refine loopK_of (m' := m - 1) (by omega) ?_
    simp -implicitDefEqProofs (maxSteps := 10000000) only [rkA, rkB, stepA, valA, simprocAttr]
    exact ⟨i + 1, by omega, by simp only [Int.natCast_add, Int.natCast_one]⟩
  · have ei : rows.take i = rows := List.take_of_length_le (by omega)
    simp only [ei]
    clear ei hc hi m
    refine lendNew_fn rfl rfl (Tells.same _ _) (okg160 rows.flatten.length (by omega) (by omega)) grown_rf ?_
    rintro r m' ⟨c, cap, hcap, rfl, rfl⟩ hfree
    simp -implicitDefEqProofs (maxSteps := 10000000) only [rkA, rkB, stepA, valA, simprocAttr]
    refine wp_loop (fun m s => ∃ (i : Nat) (mm : Mem), i + m = rows.length ∧ mm = nomem.put c (flat (frs (rows.take i).flatten) ++ List.replicate (cap * 3 - (flat (frs (rows.take i).flatten)).length) .junk) ∧
      s = ⟨[jk, jk, jk, jk, jk, jk, .v (.s (.slice (some ⟨c, 0, none⟩) (rows.take i).flatten.length cap)), jk, jk, jk, jk, jk, jk, jk, jk, jk, jk, jk, jk, jk, jk, jk, jk, jk, jk, .v (.sl ex (catV rows)), nt rows.length, nt i, jk, jk, jk, jk, jk, jk, jk, jk], [], [], [(2, 0)], [], 0, mm⟩) rows.length ?_ ?_
    · simp -implicitDefEqProofs (maxSteps := 10000000) only [hlr, rkA, rkB, stepA, valA, simprocAttr]
      exact ⟨0, _, by simp, rfl, rfl⟩
    rintro m s ⟨i, mm, hi, rfl, rfl⟩
    simp -implicitDefEqProofs (maxSteps := 10000000) only [rkA, rkB, stepA, valA, simprocAttr]
    refine gB_dec ?_ ?_ <;> intro hc <;> simp -implicitDefEqProofs (maxSteps := 10000000) only [hc, rkA, rkB, stepA, valA, simprocAttr]
    · have hlt : i < rows.length := by omega
      have h0i : (0 : Int) ≤ (i : Int) := by omega
      have hg : (catV rows)[i]? = some (.sl false (frs rows[i])) := by simp [hlt]
      have e1 := flatten_take_succ hlt
      have e2 := flatten_take_le rows (i + 1)
      have e3 : (rows.take (i + 1)).flatten.length = (rows.take i).flatten.length + rows[i].length := by rw [e1, List.length_append]
      have e4 : (frs rows[i]).length = rows[i].length := by simp
      have l1 : (flat (frs (rows.take i).flatten)).length = (rows.take i).flatten.length * 3 := by rw [flat_length (frs_cells _), List.length_map]
      have l2 : (flat (frs rows[i])).length = rows[i].length * 3 := by rw [flat_length (frs_cells _), List.length_map]
      have w2 := wrapped (x := (i : Int) + 1) (by omega) (by omega)
      have hmul : rows.flatten.length * 3 ≤ cap * 3 := Nat.mul_le_mul_right _ hcap
      have hput := cells_putF (rows.take i).flatten rows[i] e1 (cap * 3)
      simp -implicitDefEqProofs (maxSteps := 10000000) only [h0i, Int.toNat_natCast, hg, rkA, rkB, stepA, valA, simprocAttr]
      refine appIn_of rfl rfl (.same _) (RFs_frs _) (Mem.put_same _ _ _) (by rw [List.all_eq_true]; intro e he; obtain ⟨x, _, rfl⟩ := List.mem_map.1 he; rfl) (by rw [e4]; omega) (by simp only [List.length_append, List.length_replicate, l1, l2, Nat.zero_add]; omega) ?_
      rw [Nat.zero_add, ← l1, hput, e4, ← e3]
      simp -implicitDefEqProofs (maxSteps := 10000000) only [w2, rkA, rkB, stepA, valA, simprocAttr]
      refine loopK_of (m' := m - 1) (by omega) ?_
      simp -implicitDefEqProofs (maxSteps := 10000000) only [rkA, rkB, stepA, valA, simprocAttr]
      refine ⟨i + 1, _, by omega, rfl, ?_⟩
      simp only [Int.natCast_add, Int.natCast_one]
      congr 1
      funext d
      unfold Mem.put
      split <;> rfl
    · have ei : rows.take i = rows := List.take_of_length_le (by omega)
      rw [ei]
      refine .inr ⟨_, rfl, .inr ⟨by simpa using h0, c, cap, _, by rw [List.length_map]; exact hcap, by rw [List.length_map], rfl⟩⟩
end Go.Proofs.YtbflmeomkfjikaaGreat.A



set_option linter.unusedVariables false
set_option linter.unusedSimpArgs false
set_option maxRecDepth 100000
namespace Go.Proofs.YtbflmeomkfjikaaGreat.A.E
open Go Go.RowKit Go.Shelf

abbrev catV (rows : List (List Fr)) : List PV := rows.map fun r => .sl false (frs r)
theorem cells_putF (A B : List Fr) {C : List Fr} (h : C = A ++ B) (K : Nat) : (flat (frs A) ++ List.replicate (K - (flat (frs A)).length) PV.junk).take (flat (frs A)).length ++ flat (frs B) ++ (flat (frs A) ++ List.replicate (K - (flat (frs A)).length) PV.junk).drop ((flat (frs A)).length + (flat (frs B)).length) = flat (frs C) ++ List.replicate (K - (flat (frs C)).length) PV.junk := by
  have e : flat (frs C) = flat (frs A) ++ flat (frs B) := by rw [h, frs, List.map_append, flat_append]
  rw [cells_put, e, List.length_append, Nat.sub_sub]
set_option maxHeartbeats 2000000 in
theorem okn114 (ex : Bool) (rows : List (List Fr)) (h0 : rows.flatten ≠ []) (h1 : rows.flatten.length ≤ 1000000) (h2 : rows.length ≤ 1000000) : OkN Tryz.prog 114 [.sl ex (catV rows)] (frs rows.flatten) := by
  have hlr : (catV rows).length = rows.length := by simp
  have hpos : 0 < rows.flatten.length := List.length_pos_iff.2 h0
  refine okn_fn mixed Tryz.func114 (code := ?_) (h := hN114) ?_ kN114 rfl (RFs_frs _) ?_
  rotate_left
  · exact rfl
  unfold hN114 initS
  simp -implicitDefEqProofs (maxSteps := 10000000) only [rkA, rkB, stepA, valA, simprocAttr, Tryz.ntmps114, Tryz.results114]
  refine wp_loop (fun m s => ∃ i, i + m = rows.length ∧ s = ⟨[.v (.sl ex (catV rows)), jk, jk, nt ((rows.take i).flatten.length : Nat), jk, jk, jk, jk, jk, .v (.sl ex (catV rows)), nt rows.length, nt i, jk, jk, jk, jk, jk, jk, jk, jk, jk, jk, jk, jk, jk, jk, jk, jk, jk, jk, jk, jk, jk, jk, jk, jk], [], [], [(2, 0)], [], 0, nomem⟩) rows.length ?_ ?_
  · simp -implicitDefEqProofs (maxSteps := 10000000) only [hlr, rkA, rkB, stepA, valA, simprocAttr]
    exact ⟨0, by simp, rfl⟩
  rintro m s ⟨i, hi, rfl⟩
  simp -implicitDefEqProofs (maxSteps := 10000000) only [rkA, rkB, stepA, valA, simprocAttr]
  refine gB_dec ?_ ?_ <;> intro hc <;> simp -implicitDefEqProofs (maxSteps := 10000000) only [hc, rkA, rkB, stepA, valA, simprocAttr]
  · have hlt : i < rows.length := by omega
    have h0i : (0 : Int) ≤ (i : Int) := by omega
    have hg : (catV rows)[i]? = some (.sl false (frs rows[i])) := by simp [hlt]
    have e1 := flatten_take_succ hlt
    have e2 := flatten_take_le rows (i + 1)
    have e3 : (rows.take (i + 1)).flatten.length = (rows.take i).flatten.length + rows[i].length := by rw [e1, List.length_append]
    have e4 : (frs rows[i]).length = rows[i].length := by simp
    have w1 : IntKind.wrap .i64 (((rows.take i).flatten.length : Nat) + (rows[i].length : Nat) : Int) = ((rows.take (i + 1)).flatten.length : Nat) := by rw [wrapped (by omega) (by omega)]; omega
    have w2 := wrapped (x := (i : Int) + 1) (by omega) (by omega)
    have g0 : ¬ (((rows.take (i + 1)).flatten.length : Nat) : Int) < 0 := by omega
    simp -implicitDefEqProofs (maxSteps := 10000000) only [h0i, Int.toNat_natCast, hg, e4, w1, w2, g0, rkA, rkB, stepA, valA, simprocAttr]
    refine loopK_of (m' := m - 1) (by omega) ?_
    simp -implicitDefEqProofs (maxSteps := 10000000) only [rkA, rkB, stepA, valA, simprocAttr]
    exact ⟨i + 1, by omega, by simp only [Int.natCast_add, Int.natCast_one]⟩
  · have ei : rows.take i = rows := List.take_of_length_le (by omega)
    simp only [ei]
    clear ei hc hi m
    refine lendNew_fn rfl rfl (Tells.same _ _) (okg158 rows.flatten.length (by omega) (by omega)) grown_rf ?_
    rintro r m' ⟨c, cap, hcap, rfl, rfl⟩ hfree
    simp -implicitDefEqProofs (maxSteps := 10000000) only [rkA, rkB, stepA, valA, simprocAttr]
    refine wp_loop (fun m s => ∃ (i : Nat) (mm : Mem), i + m = rows.length ∧ mm = nomem.put c (flat (frs (rows.take i).flatten) ++ List.replicate (cap * 4 - (flat (frs (rows.take i).flatten)).length) .junk) ∧
      s = ⟨[jk, jk, jk, jk, jk, jk, .v (.s (.slice (some ⟨c, 0, none⟩) (rows.take i).flatten.length cap)), jk, jk, jk, jk, jk, jk, jk, jk, jk, jk, jk, jk, jk, jk, jk, jk, jk, jk, .v (.sl ex (catV rows)), nt rows.length, nt i, jk, jk, jk, jk, jk, jk, jk, jk], [], [], [(2, 0)], [], 0, mm⟩) rows.length ?_ ?_
    · simp -implicitDefEqProofs (maxSteps := 10000000) only [hlr, rkA, rkB, stepA, valA, simprocAttr]
      exact ⟨0, _, by simp, rfl, rfl⟩
    rintro m s ⟨i, mm, hi, rfl, rfl⟩
    simp -implicitDefEqProofs (maxSteps := 10000000) only [rkA, rkB, stepA, valA, simprocAttr]
    refine gB_dec ?_ ?_ <;> intro hc <;> simp -implicitDefEqProofs (maxSteps := 10000000) only [hc, rkA, rkB, stepA, valA, simprocAttr]
    · have hlt : i < rows.length := by omega
      have h0i : (0 : Int) ≤ (i : Int) := by omega
      have hg : (catV rows)[i]? = some (.sl false (frs rows[i])) := by simp [hlt]
      have e1 := flatten_take_succ hlt
      have e2 := flatten_take_le rows (i + 1)
      have e3 : (rows.take (i + 1)).flatten.length = (rows.take i).flatten.length + rows[i].length := by rw [e1, List.length_append]
      have e4 : (frs rows[i]).length = rows[i].length := by simp
      have l1 : (flat (frs (rows.take i).flatten)).length = (rows.take i).flatten.length * 4 := by rw [flat_length (frs_cells _), List.length_map]
      have l2 : (flat (frs rows[i])).length = rows[i].length * 4 := by rw [flat_length (frs_cells _), List.length_map]
      have w2 := wrapped (x := (i : Int) + 1) (by omega) (by omega)
      have hmul : rows.flatten.length * 4 ≤ cap * 4 := Nat.mul_le_mul_right _ hcap
      have hput := cells_putF (rows.take i).flatten rows[i] e1 (cap * 4)
      simp -implicitDefEqProofs (maxSteps := 10000000) only [h0i, Int.toNat_natCast, hg, rkA, rkB, stepA, valA, simprocAttr]
      refine appIn_of rfl rfl (.same _) (RFs_frs _) (Mem.put_same _ _ _) (by rw [List.all_eq_true]; intro e he; obtain ⟨x, _, rfl⟩ := List.mem_map.1 he; rfl) (by rw [e4]; omega) (by simp only [List.length_append, List.length_replicate, l1, l2, Nat.zero_add]; omega) ?_
      rw [Nat.zero_add, ← l1, hput, e4, ← e3]
      simp -implicitDefEqProofs (maxSteps := 10000000) only [w2, rkA, rkB, stepA, valA, simprocAttr]
      refine loopK_of (m' := m - 1) (by omega) ?_
      simp -implicitDefEqProofs (maxSteps := 10000000) only [rkA, rkB, stepA, valA, simprocAttr]
      refine ⟨i + 1, _, by omega, rfl, ?_⟩
      simp only [Int.natCast_add, Int.natCast_one]
      congr 1
      funext d
      unfold Mem.put
      split <;> rfl
    · have ei : rows.take i = rows := List.take_of_length_le (by omega)
      rw [ei]
      refine .inr ⟨_, rfl, .inr ⟨by simpa using h0, c, cap, _, by rw [List.length_map]; exact hcap, by rw [List.length_map], rfl⟩⟩
end Go.Proofs.YtbflmeomkfjikaaGreat.A.E



set_option linter.unusedVariables false
set_option linter.unusedSimpArgs false
set_option maxRecDepth 100000
namespace Go.Proofs.YtbflmeomkfjikaaGreat.A
open Go Go.RowKit Go.Shelf

/-! ### States -/
abbrev stV (ex ep : Bool) (x : List PV) (r c : Int) (l : List PV) : PV := .agg [.sl ex x, num r, num c, .sl ep l]
abbrev stNil : PV := .agg [.s (.slice none 0 0), num 0, num 0, .s (.slice none 0 0)]
theorem Cs.st_nil {I : Imm} {xs ys : List PV} {vs : List Value} (h : Cs I (stNil :: xs) vs) (k : ∀ us, Cs I xs us → Cs I ys us) : Cs I (stV false false (frs []) 0 0 (frs []) :: ys) vs := by
  have key : ∀ us, Cs I [.s (.slice none 0 0), num 0, num 0, .s (.slice none 0 0)] us → Cs I [.sl false [], num 0, num 0, .sl false []] us := fun us h => Cs.nil_of h fun us h => Cs.keep h fun us h => Cs.keep h fun us h => Cs.nil_of h fun us h => h
  cases h with | cons h1 h2 => cases h1 with | agg hl => exact .cons (.agg (key _ hl)) (k _ h2)

def stRight (k : Nat) (r c : Int) (n : Nat) : Bool := decide (1 ≤ k ∧ k ≤ 4) && (right r c n && (r == k && c == k))
theorem stRight_nat {k n : Nat} {m : Nat} (h : m = n * n) : stRight k n n m = decide (1 ≤ k ∧ k ≤ 4 ∧ k = n) := by
  by_cases hk : 1 ≤ k ∧ k ≤ 4
  · by_cases e : k = n
    · subst e
      have := right_nat (R := k) (K := k) (n := m) (by omega) (by omega) h
      simp [stRight, hk, this]
    · have e2 : ((n : Int) == (k : Int)) = false := by simp; omega
      simp [stRight, e2, e]
  · have : ¬ (1 ≤ k ∧ k ≤ 4 ∧ k = n) := by omega
    simp [stRight, hk, this]

/-! ### A new state -/
/-! ### Turned -/
end Go.Proofs.YtbflmeomkfjikaaGreat.A



set_option linter.unusedVariables false
set_option linter.unusedSimpArgs false
set_option maxRecDepth 100000
namespace Go.Proofs.YtbflmeomkfjikaaGreat.A.E
open Go Go.RowKit Go.Shelf

abbrev stV (ex ep : Bool) (x : List PV) (r c : Int) (l : List PV) : PV := .agg [.sl ex x, num r, num c, .sl ep l]
theorem Cs.st_nil {I : Imm} {xs ys : List PV} {vs : List Value} (h : Cs I (stNil :: xs) vs) (k : ∀ us, Cs I xs us → Cs I ys us) : Cs I (stV false false (frs []) 0 0 (frs []) :: ys) vs := by
  have key : ∀ us, Cs I [.s (.slice none 0 0), num 0, num 0, .s (.slice none 0 0)] us → Cs I [.sl false [], num 0, num 0, .sl false []] us := fun us h => Cs.nil_of h fun us h => Cs.keep h fun us h => Cs.keep h fun us h => Cs.nil_of h fun us h => h
  cases h with | cons h1 h2 => cases h1 with | agg hl => exact .cons (.agg (key _ hl)) (k _ h2)

end Go.Proofs.YtbflmeomkfjikaaGreat.A.E



set_option linter.unusedVariables false
set_option linter.unusedSimpArgs false
set_option maxRecDepth 100000
namespace Go.Proofs.YtbflmeomkfjikaaGreat.A
open Go Go.RowKit Go.Shelf

/-! ### root: may a state be? -/
theorem ok50 (ex ep : Bool) (x l : List Fr) (r c : Int) : Ok Tryz.prog 50 [stV ex ep (frs x) r c (frs l)] (tru (stRight x.length r c l.length)) := by
  refine ok_fn mixed Tryz.func50 (code := ?_) (h := h50) ?_ k50 ?_
  rotate_left
  · exact rfl
  unfold h50 initS
  simp -implicitDefEqProofs (maxSteps := 10000000) only [rkA, rkB, stepA, valA, simprocAttr, Tryz.ntmps50, Tryz.results50]
  have e : (frs x).length = x.length := by simp
  have e' : (frs l).length = l.length := by simp
  by_cases hx : 1 ≤ x.length ∧ x.length ≤ 4
  · have h1 : (1 : Int) ≤ (x.length : Int) := by omega
    have h2 : (x.length : Int) ≤ 4 := by omega
    simp -implicitDefEqProofs (maxSteps := 10000000) only [e, h1, h2, rkA, rkB, stepA, valA, simprocAttr]
    refine call_fn rfl rfl rfl (ok100 ep r c (frs l)) ?_
    rw [e']
    cases hr : right r c l.length with
    | false => simp -implicitDefEqProofs (maxSteps := 10000000) only [stRight, hx, hr, rkA, rkB, stepA, valA, simprocAttr]
    | true =>
      simp -implicitDefEqProofs (maxSteps := 10000000) only [rkA, rkB, stepA, valA, simprocAttr]
      cases h3 : (r == (x.length : Int)) with
      | false => simp -implicitDefEqProofs (maxSteps := 10000000) only [stRight, hx, hr, h3, rkA, rkB, stepA, valA, simprocAttr]
      | true => simp -implicitDefEqProofs (maxSteps := 10000000) only [stRight, hx, hr, h3, rkA, rkB, stepA, valA, simprocAttr]
  · have hs : stRight x.length r c l.length = false := by simp -implicitDefEqProofs (maxSteps := 10000000) only [stRight, hx, rkA, rkB, stepA, valA, simprocAttr]
    rw [hs]
    by_cases h1 : 1 ≤ x.length
    · have h1' : (1 : Int) ≤ (x.length : Int) := by omega
      have h2 : ¬ (x.length : Int) ≤ 4 := by omega
      simp -implicitDefEqProofs (maxSteps := 10000000) only [e, h1', h2, rkA, rkB, stepA, valA, simprocAttr]
    · have h1' : ¬ (1 : Int) ≤ (x.length : Int) := by omega
      simp -implicitDefEqProofs (maxSteps := 10000000) only [e, h1', rkA, rkB, stepA, valA, simprocAttr]

/-! ### Update -/
abbrev newsV' (e a : Fr) : PV := .agg [num e.n, num e.d, tru e.bad, num a.n, num a.d, tru a.bad]
/-- Behind t columns: the rows, what was gathered, and the spread. -/
def upK (n : Nat) (M : Nat → Nat → Fr) (W : Nat → Fr) (r : Fr) : Nat → (Nat → Nat → Fr) × (Nat → Fr) × Fr
  | 0 => (M, fun _ => newF 0 1, r)
  | t + 1 =>
    let p := upK n M W r t
    let j := n - 1 - t
    let b := addF p.2.2 (mulF (W j) (W j))
    (colM p.1 p.2.1 j (rootD p.2.2 b) (rootC (W j) p.2.2 b) n, colE p.1 p.2.1 j (W j) n, b)
theorem upK_succ {n j : Nat} (M : Nat → Nat → Fr) (W : Nat → Fr) (r : Fr) {t : Nat} (h : n - 1 - t = j) : upK n M W r (t + 1) =
    (colM (upK n M W r t).1 (upK n M W r t).2.1 j (rootD (upK n M W r t).2.2 (addF (upK n M W r t).2.2 (mulF (W j) (W j)))) (rootC (W j) (upK n M W r t).2.2 (addF (upK n M W r t).2.2 (mulF (W j) (W j)))) n,
      colE (upK n M W r t).1 (upK n M W r t).2.1 j (W j) n, addF (upK n M W r t).2.2 (mulF (W j) (W j))) := by
  subst h
  rfl
def dotsR (n : Nat) (l h : List Fr) (j : Nat) : Fr := dotF (rowF n n (turnF n n l) j) h
def upR (n : Nat) (l h : List Fr) (r : Fr) : (Nat → Nat → Fr) × (Nat → Fr) × Fr := upK n (startF n n l) (dotsR n l h) r n
def upRS (n : Nat) (l h : List Fr) (r : Fr) : List Fr := ((List.range n).map (rowM n (upR n l h r).1)).flatten
def upRK (n : Nat) (l h : List Fr) (r : Fr) : List Fr := (List.range n).map fun i => divF ((upR n l h r).2.1 i) (upR n l h r).2.2
def upRX (n : Nat) (x l h : List Fr) (r z : Fr) : List Fr := List.zipWith addF x ((upRK n l h r).map (mulF · (subF z (dotF h x))))
theorem upRS_len (n : Nat) (l h : List Fr) (r : Fr) : (upRS n l h r).length = n * n := by
  unfold upRS
  rw [List.length_flatten, List.map_map]
  have e : ∀ k : List Nat, (k.map (List.length ∘ rowM n (upR n l h r).1)).sum = k.length * n := fun k => by
    induction k with
    | nil => simp
    | cons x k ih => rw [List.map_cons, List.sum_cons, ih, List.length_cons, Nat.succ_mul, Nat.add_comm]; show k.length * n + (rowM n (upR n l h r).1 x).length = _; rw [rowM_length]
  rw [e, List.length_range]
/-- Rows in memory, told as values. -/
theorem tells_rows {m : Mem} {c cap q : Nat → Nat} {n w : Nat} {M : Nat → Nat → Fr} (ex : Bool) (h : RowsC m c q n w M) (hcap : ∀ i, i < n → w ≤ cap i) : Tell m (.sl ex ((List.range n).map (rawC c cap w))) (.sl ex (catV ((List.range n).map (rowM w M)))) := by
  have h1 : ∀ l : List Nat, ∀ x ∈ l.map (rawC c cap w), x.cells = [x] := fun l x hx => by
    obtain ⟨i, _, rfl⟩ := List.mem_map.1 hx
    rfl
  have h2 : ∀ l : List (List Fr), ∀ x ∈ catV l, x.cells = [x] := fun l x hx => by
    obtain ⟨i, _, rfl⟩ := List.mem_map.1 hx
    rfl
  refine .slIn (sz := 1) (fun x hx => by rw [h1 _ x hx]; rfl) (fun x hx => by rw [h2 _ x hx]; rfl) (by simp) ?_
  rw [flat_one (h1 _), flat_one (h2 _), catV, List.map_map]
  refine tells_map fun i hi => ?_
  have hi' := List.mem_range.1 hi
  have := tell_row (m := m) (b := c i) (cap := cap i) (q := q i) (l := rowM w M i) (h.row i hi') (by rw [List.length_map, rowM_length]; exact hcap i hi')
  rw [List.length_map, rowM_length] at this
  exact this
theorem newMat_rf {r c : Int} {l : List PV} (hl : RFs (flat l) = true) : ∀ x m', NewMat r c l x m' → RF x = true ∧ ∀ b cells, m' b = some cells → RFs cells = true := by
  rintro x m' ⟨b, cap, q, _, rfl, rfl⟩
  refine ⟨rfl, fun d cells hd => ?_⟩
  by_cases e : d = b
  · subst e
    rw [Mem.put_same] at hd
    cases hd
    exact RFs_append hl (RFs_replicate q)
  · rw [Mem.put_other _ _ e] at hd
    cases hd
set_option maxHeartbeats 4000000 in
theorem ok59 (ex ep eh : Bool) (n : Nat) (x l h : List Fr) (r z : Fr) (hn : 1 ≤ n ∧ n ≤ 4) (hx : x.length = n) (hl : l.length = n * n) (hh : h.length = n) :
    Ok Tryz.prog 59 [stV ex ep (frs x) n n (frs l), .sl eh (frs h), frV r, frV z] (.tup [stV false false (frs (upRX n x l h r z)) n n (frs (upRS n l h r)), newsV' (subF z (dotF h x)) (upR n l h r).2.2, tru true]) := by
  have hn' : 1 ≤ n ∧ n ≤ 16 := by omega
  have hr : right (n : Int) (n : Int) l.length = true := right_sq hn' hl
  refine okt_fn mixed Tryz.func59 (code := ?_) (h := h59) ?_ k59 ?_
  rotate_left
  · exact rfl
  unfold h59 initS
  simp -implicitDefEqProofs (maxSteps := 10000000) only [rkA, rkB, stepA, valA, simprocAttr, Tryz.ntmps59, Tryz.results59]
  have h6 := ok50 ex ep x l n n
  rw [stRight_nat hl, decide_eq_true (show 1 ≤ x.length ∧ x.length ≤ 4 ∧ x.length = n by omega)] at h6
  refine call_fn rfl rfl rfl (h6) ?_
  have lx : (frs x).length = n := by simp [hx]
  have lh : (frs h).length = n := by simp [hh]
  simp -implicitDefEqProofs (maxSteps := 10000000) only [lx, lh, bne_self_eq_false, rkA, rkB, stepA, valA, simprocAttr]
  refine call_fn rfl rfl rfl (ok98 ep n n l) ?_
  simp -implicitDefEqProofs (maxSteps := 10000000) only [rkA, rkB, stepA, valA, simprocAttr]
  refine wp_rfM' (items := rowItems n n l) rfl (itm150 ep n n l hr) (fun sv i s => i ≤ n ∧ ∃ mm c cap q, RowsC mm c q i n (startF n n l) ∧ (∀ a, a < i → n ≤ cap a) ∧ s = ⟨[], [(4, [.v (.sl ex (frs x)), nt n, nt n, .v (.sl ep (frs l))]), (5, [.v (.sl eh (frs h))]), (6, [nt r.n, nt r.d, .v (tru r.bad)]), (7, [nt z.n, nt z.d, .v (tru z.bad)]), (8, [.acc 1008 [], nt 0, nt 0, .acc 4008 []]), (9, [nt 0, nt 0, .v (tru false), nt 0, nt 0, .v (tru false)]), (12, [.acc 1012 ((List.range i).map (rawC c cap n))]), (13, [.acc 1013 []])], [], [(1008, 0), (1012, i), (1013, 0), (4008, 0)], sv, 0, mm⟩) ?_ ?_ ?_
  · simp -implicitDefEqProofs (maxSteps := 10000000) only [rkA, rkB, stepA, valA, simprocAttr]
    exact ⟨Nat.zero_le _, nomem, fun _ => 0, fun _ => 0, fun _ => 0, ⟨fun i h => by omega, fun i j h => by omega⟩, fun a h => by omega, rfl⟩
  · rintro i x' p m s' R hx' ⟨hi, mm, c, cap, q, hM, hcap, rfl⟩ hxm hfr hR
    have hlt : i < n := by
      have := (List.getElem?_eq_some_iff.1 hx').1
      simpa [rowItems] using this
    have hxe : x' = rowItem n n l i := by
      rw [rowItems, List.getElem?_map, List.getElem?_range (by simpa using hlt), Option.map_some] at hx'
      exact (Option.some.inj hx').symm
    subst hxe
    obtain ⟨b, cp, z', h1, rfl, rfl⟩ := hxm
    have hb : mm b = none := hfr b (by rw [Mem.put_same]; rfl)
    have lr : (frs (rowF n n l i)).length = n := by rw [List.length_map, row_start hr hlt, rowM_length]
    rw [lr] at h1
    rw [lr, row_start hr hlt]
    refine ⟨rfl, ?_⟩
    have hfit := fits_raw c cap n i (.s (.slice (some ⟨b, 0, none⟩) n cp)) ⟨_, _, _, rfl⟩ (by omega)
    have hll : ((List.range i).map (rawC c cap n)).length = i := by simp
    simp -implicitDefEqProofs (maxSteps := 10000000) only [hfit, hll, raw_grow, rkA, rkB, stepA, valA, simprocAttr]
    refine hR _ ⟨by omega, _, _, _, _, hM.grow (z := z') hb, fun a ha => ?_, rfl⟩
    by_cases e : a = i
    · simp only [e, if_true]; exact h1
    · simp only [e, if_false]; exact hcap a (by omega)
  rintro s' ⟨hi, mm, c, cap, q, hM, hcap, rfl⟩
  have li : (rowItems n n l).length = n := by simp [rowItems]
  rw [li] at hM hcap ⊢
  clear hi
  simp -implicitDefEqProofs (maxSteps := 10000000) only [rkA, rkB, stepA, valA, simprocAttr]
  have h25 := ok119 ep n n l
  rw [if_pos hr] at h25
  refine call_fn rfl rfl rfl (h25) ?_
  simp -implicitDefEqProofs (maxSteps := 10000000) only [rkA, rkB, stepA, valA, simprocAttr]
  have hrt := right_turn hr
  refine call_fn rfl rfl rfl (ok98 false n n (turnF n n l)) ?_
  simp -implicitDefEqProofs (maxSteps := 10000000) only [rkA, rkB, stepA, valA, simprocAttr]
  have lt : (rowsF n n (turnF n n l)).length = n := by rw [rowsF_length hrt, Int.toNat_natCast]
  refine wp_rf' (items := rowsF n n (turnF n n l)) rfl (it150 false n n (turnF n n l)) (fun sv i s => i ≤ n ∧ s = ⟨[], [(4, [.v (.sl ex (frs x)), nt n, nt n, .v (.sl ep (frs l))]), (5, [.v (.sl eh (frs h))]), (6, [nt r.n, nt r.d, .v (tru r.bad)]), (7, [nt z.n, nt z.d, .v (tru z.bad)]), (8, [.acc 1008 [], nt 0, nt 0, .acc 4008 []]), (9, [nt 0, nt 0, .v (tru false), nt 0, nt 0, .v (tru false)]), (12, [.acc 1012 ((List.range n).map (rawC c cap n))]), (13, [.acc 1013 (frs ((List.range i).map (dotsR n l h)))])], [], [(1008, 0), (1012, n), (1013, i), (4008, 0)], sv, 0, mm⟩) ?_ ?_ ?_
  · simp -implicitDefEqProofs (maxSteps := 10000000) only [rkA, rkB, stepA, valA, simprocAttr]
    exact Nat.zero_le _
  · rintro i x' s' R hx' ⟨hi, rfl⟩ hR
    obtain ⟨hlt, rfl, hxa⟩ := rowsF_all hrt hx'
    rw [Int.toNat_natCast] at hlt
    have hrl := rowF_len hrt (i := i) (by simpa using hlt)
    rw [Int.toNat_natCast] at hrl
    refine ⟨rfl, ?_⟩
    simp -implicitDefEqProofs (maxSteps := 10000000) only [rkA, rkB, stepA, valA, simprocAttr]
    refine call_fn rfl rfl rfl (ok76 false eh (rowF n n (turnF n n l) i) h (by omega) (by omega)) ?_
    have hd : dotF (rowF n n (turnF n n l) i) h = dotsR n l h i := rfl
    have hfit : fits 3 24 (frs ((List.range i).map (dotsR n l h))) [frV (dotsR n l h i)] = true := fits_frs (l := [dotsR n l h i]) (by simp; omega)
    have hll : (frs ((List.range i).map (dotsR n l h))).length = i := by simp
    simp -implicitDefEqProofs (maxSteps := 10000000) only [hd, hfit, hll, rkA, rkB, stepA, valA, simprocAttr]
    refine hR _ ⟨by omega, ?_⟩
    rw [List.range_succ, List.map_append]
    simp only [frs, List.map_append, List.map_cons, List.map_nil]
  rintro s' ⟨hi, rfl⟩
  rw [lt]
  clear hi
  simp -implicitDefEqProofs (maxSteps := 10000000) only [rkA, rkB, stepA, valA, simprocAttr]
  refine new_make (T := 24) (N := 3) rfl rfl rfl rfl rfl (by omega) (by omega) (by omega) ?_
  intro b hb
  have hb' : mm b = none := hb
  have hcb : ∀ i, i < n → c i ≠ b := fun i hi e => by have := hM.row i hi; rw [e, hb'] at this; cases this
  have n0 : (0 : Int) ≤ (n : Int) := by omega
  have n1 : (n : Int) * 8 ≤ 140737488355328 := by omega
  have n2 : (n : Int) ≤ 16777216 := by omega
  simp -implicitDefEqProofs (maxSteps := 10000000) only [Int.toNat_natCast, flat_zeros, n0, n1, n2, rkA, rkB, stepA, valA, simprocAttr]
  have h35 := ok39 true (List.replicate n 0) (by simp; omega)
  rw [List.map_replicate, List.map_replicate] at h35
  refine call_fn rfl rfl rfl (h35) ?_
  simp -implicitDefEqProofs (maxSteps := 10000000) only [rkA, rkB, stepA, valA, simprocAttr]
  have lz : (flat (frs (List.replicate n (⟨0, 0, false⟩ : Fr)))).length = n * 3 := by rw [flat_length (frs_cells _)]; simp
  have lf : (flat (frs (List.replicate n (newF 0 1)))).length = n * 3 := by rw [flat_length (frs_cells _)]; simp
  refine copy_of (ys := frs (List.replicate n (newF 0 1))) rfl rfl (.same _) (RFs_frs _) (Mem.put_same _ _ _) (frs_ok _) (by simp) (by rw [lz, lf]; omega) ?_
  have hdr : (flat (frs (List.replicate n (⟨0, 0, false⟩ : Fr)))).drop (flat (frs (List.replicate n (newF 0 1)))).length = [] := List.drop_of_length_le (by rw [lz, lf]; omega)
  have hM2 : RowsC ((mm.put b (flat (frs (List.replicate n (⟨0, 0, false⟩ : Fr))))).put b (flat (frs (List.replicate n (newF 0 1))))) c q n n (startF n n l) := (hM.other hcb).other hcb
  have hrep : List.replicate n (newF 0 1) = (List.range n).map (fun _ => newF 0 1) := by
    apply List.ext_getElem?
    intro i
    by_cases hi : i < n
    · simp [hi]
    · rw [List.getElem?_eq_none (by simp; omega), List.getElem?_eq_none (by simp; omega)]
  have hE2 : ((mm.put b (flat (frs (List.replicate n (⟨0, 0, false⟩ : Fr))))).put b (flat (frs (List.replicate n (newF 0 1))))) b = some (flat (frs ((List.range n).map (upK n (startF n n l) (dotsR n l h) r 0).2.1))) := by
    rw [Mem.put_same, hrep]
    rfl
  generalize hmm : (mm.put b (flat (frs (List.replicate n (⟨0, 0, false⟩ : Fr))))).put b (flat (frs (List.replicate n (newF 0 1)))) = mm1 at hM2 hE2
  have w1 := wrapped (x := (n : Int) - 1) (by omega) (by omega)
  simp -implicitDefEqProofs (maxSteps := 10000000) only [Nat.zero_add, hdr, List.append_nil, hmm, w1, rkA, rkB, stepA, valA, simprocAttr]
  clear hmm hb hb' hM hrep hdr lz lf
  refine wp_loop (fun m s => ∃ (t : Nat) (mm : Mem) (A : Fr), t + m = n ∧ A = (upK n (startF n n l) (dotsR n l h) r t).2.2 ∧ RowsC mm c q n n (upK n (startF n n l) (dotsR n l h) r t).1 ∧ mm b = some (flat (frs ((List.range n).map (upK n (startF n n l) (dotsR n l h) r t).2.1))) ∧
    s = ⟨[jk, jk, jk, jk, .ptr 4 0, .ptr 5 0, jk, .ptr 7 0, .ptr 8 0, .ptr 9 0, jk, nt n, .ptr 12 0, .ptr 13 0, jk, jk, jk, jk, .v (.s (.slice (some ⟨b, 0, none⟩) n n)), .ptr 19 0, nt ((m : Int) - 1), jk, jk, jk, jk, jk, jk, jk, jk, jk, jk, jk, jk, jk, jk, jk, jk, jk, jk, jk, jk, jk, jk, jk, jk, jk, jk, jk, jk, jk, jk, jk, jk, jk, jk, jk, jk, jk, jk, jk, jk, jk, jk, jk, jk, jk, jk, jk, jk, jk, jk, jk, jk, jk, jk, jk, jk, jk, jk, jk, jk, jk, jk, jk, jk, jk, jk, jk, jk, jk, jk, jk, jk, jk, jk, jk, jk, jk, jk, jk, jk, jk, jk, jk, jk, jk, jk, jk, jk, jk, jk, jk, jk, jk, jk, jk, jk, jk, jk, jk, jk, jk, jk, jk, jk, jk, jk, jk, jk, jk, jk, jk, jk, jk, jk, jk, jk, jk, jk, jk, jk, jk],
      [(4, [.v (.sl ex (frs x)), nt n, nt n, .v (.sl ep (frs l))]), (5, [.v (.sl eh (frs h))]), (6, [nt r.n, nt r.d, .v (tru r.bad)]), (7, [nt z.n, nt z.d, .v (tru z.bad)]), (8, [.acc 1008 [], nt 0, nt 0, .acc 4008 []]), (9, [nt 0, nt 0, .v (tru false), nt 0, nt 0, .v (tru false)]), (12, [.acc 1012 ((List.range n).map (rawC c cap n))]), (13, [.acc 1013 (frs ((List.range n).map (dotsR n l h)))]), (19, [nt A.n, nt A.d, .v (tru A.bad)])], [], [(1008, 0), (1012, n), (1013, n), (4008, 0)], [], 0, mm⟩) n ?_ ?_
  · simp -implicitDefEqProofs (maxSteps := 10000000) only [rkA, rkB, stepA, valA, simprocAttr]
    exact ⟨0, mm1, r, by omega, rfl, hM2, hE2, rfl⟩
  clear hM2 hE2 mm1
  rintro m s ⟨t, mm, A, htm, hA, hM, hE, rfl⟩
  simp -implicitDefEqProofs (maxSteps := 10000000) only [rkA, rkB, stepA, valA, simprocAttr]
  refine gB_dec ?_ ?_ <;> intro hc <;> simp -implicitDefEqProofs (maxSteps := 10000000) only [hc, rkA, rkB, stepA, valA, simprocAttr]
  · obtain ⟨j, rfl⟩ : ∃ j, m = j + 1 := ⟨m - 1, by omega⟩
    have hj : j < n := by omega
    have ej : ((j + 1 : Nat) : Int) - 1 = (j : Int) := by omega
    have h0j : (0 : Int) ≤ (j : Int) := by omega
    have gw : (frs ((List.range n).map (dotsR n l h)))[j]? = some (frV (dotsR n l h j)) := by simp [hj]
    simp -implicitDefEqProofs (maxSteps := 10000000) only [ej, h0j, Int.toNat_natCast, gw, rkA, rkB, stepA, valA, simprocAttr]
    refine call_meth rfl rfl methMul (ok213 _ _) ?_
    simp -implicitDefEqProofs (maxSteps := 10000000) only [rkA, rkB, stepA, valA, simprocAttr]
    refine call_meth rfl rfl methAdd (ok210 _ _) ?_
    simp -implicitDefEqProofs (maxSteps := 10000000) only [h0j, Int.toNat_natCast, gw, rkA, rkB, stepA, valA, simprocAttr]
    generalize hB : addF A (mulF (dotsR n l h j) (dotsR n l h j)) = B
    refine mem_fn rfl rfl rfl (okm120 false n j hj (by omega) _ _ (dotsR n l h j) A B c cap q hcap b mm hM hE hcb) ?_
    rintro r' m' ⟨hM', hE'⟩
    have w2 := wrapped (x := (j : Int) - 1) (by omega) (by omega)
    simp -implicitDefEqProofs (maxSteps := 10000000) only [w2, rkA, rkB, stepA, valA, simprocAttr]
    refine loopK_of (m' := j) (by omega) ?_
    simp -implicitDefEqProofs (maxSteps := 10000000) only [rkA, rkB, stepA, valA, simprocAttr]
    have hup := upK_succ (startF n n l) (dotsR n l h) r (show n - 1 - t = j by omega)
    rw [← hA, hB] at hup
    exact ⟨t + 1, m', B, by omega, by rw [hup], by rw [hup]; exact hM', by rw [hup]; exact hE', rfl⟩
  · have ht : t = n := by omega
    rw [ht] at hA hM hE
    refine call_fn rfl rfl rfl (ok76 eh ex h x (by omega) (by omega)) ?_
    simp -implicitDefEqProofs (maxSteps := 10000000) only [rkA, rkB, stepA, valA, simprocAttr]
    refine call_meth rfl rfl methSub (ok218 _ _) ?_
    generalize hz : subF z (dotF h x) = Z
    generalize hU : upK n (startF n n l) (dotsR n l h) r n = U at hA hM hE
    have hUR : upR n l h r = U := hU
    simp -implicitDefEqProofs (maxSteps := 10000000) only [rkA, rkB, stepA, valA, simprocAttr]
    have hkl : ((List.range n).map fun i => divF (U.2.1 i) A).length = n := by simp
    refine wp_loop (fun m s => ∃ (i : Nat), i + m = n ∧
      s = ⟨[jk, jk, jk, jk, .ptr 4 0, jk, jk, jk, .ptr 8 0, .ptr 9 0, jk, nt n, .ptr 12 0, jk, jk, jk, jk, jk, jk, .ptr 19 0, jk, jk, .ptr 22 0, .acc 23 (frs ((List.range i).map fun i => divF (U.2.1 i) A)), jk, jk, jk, jk, jk, jk, jk, jk, jk, jk, jk, jk, jk, jk, jk, jk, jk, jk, jk, jk, jk, jk, jk, jk, jk, jk, jk, jk, jk, jk, jk, jk, jk, jk, jk, jk, jk, jk, jk, jk, jk, jk, jk, jk, jk, jk, jk, jk, jk, jk, jk, jk, jk, jk, jk, jk, jk, jk, jk, jk, jk, jk, jk, jk, jk, jk, jk, jk, jk, jk, jk, jk, jk, jk, jk, jk, jk, jk, jk, jk, jk, jk, jk, jk, jk, jk, .v (.s (.slice (some ⟨b, 0, none⟩) n n)), nt n, nt i, jk, jk, jk, jk, jk, jk, jk, jk, jk, jk, jk, jk, jk, jk, jk, jk, jk, jk, jk, jk, jk, jk, jk, jk, jk, jk, jk, jk, jk],
        [(4, [.v (.sl ex (frs x)), nt n, nt n, .v (.sl ep (frs l))]), (5, [.v (.sl eh (frs h))]), (6, [nt r.n, nt r.d, .v (tru r.bad)]), (7, [nt z.n, nt z.d, .v (tru z.bad)]), (8, [.acc 1008 [], nt 0, nt 0, .acc 4008 []]), (9, [nt 0, nt 0, .v (tru false), nt 0, nt 0, .v (tru false)]), (12, [.acc 1012 ((List.range n).map (rawC c cap n))]), (13, [.acc 1013 (frs ((List.range n).map (dotsR n l h)))]), (19, [nt A.n, nt A.d, .v (tru A.bad)]), (22, [nt Z.n, nt Z.d, .v (tru Z.bad), nt A.n, nt A.d, .v (tru A.bad)])], [], [(23, i), (1008, 0), (1012, n), (1013, n), (4008, 0)], [], 0, mm⟩) n ?_ ?_
    · simp -implicitDefEqProofs (maxSteps := 10000000) only [rkA, rkB, stepA, valA, simprocAttr]
      exact ⟨0, by omega, rfl⟩
    rintro m s ⟨i, him, rfl⟩
    simp -implicitDefEqProofs (maxSteps := 10000000) only [rkA, rkB, stepA, valA, simprocAttr]
    refine gB_dec ?_ ?_ <;> intro hc <;> simp -implicitDefEqProofs (maxSteps := 10000000) only [hc, rkA, rkB, stepA, valA, simprocAttr]
    · have hi : i < n := by omega
      have h0i : (0 : Int) ≤ (i : Int) := by omega
      have hin : (i : Int) < (n : Int) := by omega
      have hle : ((List.range n).map U.2.1)[i]? = some (U.2.1 i) := by simp [hi]
      have hlde := ldM_fr hle
      simp -implicitDefEqProofs (maxSteps := 10000000) only [h0i, hin, Int.toNat_natCast, addr_add, Nat.zero_add, hE, hlde, rkA, rkB, stepA, valA, simprocAttr]
      refine call_meth rfl rfl methDiv (ok211 _ _) ?_
      have hfit : fits 3 24 (frs ((List.range i).map fun i => divF (U.2.1 i) A)) [frV (divF (U.2.1 i) A)] = true := fits_frs (l := [divF (U.2.1 i) A]) (by simp; omega)
      have hll : (frs ((List.range i).map fun i => divF (U.2.1 i) A)).length = i := by simp
      have hw := wrapped (x := (i : Int) + 1) (by omega) (by omega)
      simp -implicitDefEqProofs (maxSteps := 10000000) only [hfit, hll, hw, rkA, rkB, stepA, valA, simprocAttr]
      refine loopK_of (m' := m - 1) (by omega) ?_
      simp -implicitDefEqProofs (maxSteps := 10000000) only [rkA, rkB, stepA, valA, simprocAttr]
      refine ⟨i + 1, by omega, ?_⟩
      rw [List.range_succ, List.map_append]
      simp only [frs, List.map_append, List.map_cons, List.map_nil, Int.natCast_add, Int.natCast_one]
    · have hin : i = n := by omega
      rw [hin]
      have hcat : ((List.range n).map (rowM n U.1)).flatten = upRS n l h r := by rw [upRS, hUR]
      have hcl := upRS_len n l h r
      have hsq := side16 (n := n) (m := n) (by omega) (by omega)
      have hpos : 0 < n * n := Nat.mul_pos (by omega) (by omega)
      have hne : upRS n l h r ≠ [] := fun e => by rw [e] at hcl; simp at hcl; omega
      have hcc := okn121 false ((List.range n).map (rowM n U.1)) (by rw [hcat]; exact hne) (by rw [hcat, hcl]; omega) (by simp; omega)
      rw [hcat] at hcc
      refine newRow_fn rfl rfl (.cons (tells_rows false hM hcap) .nil) hcc (RFs_frs _) (by simpa using hne) ?_
      intro c2 cap2 q2 hc2 hcap2
      simp -implicitDefEqProofs (maxSteps := 10000000) only [rkA, rkB, stepA, valA, simprocAttr]
      have hrs : right (n : Int) (n : Int) (upRS n l h r).length = true := right_sq hn' hcl
      refine lendNew_fn rfl rfl (.cons (.same _) (.cons (.same _) (.cons (tell_row (Mem.put_same _ _ _) hcap2) .nil))) (okm71 n n false (upRS n l h r) hrs) (newMat_rf (RFs_frs _)) ?_
      rintro y m' ⟨b3, cap3, q3, hcap3, rfl, rfl⟩ hfr
      simp -implicitDefEqProofs (maxSteps := 10000000) only [rkA, rkB, stepA, valA, simprocAttr]
      have hk : ((List.range n).map fun i => divF (U.2.1 i) A) = upRK n l h r := by rw [upRK, hUR, ← hA]
      have hkl : (upRK n l h r).length = n := by simp [upRK]
      rw [hk]
      refine call_fn rfl rfl rfl (ok123 false (upRK n l h r) Z (by omega)) ?_
      simp -implicitDefEqProofs (maxSteps := 10000000) only [rkA, rkB, stepA, valA, simprocAttr]
      refine call_fn rfl rfl rfl (ok122 ex false x ((upRK n l h r).map (mulF · Z)) (by omega) (by simp; omega)) ?_
      simp -implicitDefEqProofs (maxSteps := 10000000) only [rkA, rkB, stepA, valA, simprocAttr]
      refine ⟨_, rfl, ?_⟩
      rw [upRX, hz, hUR, ← hA]
      exact .tup (.cons (.agg (.cons (.same _) (.cons (.same _) (.cons (.same _) (.cons (tell_row (Mem.put_same _ _ _) hcap3) .nil))))) (.cons (.same _) (.cons (.same _) .nil)))
end Go.Proofs.YtbflmeomkfjikaaGreat.A



set_option linter.unusedVariables false
set_option linter.unusedSimpArgs false
set_option maxRecDepth 100000
namespace Go.Proofs.YtbflmeomkfjikaaGreat.A.E
open Go Go.RowKit Go.Shelf

theorem ok62 (ex ep : Bool) (x l : List Fr) (r c : Int) : Ok Tryz.prog 62 [stV ex ep (frs x) r c (frs l)] (tru (stRight x.length r c l.length)) := by
  refine ok_fn mixed Tryz.func62 (code := ?_) (h := h62) ?_ k62 ?_
  rotate_left
  · exact rfl
  unfold h62 initS
  simp -implicitDefEqProofs (maxSteps := 10000000) only [rkA, rkB, stepA, valA, simprocAttr, Tryz.ntmps62, Tryz.results62]
  have e : (frs x).length = x.length := by simp
  have e' : (frs l).length = l.length := by simp
  by_cases hx : 1 ≤ x.length ∧ x.length ≤ 4
  · have h1 : (1 : Int) ≤ (x.length : Int) := by omega
    have h2 : (x.length : Int) ≤ 4 := by omega
    simp -implicitDefEqProofs (maxSteps := 10000000) only [e, h1, h2, rkA, rkB, stepA, valA, simprocAttr]
    refine call_fn rfl rfl rfl (ok88 ep r c (frs l)) ?_
    rw [e']
    cases hr : right r c l.length with
    | false => simp -implicitDefEqProofs (maxSteps := 10000000) only [stRight, hx, hr, rkA, rkB, stepA, valA, simprocAttr]
    | true =>
      simp -implicitDefEqProofs (maxSteps := 10000000) only [rkA, rkB, stepA, valA, simprocAttr]
      cases h3 : (r == (x.length : Int)) with
      | false => simp -implicitDefEqProofs (maxSteps := 10000000) only [stRight, hx, hr, h3, rkA, rkB, stepA, valA, simprocAttr]
      | true => simp -implicitDefEqProofs (maxSteps := 10000000) only [stRight, hx, hr, h3, rkA, rkB, stepA, valA, simprocAttr]
  · have hs : stRight x.length r c l.length = false := by simp -implicitDefEqProofs (maxSteps := 10000000) only [stRight, hx, rkA, rkB, stepA, valA, simprocAttr]
    rw [hs]
    by_cases h1 : 1 ≤ x.length
    · have h1' : (1 : Int) ≤ (x.length : Int) := by omega
      have h2 : ¬ (x.length : Int) ≤ 4 := by omega
      simp -implicitDefEqProofs (maxSteps := 10000000) only [e, h1', h2, rkA, rkB, stepA, valA, simprocAttr]
    · have h1' : ¬ (1 : Int) ≤ (x.length : Int) := by omega
      simp -implicitDefEqProofs (maxSteps := 10000000) only [e, h1', rkA, rkB, stepA, valA, simprocAttr]

abbrev newsV' (e a : Fr) : PV := .agg [num e.v, num e.lo, num e.hi, tru e.bad, num a.v, num a.lo, num a.hi, tru a.bad]
/-- Behind t columns: the rows, what was gathered, and the spread. -/
def upK (n : Nat) (M : Nat → Nat → Fr) (W : Nat → Fr) (r : Fr) : Nat → (Nat → Nat → Fr) × (Nat → Fr) × Fr
  | 0 => (M, fun _ => newF 0 1, r)
  | t + 1 =>
    let p := upK n M W r t
    let j := n - 1 - t
    let b := addF p.2.2 (mulF (W j) (W j))
    (colM p.1 p.2.1 j (rootD p.2.2 b) (rootC (W j) p.2.2 b) n, colE p.1 p.2.1 j (W j) n, b)
theorem upK_succ {n j : Nat} (M : Nat → Nat → Fr) (W : Nat → Fr) (r : Fr) {t : Nat} (h : n - 1 - t = j) : upK n M W r (t + 1) =
    (colM (upK n M W r t).1 (upK n M W r t).2.1 j (rootD (upK n M W r t).2.2 (addF (upK n M W r t).2.2 (mulF (W j) (W j)))) (rootC (W j) (upK n M W r t).2.2 (addF (upK n M W r t).2.2 (mulF (W j) (W j)))) n,
      colE (upK n M W r t).1 (upK n M W r t).2.1 j (W j) n, addF (upK n M W r t).2.2 (mulF (W j) (W j))) := by
  subst h
  rfl
def dotsR (n : Nat) (l h : List Fr) (j : Nat) : Fr := dotF (rowF n n (turnF n n l) j) h
def upR (n : Nat) (l h : List Fr) (r : Fr) : (Nat → Nat → Fr) × (Nat → Fr) × Fr := upK n (startF n n l) (dotsR n l h) r n
def upRS (n : Nat) (l h : List Fr) (r : Fr) : List Fr := ((List.range n).map (rowM n (upR n l h r).1)).flatten
def upRK (n : Nat) (l h : List Fr) (r : Fr) : List Fr := (List.range n).map fun i => divF ((upR n l h r).2.1 i) (upR n l h r).2.2
def upRX (n : Nat) (x l h : List Fr) (r z : Fr) : List Fr := List.zipWith addF x ((upRK n l h r).map (mulF · (subF z (dotF h x))))
theorem upRS_len (n : Nat) (l h : List Fr) (r : Fr) : (upRS n l h r).length = n * n := by
  unfold upRS
  rw [List.length_flatten, List.map_map]
  have e : ∀ k : List Nat, (k.map (List.length ∘ rowM n (upR n l h r).1)).sum = k.length * n := fun k => by
    induction k with
    | nil => simp
    | cons x k ih => rw [List.map_cons, List.sum_cons, ih, List.length_cons, Nat.succ_mul, Nat.add_comm]; show k.length * n + (rowM n (upR n l h r).1 x).length = _; rw [rowM_length]
  rw [e, List.length_range]
/-- Rows in memory, told as values. -/
theorem tells_rows {m : Mem} {c cap q : Nat → Nat} {n w : Nat} {M : Nat → Nat → Fr} (ex : Bool) (h : RowsC m c q n w M) (hcap : ∀ i, i < n → w ≤ cap i) : Tell m (.sl ex ((List.range n).map (rawC c cap w))) (.sl ex (catV ((List.range n).map (rowM w M)))) := by
  have h1 : ∀ l : List Nat, ∀ x ∈ l.map (rawC c cap w), x.cells = [x] := fun l x hx => by
    obtain ⟨i, _, rfl⟩ := List.mem_map.1 hx
    rfl
  have h2 : ∀ l : List (List Fr), ∀ x ∈ catV l, x.cells = [x] := fun l x hx => by
    obtain ⟨i, _, rfl⟩ := List.mem_map.1 hx
    rfl
  refine .slIn (sz := 1) (fun x hx => by rw [h1 _ x hx]; rfl) (fun x hx => by rw [h2 _ x hx]; rfl) (by simp) ?_
  rw [flat_one (h1 _), flat_one (h2 _), catV, List.map_map]
  refine tells_map fun i hi => ?_
  have hi' := List.mem_range.1 hi
  have := tell_row (m := m) (b := c i) (cap := cap i) (q := q i) (l := rowM w M i) (h.row i hi') (by rw [List.length_map, rowM_length]; exact hcap i hi')
  rw [List.length_map, rowM_length] at this
  exact this
set_option maxHeartbeats 4000000 in
theorem ok55 (ex ep eh : Bool) (n : Nat) (x l h : List Fr) (r z : Fr) (hn : 1 ≤ n ∧ n ≤ 4) (hx : x.length = n) (hl : l.length = n * n) (hh : h.length = n) :
    Ok Tryz.prog 55 [stV ex ep (frs x) n n (frs l), .sl eh (frs h), frV r, frV z] (.tup [stV false false (frs (upRX n x l h r z)) n n (frs (upRS n l h r)), newsV' (subF z (dotF h x)) (upR n l h r).2.2, tru true]) := by
  have hn' : 1 ≤ n ∧ n ≤ 16 := by omega
  have hr : right (n : Int) (n : Int) l.length = true := right_sq hn' hl
  refine okt_fn mixed Tryz.func55 (code := ?_) (h := h55) ?_ k55 ?_
  rotate_left
  · exact rfl
  unfold h55 initS
  simp -implicitDefEqProofs (maxSteps := 10000000) only [rkA, rkB, stepA, valA, simprocAttr, Tryz.ntmps55, Tryz.results55]
  have h6 := ok62 ex ep x l n n
  rw [stRight_nat hl, decide_eq_true (show 1 ≤ x.length ∧ x.length ≤ 4 ∧ x.length = n by omega)] at h6
  refine call_fn rfl rfl rfl (h6) ?_
  have lx : (frs x).length = n := by simp [hx]
  have lh : (frs h).length = n := by simp [hh]
  simp -implicitDefEqProofs (maxSteps := 10000000) only [lx, lh, bne_self_eq_false, rkA, rkB, stepA, valA, simprocAttr]
  refine call_fn rfl rfl rfl (ok90 ep n n l) ?_
  simp -implicitDefEqProofs (maxSteps := 10000000) only [rkA, rkB, stepA, valA, simprocAttr]
  refine wp_rfM' (items := rowItems n n l) rfl (itm142 ep n n l hr) (fun sv i s => i ≤ n ∧ ∃ mm c cap q, RowsC mm c q i n (startF n n l) ∧ (∀ a, a < i → n ≤ cap a) ∧ s = ⟨[], [(4, [.v (.sl ex (frs x)), nt n, nt n, .v (.sl ep (frs l))]), (5, [.v (.sl eh (frs h))]), (6, [nt r.v, nt r.lo, nt r.hi, .v (tru r.bad)]), (7, [nt z.v, nt z.lo, nt z.hi, .v (tru z.bad)]), (8, [.acc 1008 [], nt 0, nt 0, .acc 4008 []]), (9, [nt 0, nt 0, nt 0, .v (tru false), nt 0, nt 0, nt 0, .v (tru false)]), (12, [.acc 1012 ((List.range i).map (rawC c cap n))]), (13, [.acc 1013 []])], [], [(1008, 0), (1012, i), (1013, 0), (4008, 0)], sv, 0, mm⟩) ?_ ?_ ?_
  · simp -implicitDefEqProofs (maxSteps := 10000000) only [rkA, rkB, stepA, valA, simprocAttr]
    exact ⟨Nat.zero_le _, nomem, fun _ => 0, fun _ => 0, fun _ => 0, ⟨fun i h => by omega, fun i j h => by omega⟩, fun a h => by omega, rfl⟩
  · rintro i x' p m s' R hx' ⟨hi, mm, c, cap, q, hM, hcap, rfl⟩ hxm hfr hR
    have hlt : i < n := by
      have := (List.getElem?_eq_some_iff.1 hx').1
      simpa [rowItems] using this
    have hxe : x' = rowItem n n l i := by
      rw [rowItems, List.getElem?_map, List.getElem?_range (by simpa using hlt), Option.map_some] at hx'
      exact (Option.some.inj hx').symm
    subst hxe
    obtain ⟨b, cp, z', h1, rfl, rfl⟩ := hxm
    have hb : mm b = none := hfr b (by rw [Mem.put_same]; rfl)
    have lr : (frs (rowF n n l i)).length = n := by rw [List.length_map, row_start hr hlt, rowM_length]
    rw [lr] at h1
    rw [lr, row_start hr hlt]
    refine ⟨rfl, ?_⟩
    have hfit := fits_raw c cap n i (.s (.slice (some ⟨b, 0, none⟩) n cp)) ⟨_, _, _, rfl⟩ (by omega)
    have hll : ((List.range i).map (rawC c cap n)).length = i := by simp
    simp -implicitDefEqProofs (maxSteps := 10000000) only [hfit, hll, raw_grow, rkA, rkB, stepA, valA, simprocAttr]
    refine hR _ ⟨by omega, _, _, _, _, hM.grow (z := z') hb, fun a ha => ?_, rfl⟩
    by_cases e : a = i
    · simp only [e, if_true]; exact h1
    · simp only [e, if_false]; exact hcap a (by omega)
  rintro s' ⟨hi, mm, c, cap, q, hM, hcap, rfl⟩
  have li : (rowItems n n l).length = n := by simp [rowItems]
  rw [li] at hM hcap ⊢
  clear hi
  simp -implicitDefEqProofs (maxSteps := 10000000) only [rkA, rkB, stepA, valA, simprocAttr]
  have h25 := ok107 ep n n l
  rw [if_pos hr] at h25
  refine call_fn rfl rfl rfl (h25) ?_
  simp -implicitDefEqProofs (maxSteps := 10000000) only [rkA, rkB, stepA, valA, simprocAttr]
  have hrt := right_turn hr
  refine call_fn rfl rfl rfl (ok90 false n n (turnF n n l)) ?_
  simp -implicitDefEqProofs (maxSteps := 10000000) only [rkA, rkB, stepA, valA, simprocAttr]
  have lt : (rowsF n n (turnF n n l)).length = n := by rw [rowsF_length hrt, Int.toNat_natCast]
  refine wp_rf' (items := rowsF n n (turnF n n l)) rfl (it142 false n n (turnF n n l)) (fun sv i s => i ≤ n ∧ s = ⟨[], [(4, [.v (.sl ex (frs x)), nt n, nt n, .v (.sl ep (frs l))]), (5, [.v (.sl eh (frs h))]), (6, [nt r.v, nt r.lo, nt r.hi, .v (tru r.bad)]), (7, [nt z.v, nt z.lo, nt z.hi, .v (tru z.bad)]), (8, [.acc 1008 [], nt 0, nt 0, .acc 4008 []]), (9, [nt 0, nt 0, nt 0, .v (tru false), nt 0, nt 0, nt 0, .v (tru false)]), (12, [.acc 1012 ((List.range n).map (rawC c cap n))]), (13, [.acc 1013 (frs ((List.range i).map (dotsR n l h)))])], [], [(1008, 0), (1012, n), (1013, i), (4008, 0)], sv, 0, mm⟩) ?_ ?_ ?_
  · simp -implicitDefEqProofs (maxSteps := 10000000) only [rkA, rkB, stepA, valA, simprocAttr]
    exact Nat.zero_le _
  · rintro i x' s' R hx' ⟨hi, rfl⟩ hR
    obtain ⟨hlt, rfl, hxa⟩ := rowsF_all hrt hx'
    rw [Int.toNat_natCast] at hlt
    have hrl := rowF_len hrt (i := i) (by simpa using hlt)
    rw [Int.toNat_natCast] at hrl
    refine ⟨rfl, ?_⟩
    simp -implicitDefEqProofs (maxSteps := 10000000) only [rkA, rkB, stepA, valA, simprocAttr]
    refine call_fn rfl rfl rfl (ok81 false eh (rowF n n (turnF n n l) i) h (by omega) (by omega)) ?_
    have hd : dotF (rowF n n (turnF n n l) i) h = dotsR n l h i := rfl
    have hfit : fits 4 32 (frs ((List.range i).map (dotsR n l h))) [frV (dotsR n l h i)] = true := fits_frs (l := [dotsR n l h i]) (by simp; omega)
    have hll : (frs ((List.range i).map (dotsR n l h))).length = i := by simp
    simp -implicitDefEqProofs (maxSteps := 10000000) only [hd, hfit, hll, rkA, rkB, stepA, valA, simprocAttr]
    refine hR _ ⟨by omega, ?_⟩
    rw [List.range_succ, List.map_append]
    simp only [frs, List.map_append, List.map_cons, List.map_nil]
  rintro s' ⟨hi, rfl⟩
  rw [lt]
  clear hi
  simp -implicitDefEqProofs (maxSteps := 10000000) only [rkA, rkB, stepA, valA, simprocAttr]
  refine new_make (T := 32) (N := 4) rfl rfl rfl rfl rfl (by omega) (by omega) (by omega) ?_
  intro b hb
  have hb' : mm b = none := hb
  have hcb : ∀ i, i < n → c i ≠ b := fun i hi e => by have := hM.row i hi; rw [e, hb'] at this; cases this
  have n0 : (0 : Int) ≤ (n : Int) := by omega
  have n1 : (n : Int) * 8 ≤ 140737488355328 := by omega
  have n2 : (n : Int) ≤ 16777216 := by omega
  simp -implicitDefEqProofs (maxSteps := 10000000) only [Int.toNat_natCast, flat_zeros, n0, n1, n2, rkA, rkB, stepA, valA, simprocAttr]
  have h35 := ok43 true (List.replicate n 0) (by simp; omega)
  rw [List.map_replicate, List.map_replicate] at h35
  refine call_fn rfl rfl rfl (h35) ?_
  simp -implicitDefEqProofs (maxSteps := 10000000) only [rkA, rkB, stepA, valA, simprocAttr]
  have lz : (flat (frs (List.replicate n (⟨0, 0, 0, false⟩ : Fr)))).length = n * 4 := by rw [flat_length (frs_cells _)]; simp
  have lf : (flat (frs (List.replicate n (newF 0 1)))).length = n * 4 := by rw [flat_length (frs_cells _)]; simp
  refine copy_of (ys := frs (List.replicate n (newF 0 1))) rfl rfl (.same _) (RFs_frs _) (Mem.put_same _ _ _) (frs_ok _) (by simp) (by rw [lz, lf]; omega) ?_
  have hdr : (flat (frs (List.replicate n (⟨0, 0, 0, false⟩ : Fr)))).drop (flat (frs (List.replicate n (newF 0 1)))).length = [] := List.drop_of_length_le (by rw [lz, lf]; omega)
  have hM2 : RowsC ((mm.put b (flat (frs (List.replicate n (⟨0, 0, 0, false⟩ : Fr))))).put b (flat (frs (List.replicate n (newF 0 1))))) c q n n (startF n n l) := (hM.other hcb).other hcb
  have hrep : List.replicate n (newF 0 1) = (List.range n).map (fun _ => newF 0 1) := by
    apply List.ext_getElem?
    intro i
    by_cases hi : i < n
    · simp [hi]
    · rw [List.getElem?_eq_none (by simp; omega), List.getElem?_eq_none (by simp; omega)]
  have hE2 : ((mm.put b (flat (frs (List.replicate n (⟨0, 0, 0, false⟩ : Fr))))).put b (flat (frs (List.replicate n (newF 0 1))))) b = some (flat (frs ((List.range n).map (upK n (startF n n l) (dotsR n l h) r 0).2.1))) := by
    rw [Mem.put_same, hrep]
    rfl
  generalize hmm : (mm.put b (flat (frs (List.replicate n (⟨0, 0, 0, false⟩ : Fr))))).put b (flat (frs (List.replicate n (newF 0 1)))) = mm1 at hM2 hE2
  have w1 := wrapped (x := (n : Int) - 1) (by omega) (by omega)
  simp -implicitDefEqProofs (maxSteps := 10000000) only [Nat.zero_add, hdr, List.append_nil, hmm, w1, rkA, rkB, stepA, valA, simprocAttr]
  clear hmm hb hb' hM hrep hdr lz lf
  refine wp_loop (fun m s => ∃ (t : Nat) (mm : Mem) (A : Fr), t + m = n ∧ A = (upK n (startF n n l) (dotsR n l h) r t).2.2 ∧ RowsC mm c q n n (upK n (startF n n l) (dotsR n l h) r t).1 ∧ mm b = some (flat (frs ((List.range n).map (upK n (startF n n l) (dotsR n l h) r t).2.1))) ∧
    s = ⟨[jk, jk, jk, jk, .ptr 4 0, .ptr 5 0, jk, .ptr 7 0, .ptr 8 0, .ptr 9 0, jk, nt n, .ptr 12 0, .ptr 13 0, jk, jk, jk, jk, .v (.s (.slice (some ⟨b, 0, none⟩) n n)), .ptr 19 0, nt ((m : Int) - 1), jk, jk, jk, jk, jk, jk, jk, jk, jk, jk, jk, jk, jk, jk, jk, jk, jk, jk, jk, jk, jk, jk, jk, jk, jk, jk, jk, jk, jk, jk, jk, jk, jk, jk, jk, jk, jk, jk, jk, jk, jk, jk, jk, jk, jk, jk, jk, jk, jk, jk, jk, jk, jk, jk, jk, jk, jk, jk, jk, jk, jk, jk, jk, jk, jk, jk, jk, jk, jk, jk, jk, jk, jk, jk, jk, jk, jk, jk, jk, jk, jk, jk, jk, jk, jk, jk, jk, jk, jk, jk, jk, jk, jk, jk, jk, jk, jk, jk, jk, jk, jk, jk, jk, jk, jk, jk, jk, jk, jk, jk, jk, jk, jk, jk, jk, jk, jk, jk, jk, jk, jk],
      [(4, [.v (.sl ex (frs x)), nt n, nt n, .v (.sl ep (frs l))]), (5, [.v (.sl eh (frs h))]), (6, [nt r.v, nt r.lo, nt r.hi, .v (tru r.bad)]), (7, [nt z.v, nt z.lo, nt z.hi, .v (tru z.bad)]), (8, [.acc 1008 [], nt 0, nt 0, .acc 4008 []]), (9, [nt 0, nt 0, nt 0, .v (tru false), nt 0, nt 0, nt 0, .v (tru false)]), (12, [.acc 1012 ((List.range n).map (rawC c cap n))]), (13, [.acc 1013 (frs ((List.range n).map (dotsR n l h)))]), (19, [nt A.v, nt A.lo, nt A.hi, .v (tru A.bad)])], [], [(1008, 0), (1012, n), (1013, n), (4008, 0)], [], 0, mm⟩) n ?_ ?_
  · simp -implicitDefEqProofs (maxSteps := 10000000) only [rkA, rkB, stepA, valA, simprocAttr]
    exact ⟨0, mm1, r, by omega, rfl, hM2, hE2, rfl⟩
  clear hM2 hE2 mm1
  rintro m s ⟨t, mm, A, htm, hA, hM, hE, rfl⟩
  simp -implicitDefEqProofs (maxSteps := 10000000) only [rkA, rkB, stepA, valA, simprocAttr]
  refine gB_dec ?_ ?_ <;> intro hc <;> simp -implicitDefEqProofs (maxSteps := 10000000) only [hc, rkA, rkB, stepA, valA, simprocAttr]
  · obtain ⟨j, rfl⟩ : ∃ j, m = j + 1 := ⟨m - 1, by omega⟩
    have hj : j < n := by omega
    have ej : ((j + 1 : Nat) : Int) - 1 = (j : Int) := by omega
    have h0j : (0 : Int) ≤ (j : Int) := by omega
    have gw : (frs ((List.range n).map (dotsR n l h)))[j]? = some (frV (dotsR n l h j)) := by simp [hj]
    simp -implicitDefEqProofs (maxSteps := 10000000) only [ej, h0j, Int.toNat_natCast, gw, rkA, rkB, stepA, valA, simprocAttr]
    refine call_meth rfl rfl methMul (ok45 _ _) ?_
    simp -implicitDefEqProofs (maxSteps := 10000000) only [rkA, rkB, stepA, valA, simprocAttr]
    refine call_meth rfl rfl methAdd (ok227 _ _) ?_
    simp -implicitDefEqProofs (maxSteps := 10000000) only [h0j, Int.toNat_natCast, gw, rkA, rkB, stepA, valA, simprocAttr]
    generalize hB : addF A (mulF (dotsR n l h j) (dotsR n l h j)) = B
    refine mem_fn rfl rfl rfl (okm113 false n j hj (by omega) _ _ (dotsR n l h j) A B c cap q hcap b mm hM hE hcb) ?_
    rintro r' m' ⟨hM', hE'⟩
    have w2 := wrapped (x := (j : Int) - 1) (by omega) (by omega)
    simp -implicitDefEqProofs (maxSteps := 10000000) only [w2, rkA, rkB, stepA, valA, simprocAttr]
    refine loopK_of (m' := j) (by omega) ?_
    simp -implicitDefEqProofs (maxSteps := 10000000) only [rkA, rkB, stepA, valA, simprocAttr]
    have hup := upK_succ (startF n n l) (dotsR n l h) r (show n - 1 - t = j by omega)
    rw [← hA, hB] at hup
    exact ⟨t + 1, m', B, by omega, by rw [hup], by rw [hup]; exact hM', by rw [hup]; exact hE', rfl⟩
  · have ht : t = n := by omega
    rw [ht] at hA hM hE
    refine call_fn rfl rfl rfl (ok81 eh ex h x (by omega) (by omega)) ?_
    simp -implicitDefEqProofs (maxSteps := 10000000) only [rkA, rkB, stepA, valA, simprocAttr]
    refine call_meth rfl rfl methSub (ok97 _ _) ?_
    generalize hz : subF z (dotF h x) = Z
    generalize hU : upK n (startF n n l) (dotsR n l h) r n = U at hA hM hE
    have hUR : upR n l h r = U := hU
    simp -implicitDefEqProofs (maxSteps := 10000000) only [rkA, rkB, stepA, valA, simprocAttr]
    have hkl : ((List.range n).map fun i => divF (U.2.1 i) A).length = n := by simp
    refine wp_loop (fun m s => ∃ (i : Nat), i + m = n ∧
      s = ⟨[jk, jk, jk, jk, .ptr 4 0, jk, jk, jk, .ptr 8 0, .ptr 9 0, jk, nt n, .ptr 12 0, jk, jk, jk, jk, jk, jk, .ptr 19 0, jk, jk, .ptr 22 0, .acc 23 (frs ((List.range i).map fun i => divF (U.2.1 i) A)), jk, jk, jk, jk, jk, jk, jk, jk, jk, jk, jk, jk, jk, jk, jk, jk, jk, jk, jk, jk, jk, jk, jk, jk, jk, jk, jk, jk, jk, jk, jk, jk, jk, jk, jk, jk, jk, jk, jk, jk, jk, jk, jk, jk, jk, jk, jk, jk, jk, jk, jk, jk, jk, jk, jk, jk, jk, jk, jk, jk, jk, jk, jk, jk, jk, jk, jk, jk, jk, jk, jk, jk, jk, jk, jk, jk, jk, jk, jk, jk, jk, jk, jk, jk, jk, jk, .v (.s (.slice (some ⟨b, 0, none⟩) n n)), nt n, nt i, jk, jk, jk, jk, jk, jk, jk, jk, jk, jk, jk, jk, jk, jk, jk, jk, jk, jk, jk, jk, jk, jk, jk, jk, jk, jk, jk, jk, jk],
        [(4, [.v (.sl ex (frs x)), nt n, nt n, .v (.sl ep (frs l))]), (5, [.v (.sl eh (frs h))]), (6, [nt r.v, nt r.lo, nt r.hi, .v (tru r.bad)]), (7, [nt z.v, nt z.lo, nt z.hi, .v (tru z.bad)]), (8, [.acc 1008 [], nt 0, nt 0, .acc 4008 []]), (9, [nt 0, nt 0, nt 0, .v (tru false), nt 0, nt 0, nt 0, .v (tru false)]), (12, [.acc 1012 ((List.range n).map (rawC c cap n))]), (13, [.acc 1013 (frs ((List.range n).map (dotsR n l h)))]), (19, [nt A.v, nt A.lo, nt A.hi, .v (tru A.bad)]), (22, [nt Z.v, nt Z.lo, nt Z.hi, .v (tru Z.bad), nt A.v, nt A.lo, nt A.hi, .v (tru A.bad)])], [], [(23, i), (1008, 0), (1012, n), (1013, n), (4008, 0)], [], 0, mm⟩) n ?_ ?_
    · simp -implicitDefEqProofs (maxSteps := 10000000) only [rkA, rkB, stepA, valA, simprocAttr]
      exact ⟨0, by omega, rfl⟩
    rintro m s ⟨i, him, rfl⟩
    simp -implicitDefEqProofs (maxSteps := 10000000) only [rkA, rkB, stepA, valA, simprocAttr]
    refine gB_dec ?_ ?_ <;> intro hc <;> simp -implicitDefEqProofs (maxSteps := 10000000) only [hc, rkA, rkB, stepA, valA, simprocAttr]
    · have hi : i < n := by omega
      have h0i : (0 : Int) ≤ (i : Int) := by omega
      have hin : (i : Int) < (n : Int) := by omega
      have hle : ((List.range n).map U.2.1)[i]? = some (U.2.1 i) := by simp [hi]
      have hlde := ldM_fr hle
      simp -implicitDefEqProofs (maxSteps := 10000000) only [h0i, hin, Int.toNat_natCast, addr_add, Nat.zero_add, hE, hlde, rkA, rkB, stepA, valA, simprocAttr]
      refine call_meth rfl rfl methDiv (ok228 _ _) ?_
      have hfit : fits 4 32 (frs ((List.range i).map fun i => divF (U.2.1 i) A)) [frV (divF (U.2.1 i) A)] = true := fits_frs (l := [divF (U.2.1 i) A]) (by simp; omega)
      have hll : (frs ((List.range i).map fun i => divF (U.2.1 i) A)).length = i := by simp
      have hw := wrapped (x := (i : Int) + 1) (by omega) (by omega)
      simp -implicitDefEqProofs (maxSteps := 10000000) only [hfit, hll, hw, rkA, rkB, stepA, valA, simprocAttr]
      refine loopK_of (m' := m - 1) (by omega) ?_
      simp -implicitDefEqProofs (maxSteps := 10000000) only [rkA, rkB, stepA, valA, simprocAttr]
      refine ⟨i + 1, by omega, ?_⟩
      rw [List.range_succ, List.map_append]
      simp only [frs, List.map_append, List.map_cons, List.map_nil, Int.natCast_add, Int.natCast_one]
    · have hin : i = n := by omega
      rw [hin]
      have hcat : ((List.range n).map (rowM n U.1)).flatten = upRS n l h r := by rw [upRS, hUR]
      have hcl := upRS_len n l h r
      have hsq := side16 (n := n) (m := n) (by omega) (by omega)
      have hpos : 0 < n * n := Nat.mul_pos (by omega) (by omega)
      have hne : upRS n l h r ≠ [] := fun e => by rw [e] at hcl; simp at hcl; omega
      have hcc := okn114 false ((List.range n).map (rowM n U.1)) (by rw [hcat]; exact hne) (by rw [hcat, hcl]; omega) (by simp; omega)
      rw [hcat] at hcc
      refine newRow_fn rfl rfl (.cons (tells_rows false hM hcap) .nil) hcc (RFs_frs _) (by simpa using hne) ?_
      intro c2 cap2 q2 hc2 hcap2
      simp -implicitDefEqProofs (maxSteps := 10000000) only [rkA, rkB, stepA, valA, simprocAttr]
      have hrs : right (n : Int) (n : Int) (upRS n l h r).length = true := right_sq hn' hcl
      refine lendNew_fn rfl rfl (.cons (.same _) (.cons (.same _) (.cons (tell_row (Mem.put_same _ _ _) hcap2) .nil))) (okm26 n n false (upRS n l h r) hrs) (newMat_rf (RFs_frs _)) ?_
      rintro y m' ⟨b3, cap3, q3, hcap3, rfl, rfl⟩ hfr
      simp -implicitDefEqProofs (maxSteps := 10000000) only [rkA, rkB, stepA, valA, simprocAttr]
      have hk : ((List.range n).map fun i => divF (U.2.1 i) A) = upRK n l h r := by rw [upRK, hUR, ← hA]
      have hkl : (upRK n l h r).length = n := by simp [upRK]
      rw [hk]
      refine call_fn rfl rfl rfl (ok116 false (upRK n l h r) Z (by omega)) ?_
      simp -implicitDefEqProofs (maxSteps := 10000000) only [rkA, rkB, stepA, valA, simprocAttr]
      refine call_fn rfl rfl rfl (ok115 ex false x ((upRK n l h r).map (mulF · Z)) (by omega) (by simp; omega)) ?_
      simp -implicitDefEqProofs (maxSteps := 10000000) only [rkA, rkB, stepA, valA, simprocAttr]
      refine ⟨_, rfl, ?_⟩
      rw [upRX, hz, hUR, ← hA]
      exact .tup (.cons (.agg (.cons (.same _) (.cons (.same _) (.cons (.same _) (.cons (tell_row (Mem.put_same _ _ _) hcap3) .nil))))) (.cons (.same _) (.cons (.same _) .nil)))
end Go.Proofs.YtbflmeomkfjikaaGreat.A.E


set_option linter.unusedVariables false
set_option linter.unusedSimpArgs false
set_option maxRecDepth 100000
namespace Go.Proofs.YtbflmeomkfjikaaGreat.A
open Go Go.RowKit Go.Shelf

/-! ### The document's answers, of whole numbers -/
def clearH (l : List Int) (n i k : Nat) : Int := if i < k then 0 else l.getD (i * n + k) 0
def clearI (l : List Int) (n : Nat) : List Int := gridP (clearH l n) n n 0
def turnH (l : List Int) (n k i : Nat) : Int := l.getD (i * n + k) 0
def turnI (l : List Int) (n : Nat) : List Int := gridP (turnH l n) n n 0
def squareI (l : List Int) (n : Nat) : List Int := mulI l (turnI l n) n n n

theorem ok18 (e : Bool) (l : List Int) (n : Nat) (hn : n ≤ 16) (hl : l.length = n * n) : Ok Tryz.prog 18 [.sl e (l.map num), num n] (.sl false ((clearI l n).map num)) := by
  refine ok_fn mixed Tryz.func18 (code := ?_) (h := h18) ?_ k18 ?_
  rotate_left
  · exact rfl
  unfold h18 initS
  simp -implicitDefEqProofs only [rkA, rkB, stepA, valA, simprocAttr, Tryz.ntmps18, Tryz.results18]
  have hlen := gridP_length (clearH l n) n
  have hbig : ∀ i k, i ≤ n → k ≤ n → i * n + k ≤ 272 := fun i k h1 h2 => by
    have : i * n ≤ 16 * 16 := Nat.mul_le_mul (by omega) (by omega)
    omega
  have s3 := side16 hn hn
  refine wp_loop (fun m s => ∃ i : Nat, i + m = n ∧ s = ⟨[.v (.sl e (l.map num)), .v (num n), jk, jk, jk, .acc 5 ((gridP (clearH l n) n i 0).map num), nt i, jk, jk, jk, jk, jk, jk, jk, jk, jk, jk, jk, jk, jk, jk, jk, jk, jk, jk, jk, jk, jk, jk, jk, jk, jk, jk, jk, jk, jk], [], [], [(4, 0), (5, (gridP (clearH l n) n i 0).length)], [], 0, nomem⟩) n ?_ ?_
  · simp -implicitDefEqProofs only [rkA, rkB, stepA, valA, simprocAttr]
    exact ⟨0, by simp, rfl⟩
  rintro m s ⟨i, hi, rfl⟩
  simp -implicitDefEqProofs only [rkA, rkB, stepA, valA, simprocAttr]
  refine gB_dec ?_ ?_ <;> intro hc <;> simp -implicitDefEqProofs only [hc, rkA, rkB, stepA, valA, simprocAttr]
  · refine wp_loop (fun m s => ∃ k : Nat, k + m = n ∧ s = ⟨[.v (.sl e (l.map num)), .v (num n), jk, jk, jk, .acc 5 ((gridP (clearH l n) n i k).map num), nt i, nt k, jk, jk, jk, jk, jk, jk, jk, jk, jk, jk, jk, jk, jk, jk, jk, jk, jk, jk, jk, jk, jk, jk, jk, jk, jk, jk, jk, jk], [], [], [(4, 0), (5, (gridP (clearH l n) n i k).length)], [], 0, nomem⟩) n ?_ ?_
    · simp -implicitDefEqProofs only [rkA, rkB, stepA, valA, simprocAttr]
      exact ⟨0, by simp, rfl⟩
    rintro m' s ⟨k, hk, rfl⟩
    simp -implicitDefEqProofs only [rkA, rkB, stepA, valA, simprocAttr]
    refine gB_dec ?_ ?_ <;> intro hc2 <;> simp -implicitDefEqProofs only [hc2, rkA, rkB, stepA, valA, simprocAttr]
    · have hl1 := hlen i k
      have hb := hbig i k (by omega) (by omega)
      have hfit : ∀ x : Int, fits 1 8 ((gridP (clearH l n) n i k).map num) [num x] = true := fun x => fits_num (l := [x]) (by simp only [List.length_cons, List.length_nil]; omega)
      have hl' : ((gridP (clearH l n) n i k).map num).length = (gridP (clearH l n) n i k).length := by simp
      have hw := wrapped (x := (k : Int) + 1) (by omega) (by omega)
      have t := at_table (i := i) (j := k) (n := n) (m := n) (by omega) (by omega)
      have c1 : (i : Int) * (n : Int) = ((i * n : Nat) : Int) := by simp
      have c3 : ((i * n : Nat) : Int) + (k : Int) = ((i * n + k : Nat) : Int) := by simp
      have w1 := wrapped (x := ((i * n : Nat) : Int)) (by omega) (by omega)
      have w3 := wrapped (x := ((i * n + k : Nat) : Int)) (by omega) (by omega)
      have g1 := at_num (a := l) (i := i * n + k) (by omega)
      have n1 : (0 : Int) ≤ ((i * n + k : Nat) : Int) := by omega
      refine gB_dec ?_ ?_ <;> intro hc3 <;> simp -implicitDefEqProofs only [hc3, hfit, hl', hw, rkA, rkB, stepA, valA, simprocAttr]
      · have e0 : clearH l n i k = 0 := if_pos (by omega)
        refine loopK_of (m' := m' - 1) (by omega) ?_
        simp -implicitDefEqProofs only [rkA, rkB, stepA, valA, simprocAttr]
        refine ⟨k + 1, by omega, ?_⟩
        rw [gridP_succ]
        simp only [e0, List.map_append, List.map_cons, List.map_nil, List.length_append, List.length_cons, List.length_nil, Int.natCast_add, Int.natCast_one]
      · have e0 : clearH l n i k = l.getD (i * n + k) 0 := if_neg (by omega)
        simp -implicitDefEqProofs only [c1, w1, c3, w3, n1, Int.toNat_natCast, g1, hfit, hl', hw, rkA, rkB, stepA, valA, simprocAttr]
        refine loopK_of (m' := m' - 1) (by omega) ?_
        simp -implicitDefEqProofs only [rkA, rkB, stepA, valA, simprocAttr]
        refine ⟨k + 1, by omega, ?_⟩
        rw [gridP_succ]
        simp only [e0, List.map_append, List.map_cons, List.map_nil, List.length_append, List.length_cons, List.length_nil, Int.natCast_add, Int.natCast_one]
    · have hkr : k = n := by omega
      have hw := wrapped (x := (i : Int) + 1) (by omega) (by omega)
      simp -implicitDefEqProofs only [hw, rkA, rkB, stepA, valA, simprocAttr]
      refine loopK_of (m' := m - 1) (by omega) ?_
      simp -implicitDefEqProofs only [rkA, rkB, stepA, valA, simprocAttr]
      refine ⟨i + 1, by omega, ?_⟩
      rw [hkr, gridP_next]
      simp only [Int.natCast_add, Int.natCast_one]
  · have : i = n := by omega
    subst this
    rfl
theorem ok72 (e : Bool) (l : List Int) (n : Nat) (hn : n ≤ 16) (hl : l.length = n * n) : Ok Tryz.prog 72 [.sl e (l.map num), num n] (.sl false ((turnI l n).map num)) := by
  refine ok_fn mixed Tryz.func72 (code := ?_) (h := h72) ?_ k72 ?_
  rotate_left
  · exact rfl
  unfold h72 initS
  simp -implicitDefEqProofs only [rkA, rkB, stepA, valA, simprocAttr, Tryz.ntmps72, Tryz.results72]
  have hlen := gridP_length (turnH l n) n
  have hbig : ∀ i k, i ≤ n → k ≤ n → i * n + k ≤ 272 := fun i k h1 h2 => by
    have : i * n ≤ 16 * 16 := Nat.mul_le_mul (by omega) (by omega)
    omega
  have s3 := side16 hn hn
  refine wp_loop (fun m s => ∃ i : Nat, i + m = n ∧ s = ⟨[.v (.sl e (l.map num)), .v (num n), jk, jk, jk, .acc 5 ((gridP (turnH l n) n i 0).map num), nt i, jk, jk, jk, jk, jk, jk, jk, jk, jk, jk, jk, jk, jk, jk, jk, jk, jk, jk, jk, jk, jk, jk, jk], [], [], [(4, 0), (5, (gridP (turnH l n) n i 0).length)], [], 0, nomem⟩) n ?_ ?_
  · simp -implicitDefEqProofs only [rkA, rkB, stepA, valA, simprocAttr]
    exact ⟨0, by simp, rfl⟩
  rintro m s ⟨i, hi, rfl⟩
  simp -implicitDefEqProofs only [rkA, rkB, stepA, valA, simprocAttr]
  refine gB_dec ?_ ?_ <;> intro hc <;> simp -implicitDefEqProofs only [hc, rkA, rkB, stepA, valA, simprocAttr]
  · refine wp_loop (fun m s => ∃ k : Nat, k + m = n ∧ s = ⟨[.v (.sl e (l.map num)), .v (num n), jk, jk, jk, .acc 5 ((gridP (turnH l n) n i k).map num), nt i, nt k, jk, jk, jk, jk, jk, jk, jk, jk, jk, jk, jk, jk, jk, jk, jk, jk, jk, jk, jk, jk, jk, jk], [], [], [(4, 0), (5, (gridP (turnH l n) n i k).length)], [], 0, nomem⟩) n ?_ ?_
    · simp -implicitDefEqProofs only [rkA, rkB, stepA, valA, simprocAttr]
      exact ⟨0, by simp, rfl⟩
    rintro m' s ⟨k, hk, rfl⟩
    simp -implicitDefEqProofs only [rkA, rkB, stepA, valA, simprocAttr]
    refine gB_dec ?_ ?_ <;> intro hc2 <;> simp -implicitDefEqProofs only [hc2, rkA, rkB, stepA, valA, simprocAttr]
    · have hl1 := hlen i k
      have hb := hbig i k (by omega) (by omega)
      have hfit : ∀ x : Int, fits 1 8 ((gridP (turnH l n) n i k).map num) [num x] = true := fun x => fits_num (l := [x]) (by simp only [List.length_cons, List.length_nil]; omega)
      have hl' : ((gridP (turnH l n) n i k).map num).length = (gridP (turnH l n) n i k).length := by simp
      have hw := wrapped (x := (k : Int) + 1) (by omega) (by omega)
      have t := at_table (i := k) (j := i) (n := n) (m := n) (by omega) (by omega)
      have c1 : (k : Int) * (n : Int) = ((k * n : Nat) : Int) := by simp
      have c3 : ((k * n : Nat) : Int) + (i : Int) = ((k * n + i : Nat) : Int) := by simp
      have w1 := wrapped (x := ((k * n : Nat) : Int)) (by omega) (by omega)
      have w3 := wrapped (x := ((k * n + i : Nat) : Int)) (by omega) (by omega)
      have g1 := at_num (a := l) (i := k * n + i) (by omega)
      have n1 : (0 : Int) ≤ ((k * n + i : Nat) : Int) := by omega
      simp -implicitDefEqProofs only [c1, w1, c3, w3, n1, Int.toNat_natCast, g1, hfit, hl', hw, rkA, rkB, stepA, valA, simprocAttr]
      refine loopK_of (m' := m' - 1) (by omega) ?_
      simp -implicitDefEqProofs only [rkA, rkB, stepA, valA, simprocAttr]
      refine ⟨k + 1, by omega, ?_⟩
      rw [gridP_succ]
      simp only [turnH, List.map_append, List.map_cons, List.map_nil, List.length_append, List.length_cons, List.length_nil, Int.natCast_add, Int.natCast_one]
    · have hkr : k = n := by omega
      have hw := wrapped (x := (i : Int) + 1) (by omega) (by omega)
      simp -implicitDefEqProofs only [hw, rkA, rkB, stepA, valA, simprocAttr]
      refine loopK_of (m' := m - 1) (by omega) ?_
      simp -implicitDefEqProofs only [rkA, rkB, stepA, valA, simprocAttr]
      refine ⟨i + 1, by omega, ?_⟩
      rw [hkr, gridP_next]
      simp only [Int.natCast_add, Int.natCast_one]
  · have : i = n := by omega
    subst this
    rfl
theorem small_turn {l : List Int} (h : small l) (n : Nat) : small (turnI l n) := by
  intro x hx
  rw [turnI, gridP_zero, List.mem_flatMap] at hx
  obtain ⟨i, _, hx⟩ := hx
  obtain ⟨k, _, rfl⟩ := List.mem_map.1 hx
  exact small_get h _
theorem ok20 (e : Bool) (l : List Int) (n : Nat) (hn : n ≤ 16) (hl : l.length = n * n) (hs : small l) : Ok Tryz.prog 20 [.sl e (l.map num), num n] (.sl false ((squareI l n).map num)) := by
  refine ok_fn mixed Tryz.func20 (code := ?_) (h := h20) ?_ k20 ?_
  rotate_left
  · exact rfl
  unfold h20 initS
  simp -implicitDefEqProofs only [rkA, rkB, stepA, valA, simprocAttr, Tryz.ntmps20, Tryz.results20]
  refine call_fn rfl rfl rfl (ok72 e l n hn hl) ?_
  simp -implicitDefEqProofs only [rkA, rkB, stepA, valA, simprocAttr]
  refine call_fn rfl rfl rfl (ok47 e false l (turnI l n) n n n hn hn hn hl (by rw [turnI, gridP_length, Nat.add_zero]) hs (small_turn hs n)) ?_
  simp -implicitDefEqProofs only [rkA, rkB, stepA, valA, simprocAttr, squareI]

/-! ### What the document fixes of a root -/
end Go.Proofs.YtbflmeomkfjikaaGreat.A



set_option linter.unusedVariables false
set_option linter.unusedSimpArgs false
set_option maxRecDepth 100000
namespace Go.Proofs.YtbflmeomkfjikaaGreat.A
open Go Go.RowKit Go.Shelf

/-! ### Predict -/
end Go.Proofs.YtbflmeomkfjikaaGreat.A



set_option linter.unusedVariables false
set_option linter.unusedSimpArgs false
set_option maxRecDepth 100000
namespace Go.Proofs.YtbflmeomkfjikaaGreat.A
open Go Go.RowKit Go.Shelf

/-! ### Update -/
section
variable (n : Nat) (x p h : List Fr) (r z : Fr)
end
end Go.Proofs.YtbflmeomkfjikaaGreat.A


set_option linter.unusedVariables false
set_option linter.unusedSimpArgs false
set_option maxRecDepth 100000
namespace Go.Proofs.YtbflmeomkfjikaaGreat.A
open Go Go.RowKit Go.Shelf

/-! ### Fractions as numbers -/
def Fr.val (x : Fr) : Rat := (x.n : Rat) / (x.d : Rat)
theorem cast_ne {d : Int} (h : d ≠ 0) : (d : Rat) ≠ 0 := by
  intro e
  exact h (Rat.intCast_inj.1 (by simpa using e))
theorem div_val {n d m e : Int} (hd : d ≠ 0) (he : e ≠ 0) (h : (n : Rat) / d = (m : Rat) / e) : n * e = m * d := by
  have h1 := cast_ne hd
  have h2 := cast_ne he
  have h3 : (n : Rat) * e = (m : Rat) * d := by grind
  rw [← Rat.intCast_mul, ← Rat.intCast_mul] at h3
  exact Rat.intCast_inj.1 h3

/-- What New tells, where it is not Bad. -/
theorem newF_spec {n d : Int} (h : (newF n d).bad = false) : d ≠ 0 ∧ 0 < (newF n d).d ∧ (newF n d).n * d = n * (newF n d).d ∧ Int.gcd (newF n d).n (newF n d).d = 1 ∧ (newF n d).d ≤ 1073741824 ∧ (newF n d).n ≤ 1073741824 ∧ -1073741824 ≤ (newF n d).n := by
  unfold newF at h ⊢
  by_cases h1 : n > 1152921504606846976 ∨ n < -1152921504606846976 ∨ d > 1152921504606846976 ∨ d < -1152921504606846976 ∨ d = 0
  · rw [if_pos h1] at h; cases h
  rw [if_neg h1] at h ⊢
  simp only at h ⊢
  have hd : d ≠ 0 := by omega
  have key : ∀ m e : Int, 0 < e → m * d = n * e → ∀ x : Fr, x = (if m.tdiv (Int.gcd m e : Int) > 1073741824 ∨ m.tdiv (Int.gcd m e : Int) < -1073741824 ∨ e.tdiv (Int.gcd m e : Int) > 1073741824 then Fr.wrong else ⟨m.tdiv (Int.gcd m e : Int), e.tdiv (Int.gcd m e : Int), false⟩) → x.bad = false →
      d ≠ 0 ∧ 0 < x.d ∧ x.n * d = n * x.d ∧ Int.gcd x.n x.d = 1 ∧ x.d ≤ 1073741824 ∧ x.n ≤ 1073741824 ∧ -1073741824 ≤ x.n := by
    intro m e he hme x hx hb
    have hg : 0 < Int.gcd m e := Int.gcd_pos_of_ne_zero_right m (by omega)
    obtain ⟨m', hm'⟩ := Int.gcd_dvd_left m e
    obtain ⟨e', he'⟩ := Int.gcd_dvd_right m e
    generalize hk : Int.gcd m e = k at *
    have hk0 : (k : Int) ≠ 0 := by omega
    have q1 : m.tdiv (k : Int) = m' := by rw [hm', Int.mul_tdiv_cancel_left _ hk0]
    have q2 : e.tdiv (k : Int) = e' := by rw [he', Int.mul_tdiv_cancel_left _ hk0]
    rw [q1, q2] at hx
    have hcop : Int.gcd m' e' = 1 := by
      have h3 : Int.gcd ((k : Int) * m') ((k : Int) * e') = k * Int.gcd m' e' := by
        rw [Int.gcd_mul_left]; simp
      rw [← hm', ← he', hk] at h3
      have : k * 1 = k * Int.gcd m' e' := by omega
      exact (Nat.eq_of_mul_eq_mul_left hg this).symm
    have he0 : 0 < e' := by
      have h4 : 0 < (k : Int) * e' := by rw [← he']; exact he
      exact Int.pos_of_mul_pos_right h4 (by omega)
    split at hx
    · rw [hx] at hb; cases hb
    · rename_i hns
      subst hx
      refine ⟨hd, he0, ?_, hcop, by simp only; omega, by simp only; omega, by simp only; omega⟩
      simp only
      rw [hm', he'] at hme
      have : (k : Int) * (m' * d) = (k : Int) * (n * e') := by
        rw [← Int.mul_assoc, hme, ← Int.mul_assoc, ← Int.mul_assoc, Int.mul_comm (k : Int) n]
      exact Int.eq_of_mul_eq_mul_left hk0 this
  by_cases hneg : d < 0
  · simp only [hneg, if_true] at h ⊢
    exact key (-n) (-d) (by omega) (by rw [Int.neg_mul, Int.mul_neg]) _ rfl h
  · simp only [hneg, if_false] at h ⊢
    exact key n d (by omega) rfl _ rfl h

theorem fine_low {x : Fr} (h : x.fine = true) : x.bad = false ∧ 0 < x.d ∧ Int.gcd x.n x.d = 1 := by
  obtain ⟨h1, h2, h3, h4, h5⟩ := Fr.fine_spec h
  refine ⟨h1, by omega, ?_⟩
  have hn : newF x.n x.d = x := by
    unfold Fr.fine at h
    simp only [Bool.and_eq_true, beq_iff_eq, decide_eq_true_eq] at h
    obtain ⟨n, d, b⟩ := x
    obtain ⟨_, k1, k2, k3, _⟩ := h
    generalize newF n d = y at *
    obtain ⟨n', d', b'⟩ := y
    simp only at k1 k2 k3
    rw [k1, k2, k3]
  have hb : (newF x.n x.d).bad = false := by rw [hn]; exact h1
  obtain ⟨_, _, _, g, _⟩ := newF_spec hb
  rw [hn] at g
  exact g
theorem dvd_cop {a b c : Int} (h : a ∣ b * c) (g : Int.gcd b a = 1) : a ∣ c := by
  rw [← Int.natAbs_dvd_natAbs] at h ⊢
  rw [Int.natAbs_mul] at h
  refine Nat.Coprime.dvd_of_dvd_mul_left ?_ h
  rw [Int.gcd_comm] at g
  exact g
/-- What stands for the same number is the same. -/
theorem fine_inj {a b : Fr} (ha : a.fine = true) (hb : b.fine = true) (h : a.val = b.val) : a = b := by
  obtain ⟨a1, a2, a3⟩ := fine_low ha
  obtain ⟨b1, b2, b3⟩ := fine_low hb
  have e := div_val (by omega) (by omega) h
  have c1 : a.d ∣ b.d := by
    have : a.d ∣ a.n * b.d := ⟨b.n, by rw [e, Int.mul_comm]⟩
    exact dvd_cop this a3
  have c2 : b.d ∣ a.d := by
    have : b.d ∣ b.n * a.d := ⟨a.n, by rw [← e, Int.mul_comm]⟩
    exact dvd_cop this b3
  have hd : a.d = b.d := Int.dvd_antisymm (by omega) (by omega) c1 c2
  rw [hd] at e
  have hn : a.n = b.n := Int.eq_of_mul_eq_mul_right (by omega) e
  obtain ⟨n, d, x⟩ := a
  obtain ⟨n', d', x'⟩ := b
  simp only at hd hn a1 b1
  rw [hd, hn, a1, b1]
/-- x stands for the number v. -/
def Is (x : Fr) (v : Rat) : Prop := x.fine = true ∧ x.val = v
theorem Is.inj {a b : Fr} {v : Rat} (ha : Is a v) (hb : Is b v) : a = b := fine_inj ha.1 hb.1 (ha.2.trans hb.2.symm)
end Go.Proofs.YtbflmeomkfjikaaGreat.A


set_option linter.unusedVariables false
set_option linter.unusedSimpArgs false
set_option maxRecDepth 100000
namespace Go.Proofs.YtbflmeomkfjikaaGreat.A
open Go Go.RowKit Go.Shelf

/-! ### Sums of numbers -/
/-! ### Dots -/
/-! ### Products, entry by entry -/
end Go.Proofs.YtbflmeomkfjikaaGreat.A


set_option linter.unusedVariables false
set_option linter.unusedSimpArgs false
set_option maxRecDepth 100000
namespace Go.Proofs.YtbflmeomkfjikaaGreat.A
open Go Go.RowKit Go.Shelf

/-! ### Plain laws of clearing -/
/-! ### The function TriClears -/
end Go.Proofs.YtbflmeomkfjikaaGreat.A


set_option linter.unusedVariables false
set_option linter.unusedSimpArgs false
set_option maxRecDepth 100000
namespace Go.Proofs.YtbflmeomkfjikaaGreat.A
open Go Go.RowKit Go.Shelf

/-! ### Plain laws of squares -/
theorem squareI_at {l : List Int} {n i k : Nat} (hi : i < n) (hk : k < n) : (squareI l n).getD (i * n + k) 0 = ((List.range n).map fun j => l.getD (i * n + j) 0 * l.getD (k * n + j) 0).sum := by
  unfold squareI mulI
  rw [grid_getD hi hk, dotI_sum]
  refine sum_congr fun j hj => ?_
  rw [turnI, grid_getD hj hk, turnH]
theorem squareI_len (l : List Int) (n : Nat) : (squareI l n).length = n * n := mulI_length _ _ _ _ _
theorem squareI_mir (l : List Int) (n : Nat) : mirI (squareI l n) n n n 0 = squareI l n := by
  have e : mirI (squareI l n) n n n 0 = gridP (fun i k => (squareI l n).getD (max i k * n + min i k) 0) n n 0 := if_pos rfl
  have e2 : squareI l n = gridP (fun i k => (squareI l n).getD (i * n + k) 0) n n 0 := by
    conv => lhs; unfold squareI mulI
    refine gridP_congr fun i k hi hk => ?_
    unfold squareI mulI
    rw [grid_getD hi hk]
  rw [e]
  conv => rhs; rw [e2]
  refine gridP_congr fun i k hi hk => ?_
  rw [squareI_at (by omega) (by omega), squareI_at hi hk]
  rcases Nat.le_total i k with h | h
  · rw [Nat.max_eq_right h, Nat.min_eq_left h]
    exact sum_congr fun j _ => Int.mul_comm _ _
  · rw [Nat.max_eq_left h, Nat.min_eq_right h]
theorem sq_whole {l : List Int} {n : Nat} (hn : 1 ≤ n ∧ n ≤ 16) (hl : l.length = n * n) (hs : small l) : sqF n (l.map (newF · 1)) = (squareI l n).map (newF · 1) := by
  have hr := right_nat (n := l.length) hn hn hl
  have ht : (turnI l n).length = n * n := by rw [turnI, gridP_length, Nat.add_zero]
  unfold sqF
  rw [turI_eq hn hn hl, show turI l n n n 0 = turnI l n from rfl, prodF_whole hr (right_nat hn hn ht) hs (small_turn hs n)]
  simp only [Int.toNat_natCast]
  have := mirI_eq (a := squareI l n) hn hn (squareI_len l n) rfl
  rw [squareI_mir] at this
  exact this
end Go.Proofs.YtbflmeomkfjikaaGreat.A



set_option linter.unusedVariables false
set_option linter.unusedSimpArgs false
set_option maxRecDepth 100000
namespace Go.Proofs.YtbflmeomkfjikaaGreat.A
open Go Go.RowKit Go.Shelf

/-! ### Nothing's triangles -/
/-! ### Plain laws of clearing, of whole numbers -/
theorem atF_whole {l : List Int} {n i k : Nat} (hn : 1 ≤ n ∧ n ≤ 16) (hl : l.length = n * n) (hi : i < n) (hk : k < n) : atF n n (l.map (newF · 1)) i k = newF (l.getD (i * n + k) 0) 1 := by
  have hb := at_table (i := i) (j := k) (n := n) (m := n) hi hk
  rw [atF_eq (right_sq hn (by rw [List.length_map, hl])) (by simpa using hi) (by simpa using hk), Int.toNat_natCast, getD_newF (by omega)]
theorem clear_whole {l : List Int} {n : Nat} (hn : 1 ≤ n ∧ n ≤ 16) (hl : l.length = n * n) : clearF n (l.map (newF · 1)) = (clearI l n).map (newF · 1) := by
  unfold clearF clearI
  rw [gridP_map]
  refine gridP_congr fun i k hi hk => ?_
  unfold clearG clearH
  by_cases h : i < k
  · rw [if_pos h, if_pos h]
  · rw [if_neg h, if_neg h, atF_whole hn hl hi hk]
/-! ### The function TriTells -/
end Go.Proofs.YtbflmeomkfjikaaGreat.A



set_option linter.unusedVariables false
set_option linter.unusedSimpArgs false
set_option maxRecDepth 100000
namespace Go.Proofs.YtbflmeomkfjikaaGreat.A
open Go Go.RowKit Go.Shelf

/-! ### root: new states, and what they stand for -/
theorem clearF_len (n : Nat) (l : List Fr) : (clearF n l).length = n * n := by rw [clearF, gridP_length, Nat.add_zero]
theorem ok49 (ex er : Bool) (x l : List Fr) (n : Nat) (hn : 1 ≤ n ∧ n ≤ 16) (hl : l.length = n * n) (hx : x.length ≤ 5864062014805) :
    Ok Tryz.prog 49 [.sl ex (frs x), matV er n n (frs l)] (if 1 ≤ x.length ∧ x.length ≤ 4 ∧ x.length = n then .tup [stV false false (frs x) n n (frs (clearF n l)), tru true] else .tup [stNil, tru false]) := by
  refine ok_fn mixed Tryz.func49 (code := ?_) (h := h49) ?_ k49 ?_
  rotate_left
  · exact rfl
  unfold h49 initS
  simp -implicitDefEqProofs (maxSteps := 10000000) only [rkA, rkB, stepA, valA, simprocAttr, Tryz.ntmps49, Tryz.results49]
  refine call_fn rfl rfl rfl (ok40 n hn er l hl) ?_
  simp -implicitDefEqProofs (maxSteps := 10000000) only [rkA, rkB, stepA, valA, simprocAttr]
  refine call_fn rfl rfl rfl (ok109 ex x hx) ?_
  simp -implicitDefEqProofs (maxSteps := 10000000) only [rkA, rkB, stepA, valA, simprocAttr]
  refine call_fn rfl rfl rfl (ok50 false false x (clearF n l) n n) ?_
  rw [stRight_nat (clearF_len n l)]
  by_cases h : 1 ≤ x.length ∧ x.length ≤ 4 ∧ x.length = n
  · rw [if_pos h, decide_eq_true h]
    simp -implicitDefEqProofs (maxSteps := 10000000) only [rkA, rkB, stepA, valA, simprocAttr]
  · rw [if_neg h, decide_eq_false h]
    simp -implicitDefEqProofs (maxSteps := 10000000) only [rkA, rkB, stepA, valA, simprocAttr]
theorem ok49n (ex er : Bool) (x l : List Fr) (r c : Int) (hb : (right r c l.length && (r == c)) = false) (hx : x.length ≤ 5864062014805) :
    Ok Tryz.prog 49 [.sl ex (frs x), matV er r c (frs l)] (.tup [stNil, tru false]) := by
  refine ok_fn mixed Tryz.func49 (code := ?_) (h := h49) ?_ k49 ?_
  rotate_left
  · exact rfl
  unfold h49 initS
  simp -implicitDefEqProofs (maxSteps := 10000000) only [rkA, rkB, stepA, valA, simprocAttr, Tryz.ntmps49, Tryz.results49]
  refine call_fn rfl rfl rfl (ok40n er r c l hb) ?_
  simp -implicitDefEqProofs (maxSteps := 10000000) only [rkA, rkB, stepA, valA, simprocAttr]
  refine call_fn rfl rfl rfl (ok109 ex x hx) ?_
  simp -implicitDefEqProofs (maxSteps := 10000000) only [rkA, rkB, stepA, valA, simprocAttr]
theorem ok49_nil (ex : Bool) (x : List Fr) (hx : x.length ≤ 5864062014805) : Ok Tryz.prog 49 [.sl ex (frs x), matNil] (.tup [stNil, tru false]) :=
  (ok49n ex false x [] 0 0 (by decide) hx).args fun I vs h => by cases h with | cons h1 h2 => exact .cons h1 (Cs.mat_nil h2 fun us h => h)
theorem ok51 (ex ep : Bool) (x l : List Fr) (n : Nat) (hl : l.length = n * n) :
    Ok Tryz.prog 51 [stV ex ep (frs x) n n (frs l)] (if 1 ≤ x.length ∧ x.length ≤ 4 ∧ x.length = n then matV false n n (frs (sqF n l)) else matNil) := by
  refine ok_fn mixed Tryz.func51 (code := ?_) (h := h51) ?_ k51 ?_
  rotate_left
  · exact rfl
  unfold h51 initS
  simp -implicitDefEqProofs (maxSteps := 10000000) only [rkA, rkB, stepA, valA, simprocAttr, Tryz.ntmps51, Tryz.results51]
  refine call_fn rfl rfl rfl (ok50 ex ep x l n n) ?_
  rw [stRight_nat hl]
  by_cases h : 1 ≤ x.length ∧ x.length ≤ 4 ∧ x.length = n
  · rw [if_pos h, decide_eq_true h]
    simp -implicitDefEqProofs (maxSteps := 10000000) only [rkA, rkB, stepA, valA, simprocAttr]
    refine call_fn rfl rfl rfl (ok110 n (by omega) ep l hl) ?_
    simp -implicitDefEqProofs (maxSteps := 10000000) only [rkA, rkB, stepA, valA, simprocAttr]
  · rw [if_neg h, decide_eq_false h]
    simp -implicitDefEqProofs (maxSteps := 10000000) only [rkA, rkB, stepA, valA, simprocAttr]
theorem ok51n (ex ep : Bool) (x l : List Fr) (r c : Int) (hb : stRight x.length r c l.length = false) :
    Ok Tryz.prog 51 [stV ex ep (frs x) r c (frs l)] matNil := by
  refine ok_fn mixed Tryz.func51 (code := ?_) (h := h51) ?_ k51 ?_
  rotate_left
  · exact rfl
  unfold h51 initS
  simp -implicitDefEqProofs (maxSteps := 10000000) only [rkA, rkB, stepA, valA, simprocAttr, Tryz.ntmps51, Tryz.results51]
  have h6 := ok50 ex ep x l r c
  rw [hb] at h6
  refine call_fn rfl rfl rfl (h6) ?_
  simp -implicitDefEqProofs (maxSteps := 10000000) only [rkA, rkB, stepA, valA, simprocAttr]
theorem ok50_nil : Ok Tryz.prog 50 [stNil] (tru false) := (ok50 false false [] [] 0 0).args fun I vs h => Cs.st_nil h fun us h => h
theorem ok51_nil : Ok Tryz.prog 51 [stNil] matNil := (ok51n false false [] [] 0 0 (by decide)).args fun I vs h => Cs.st_nil h fun us h => h
end Go.Proofs.YtbflmeomkfjikaaGreat.A



set_option linter.unusedVariables false
set_option linter.unusedSimpArgs false
set_option maxRecDepth 100000
namespace Go.Proofs.YtbflmeomkfjikaaGreat.A.E
open Go Go.RowKit Go.Shelf

theorem clearF_len (n : Nat) (l : List Fr) : (clearF n l).length = n * n := by rw [clearF, gridP_length, Nat.add_zero]
theorem ok54 (ex er : Bool) (x l : List Fr) (n : Nat) (hn : 1 ≤ n ∧ n ≤ 16) (hl : l.length = n * n) (hx : x.length ≤ 4398046511104) :
    Ok Tryz.prog 54 [.sl ex (frs x), matV er n n (frs l)] (if 1 ≤ x.length ∧ x.length ≤ 4 ∧ x.length = n then .tup [stV false false (frs x) n n (frs (clearF n l)), tru true] else .tup [stNil, tru false]) := by
  refine ok_fn mixed Tryz.func54 (code := ?_) (h := h54) ?_ k54 ?_
  rotate_left
  · exact rfl
  unfold h54 initS
  simp -implicitDefEqProofs (maxSteps := 10000000) only [rkA, rkB, stepA, valA, simprocAttr, Tryz.ntmps54, Tryz.results54]
  refine call_fn rfl rfl rfl (ok92 n hn er l hl) ?_
  simp -implicitDefEqProofs (maxSteps := 10000000) only [rkA, rkB, stepA, valA, simprocAttr]
  refine call_fn rfl rfl rfl (ok87 ex x hx) ?_
  simp -implicitDefEqProofs (maxSteps := 10000000) only [rkA, rkB, stepA, valA, simprocAttr]
  refine call_fn rfl rfl rfl (ok62 false false x (clearF n l) n n) ?_
  rw [stRight_nat (clearF_len n l)]
  by_cases h : 1 ≤ x.length ∧ x.length ≤ 4 ∧ x.length = n
  · rw [if_pos h, decide_eq_true h]
    simp -implicitDefEqProofs (maxSteps := 10000000) only [rkA, rkB, stepA, valA, simprocAttr]
  · rw [if_neg h, decide_eq_false h]
    simp -implicitDefEqProofs (maxSteps := 10000000) only [rkA, rkB, stepA, valA, simprocAttr]
theorem ok57 (ex ep : Bool) (x l : List Fr) (n : Nat) (hl : l.length = n * n) :
    Ok Tryz.prog 57 [stV ex ep (frs x) n n (frs l)] (if 1 ≤ x.length ∧ x.length ≤ 4 ∧ x.length = n then matV false n n (frs (sqF n l)) else matNil) := by
  refine ok_fn mixed Tryz.func57 (code := ?_) (h := h57) ?_ k57 ?_
  rotate_left
  · exact rfl
  unfold h57 initS
  simp -implicitDefEqProofs (maxSteps := 10000000) only [rkA, rkB, stepA, valA, simprocAttr, Tryz.ntmps57, Tryz.results57]
  refine call_fn rfl rfl rfl (ok62 ex ep x l n n) ?_
  rw [stRight_nat hl]
  by_cases h : 1 ≤ x.length ∧ x.length ≤ 4 ∧ x.length = n
  · rw [if_pos h, decide_eq_true h]
    simp -implicitDefEqProofs (maxSteps := 10000000) only [rkA, rkB, stepA, valA, simprocAttr]
    refine call_fn rfl rfl rfl (ok46 n (by omega) ep l hl) ?_
    simp -implicitDefEqProofs (maxSteps := 10000000) only [rkA, rkB, stepA, valA, simprocAttr]
  · rw [if_neg h, decide_eq_false h]
    simp -implicitDefEqProofs (maxSteps := 10000000) only [rkA, rkB, stepA, valA, simprocAttr]
end Go.Proofs.YtbflmeomkfjikaaGreat.A.E


set_option linter.unusedVariables false
set_option linter.unusedSimpArgs false
set_option maxRecDepth 100000
namespace Go.Proofs.YtbflmeomkfjikaaGreat.A.E
open Go Go.RowKit Go.Shelf

/-! ### Whole numbers, enclosed: points -/
abbrev whole (n : Int) : Fr := ⟨n * 16777216, n * 16777216, n * 16777216, false⟩
def few (n : Int) : Prop := -67108864 ≤ n ∧ n ≤ 67108864
theorem natAbs_U (a : Int) : (a * 16777216).natAbs = a.natAbs * 16777216 := by rw [Int.natAbs_mul]; rfl
theorem signed_abs {x : Int} {b : Bool} (h : x = 0 ∨ b = decide (x < 0)) : (if b = true then -((x.natAbs : Nat) : Int) else ((x.natAbs : Nat) : Int)) = x := by
  rcases h with rfl | rfl
  · simp
  · by_cases h : x < 0
    · simp only [h, decide_true, if_true]
      omega
    · simp only [h, decide_false, Bool.false_eq_true, if_false]
      omega
theorem minus_mul (a b : Int) : a * b = 0 ∨ (decide (a < 0) != decide (b < 0)) = decide (a * b < 0) := by
  rcases Int.lt_trichotomy a 0 with ha | rfl | ha
  · rcases Int.lt_trichotomy b 0 with hb | rfl | hb
    · right
      have := Int.mul_pos_of_neg_of_neg ha hb
      rw [decide_eq_true ha, decide_eq_true hb, decide_eq_false (by omega)]; rfl
    · left; simp
    · right
      have := Int.mul_neg_of_neg_of_pos ha hb
      rw [decide_eq_true ha, decide_eq_false (by omega), decide_eq_true this]; rfl
  · left; simp
  · rcases Int.lt_trichotomy b 0 with hb | rfl | hb
    · right
      have := Int.mul_neg_of_pos_of_neg ha hb
      rw [decide_eq_false (by omega), decide_eq_true hb, decide_eq_true this]; rfl
    · left; simp
    · right
      have := Int.mul_pos ha hb
      rw [decide_eq_false (by omega), decide_eq_false (by omega), decide_eq_false (by omega)]; rfl
theorem U_lt (a : Int) : (a * 16777216 < 0) = (a < 0) := by apply propext; omega
theorem md_exact {a b mode : Int} (ha : few a) (hb : few b) (hab : few (a * b)) (hm : 0 ≤ mode ∧ mode ≤ 2) : mdF (a * 16777216) (b * 16777216) 16777216 mode = (a * b * 16777216, true) := by
  have e : (a * 16777216).natAbs * (b * 16777216).natAbs = ((a * b).natAbs * 16777216) * 16777216 := by
    rw [natAbs_U, natAbs_U, Int.natAbs_mul, Nat.mul_assoc, Nat.mul_assoc, Nat.mul_assoc]
    congr 1
    rw [← Nat.mul_assoc, Nat.mul_comm 16777216 b.natAbs, Nat.mul_assoc]
  have hU : (16777216 : Int).natAbs = 16777216 := rfl
  have hN : mdN (a * 16777216) (b * 16777216) 16777216 mode = (a * b).natAbs * 16777216 := by
    unfold mdN
    rw [hU, e, Nat.mul_div_cancel _ (by omega), Nat.mul_mod_left]
    simp [moreF]
  unfold few at ha hb hab
  have hok : mdOk (a * 16777216) (b * 16777216) 16777216 mode = true := by
    unfold mdOk rightW
    rw [hN]
    simp only [Bool.and_eq_true, decide_eq_true_eq]
    refine ⟨by omega, by omega, by omega, by omega, hm, ?_⟩
    omega
  unfold mdF
  rw [hok, if_pos rfl, hN]
  congr 1
  have hs : minus3 (a * 16777216) (b * 16777216) 16777216 = (decide (a < 0) != decide (b < 0)) := by
    unfold minus3
    simp only [U_lt]
    simp
  rw [hs]
  have h1 := signed_abs (x := a * b * 16777216) (b := decide (a < 0) != decide (b < 0)) (by
    rcases minus_mul a b with h | h
    · left; rw [h]; rfl
    · right; rw [h]; congr 1; exact (U_lt _).symm)
  rw [natAbs_U] at h1
  exact h1
theorem of_exact {n : Int} (h : few n) : mdF n 16777216 1 0 = (n * 16777216, true) := by
  have h1U : (1 : Int).natAbs = 1 := rfl
  have hU : (16777216 : Int).natAbs = 16777216 := rfl
  have hN : mdN n 16777216 1 0 = n.natAbs * 16777216 := by
    unfold mdN
    rw [h1U, hU, Nat.div_one, Nat.mod_one]
    simp [moreF]
  unfold few at h
  have hok : mdOk n 16777216 1 0 = true := by
    unfold mdOk rightW
    rw [hN]
    simp only [Bool.and_eq_true, decide_eq_true_eq]
    refine ⟨by omega, by omega, by omega, by omega, by omega, ?_⟩
    omega
  unfold mdF
  rw [hok, if_pos rfl, hN]
  congr 1
  have hs : minus3 n 16777216 1 = decide (n * 16777216 < 0) := by
    unfold minus3
    simp [U_lt]
  rw [hs]
  have h1 := signed_abs (x := n * 16777216) (b := decide (n * 16777216 < 0)) (.inr rfl)
  rw [natAbs_U] at h1
  exact h1
theorem rightX_U {n : Int} (h : few n) : rightX (n * 16777216) = true := by
  unfold few at h
  unfold rightX
  rw [decide_eq_true_eq]
  omega
theorem newF_whole {n : Int} (h : few n) : newF n 1 = whole n := by
  have e : ofX n = (n * 16777216, true) := by
    unfold ofX toldF
    rw [of_exact h]
    simp [rightX_U h]
  unfold newF point
  rw [e]
  simp [rightX_U h]
theorem fine_whole {n : Int} (h : few n) : (whole n).fine = true := by
  unfold Fr.fine
  simp [rightX_U h]
theorem addF_whole {a b : Int} (ha : few a) (hb : few b) (hs : few (a + b)) : addF (whole a) (whole b) = whole (a + b) := by
  have e : addX (a * 16777216) (b * 16777216) = ((a + b) * 16777216, true) := by
    unfold addX toldF
    rw [← Int.add_mul]
    simp [rightX_U ha, rightX_U hb, rightX_U hs]
  unfold addF madeE
  simp [okP, e, fine_whole ha, fine_whole hb, minL, maxL]
theorem mulF_whole {a b : Int} (ha : few a) (hb : few b) (hs : few (a * b)) : mulF (whole a) (whole b) = whole (a * b) := by
  have e : ∀ mode : Int, 0 ≤ mode ∧ mode ≤ 2 → mulX (a * 16777216) (b * 16777216) mode = (a * b * 16777216, true) := fun mode hm => by
    unfold mulX toldF
    rw [md_exact ha hb hs hm]
    simp [rightX_U ha, rightX_U hb, rightX_U hs]
  unfold mulF madeE
  simp [okP, allP, e, fine_whole ha, fine_whole hb, minL, maxL]
end Go.Proofs.YtbflmeomkfjikaaGreat.A.E



set_option linter.unusedVariables false
set_option linter.unusedSimpArgs false
set_option maxRecDepth 100000
namespace Go.Proofs.YtbflmeomkfjikaaGreat.A.E
open Go Go.RowKit Go.Shelf

/-! ### Is a fraction enclosed? -/
def enclB (x : Fr) (n d : Int) : Bool := x.fine && (decide (1 ≤ d) && (rightW n && (rightW d && (decide (cmpF x.lo d n 16777216 ≤ 0) && decide (cmpF n 16777216 x.hi d ≤ 0)))))
theorem rightXW {n : Int} (h : rightX n = true) : rightW n = true := by
  unfold rightX at h
  unfold rightW
  rw [decide_eq_true_eq] at h ⊢
  omega
theorem fine_lohi {x : Fr} (h : x.fine = true) : rightX x.lo = true ∧ rightX x.hi = true := by
  unfold Fr.fine at h
  simp only [Bool.and_eq_true] at h
  exact ⟨h.2.1, h.2.2.1⟩
theorem ok25 (x : Fr) (n d : Int) : Ok Tryz.prog 25 [frV x, num n, num d] (tru (enclB x n d)) := by
  refine ok_fn mixed Tryz.func25 (code := ?_) (h := h25) ?_ k25 ?_
  rotate_left
  · exact rfl
  unfold h25 initS
  simp -implicitDefEqProofs (maxSteps := 10000000) only [rkA, rkB, stepA, valA, simprocAttr, Tryz.ntmps25, Tryz.results25]
  refine call_fn rfl rfl rfl (ok84 x) ?_
  unfold enclB
  cases hf : x.fine with
  | false => simp -implicitDefEqProofs (maxSteps := 10000000) only [rkA, rkB, stepA, valA, simprocAttr]
  | true =>
    obtain ⟨hlo, hhi⟩ := fine_lohi hf
    simp -implicitDefEqProofs (maxSteps := 10000000) only [rkA, rkB, stepA, valA, simprocAttr]
    refine gB_dec ?_ ?_ <;> intro h1
    · have : ¬ 1 ≤ d := by omega
      simp -implicitDefEqProofs (maxSteps := 10000000) only [h1, this, rkA, rkB, stepA, valA, simprocAttr]
    · have h1' : 1 ≤ d := by omega
      simp -implicitDefEqProofs (maxSteps := 10000000) only [h1, h1', rkA, rkB, stepA, valA, simprocAttr]
      refine call_fn rfl rfl rfl (ok85' n) ?_
      cases hn : rightW n with
      | false => simp -implicitDefEqProofs (maxSteps := 10000000) only [rkA, rkB, stepA, valA, simprocAttr]
      | true =>
        simp -implicitDefEqProofs (maxSteps := 10000000) only [rkA, rkB, stepA, valA, simprocAttr]
        refine call_fn rfl rfl rfl (ok85' d) ?_
        cases hd : rightW d with
        | false => simp -implicitDefEqProofs (maxSteps := 10000000) only [rkA, rkB, stepA, valA, simprocAttr]
        | true =>
          simp -implicitDefEqProofs (maxSteps := 10000000) only [rkA, rkB, stepA, valA, simprocAttr]
          refine call_fn rfl rfl rfl (ok86 x.lo d n 16777216 (rightXW hlo) hd hn (by decide)) ?_
          simp -implicitDefEqProofs (maxSteps := 10000000) only [rkA, rkB, stepA, valA, simprocAttr]
          refine gB_dec ?_ ?_ <;> intro h2 <;> simp -implicitDefEqProofs (maxSteps := 10000000) only [h2, rkA, rkB, stepA, valA, simprocAttr]
          refine call_fn rfl rfl rfl (ok86 n 16777216 x.hi d hn (by decide) (rightXW hhi) hd) ?_
          simp -implicitDefEqProofs (maxSteps := 10000000) only [rkA, rkB, stepA, valA, simprocAttr]
/-! ### Products of whole numbers -/
theorem getD_newF {a : List Int} {i : Nat} (h : i < a.length) (d : Fr) : (a.map (newF · 1)).getD i d = newF (a.getD i 0) 1 := by
  simp [h]
theorem sumF_whole (f : Nat → Int) (s : Nat → Int) (h0 : s 0 = 0) (hs : ∀ j, s (j + 1) = s j + f j) (N : Nat) (hf : ∀ j, j < N → few (f j)) (hb : ∀ j, j ≤ N → few (s j)) : ∀ n, n ≤ N → sumF ((List.range n).map fun j => whole (f j)) = whole (s n)
  | 0, _ => by
    have := newF_whole (n := 0) (by unfold few; omega)
    simp [sumF, this, h0]
  | n + 1, hn => by
    have ih := sumF_whole f s h0 hs N hf hb n (by omega)
    have : sumF ((List.range (n + 1)).map fun j => whole (f j)) = addF (sumF ((List.range n).map fun j => whole (f j))) (whole (f n)) := by
      unfold sumF
      rw [List.range_succ, List.map_append, List.foldl_append]
      rfl
    rw [this, ih, addF_whole (hb n (by omega)) (hf n (by omega)) (by rw [← hs]; exact hb _ hn), ← hs]
theorem few_small {x : Int} (h : -100 ≤ x ∧ x ≤ 100) : few x := by unfold few; omega
theorem dotF_whole {a b : List Int} {many cols : Nat} (ha : small a) (hb : small b) (hm : many ≤ 16) (i k : Nat) :
    dotF ((List.range many).map fun j => newF (a.getD (i * many + j) 0) 1) ((List.range many).map fun j => newF (b.getD (j * cols + k) 0) 1) = newF (dotI a b many cols i k many) 1 := by
  have hd : ∀ j, j ≤ many → few (dotI a b many cols i k j) := fun j hj => by
    have := dotI_le ha hb many cols i k j
    unfold few
    omega
  unfold dotF
  rw [newF_whole (hd many (Nat.le_refl _)), List.zipWith_map, List.zipWith_self]
  have e : ∀ j, mulF (newF (a.getD (i * many + j) 0) 1) (newF (b.getD (j * cols + k) 0) 1) = whole (a.getD (i * many + j) 0 * b.getD (j * cols + k) 0) := fun j => by
    have h1 := small_get ha (i * many + j)
    have h2 := small_get hb (j * cols + k)
    have h3 := prod_small h1 h2
    rw [newF_whole (few_small h1), newF_whole (few_small h2), mulF_whole (few_small h1) (few_small h2) (by unfold few; omega)]
  simp only [e]
  refine sumF_whole (fun j => a.getD (i * many + j) 0 * b.getD (j * cols + k) 0) (dotI a b many cols i k) rfl (fun j => rfl) many (fun j _ => ?_) hd many (Nat.le_refl _)
  have h3 := prod_small (small_get ha (i * many + j)) (small_get hb (j * cols + k))
  unfold few
  omega
/-- The product of whole numbers is the document's. -/
theorem prodF_whole {r m c : Int} {a b : List Int} (h1 : right r m a.length = true) (h2 : right m c b.length = true) (ha : small a) (hb : small b) :
    prodF r m c (a.map (newF · 1)) (b.map (newF · 1)) = (mulI a b r.toNat m.toNat c.toNat).map (newF · 1) := by
  obtain ⟨r1, r2, m1, m2, hn⟩ := right_spec h1
  obtain ⟨_, _, c1, c2, hn2⟩ := right_spec h2
  have h1' : right r m (a.map (newF · 1)).length = true := by simpa using h1
  have h2' : right m c (b.map (newF · 1)).length = true := by simpa using h2
  have h3 := right_turn h2'
  have la : a.length = r.toNat * m.toNat := by
    have : ((r.toNat * m.toNat : Nat) : Int) = a.length := by rw [Int.natCast_mul, Int.toNat_of_nonneg (by omega), Int.toNat_of_nonneg (by omega), hn]
    omega
  have lb : b.length = m.toNat * c.toNat := by
    have : ((m.toNat * c.toNat : Nat) : Int) = b.length := by rw [Int.natCast_mul, Int.toNat_of_nonneg (by omega), Int.toNat_of_nonneg (by omega), hn2]
    omega
  unfold prodF mulI allF
  rw [gridP_zero, List.flatMap_map, List.map_flatMap]
  apply flatMap_same
  intro i hi
  rw [List.mem_range] at hi
  rw [List.map_map, List.map_map]
  apply List.map_congr_left
  intro k hk
  rw [List.mem_range] at hk
  simp only [Function.comp]
  have e1 : rowF r m (a.map (newF · 1)) i = (List.range m.toNat).map fun j => newF (a.getD (i * m.toNat + j) 0) 1 := by
    rw [rowF_eq ⟨0, 0, 0, false⟩ h1' hi]
    apply List.map_congr_left
    intro j hj
    rw [List.mem_range] at hj
    have := at_table hi hj
    exact getD_newF (by omega) _
  have e2 : rowF c m (turnF m c (b.map (newF · 1))) k = (List.range m.toNat).map fun j => newF (b.getD (j * c.toNat + k) 0) 1 := by
    rw [rowF_eq ⟨0, 0, 0, false⟩ h3 hk]
    apply List.map_congr_left
    intro j hj
    rw [List.mem_range] at hj
    rw [turnF_eq h2', List.getD_eq_getElem?_getD, gridP_get _ _ _ _ _ hk hj, Option.getD_some, atF_eq h2' hj hk]
    have := at_table hj hk
    exact getD_newF (by omega) _
  rw [e1, e2, dotF_whole ha hb (by omega)]
end Go.Proofs.YtbflmeomkfjikaaGreat.A.E



set_option linter.unusedVariables false
set_option linter.unusedSimpArgs false
set_option maxRecDepth 100000
namespace Go.Proofs.YtbflmeomkfjikaaGreat.A.E
open Go Go.RowKit Go.Shelf

/-! ### What the document fixes of one number, behind layer 10 -/
theorem ok48 : Ok Tryz.prog 48 [] (tru true) := by
  refine ok_fn mixed Tryz.func48 (code := ?_) (h := h48) ?_ k48 ?_
  rotate_left
  · exact rfl
  unfold h48 initS
  simp -implicitDefEqProofs (maxSteps := 10000000) only [rkA, rkB, stepA, valA, simprocAttr, Tryz.ntmps48, Tryz.results48]
  have h1 := ok19 1 1 true [1] (by simp)
  rw [if_pos (by decide)] at h1
  refine call_fn rfl rfl rfl (h1) ?_
  have h2 := ok39 true [0] (by simp)
  have h3 := ok39 true [1] (by simp)
  have u1 : A.upRX 1 ([0].map (A.newF · 1)) (A.clearF 1 ([1].map (A.newF · 1))) ([1].map (A.newF · 1)) (A.newF 3 1) (A.newF 4 1) = [A.newF 1 1] := by decide +kernel
  have u2 : (A.upR 1 (A.clearF 1 ([1].map (A.newF · 1))) ([1].map (A.newF · 1)) (A.newF 3 1)).2.2 = A.newF 4 1 := by decide +kernel
  generalize hR : [1].map (A.newF · 1) = R at *
  have lR : R.length = 1 := by subst hR; rfl
  simp -implicitDefEqProofs (maxSteps := 10000000) only [rkA, rkB, stepA, valA, simprocAttr]
  refine call_fn rfl rfl rfl (h2) ?_
  generalize hX : [0].map (A.newF · 1) = X at *
  have lX : X.length = 1 := by subst hX; rfl
  simp -implicitDefEqProofs (maxSteps := 10000000) only [rkA, rkB, stepA, valA, simprocAttr]
  have h4 := ok49 false false X R 1 (by omega) (by omega) (by omega)
  rw [if_pos (by omega)] at h4
  refine call_fn rfl rfl rfl (h4) ?_
  simp -implicitDefEqProofs (maxSteps := 10000000) only [rkA, rkB, stepA, valA, simprocAttr]
  refine call_fn rfl rfl rfl (h3) ?_
  simp -implicitDefEqProofs (maxSteps := 10000000) only [rkA, rkB, stepA, valA, simprocAttr]
  refine call_fn rfl rfl rfl (ok44 3 1) ?_
  simp -implicitDefEqProofs (maxSteps := 10000000) only [rkA, rkB, stepA, valA, simprocAttr]
  refine call_fn rfl rfl rfl (ok44 4 1) ?_
  simp -implicitDefEqProofs (maxSteps := 10000000) only [rkA, rkB, stepA, valA, simprocAttr]
  have h5 := ok59 false false false 1 X (A.clearF 1 R) R (A.newF 3 1) (A.newF 4 1) (by omega) lX (A.clearF_len 1 R) lR
  rw [u1, u2] at h5
  refine call_fn rfl rfl rfl (h5) ?_
  simp -implicitDefEqProofs (maxSteps := 10000000) only [A.frs, rkA, rkB, stepA, valA, simprocAttr]
  have e1 := ok22 1 1 true [1] (by simp)
  rw [if_pos (by decide)] at e1
  refine call_fn rfl rfl rfl (e1) ?_
  have e2 := ok43 true [0] (by simp)
  have e3 := ok43 true [1] (by simp)
  have v1 : enclB (atF 1 1 (sqF 1 (upRS 1 (clearF 1 ([1].map (newF · 1))) ([1].map (newF · 1)) (point 50331648))) 0 0) 3 4 = true := by decide +kernel
  generalize hQ : [1].map (newF · 1) = Q at *
  have lQ : Q.length = 1 := by subst hQ; rfl
  simp -implicitDefEqProofs (maxSteps := 10000000) only [rkA, rkB, stepA, valA, simprocAttr]
  refine call_fn rfl rfl rfl (e2) ?_
  generalize hY : [0].map (newF · 1) = Y at *
  have lY : Y.length = 1 := by subst hY; rfl
  simp -implicitDefEqProofs (maxSteps := 10000000) only [rkA, rkB, stepA, valA, simprocAttr]
  have e4 := ok54 false false Y Q 1 (by omega) (by omega) (by omega)
  rw [if_pos (by omega)] at e4
  refine call_fn rfl rfl rfl (e4) ?_
  simp -implicitDefEqProofs (maxSteps := 10000000) only [rkA, rkB, stepA, valA, simprocAttr]
  refine call_fn rfl rfl rfl (e3) ?_
  simp -implicitDefEqProofs (maxSteps := 10000000) only [rkA, rkB, stepA, valA, simprocAttr]
  refine call_fn rfl rfl rfl (ok53 50331648) ?_
  simp -implicitDefEqProofs (maxSteps := 10000000) only [rkA, rkB, stepA, valA, simprocAttr]
  refine call_fn rfl rfl rfl (ok53 67108864) ?_
  simp -implicitDefEqProofs (maxSteps := 10000000) only [rkA, rkB, stepA, valA, simprocAttr]
  have e5 := ok55 false false false 1 Y (clearF 1 Q) Q (point 50331648) (point 67108864) (by omega) lY (clearF_len 1 Q) lQ
  refine call_fn rfl rfl rfl (e5) ?_
  simp -implicitDefEqProofs (maxSteps := 10000000) only [rkA, rkB, stepA, valA, simprocAttr]
  refine call_fn rfl rfl rfl (ok44 4 1) ?_
  simp -implicitDefEqProofs (maxSteps := 10000000) only [A.eq_fr, rkA, rkB, stepA, valA, simprocAttr]
  refine call_fn rfl rfl rfl (ok44 1 1) ?_
  have lw : (frs (upRX 1 Y (clearF 1 Q) Q (point 50331648) (point 67108864))).length = 1 := by simp [upRX, upRK, lY]
  simp -implicitDefEqProofs (maxSteps := 10000000) only [A.eq_fr, lw, rkA, rkB, stepA, valA, simprocAttr]
  have e6 := ok57 false false (upRX 1 Y (clearF 1 Q) Q (point 50331648) (point 67108864)) (upRS 1 (clearF 1 Q) Q (point 50331648)) 1 (upRS_len _ _ _ _)
  have lw' : (upRX 1 Y (clearF 1 Q) Q (point 50331648) (point 67108864)).length = 1 := by simpa using lw
  rw [if_pos (by omega)] at e6
  refine call_fn rfl rfl rfl (e6) ?_
  simp -implicitDefEqProofs (maxSteps := 10000000) only [rkA, rkB, stepA, valA, simprocAttr]
  refine call_fn rfl rfl rfl (ok35 false 1 1 0 0 (sqF 1 (upRS 1 (clearF 1 Q) Q (point 50331648)))) ?_
  simp -implicitDefEqProofs (maxSteps := 10000000) only [rkA, rkB, stepA, valA, simprocAttr]
  refine call_fn rfl rfl rfl (ok25 (atF 1 1 (sqF 1 (upRS 1 (clearF 1 Q) Q (point 50331648))) 0 0) 3 4) ?_
  rw [v1]
  simp -implicitDefEqProofs (maxSteps := 10000000) only [rkA, rkB, stepA, valA, simprocAttr]
  have h7 := ok50 false false X (A.clearF 1 R) 1 1
  have hs : stRight X.length 1 1 (A.clearF 1 R).length = true := by rw [A.clearF_len, lX]; decide +kernel
  rw [hs] at h7
  refine call_fn rfl rfl rfl (h7) ?_
  simp -implicitDefEqProofs (maxSteps := 10000000) only [rkA, rkB, stepA, valA, simprocAttr]
end Go.Proofs.YtbflmeomkfjikaaGreat.A.E



set_option linter.unusedVariables false
set_option linter.unusedSimpArgs false
set_option maxRecDepth 100000
namespace Go.Proofs.YtbflmeomkfjikaaGreat.A.E
open Go Go.RowKit Go.Shelf

/-! ### The function RootNew -/
theorem small_clear {l : List Int} (h : small l) (n : Nat) : small (clearI l n) := by
  intro x hx
  rw [clearI, gridP_zero, List.mem_flatMap] at hx
  obtain ⟨i, _, hx⟩ := hx
  obtain ⟨k, _, rfl⟩ := List.mem_map.1 hx
  unfold clearH
  split
  · omega
  · exact small_get h _
theorem RootNew_ok (ex el : Bool) (x l : List Int) (n : Int) : Ok Tryz.prog 10 [.sl ex (x.map num), .sl el (l.map num), num n] (tru true) := by
  refine ok_fn mixed Tryz.func10 (code := ?_) (h := h10) ?_ k10 ?_
  rotate_left
  · exact rfl
  unfold h10 initS
  simp -implicitDefEqProofs (maxSteps := 10000000) only [rkA, rkB, stepA, valA, simprocAttr, Tryz.ntmps10, Tryz.results10]
  refine call_fn rfl rfl rfl (ok37 ex x) ?_
  cases hfx : fewB x with
  | false =>
    simp -implicitDefEqProofs (maxSteps := 10000000) only [rkA, rkB, stepA, valA, simprocAttr]
    refine call_fn rfl rfl rfl (ok48) ?_
    simp -implicitDefEqProofs (maxSteps := 10000000) only [rkA, rkB, stepA, valA, simprocAttr]
  | true =>
    have hx6 : x.length ≤ 256 := (of_decide_eq_true hfx).1
    simp -implicitDefEqProofs (maxSteps := 10000000) only [rkA, rkB, stepA, valA, simprocAttr]
    refine call_fn rfl rfl rfl (ok37 el l) ?_
    cases hfl : fewB l with
    | false =>
      simp -implicitDefEqProofs (maxSteps := 10000000) only [rkA, rkB, stepA, valA, simprocAttr]
      refine call_fn rfl rfl rfl (ok48) ?_
      simp -implicitDefEqProofs (maxSteps := 10000000) only [rkA, rkB, stepA, valA, simprocAttr]
    | true =>
      have hs : small l := (of_decide_eq_true hfl).2
      have hl6 : l.length ≤ 256 := (of_decide_eq_true hfl).1
      have lxn : (x.map num).length = x.length := by simp
      simp -implicitDefEqProofs (maxSteps := 10000000) only [lxn, rkA, rkB, stepA, valA, simprocAttr]
      refine gB_dec ?_ ?_ <;> intro h20 <;> simp -implicitDefEqProofs (maxSteps := 10000000) only [h20, rkA, rkB, stepA, valA, simprocAttr]
      · refine call_fn rfl rfl rfl (ok48) ?_
        simp -implicitDefEqProofs (maxSteps := 10000000) only [rkA, rkB, stepA, valA, simprocAttr]
      · have h12 := ok19 n n el l (by omega)
        have h35 := ok39 ex x (by omega)
        have lxf : (x.map (A.newF · 1)).length = x.length := by simp
        by_cases hr : right n n l.length = true
        · rw [if_pos hr] at h12
          refine call_fn rfl rfl rfl (h12) ?_
          simp -implicitDefEqProofs (maxSteps := 10000000) only [rkA, rkB, stepA, valA, simprocAttr]
          refine call_fn rfl rfl rfl (h35) ?_
          simp -implicitDefEqProofs (maxSteps := 10000000) only [rkA, rkB, stepA, valA, simprocAttr]
          obtain ⟨r1, r16, _, _, hn0⟩ := right_spec hr
          obtain ⟨N, rfl⟩ := Int.eq_ofNat_of_zero_le (show 0 ≤ n by omega)
          have hn : 1 ≤ N ∧ N ≤ 16 := by omega
          have hl : l.length = N * N := by
            rw [← Int.natCast_mul] at hn0
            omega
          have lM : (l.map (A.newF · 1)).length = N * N := by simpa using hl
          have h11 := ok49 false false (x.map (A.newF · 1)) (l.map (A.newF · 1)) N hn lM (by rw [lxf]; omega)
          rw [lxf, A.clear_whole hn hl] at h11
          by_cases hc : 1 ≤ x.length ∧ x.length ≤ 4 ∧ x.length = N
          · rw [if_pos hc] at h11
            refine call_fn rfl rfl rfl (h11) ?_
            have ne : (((x.length : Nat) : Int) != ((N : Nat) : Int)) = false := by simp; omega
            have gt : ¬ ((N : Nat) : Int) > 4 := by omega
            simp -implicitDefEqProofs (maxSteps := 10000000) only [lxn, ne, gt, rkA, rkB, stepA, valA, simprocAttr]
            refine call_fn rfl rfl rfl (ok18 el l N hn.2 hl) ?_
            simp -implicitDefEqProofs (maxSteps := 10000000) only [rkA, rkB, stepA, valA, simprocAttr]
            have lcl : (clearI l N).length = N * N := by rw [clearI, gridP_length, Nat.add_zero]
            have hN := side16 hn.2 hn.2
            refine call_fn rfl rfl rfl (ok24 false false N N ((clearI l N).map (A.newF · 1)) (clearI l N) (by omega) rfl) ?_
            simp -implicitDefEqProofs (maxSteps := 10000000) only [rkA, rkB, stepA, valA, simprocAttr]
            have h22 := ok51 false false (x.map (A.newF · 1)) ((clearI l N).map (A.newF · 1)) N (by simpa using lcl)
            rw [lxf, if_pos hc, A.sq_whole hn lcl (small_clear hs N)] at h22
            refine call_fn rfl rfl rfl (h22) ?_
            simp -implicitDefEqProofs (maxSteps := 10000000) only [rkA, rkB, stepA, valA, simprocAttr]
            refine call_fn rfl rfl rfl (ok20 false (clearI l N) N hn.2 lcl (small_clear hs N)) ?_
            simp -implicitDefEqProofs (maxSteps := 10000000) only [rkA, rkB, stepA, valA, simprocAttr]
            refine call_fn rfl rfl rfl (ok24 false false N N ((squareI (clearI l N) N).map (A.newF · 1)) (squareI (clearI l N) N) (by rw [squareI_len]; omega) rfl) ?_
            simp -implicitDefEqProofs (maxSteps := 10000000) only [rkA, rkB, stepA, valA, simprocAttr]
            have h21 := ok50 false false (x.map (A.newF · 1)) ((clearI l N).map (A.newF · 1)) N N
            rw [lxf, stRight_nat (by simpa using lcl), decide_eq_true hc] at h21
            refine call_fn rfl rfl rfl (h21) ?_
            simp -implicitDefEqProofs (maxSteps := 10000000) only [rkA, rkB, stepA, valA, simprocAttr]
            refine call_fn rfl rfl rfl (ok48) ?_
            simp -implicitDefEqProofs (maxSteps := 10000000) only [rkA, rkB, stepA, valA, simprocAttr]
          · rw [if_neg hc] at h11
            refine call_fn rfl rfl rfl (h11) ?_
            have key : (((x.length : Nat) : Int) != ((N : Nat) : Int)) = true ∨ ((((x.length : Nat) : Int) != ((N : Nat) : Int)) = false ∧ ((N : Nat) : Int) > 4) := by
              by_cases e : x.length = N
              · exact .inr ⟨by simp; omega, by omega⟩
              · exact .inl (by simp; omega)
            rcases key with e | ⟨e, e2⟩
            · simp -implicitDefEqProofs (maxSteps := 10000000) only [lxn, e, rkA, rkB, stepA, valA, simprocAttr]
              refine call_fn rfl rfl rfl (ok50_nil) ?_
              simp -implicitDefEqProofs (maxSteps := 10000000) only [rkA, rkB, stepA, valA, simprocAttr]
              refine call_fn rfl rfl rfl (ok51_nil) ?_
              simp -implicitDefEqProofs (maxSteps := 10000000) only [rkA, rkB, stepA, valA, simprocAttr]
              refine call_fn rfl rfl rfl (ok24_nil) ?_
              simp -implicitDefEqProofs (maxSteps := 10000000) only [rkA, rkB, stepA, valA, simprocAttr]
              refine call_fn rfl rfl rfl (ok48) ?_
              simp -implicitDefEqProofs (maxSteps := 10000000) only [rkA, rkB, stepA, valA, simprocAttr]
            · simp -implicitDefEqProofs (maxSteps := 10000000) only [lxn, e, e2, rkA, rkB, stepA, valA, simprocAttr]
              refine call_fn rfl rfl rfl (ok50_nil) ?_
              simp -implicitDefEqProofs (maxSteps := 10000000) only [rkA, rkB, stepA, valA, simprocAttr]
              refine call_fn rfl rfl rfl (ok51_nil) ?_
              simp -implicitDefEqProofs (maxSteps := 10000000) only [rkA, rkB, stepA, valA, simprocAttr]
              refine call_fn rfl rfl rfl (ok24_nil) ?_
              simp -implicitDefEqProofs (maxSteps := 10000000) only [rkA, rkB, stepA, valA, simprocAttr]
              refine call_fn rfl rfl rfl (ok48) ?_
              simp -implicitDefEqProofs (maxSteps := 10000000) only [rkA, rkB, stepA, valA, simprocAttr]
        · rw [if_neg hr] at h12
          refine call_fn rfl rfl rfl (h12) ?_
          simp -implicitDefEqProofs (maxSteps := 10000000) only [rkA, rkB, stepA, valA, simprocAttr]
          refine call_fn rfl rfl rfl (h35) ?_
          simp -implicitDefEqProofs (maxSteps := 10000000) only [rkA, rkB, stepA, valA, simprocAttr]
          refine call_fn rfl rfl rfl (ok49_nil false (x.map (A.newF · 1)) (by rw [lxf]; omega)) ?_
          simp -implicitDefEqProofs (maxSteps := 10000000) only [rkA, rkB, stepA, valA, simprocAttr]
          refine call_fn rfl rfl rfl (ok50_nil) ?_
          simp -implicitDefEqProofs (maxSteps := 10000000) only [rkA, rkB, stepA, valA, simprocAttr]
          refine call_fn rfl rfl rfl (ok51_nil) ?_
          simp -implicitDefEqProofs (maxSteps := 10000000) only [rkA, rkB, stepA, valA, simprocAttr]
          refine call_fn rfl rfl rfl (ok24_nil) ?_
          simp -implicitDefEqProofs (maxSteps := 10000000) only [rkA, rkB, stepA, valA, simprocAttr]
          refine call_fn rfl rfl rfl (ok48) ?_
          simp -implicitDefEqProofs (maxSteps := 10000000) only [rkA, rkB, stepA, valA, simprocAttr]
end Go.Proofs.YtbflmeomkfjikaaGreat.A.E


