import Derived.Test.YtambpjbpdackfaaGreatM5
import Derived.Test.YtambpjbpdackfaaGreatM4
import Derived.Shelf.Spec.SlicesGrow
import Derived.Test.YtambpjbpdackfaaGreatM3
set_option linter.unusedVariables false
set_option linter.unusedSimpArgs false
set_option maxRecDepth 100000
namespace Go.Proofs.YtambpjbpdackfaaGreat.A.E
open Go Go.RowKit Go.Shelf

theorem RowsC.grow {mm : Mem} {c q : Nat → Nat} {i w b z : Nat} {M : Nat → Nat → Fr} (h : RowsC mm c q i w M) (hb : mm b = none) :
    RowsC (mm.put b (flat (frs (rowM w M i)) ++ jnk z)) (fun j => if j = i then b else c j) (fun j => if j = i then z else q j) (i + 1) w M := by
  have hcb : ∀ j, j < i → c j ≠ b := fun j hj e => by have := h.row j hj; rw [e, hb] at this; cases this
  refine ⟨fun j hj => ?_, fun j k hj hk => ?_⟩
  · by_cases e : j = i
    · subst e
      simp only [if_true]
      rw [Mem.put_same]
    · simp only [e, if_false]
      rw [Mem.put_other _ _ (hcb j (by omega))]
      exact h.row j (by omega)
  · by_cases e : j = i <;> by_cases e' : k = i
    · intro _; omega
    · simp only [e, e', if_true, if_false]
      exact fun h1 => absurd h1.symm (hcb k (by omega))
    · simp only [e, e', if_true, if_false]
      exact fun h1 => absurd h1 (hcb j (by omega))
    · simp only [e, e', if_false]
      exact h.inj j k (by omega) (by omega)
/-- A row's first numbers in memory, told as a value. -/
theorem tell_first {m : Mem} {b cap k : Nat} {l : List Fr} {post : List PV} (hm : m b = some (flat (frs l) ++ post)) (hk : k ≤ l.length) (hc : l.length ≤ cap) : Tell m (.s (.slice (some ⟨b, 0, none⟩) k cap)) (.sl false (frs (l.take k))) := by
  have hd := flat_frs_take (l := l) (k := k) post hk
  have hl3 : (flat (frs (l.take k))).length = k * 4 := by rw [flat_length (frs_cells _), List.length_map, List.length_take, Nat.min_eq_left hk]
  refine .row hm (frs_cells _) (by simp [Nat.min_eq_left hk]) ?_ (by omega) (fun h => by cases h) ?_
  · rw [List.length_append, hl3, flat_length (frs_cells _), List.length_map]
    have : k * 4 ≤ l.length * 4 := Nat.mul_le_mul_right _ hk
    omega
  · rw [List.drop_zero, hl3, hd]
    exact Tells.same _ _

def startF (n w : Nat) (l : List Fr) : Nat → Nat → Fr := fun i c => atF n w l i c
def foldsF (w n : Nat) (M : Nat → Nat → Fr) : Nat → Nat → Nat → Fr
  | 0 => M
  | k + 1 => foldF w (foldsF w n M k) k n
def triF (n w : Nat) (l : List Fr) : List Fr := clearF n (signsF n (gridP (foldsF w n (startF n w l) n) n n 0))
theorem row_start {n w : Nat} {l : List Fr} (hr : right n w l.length = true) {i : Nat} (hi : i < n) : rowF n w l i = rowM w (startF n w l) i := by
  rw [rowF_eq ⟨0, 0, 0, false⟩ hr (by simpa using hi), Int.toNat_natCast, rowM]
  refine List.map_congr_left fun j hj => ?_
  rw [startF, atF_eq hr (by simpa using hi) (by simpa using hj), Int.toNat_natCast]
set_option maxHeartbeats 2000000 in
theorem ok19 (n w : Nat) (hn : 1 ≤ n) (hnw : n ≤ w) (hw : w ≤ 16) (e : Bool) (l : List Fr) (h : l.length = n * w) : Ok Tryz.prog 19 [matV e n w (frs l)] (.tup [matV false n n (frs (triF n w l)), tru true]) := by
  have hr : right (n : Int) (w : Int) l.length = true := right_nat ⟨hn, by omega⟩ ⟨by omega, hw⟩ h
  refine okt_fn mixed Tryz.func19 (code := ?_) (h := h19) ?_ k19 ?_
  rotate_left
  · exact rfl
  unfold h19 initS
  simp -implicitDefEqProofs only [rkA, rkB, stepA, valA, simprocAttr, Tryz.ntmps19, Tryz.results19]
  have h17 := ok72 e n w (frs l)
  have el : (frs l).length = l.length := by simp
  rw [el, hr] at h17
  refine call_fn rfl rfl rfl (h17) ?_
  have hgt : ¬ (n : Int) > w := by omega
  simp -implicitDefEqProofs only [hgt, rkA, rkB, stepA, valA, simprocAttr]
  refine call_fn rfl rfl rfl (ok75 e n w l) ?_
  simp -implicitDefEqProofs only [rkA, rkB, stepA, valA, simprocAttr]
  refine wp_rfM' (items := rowItems n w l) rfl (itm149 e n w l hr) (fun sv i s => i ≤ n ∧ ∃ mm c cap q, RowsC mm c q i w (startF n w l) ∧ (∀ a, a < i → w ≤ cap a) ∧ s = ⟨[], [(1, [nt n, nt w, .v (.sl e (frs l))]), (2, [nt 0, nt 0, .acc 3002 []]), (4, [.acc 1004 ((List.range i).map (rawC c cap w))])], [], [(1004, i), (3002, 0)], sv, 0, mm⟩) ?_ ?_ ?_
  · simp -implicitDefEqProofs only [rkA, rkB, stepA, valA, simprocAttr]
    exact ⟨Nat.zero_le _, nomem, fun _ => 0, fun _ => 0, fun _ => 0, ⟨fun i h => by omega, fun i j h => by omega⟩, fun a h => by omega, rfl⟩
  · rintro i x' p m s' R hx ⟨hi, mm, c, cap, q, hM, hcap, rfl⟩ hxm hfr hR
    have hlt : i < n := by
      have := (List.getElem?_eq_some_iff.1 hx).1
      simpa [rowItems] using this
    have hx' : x' = rowItem n w l i := by
      rw [rowItems, List.getElem?_map, List.getElem?_range (by simpa using hlt), Option.map_some] at hx
      exact (Option.some.inj hx).symm
    subst hx'
    obtain ⟨b, cp, z, h1, rfl, rfl⟩ := hxm
    have hb : mm b = none := hfr b (by rw [Mem.put_same]; rfl)
    have lr : (frs (rowF n w l i)).length = w := by rw [List.length_map, row_start hr hlt, rowM_length]
    rw [lr] at h1
    rw [lr, row_start hr hlt]
    refine ⟨rfl, ?_⟩
    have hfit := fits_raw c cap w i (.s (.slice (some ⟨b, 0, none⟩) w cp)) ⟨_, _, _, rfl⟩ (by omega)
    have hl : ((List.range i).map (rawC c cap w)).length = i := by simp
    simp -implicitDefEqProofs only [hfit, hl, raw_grow, rkA, rkB, stepA, valA, simprocAttr]
    refine hR _ ⟨by omega, _, _, _, _, hM.grow (z := z) hb, fun a ha => ?_, rfl⟩
    by_cases e : a = i
    · simp only [e, if_true]; exact h1
    · simp only [e, if_false]; exact hcap a (by omega)
  · rintro s' ⟨hi, mm, c, cap, q, hM, hcap, rfl⟩
    have li : (rowItems n w l).length = n := by simp [rowItems]
    rw [li] at hM hcap ⊢
    clear hi
    simp -implicitDefEqProofs only [rkA, rkB, stepA, valA, simprocAttr]
    refine wp_loop (fun m s => ∃ (k : Nat) (mm : Mem), k + m = n ∧ RowsC mm c q n w (foldsF w n (startF n w l) k) ∧ s = ⟨[jk, .ptr 1 0, .ptr 2 0, jk, .ptr 4 0, jk, jk, jk, jk, jk, jk, jk, jk, jk, jk, jk, jk, jk, jk, jk, jk, jk, jk, jk, jk, jk, jk, jk, jk, jk, jk, jk, jk, nt n, nt k, jk, jk, jk, jk, jk, jk, jk, jk, jk, jk, jk, jk, jk, jk, jk, jk, jk, jk, jk, jk, jk, jk, jk, jk, jk, jk, jk, jk, jk, jk, jk, jk, jk, jk, jk, jk, jk],
      [(1, [nt n, nt w, .v (.sl e (frs l))]), (2, [nt 0, nt 0, .acc 3002 []]), (4, [.acc 1004 ((List.range n).map (rawC c cap w))])], [], [(1004, n), (3002, 0)], [], 0, mm⟩) n ?_ ?_
    · simp -implicitDefEqProofs only [rkA, rkB, stepA, valA, simprocAttr]
      exact ⟨0, mm, by omega, hM, rfl⟩
    clear hM mm
    rintro m s ⟨k, mm, hk, hM, rfl⟩
    simp -implicitDefEqProofs only [rkA, rkB, stepA, valA, simprocAttr]
    refine gB_dec ?_ ?_ <;> intro hc <;> simp -implicitDefEqProofs only [hc, rkA, rkB, stepA, valA, simprocAttr]
    · have hw2 := wrapped (x := (k : Int) + 1) (by omega) (by omega)
      refine mem_fn rfl rfl rfl (okm76 false n w k (by omega) hnw hw _ c cap q hcap mm hM) ?_
      intro r m' hm'
      simp -implicitDefEqProofs only [hw2, rkA, rkB, stepA, valA, simprocAttr]
      refine loopK_of (m' := m - 1) (by omega) ?_
      simp -implicitDefEqProofs only [rkA, rkB, stepA, valA, simprocAttr]
      exact ⟨k + 1, m', by omega, hm', by simp only [Int.natCast_add, Int.natCast_one]⟩
    · have hkn : k = n := by omega
      rw [hkn] at hM
      clear hc hk hkn
      generalize hS : foldsF w n (startF n w l) n = S at hM
      have ll : ((List.range n).map (rawC c cap w)).length = n := by simp
      simp -implicitDefEqProofs only [ll, rkA, rkB, stepA, valA, simprocAttr]
      have hlen := gridP_length S n
      refine wp_loop (fun m s => ∃ k : Nat, k + m = n ∧ s = ⟨[jk, .ptr 1 0, .ptr 2 0, jk, jk, jk, jk, jk, .acc 8 (frs (gridP S n k 0)), jk, jk, jk, jk, jk, jk, jk, jk, jk, jk, jk, jk, jk, jk, jk, jk, jk, jk, jk, jk, jk, jk, jk, jk, jk, jk, jk, jk, jk, jk, jk, jk, .acc 1004 ((List.range n).map (rawC c cap w)), nt n, nt k, jk, jk, jk, jk, jk, jk, jk, jk, jk, jk, jk, jk, jk, jk, jk, jk, jk, jk, jk, jk, jk, jk, jk, jk, jk, jk, jk, jk],
        [(1, [nt n, nt w, .v (.sl e (frs l))]), (2, [nt 0, nt 0, .acc 3002 []]), (4, [.acc 1004 ((List.range n).map (rawC c cap w))])], [], [(8, (gridP S n k 0).length), (1004, n), (3002, 0)], [], 0, mm⟩) n ?_ ?_
      · simp -implicitDefEqProofs only [rkA, rkB, stepA, valA, simprocAttr]
        exact ⟨0, by simp, rfl⟩
      rintro m s ⟨k, hk, rfl⟩
      simp -implicitDefEqProofs only [rkA, rkB, stepA, valA, simprocAttr]
      refine gB_dec ?_ ?_ <;> intro hc <;> simp -implicitDefEqProofs only [hc, rkA, rkB, stepA, valA, simprocAttr]
      · have hk' : k < n := by omega
        have h0k : (0 : Int) ≤ (k : Int) := by omega
        have h0n : (0 : Int) ≤ (n : Int) := by omega
        have gk : ((List.range n).map (rawC c cap w))[k]? = some (rawC c cap w k) := by simp [hk']
        have ck := hcap k hk'
        have ne : (cap k = 0) = False := by simp; omega
        have s2 : (n ≤ cap k) = True := by simp; omega
        have im : (False → True) = True := by simp
        have hz : (0 ≤ n) = True := by simp
        simp -implicitDefEqProofs only [h0k, h0n, hc, Int.toNat_natCast, gk, ne, s2, im, hz, addr_add, Nat.zero_mul, Nat.sub_zero, rkA, rkB, stepA, valA, simprocAttr]
        have hlr : (rowM w S k).length = w := rowM_length _ _ _
        have ht := tell_first (m := mm) (b := c k) (cap := cap k) (k := n) (hM.row k hk') (by omega) (by omega)
        refine appM_of rfl rfl ht (RFs_frs _) ?_
        have hfit : fits 4 32 (frs (gridP S n k 0)) (frs ((rowM w S k).take n)) = true := fits_frs (by
          have := hlen k 0
          have := side16 (n := k) (m := n) (by omega) (by omega)
          rw [List.length_take]
          omega)
        have hlg : (frs (gridP S n k 0)).length = (gridP S n k 0).length := by simp
        have hw2 := wrapped (x := (k : Int) + 1) (by omega) (by omega)
        have g1 : frs (gridP S n k 0) ++ frs ((rowM w S k).take n) = frs (gridP S n (k + 1) 0) := by
          rw [← List.map_append]
          congr 1
          rw [← gridP_next, gridP, gridP, rowM, ← List.map_take, List.take_range, Nat.min_eq_left hnw]
          simp
        have g2 : (gridP S n k 0).length + (frs ((rowM w S k).take n)).length = (gridP S n (k + 1) 0).length := by
          rw [hlen, hlen, List.length_map, List.length_take, hlr, Nat.min_eq_left hnw, Nat.succ_mul]
          omega
        simp -implicitDefEqProofs only [hfit, hlg, g1, g2, hw2, rkA, rkB, stepA, valA, simprocAttr]
        refine loopK_of (m' := m - 1) (by omega) ?_
        simp -implicitDefEqProofs only [rkA, rkB, stepA, valA, simprocAttr]
        exact ⟨k + 1, by omega, by simp only [Int.natCast_add, Int.natCast_one]⟩
      · have hkn : k = n := by omega
        subst hkn
        have hL : (gridP S k k 0).length = k * k := by rw [hlen, Nat.add_zero]
        have hb := side16 (n := k) (m := k) (by omega) (by omega)
        have h34 := ok17 k k false (gridP S k k 0) (by omega)
        rw [right_sq ⟨hn, by omega⟩ hL, if_pos rfl] at h34
        refine call_fn rfl rfl rfl (h34) ?_
        simp -implicitDefEqProofs only [rkA, rkB, stepA, valA, simprocAttr]
        refine call_fn rfl rfl rfl (ok77 k ⟨hn, by omega⟩ false (gridP S k k 0) hL) ?_
        simp -implicitDefEqProofs only [rkA, rkB, stepA, valA, simprocAttr]
        refine call_fn rfl rfl rfl (ok78 k ⟨hn, by omega⟩ false (signsF k (gridP S k k 0)) (by rw [signsF, gridP_length, Nat.add_zero])) ?_
        simp -implicitDefEqProofs only [rkA, rkB, stepA, valA, simprocAttr]
        rw [triF, hS]
        exact ⟨_, rfl, .same _⟩
end Go.Proofs.YtambpjbpdackfaaGreat.A.E



set_option linter.unusedVariables false
set_option linter.unusedSimpArgs false
set_option maxRecDepth 100000
namespace Go.Proofs.YtambpjbpdackfaaGreat.A
open Go Go.RowKit Go.Shelf

/-! ### root.column: one column of a triangle, behind a measurement -/
/-- The rows, as far as row t; what was gathered. -/
def colM (M : Nat → Nat → Fr) (E : Nat → Fr) (j : Nat) (d c : Fr) (t : Nat) : Nat → Nat → Fr := fun i k => if k = j ∧ j ≤ i ∧ i < t then subF (mulF (M i j) d) (mulF (E i) c) else M i k
def colE (M : Nat → Nat → Fr) (E : Nat → Fr) (j : Nat) (w : Fr) (t : Nat) : Nat → Fr := fun i => if j ≤ i ∧ i < t then addF (E i) (mulF (M i j) w) else E i
def rootD (a b : Fr) : Fr := rootF (divF a b)
def rootC (w a b : Fr) : Fr := divF w (rootF (mulF a b))
theorem colM_first (M : Nat → Nat → Fr) (E : Nat → Fr) (j : Nat) (d c : Fr) : colM M E j d c j = M := by
  funext i k
  unfold colM
  rw [if_neg (by omega)]
theorem colE_first (M : Nat → Nat → Fr) (E : Nat → Fr) (j : Nat) (w : Fr) : colE M E j w j = E := by
  funext i
  unfold colE
  rw [if_neg (by omega)]
theorem colM_step (M : Nat → Nat → Fr) (E : Nat → Fr) (j : Nat) (d c : Fr) {t : Nat} (h : j ≤ t) : setM (colM M E j d c t) t j (subF (mulF (M t j) d) (mulF (E t) c)) = colM M E j d c (t + 1) := by
  funext i k
  unfold setM colM
  by_cases e : i = t ∧ k = j
  · obtain ⟨rfl, rfl⟩ := e
    rw [if_pos ⟨rfl, rfl⟩, if_pos ⟨rfl, h, by omega⟩]
  · rw [if_neg e]
    by_cases h1 : k = j ∧ j ≤ i ∧ i < t
    · rw [if_pos h1, if_pos (by omega)]
    · rw [if_neg h1, if_neg (by omega)]
theorem colE_step (M : Nat → Nat → Fr) (E : Nat → Fr) (j : Nat) (w : Fr) {t n : Nat} (h : j ≤ t) (ht : t < n) : ((List.range n).map (colE M E j w t)).set t (addF (E t) (mulF (M t j) w)) = (List.range n).map (colE M E j w (t + 1)) := by
  apply List.ext_getElem?
  intro i
  rw [List.getElem?_set]
  by_cases hi : i < n
  · rw [List.getElem?_map, List.getElem?_map, List.getElem?_range hi]
    by_cases e : t = i
    · subst e
      rw [if_pos rfl, if_pos (by simpa using ht)]
      simp only [Option.map_some]
      unfold colE
      rw [if_pos ⟨h, by omega⟩]
    · rw [if_neg e]
      simp only [Option.map_some]
      unfold colE
      by_cases h1 : j ≤ i ∧ i < t
      · rw [if_pos h1, if_pos (by omega)]
      · rw [if_neg h1, if_neg (by omega)]
  · rw [List.getElem?_eq_none (by simp; omega), List.getElem?_eq_none (by simp; omega), if_neg (by omega)]
/-- Rows lie as they lay, whatever is written elsewhere. -/
theorem RowsC.other {mm : Mem} {c q : Nat → Nat} {n w b : Nat} {M : Nat → Nat → Fr} {x : List PV} (h : RowsC mm c q n w M) (hb : ∀ i, i < n → c i ≠ b) : RowsC (mm.put b x) c q n w M :=
  ⟨fun i hi => by rw [Mem.put_other _ _ (hb i hi)]; exact h.row i hi, h.inj⟩
end Go.Proofs.YtambpjbpdackfaaGreat.A



set_option linter.unusedVariables false
set_option linter.unusedSimpArgs false
set_option maxRecDepth 100000
namespace Go.Proofs.YtambpjbpdackfaaGreat.A.E
open Go Go.RowKit Go.Shelf

/-- The rows, as far as row t; what was gathered. -/
def colM (M : Nat → Nat → Fr) (E : Nat → Fr) (j : Nat) (d c : Fr) (t : Nat) : Nat → Nat → Fr := fun i k => if k = j ∧ j ≤ i ∧ i < t then subF (mulF (M i j) d) (mulF (E i) c) else M i k
def colE (M : Nat → Nat → Fr) (E : Nat → Fr) (j : Nat) (w : Fr) (t : Nat) : Nat → Fr := fun i => if j ≤ i ∧ i < t then addF (E i) (mulF (M i j) w) else E i
def rootD (a b : Fr) : Fr := rootF (divF a b)
def rootC (w a b : Fr) : Fr := divF w (rootF (mulF a b))
theorem colM_first (M : Nat → Nat → Fr) (E : Nat → Fr) (j : Nat) (d c : Fr) : colM M E j d c j = M := by
  funext i k
  unfold colM
  rw [if_neg (by omega)]
theorem colE_first (M : Nat → Nat → Fr) (E : Nat → Fr) (j : Nat) (w : Fr) : colE M E j w j = E := by
  funext i
  unfold colE
  rw [if_neg (by omega)]
theorem colM_step (M : Nat → Nat → Fr) (E : Nat → Fr) (j : Nat) (d c : Fr) {t : Nat} (h : j ≤ t) : setM (colM M E j d c t) t j (subF (mulF (M t j) d) (mulF (E t) c)) = colM M E j d c (t + 1) := by
  funext i k
  unfold setM colM
  by_cases e : i = t ∧ k = j
  · obtain ⟨rfl, rfl⟩ := e
    rw [if_pos ⟨rfl, rfl⟩, if_pos ⟨rfl, h, by omega⟩]
  · rw [if_neg e]
    by_cases h1 : k = j ∧ j ≤ i ∧ i < t
    · rw [if_pos h1, if_pos (by omega)]
    · rw [if_neg h1, if_neg (by omega)]
theorem colE_step (M : Nat → Nat → Fr) (E : Nat → Fr) (j : Nat) (w : Fr) {t n : Nat} (h : j ≤ t) (ht : t < n) : ((List.range n).map (colE M E j w t)).set t (addF (E t) (mulF (M t j) w)) = (List.range n).map (colE M E j w (t + 1)) := by
  apply List.ext_getElem?
  intro i
  rw [List.getElem?_set]
  by_cases hi : i < n
  · rw [List.getElem?_map, List.getElem?_map, List.getElem?_range hi]
    by_cases e : t = i
    · subst e
      rw [if_pos rfl, if_pos (by simpa using ht)]
      simp only [Option.map_some]
      unfold colE
      rw [if_pos ⟨h, by omega⟩]
    · rw [if_neg e]
      simp only [Option.map_some]
      unfold colE
      by_cases h1 : j ≤ i ∧ i < t
      · rw [if_pos h1, if_pos (by omega)]
      · rw [if_neg h1, if_neg (by omega)]
  · rw [List.getElem?_eq_none (by simp; omega), List.getElem?_eq_none (by simp; omega), if_neg (by omega)]
/-- Rows lie as they lay, whatever is written elsewhere. -/
theorem RowsC.other {mm : Mem} {c q : Nat → Nat} {n w b : Nat} {M : Nat → Nat → Fr} {x : List PV} (h : RowsC mm c q n w M) (hb : ∀ i, i < n → c i ≠ b) : RowsC (mm.put b x) c q n w M :=
  ⟨fun i hi => by rw [Mem.put_other _ _ (hb i hi)]; exact h.row i hi, h.inj⟩
set_option maxHeartbeats 4000000 in
theorem okm162 (ex : Bool) (n j : Nat) (hj : j < n) (hn : n ≤ 16) (M : Nat → Nat → Fr) (E : Nat → Fr) (w a b : Fr) (c cap q : Nat → Nat) (hcap : ∀ i, i < n → n ≤ cap i) (eb : Nat) (m : Mem) (hm : RowsC m c q n n M) (he : m eb = some (flat (frs ((List.range n).map E)))) (hce : ∀ i, i < n → c i ≠ eb) :
    OkM Tryz.prog 162 [.sl ex ((List.range n).map (rawC c cap n)), num j, frV w, frV a, frV b, .s (.slice (some ⟨eb, 0, none⟩) n n)] m
      (fun _ m' => RowsC m' c q n n (colM M E j (rootD a b) (rootC w a b) n) ∧ m' eb = some (flat (frs ((List.range n).map (colE M E j w n))))) := by
  refine okm_fn mixed Tryz.func162 (code := ?_) (h := h162) ?_ k162 ?_
  rotate_left
  · exact rfl
  unfold h162 initS
  simp -implicitDefEqProofs (maxSteps := 10000000) only [rkA, rkB, stepA, valA, simprocAttr, Tryz.ntmps162, Tryz.results162]
  refine call_meth rfl rfl methDiv (ok249 _ _) ?_
  simp -implicitDefEqProofs (maxSteps := 10000000) only [rkA, rkB, stepA, valA, simprocAttr]
  refine call_meth rfl rfl methRoot (ok252 _) ?_
  simp -implicitDefEqProofs (maxSteps := 10000000) only [rkA, rkB, stepA, valA, simprocAttr]
  refine call_meth rfl rfl methMul (ok250 _ _) ?_
  simp -implicitDefEqProofs (maxSteps := 10000000) only [rkA, rkB, stepA, valA, simprocAttr]
  refine call_meth rfl rfl methRoot (ok252 _) ?_
  simp -implicitDefEqProofs (maxSteps := 10000000) only [rkA, rkB, stepA, valA, simprocAttr]
  refine call_meth rfl rfl methDiv (ok249 _ _) ?_
  simp -implicitDefEqProofs (maxSteps := 10000000) only [rkA, rkB, stepA, valA, simprocAttr]
  have eD : rootF (divF a b) = rootD a b := rfl
  have eC : divF w (rootF (mulF a b)) = rootC w a b := rfl
  simp only [eD, eC]
  refine wp_loop (fun z s => ∃ (t : Nat) (mm : Mem), j ≤ t ∧ t + z = n ∧ RowsC mm c q n n (colM M E j (rootD a b) (rootC w a b) t) ∧ mm eb = some (flat (frs ((List.range n).map (colE M E j w t)))) ∧
    s = ⟨[.v (.sl ex ((List.range n).map (rawC c cap n))), .v (num j), jk, jk, jk, .v (.s (.slice (some ⟨eb, 0, none⟩) n n)), jk, jk, .ptr 8 0, jk, jk, jk, .ptr 12 0, .ptr 13 0, nt t, jk, jk, jk, jk, jk, jk, jk, jk, jk, jk, jk, jk, jk, jk, jk, jk, jk, jk, jk, jk, jk, jk, jk, jk, jk, jk, jk, jk, jk, jk, jk, jk, jk, jk, jk, jk, jk, jk, jk, jk, jk, jk, jk, jk, jk, jk, jk, jk, jk, jk, jk, jk, jk, jk, jk, jk, jk, jk, jk, jk, jk, jk],
      [(8, [.v (num w.v), .v (num w.lo), .v (num w.hi), .v (tru w.bad)]), (9, [.v (num a.v), .v (num a.lo), .v (num a.hi), .v (tru a.bad)]), (10, [.v (num b.v), .v (num b.lo), .v (num b.hi), .v (tru b.bad)]), (12, [.v (num (rootD a b).v), .v (num (rootD a b).lo), .v (num (rootD a b).hi), .v (tru (rootD a b).bad)]), (13, [.v (num (rootC w a b).v), .v (num (rootC w a b).lo), .v (num (rootC w a b).hi), .v (tru (rootC w a b).bad)])], [], [], [], 0, mm⟩) (n - j) ?_ ?_
  · simp -implicitDefEqProofs (maxSteps := 10000000) only [rkA, rkB, stepA, valA, simprocAttr]
    exact ⟨j, m, by omega, by omega, by rw [colM_first]; exact hm, by rw [colE_first]; exact he, rfl⟩
  clear hm he m
  rintro z s ⟨t, mm, hjt, htz, hM, hE, rfl⟩
  have li : ((List.range n).map (rawC c cap n)).length = n := by simp
  simp -implicitDefEqProofs (maxSteps := 10000000) only [li, rkA, rkB, stepA, valA, simprocAttr]
  refine gB_dec ?_ ?_ <;> intro hc <;> simp -implicitDefEqProofs (maxSteps := 10000000) only [hc, rkA, rkB, stepA, valA, simprocAttr]
  · have hi : t < n := by omega
    have h0t : (0 : Int) ≤ (t : Int) := by omega
    have h0j : (0 : Int) ≤ (j : Int) := by omega
    have hjn : (j : Int) < (n : Int) := by omega
    have gi : ((List.range n).map (rawC c cap n))[t]? = some (rawC c cap n t) := by simp [hi]
    have hrow := hM.row t hi
    have gM : colM M E j (rootD a b) (rootC w a b) t t j = M t j := by unfold colM; rw [if_neg (by omega)]
    have gE : colE M E j w t t = E t := by unfold colE; rw [if_neg (by omega)]
    have hld := ldM_frj (post := jnk (q t)) (rowM_get (n := n) (M := colM M E j (rootD a b) (rootC w a b) t) (i := t) (k := j) hj)
    have hle : ((List.range n).map (colE M E j w t))[t]? = some (E t) := by simp [hi, gE]
    have hlde := ldM_fr hle
    rw [gM] at hld
    simp -implicitDefEqProofs (maxSteps := 10000000) only [h0t, h0j, hjn, Int.toNat_natCast, gi, addr_add, Nat.zero_add, hrow, hld, rkA, rkB, stepA, valA, simprocAttr]
    refine call_meth rfl rfl methMul (ok250 _ _) ?_
    have hte : (t : Int) < (n : Int) := by omega
    simp -implicitDefEqProofs (maxSteps := 10000000) only [h0t, hte, Int.toNat_natCast, addr_add, Nat.zero_add, hE, hlde, rkA, rkB, stepA, valA, simprocAttr]
    refine call_meth rfl rfl methMul (ok250 _ _) ?_
    simp -implicitDefEqProofs (maxSteps := 10000000) only [rkA, rkB, stepA, valA, simprocAttr]
    refine call_meth rfl rfl methSub (ok254 _ _) ?_
    have hst := stM_frj (l := rowM n (colM M E j (rootD a b) (rootC w a b) t) t) (k := j) (x := subF (mulF (M t j) (rootD a b)) (mulF (E t) (rootC w a b))) (post := jnk (q t)) (by rw [rowM_length]; exact hj)
    simp -implicitDefEqProofs (maxSteps := 10000000) only [h0j, hjn, Int.toNat_natCast, addr_add, Nat.zero_add, hrow, hst, rkA, rkB, stepA, valA, simprocAttr]
    have hM2 := hM.store hi hj (subF (mulF (M t j) (rootD a b)) (mulF (E t) (rootC w a b)))
    rw [colM_step M E j (rootD a b) (rootC w a b) hjt] at hM2
    have hE2 : (mm.put (c t) (flat (frs ((rowM n (colM M E j (rootD a b) (rootC w a b) t) t).set j (subF (mulF (M t j) (rootD a b)) (mulF (E t) (rootC w a b))))) ++ jnk (q t))) eb = some (flat (frs ((List.range n).map (colE M E j w t)))) := by
      rw [Mem.put_other _ _ (fun e => hce t hi e.symm)]
      exact hE
    generalize mm.put (c t) _ = mm2 at hM2 hE2 ⊢
    simp -implicitDefEqProofs (maxSteps := 10000000) only [h0t, hte, Int.toNat_natCast, addr_add, Nat.zero_add, hE2, hlde, rkA, rkB, stepA, valA, simprocAttr]
    refine call_meth rfl rfl methMul (ok250 _ _) ?_
    simp -implicitDefEqProofs (maxSteps := 10000000) only [rkA, rkB, stepA, valA, simprocAttr]
    refine call_meth rfl rfl methAdd (ok63 _ _) ?_
    have hse := stM_frj (l := (List.range n).map (colE M E j w t)) (k := t) (x := addF (E t) (mulF (M t j) w)) (post := []) (by simp; exact hi)
    rw [List.append_nil, List.append_nil, colE_step M E j w hjt hi] at hse
    have hw' := wrapped (x := (t : Int) + 1) (by omega) (by omega)
    simp -implicitDefEqProofs (maxSteps := 10000000) only [h0t, hte, Int.toNat_natCast, addr_add, Nat.zero_add, hE2, hse, hw', rkA, rkB, stepA, valA, simprocAttr]
    refine loopK_of (m' := z - 1) (by omega) ?_
    simp -implicitDefEqProofs (maxSteps := 10000000) only [rkA, rkB, stepA, valA, simprocAttr]
    refine ⟨t + 1, mm2.put eb (flat (frs ((List.range n).map (colE M E j w (t + 1))))), by omega, by omega, ?_, Mem.put_same _ _ _, by simp only [Int.natCast_add, Int.natCast_one]⟩
    exact hM2.other (fun i hi' => hce i hi')
  · have e : t = n := by omega
    subst e
    exact ⟨_, rfl, hM, hE⟩
end Go.Proofs.YtambpjbpdackfaaGreat.A.E


/- slices.Grow of a row that is nil, off the library's shelf. -/
set_option linter.unusedVariables false
set_option maxRecDepth 100000
namespace Go.Proofs.YtambpjbpdackfaaGreat.A
open Go Go.RowKit Go.Shelf
theorem isAgg_no' {P : Program} {t : TypeId} (h : tAgg P t = some false) (w : World) : (isAgg t).run P w = .ok false w := run_isAgg_of h w
theorem sizeOf_one' {P : Program} {t : TypeId} {n : Nat} (h : tSize P t = some n) (w : World) : (Go.sizeOf t).run P w = .ok n w := run_sizeOf_of h w
theorem zero_is' {P : Program} {t : TypeId} {v : Value} (h : tZero P t = some v) (w : World) : (zeroValue t).run P w = .ok v w := run_zero_of h w
/-- New memory with room for n elements of sz cells each. -/
def GrownR (n sz : Nat) (r : PV) (m : Mem) : Prop := ∃ c cap, n ≤ cap ∧ r = .s (.slice (some ⟨c, 0, none⟩) 0 cap) ∧ m = nomem.put c (List.replicate (cap * sz) .junk)
theorem grown_rf {n sz : Nat} : ∀ r m', GrownR n sz r m' → RF r = true ∧ ∀ c cells, m' c = some cells → RFs cells = true := by
  rintro r m' ⟨c, cap, _, rfl, rfl⟩
  refine ⟨rfl, fun d cells hd => ?_⟩
  by_cases e : d = c
  · subst e
    rw [Mem.put_same] at hd
    cases hd
    have : ∀ k, RFs (List.replicate k PV.junk) = true := fun k => by
      induction k with
      | zero => rfl
      | succ k ih => rw [List.replicate_succ]; exact ih
    exact this _
  · rw [Mem.put_other _ _ e] at hd
    cases hd
theorem grown_of {P : Program} {ρ : Ren} (L : Lays8.n4 P ρ) {i0 : TypeInfo} {z : Value} {S B : Nat} (hi : P.info? (ρ.t 25) = some i0) (hz : i0.zero = some z) (hS : i0.size = S) (hB : i0.bytes = B) (hzs : z.cells.size = S) (h0 : 0 < S) (hen : Enters P (ρ.f 4)) (n : Nat) (h1 : 1 ≤ n) (h2 : n * B ≤ 140737488355328) (h3 : n ≤ 4611686018427387904) :
    OkM P (ρ.f 4) [.s (.slice none 0 0), num n] nomem (GrownR n S) := by
  refine ⟨hen, fun I w vs hg hm hc => ?_⟩
  cases hc with
  | cons c1 c2 =>
    cases c2 with
    | cons c3 c4 =>
      cases c4
      cases c1
      cases c3
      subst hS hB
      refine (Any8.slices_Grow_grow L i0 z hi hz h0 none 0 0 n [] w (by omega) (by omega) (by simpa using h2) (by omega) (by simp) (fun _ => rfl) (fun a h => by cases h)).mono ?_
      rintro e w' ⟨rfl, rfl⟩
      have hge := grownCap_ge w (0 + n) 0 (ρ.t 25)
      generalize grownCap w (0 + n) 0 (ρ.t 25) = cap at hge ⊢
      have hnone : I w.heap.size = none := by
        cases h : I w.heap.size with
        | none => rfl
        | some arr => exact absurd (hg.lt h) (by omega)
      refine ⟨_, I, _, nomem.put w.heap.size (List.replicate (cap * i0.size) .junk), rfl, ⟨w.heap.size, cap, by omega, rfl, rfl⟩, ?_, Imm.le_refl _, ?_, fun _ _ => rfl, ?_, ?_, .s _⟩
      · have hb : Below w.heap.size w (w.drew.alloc (.cells (([] : List Value).toArray ++ Builtin.zeroCells z.cells (0 + n - 0) ++ Builtin.zeroCells z.cells (cap - (0 + n))) (ρ.t 25))) := ((Below.refl _ w).drew).alloc (Nat.le_refl _) _
        exact ⟨hb.os, hb.tape, hb.output, hb.size, fun k hk _ => hb.block k hk⟩
      · exact hg.below (((Below.refl _ w).drew).alloc (Nat.le_refl _) _)
      · intro c cells hcc
        by_cases e : c = w.heap.size
        · subst e
          rw [Mem.put_same] at hcc
          cases hcc
          refine ⟨hnone, _, ρ.t 25, (by show (w.heap.push _)[w.heap.size]? = _; exact Array.getElem?_push_size), ?_⟩
          have hsz : ∀ k : Nat, (Builtin.zeroCells z.cells k).size = k * i0.size := fun k => by rw [size_zeroCells, hzs]
          have hl : (([] : List Value).toArray ++ Builtin.zeroCells z.cells (0 + n - 0) ++ Builtin.zeroCells z.cells (cap - (0 + n))).toList.length = cap * i0.size := by
            rw [Array.length_toList, Array.size_append, Array.size_append, hsz, hsz]
            rw [show (([] : List Value).toArray).size = 0 from rfl, Nat.zero_add, ← Nat.add_mul]
            congr 1
            omega
          rw [← hl]
          exact cs_rest I _
        · rw [Mem.put_other _ _ e] at hcc
          cases hcc
      · intro c hlt _
        exact Mem.put_other _ _ (by omega)
def reng186 : Ren := { f := fun | 4 => 186 | x => x, t := fun | 0 => 0 | 3 => 3 | 4 => 4 | 9 => 9 | 20 => 20 | 22 => 22 | 25 => 28 | x => x, g := fun x => x }
theorem laysg186 : Lays8.n4 Tryz.prog reng186 where
  mixed := by kernel_rfl
  f4 := ⟨"slices.Grow[[]couplet/env.Num,couplet/env.Num]", by decide, Tryz.func186⟩
  t0 := by kernel_rfl
  a0 := isAgg_no' (by kernel_rfl)
  z0 := sizeOf_one' (by kernel_rfl)
  v0 := zero_is' (by kernel_rfl)
  t3 := by kernel_rfl
  a3 := isAgg_no' (by kernel_rfl)
  z3 := sizeOf_one' (by kernel_rfl)
  v3 := zero_is' (by kernel_rfl)
  t4 := by kernel_rfl
  a4 := isAgg_no' (by kernel_rfl)
  z4 := sizeOf_one' (by kernel_rfl)
  v4 := zero_is' (by kernel_rfl)
  t9 := by kernel_rfl
  a9 := isAgg_no' (by kernel_rfl)
  z9 := sizeOf_one' (by kernel_rfl)
  v9 := zero_is' (by kernel_rfl)
  t20 := by kernel_rfl
  a20 := isAgg_no' (by kernel_rfl)
  z20 := sizeOf_one' (by kernel_rfl)
  v20 := zero_is' (by kernel_rfl)
  t22 := by kernel_rfl
  a22 := isAgg_no' (by kernel_rfl)
  z22 := sizeOf_one' (by kernel_rfl)
  v22 := zero_is' (by kernel_rfl)
theorem okg186 (n : Nat) (h1 : 1 ≤ n) (h2 : n * 32 ≤ 140737488355328) : OkM Tryz.prog 186 [.s (.slice none 0 0), num n] nomem (GrownR n 4) :=
  grown_of laysg186 (i0 := Tryz.t28) (z := (Tryz.t28).zero.getD .nilIface) (S := 4) (B := 32) (by kernel_rfl) (by kernel_rfl) (by kernel_rfl) (by kernel_rfl) (by kernel_rfl) (by decide) (enters_of Tryz.func186 (by kernel_rfl) rfl) n h1 h2 (by omega)
end Go.Proofs.YtambpjbpdackfaaGreat.A





set_option linter.unusedVariables false
set_option linter.unusedSimpArgs false
set_option maxRecDepth 100000
namespace Go.Proofs.YtambpjbpdackfaaGreat.A
open Go Go.RowKit Go.Shelf

/-! ### slices.Concat -/
abbrev catV (rows : List (List Fr)) : List PV := rows.map fun r => .sl false (frs r)
theorem flatten_take_succ {α : Type} {l : List (List α)} {i : Nat} (h : i < l.length) : (l.take (i + 1)).flatten = (l.take i).flatten ++ l[i] := by
  rw [List.take_succ_eq_append_getElem h, List.flatten_append, List.flatten_singleton]
theorem flatten_take_le {α : Type} (l : List (List α)) (i : Nat) : (l.take i).flatten.length ≤ l.flatten.length := by
  conv => rhs; rw [← List.take_append_drop i l, List.flatten_append, List.length_append]
  omega
theorem RFs_replicate : ∀ k, RFs (List.replicate k PV.junk) = true
  | 0 => rfl
  | k + 1 => by rw [List.replicate_succ]; exact RFs_replicate k
theorem cells_put (L M : List PV) (K : Nat) : (L ++ List.replicate K PV.junk).take L.length ++ M ++ (L ++ List.replicate K PV.junk).drop (L.length + M.length) = (L ++ M) ++ List.replicate (K - M.length) PV.junk := by
  rw [List.take_append_of_le_length (Nat.le_refl _), List.take_length, List.drop_append, List.drop_of_length_le (by omega), List.nil_append, List.drop_replicate]
  congr 3
  omega
theorem cells_putF (A B : List Fr) {C : List Fr} (h : C = A ++ B) (K : Nat) : (flat (frs A) ++ List.replicate (K - (flat (frs A)).length) PV.junk).take (flat (frs A)).length ++ flat (frs B) ++ (flat (frs A) ++ List.replicate (K - (flat (frs A)).length) PV.junk).drop ((flat (frs A)).length + (flat (frs B)).length) = flat (frs C) ++ List.replicate (K - (flat (frs C)).length) PV.junk := by
  have e : flat (frs C) = flat (frs A) ++ flat (frs B) := by rw [h, frs, List.map_append, flat_append]
  rw [cells_put, e, List.length_append, Nat.sub_sub]
end Go.Proofs.YtambpjbpdackfaaGreat.A



set_option linter.unusedVariables false
set_option linter.unusedSimpArgs false
set_option maxRecDepth 100000
namespace Go.Proofs.YtambpjbpdackfaaGreat.A.E
open Go Go.RowKit Go.Shelf

abbrev catV (rows : List (List Fr)) : List PV := rows.map fun r => .sl false (frs r)
theorem cells_putF (A B : List Fr) {C : List Fr} (h : C = A ++ B) (K : Nat) : (flat (frs A) ++ List.replicate (K - (flat (frs A)).length) PV.junk).take (flat (frs A)).length ++ flat (frs B) ++ (flat (frs A) ++ List.replicate (K - (flat (frs A)).length) PV.junk).drop ((flat (frs A)).length + (flat (frs B)).length) = flat (frs C) ++ List.replicate (K - (flat (frs C)).length) PV.junk := by
  have e : flat (frs C) = flat (frs A) ++ flat (frs B) := by rw [h, frs, List.map_append, flat_append]
  rw [cells_put, e, List.length_append, Nat.sub_sub]
set_option maxHeartbeats 2000000 in
theorem okn123 (ex : Bool) (rows : List (List Fr)) (h0 : rows.flatten ≠ []) (h1 : rows.flatten.length ≤ 1000000) (h2 : rows.length ≤ 1000000) : OkN Tryz.prog 123 [.sl ex (catV rows)] (frs rows.flatten) := by
  have hlr : (catV rows).length = rows.length := by simp
  have hpos : 0 < rows.flatten.length := List.length_pos_iff.2 h0
  refine okn_fn mixed Tryz.func123 (code := ?_) (h := hN123) ?_ kN123 rfl (RFs_frs _) ?_
  rotate_left
  · exact rfl
  unfold hN123 initS
  simp -implicitDefEqProofs (maxSteps := 10000000) only [rkA, rkB, stepA, valA, simprocAttr, Tryz.ntmps123, Tryz.results123]
  refine wp_loop (fun m s => ∃ i, i + m = rows.length ∧ s = ⟨[.v (.sl ex (catV rows)), jk, jk, nt ((rows.take i).flatten.length : Nat), jk, jk, jk, jk, jk, .v (.sl ex (catV rows)), nt rows.length, nt i, jk, jk, jk, jk, jk, jk, jk, jk, jk, jk, jk, jk, jk, jk, jk, jk, jk, jk, jk, jk, jk, jk, jk, jk], [], [], [(2, 0)], [], 0, nomem⟩) rows.length ?_ ?_
  · simp -implicitDefEqProofs (maxSteps := 10000000) only [hlr, rkA, rkB, stepA, valA, simprocAttr]
    exact ⟨0, by simp, rfl⟩
  rintro m s ⟨i, hi, rfl⟩
  simp -implicitDefEqProofs (maxSteps := 10000000) only [rkA, rkB, stepA, valA, simprocAttr]
  refine gB_dec ?_ ?_ <;> intro hc <;> simp -implicitDefEqProofs (maxSteps := 10000000) only [hc, rkA, rkB, stepA, valA, simprocAttr]
  · have hlt : i < rows.length := by omega
    have h0i : (0 : Int) ≤ (i : Int) := by omega
    have hg : (catV rows)[i]? = some (.sl false (frs rows[i])) := by simp [hlt]
    have e1 := flatten_take_succ hlt
    have e2 := flatten_take_le rows (i + 1)
    have e3 : (rows.take (i + 1)).flatten.length = (rows.take i).flatten.length + rows[i].length := by rw [e1, List.length_append]
    have e4 : (frs rows[i]).length = rows[i].length := by simp
    have w1 : IntKind.wrap .i64 (((rows.take i).flatten.length : Nat) + (rows[i].length : Nat) : Int) = ((rows.take (i + 1)).flatten.length : Nat) := by rw [wrapped (by omega) (by omega)]; omega
    have w2 := wrapped (x := (i : Int) + 1) (by omega) (by omega)
    have g0 : ¬ (((rows.take (i + 1)).flatten.length : Nat) : Int) < 0 := by omega
    simp -implicitDefEqProofs (maxSteps := 10000000) only [h0i, Int.toNat_natCast, hg, e4, w1, w2, g0, rkA, rkB, stepA, valA, simprocAttr]
    refine loopK_of (m' := m - 1) (by omega) ?_
    simp -implicitDefEqProofs (maxSteps := 10000000) only [rkA, rkB, stepA, valA, simprocAttr]
    exact ⟨i + 1, by omega, by simp only [Int.natCast_add, Int.natCast_one]⟩
  · have ei : rows.take i = rows := List.take_of_length_le (by omega)
    simp only [ei]
    clear ei hc hi m
    refine lendNew_fn rfl rfl (Tells.same _ _) (okg186 rows.flatten.length (by omega) (by omega)) grown_rf ?_
    rintro r m' ⟨c, cap, hcap, rfl, rfl⟩ hfree
    simp -implicitDefEqProofs (maxSteps := 10000000) only [rkA, rkB, stepA, valA, simprocAttr]
    refine wp_loop (fun m s => ∃ (i : Nat) (mm : Mem), i + m = rows.length ∧ mm = nomem.put c (flat (frs (rows.take i).flatten) ++ List.replicate (cap * 4 - (flat (frs (rows.take i).flatten)).length) .junk) ∧
      s = ⟨[jk, jk, jk, jk, jk, jk, .v (.s (.slice (some ⟨c, 0, none⟩) (rows.take i).flatten.length cap)), jk, jk, jk, jk, jk, jk, jk, jk, jk, jk, jk, jk, jk, jk, jk, jk, jk, jk, .v (.sl ex (catV rows)), nt rows.length, nt i, jk, jk, jk, jk, jk, jk, jk, jk], [], [], [(2, 0)], [], 0, mm⟩) rows.length ?_ ?_
    · simp -implicitDefEqProofs (maxSteps := 10000000) only [hlr, rkA, rkB, stepA, valA, simprocAttr]
      exact ⟨0, _, by simp, rfl, rfl⟩
    rintro m s ⟨i, mm, hi, rfl, rfl⟩
    simp -implicitDefEqProofs (maxSteps := 10000000) only [rkA, rkB, stepA, valA, simprocAttr]
    refine gB_dec ?_ ?_ <;> intro hc <;> simp -implicitDefEqProofs (maxSteps := 10000000) only [hc, rkA, rkB, stepA, valA, simprocAttr]
    · have hlt : i < rows.length := by omega
      have h0i : (0 : Int) ≤ (i : Int) := by omega
      have hg : (catV rows)[i]? = some (.sl false (frs rows[i])) := by simp [hlt]
      have e1 := flatten_take_succ hlt
      have e2 := flatten_take_le rows (i + 1)
      have e3 : (rows.take (i + 1)).flatten.length = (rows.take i).flatten.length + rows[i].length := by rw [e1, List.length_append]
      have e4 : (frs rows[i]).length = rows[i].length := by simp
      have l1 : (flat (frs (rows.take i).flatten)).length = (rows.take i).flatten.length * 4 := by rw [flat_length (frs_cells _), List.length_map]
      have l2 : (flat (frs rows[i])).length = rows[i].length * 4 := by rw [flat_length (frs_cells _), List.length_map]
      have w2 := wrapped (x := (i : Int) + 1) (by omega) (by omega)
      have hmul : rows.flatten.length * 4 ≤ cap * 4 := Nat.mul_le_mul_right _ hcap
      have hput := cells_putF (rows.take i).flatten rows[i] e1 (cap * 4)
      simp -implicitDefEqProofs (maxSteps := 10000000) only [h0i, Int.toNat_natCast, hg, rkA, rkB, stepA, valA, simprocAttr]
      refine appIn_of rfl rfl (.same _) (RFs_frs _) (Mem.put_same _ _ _) (by rw [List.all_eq_true]; intro e he; obtain ⟨x, _, rfl⟩ := List.mem_map.1 he; rfl) (by rw [e4]; omega) (by simp only [List.length_append, List.length_replicate, l1, l2, Nat.zero_add]; omega) ?_
      rw [Nat.zero_add, ← l1, hput, e4, ← e3]
      simp -implicitDefEqProofs (maxSteps := 10000000) only [w2, rkA, rkB, stepA, valA, simprocAttr]
      refine loopK_of (m' := m - 1) (by omega) ?_
      simp -implicitDefEqProofs (maxSteps := 10000000) only [rkA, rkB, stepA, valA, simprocAttr]
      refine ⟨i + 1, _, by omega, rfl, ?_⟩
      simp only [Int.natCast_add, Int.natCast_one]
      congr 1
      funext d
      unfold Mem.put
      split <;> rfl
    · have ei : rows.take i = rows := List.take_of_length_le (by omega)
      rw [ei]
      refine .inr ⟨_, rfl, .inr ⟨by simpa using h0, c, cap, _, by rw [List.length_map]; exact hcap, by rw [List.length_map], rfl⟩⟩
end Go.Proofs.YtambpjbpdackfaaGreat.A.E



set_option linter.unusedVariables false
set_option linter.unusedSimpArgs false
set_option maxRecDepth 100000
namespace Go.Proofs.YtambpjbpdackfaaGreat.A
open Go Go.RowKit Go.Shelf

/-! ### States -/
abbrev stV (ex ep : Bool) (x : List PV) (r c : Int) (l : List PV) : PV := .agg [.sl ex x, num r, num c, .sl ep l]
abbrev stNil : PV := .agg [.s (.slice none 0 0), num 0, num 0, .s (.slice none 0 0)]
theorem Cs.st_nil {I : Imm} {xs ys : List PV} {vs : List Value} (h : Cs I (stNil :: xs) vs) (k : ∀ us, Cs I xs us → Cs I ys us) : Cs I (stV false false (frs []) 0 0 (frs []) :: ys) vs := by
  have key : ∀ us, Cs I [.s (.slice none 0 0), num 0, num 0, .s (.slice none 0 0)] us → Cs I [.sl false [], num 0, num 0, .sl false []] us := fun us h => Cs.nil_of h fun us h => Cs.keep h fun us h => Cs.keep h fun us h => Cs.nil_of h fun us h => h
  cases h with | cons h1 h2 => cases h1 with | agg hl => exact .cons (.agg (key _ hl)) (k _ h2)

def stRight (k : Nat) (r c : Int) (n : Nat) : Bool := decide (1 ≤ k ∧ k ≤ 4) && (right r c n && (r == k && c == k))
theorem stRight_nat {k n : Nat} {m : Nat} (h : m = n * n) : stRight k n n m = decide (1 ≤ k ∧ k ≤ 4 ∧ k = n) := by
  by_cases hk : 1 ≤ k ∧ k ≤ 4
  · by_cases e : k = n
    · subst e
      have := right_nat (R := k) (K := k) (n := m) (by omega) (by omega) h
      simp [stRight, hk, this]
    · have e2 : ((n : Int) == (k : Int)) = false := by simp; omega
      simp [stRight, e2, e]
  · have : ¬ (1 ≤ k ∧ k ≤ 4 ∧ k = n) := by omega
    simp [stRight, hk, this]

theorem sqF_len (n : Nat) (l : List Fr) : (sqF n l).length = n * n := by
  rw [sqF, mirF, gridP_length]
  simp
/-! ### A new state -/
/-! ### Turned -/
def turnedF (n : Nat) (m p q : List Fr) : List Fr := mirF n (List.zipWith addF (prodF n n n (prodF n n n m p) (turnF n n m)) q)
theorem turnedF_len (n : Nat) (m p q : List Fr) : (turnedF n m p q).length = n * n := by
  rw [turnedF, mirF, gridP_length]
  simp
end Go.Proofs.YtambpjbpdackfaaGreat.A



set_option linter.unusedVariables false
set_option linter.unusedSimpArgs false
set_option maxRecDepth 100000
namespace Go.Proofs.YtambpjbpdackfaaGreat.A.E
open Go Go.RowKit Go.Shelf

abbrev stV (ex ep : Bool) (x : List PV) (r c : Int) (l : List PV) : PV := .agg [.sl ex x, num r, num c, .sl ep l]
theorem Cs.st_nil {I : Imm} {xs ys : List PV} {vs : List Value} (h : Cs I (stNil :: xs) vs) (k : ∀ us, Cs I xs us → Cs I ys us) : Cs I (stV false false (frs []) 0 0 (frs []) :: ys) vs := by
  have key : ∀ us, Cs I [.s (.slice none 0 0), num 0, num 0, .s (.slice none 0 0)] us → Cs I [.sl false [], num 0, num 0, .sl false []] us := fun us h => Cs.nil_of h fun us h => Cs.keep h fun us h => Cs.keep h fun us h => Cs.nil_of h fun us h => h
  cases h with | cons h1 h2 => cases h1 with | agg hl => exact .cons (.agg (key _ hl)) (k _ h2)

theorem ok120 (ex ep : Bool) (x l : List Fr) (r c : Int) : Ok Tryz.prog 120 [stV ex ep (frs x) r c (frs l)] (tru (stRight x.length r c l.length)) := by
  refine ok_fn mixed Tryz.func120 (code := ?_) (h := h120) ?_ k120 ?_
  rotate_left
  · exact rfl
  unfold h120 initS
  simp -implicitDefEqProofs (maxSteps := 10000000) only [rkA, rkB, stepA, valA, simprocAttr, Tryz.ntmps120, Tryz.results120]
  have e : (frs x).length = x.length := by simp
  have e' : (frs l).length = l.length := by simp
  by_cases hx : 1 ≤ x.length ∧ x.length ≤ 4
  · have h1 : (1 : Int) ≤ (x.length : Int) := by omega
    have h2 : (x.length : Int) ≤ 4 := by omega
    simp -implicitDefEqProofs (maxSteps := 10000000) only [e, h1, h2, rkA, rkB, stepA, valA, simprocAttr]
    refine call_fn rfl rfl rfl (ok72 ep r c (frs l)) ?_
    rw [e']
    cases hr : right r c l.length with
    | false => simp -implicitDefEqProofs (maxSteps := 10000000) only [stRight, hx, hr, rkA, rkB, stepA, valA, simprocAttr]
    | true =>
      simp -implicitDefEqProofs (maxSteps := 10000000) only [rkA, rkB, stepA, valA, simprocAttr]
      cases h3 : (r == (x.length : Int)) with
      | false => simp -implicitDefEqProofs (maxSteps := 10000000) only [stRight, hx, hr, h3, rkA, rkB, stepA, valA, simprocAttr]
      | true => simp -implicitDefEqProofs (maxSteps := 10000000) only [stRight, hx, hr, h3, rkA, rkB, stepA, valA, simprocAttr]
  · have hs : stRight x.length r c l.length = false := by simp -implicitDefEqProofs (maxSteps := 10000000) only [stRight, hx, rkA, rkB, stepA, valA, simprocAttr]
    rw [hs]
    by_cases h1 : 1 ≤ x.length
    · have h1' : (1 : Int) ≤ (x.length : Int) := by omega
      have h2 : ¬ (x.length : Int) ≤ 4 := by omega
      simp -implicitDefEqProofs (maxSteps := 10000000) only [e, h1', h2, rkA, rkB, stepA, valA, simprocAttr]
    · have h1' : ¬ (1 : Int) ≤ (x.length : Int) := by omega
      simp -implicitDefEqProofs (maxSteps := 10000000) only [e, h1', rkA, rkB, stepA, valA, simprocAttr]

theorem sqF_len (n : Nat) (l : List Fr) : (sqF n l).length = n * n := by
  rw [sqF, mirF, gridP_length]
  simp
theorem ok117 (ex er : Bool) (x l : List Fr) (n : Nat) (hn : 1 ≤ n ∧ n ≤ 16) (hl : l.length = n * n) (hx : x.length ≤ 4398046511104) :
    Ok Tryz.prog 117 [.sl ex (frs x), matV er n n (frs l)] (if 1 ≤ x.length ∧ x.length ≤ 4 ∧ x.length = n then .tup [stV false false (frs x) n n (frs (sqF n l)), tru true] else .tup [stNil, tru false]) := by
  refine ok_fn mixed Tryz.func117 (code := ?_) (h := h117) ?_ k117 ?_
  rotate_left
  · exact rfl
  unfold h117 initS
  simp -implicitDefEqProofs (maxSteps := 10000000) only [rkA, rkB, stepA, valA, simprocAttr, Tryz.ntmps117, Tryz.results117]
  refine call_fn rfl rfl rfl (ok109 n hn er l hl) ?_
  simp -implicitDefEqProofs (maxSteps := 10000000) only [rkA, rkB, stepA, valA, simprocAttr]
  refine call_fn rfl rfl rfl (ok71 ex x hx) ?_
  simp -implicitDefEqProofs (maxSteps := 10000000) only [rkA, rkB, stepA, valA, simprocAttr]
  refine call_fn rfl rfl rfl (ok120 false false x (sqF n l) n n) ?_
  rw [stRight_nat (sqF_len n l)]
  by_cases h : 1 ≤ x.length ∧ x.length ≤ 4 ∧ x.length = n
  · rw [if_pos h, decide_eq_true h]
    simp -implicitDefEqProofs (maxSteps := 10000000) only [rkA, rkB, stepA, valA, simprocAttr]
  · rw [if_neg h, decide_eq_false h]
    simp -implicitDefEqProofs (maxSteps := 10000000) only [rkA, rkB, stepA, valA, simprocAttr]

def turnedF (n : Nat) (m p q : List Fr) : List Fr := mirF n (List.zipWith addF (prodF n n n (prodF n n n m p) (turnF n n m)) q)
theorem turnedF_len (n : Nat) (m p q : List Fr) : (turnedF n m p q).length = n * n := by
  rw [turnedF, mirF, gridP_length]
  simp
theorem ok189 (n : Nat) (hn : 1 ≤ n ∧ n ≤ 16) (e1 e2 e3 : Bool) (m p q : List Fr) (hm : m.length = n * n) (hp : p.length = n * n) (hq : q.length = n * n) :
    Ok Tryz.prog 189 [matV e1 n n (frs m), matV e2 n n (frs p), matV e3 n n (frs q)] (.tup [matV false n n (frs (turnedF n m p q)), tru true]) := by
  have rm := right_sq hn hm
  have rp := right_sq hn hp
  have rq := right_sq hn hq
  have rt := right_turn rm
  refine ok_fn mixed Tryz.func189 (code := ?_) (h := h189) ?_ k189 ?_
  rotate_left
  · exact rfl
  unfold h189 initS
  simp -implicitDefEqProofs (maxSteps := 10000000) only [rkA, rkB, stepA, valA, simprocAttr, Tryz.ntmps189, Tryz.results189]
  have h13 := ok175 e1 e2 n n n n m p
  rw [if_pos ⟨rm, rp, rfl⟩] at h13
  refine call_fn rfl rfl rfl (h13) ?_
  simp -implicitDefEqProofs (maxSteps := 10000000) only [rkA, rkB, stepA, valA, simprocAttr]
  have h25 := ok161 e1 n n m
  rw [if_pos rm] at h25
  refine call_fn rfl rfl rfl (h25) ?_
  simp -implicitDefEqProofs (maxSteps := 10000000) only [rkA, rkB, stepA, valA, simprocAttr]
  have r1 : right (n : Int) (n : Int) (prodF n n n m p).length = true := right_sq hn (by rw [prodF_len]; simp)
  have h13' := ok175 false false n n n n (prodF n n n m p) (turnF n n m)
  rw [if_pos ⟨r1, rt, rfl⟩] at h13'
  refine call_fn rfl rfl rfl (h13') ?_
  simp -implicitDefEqProofs (maxSteps := 10000000) only [rkA, rkB, stepA, valA, simprocAttr]
  have l2 : (prodF n n n (prodF n n n m p) (turnF n n m)).length = n * n := by rw [prodF_len]; simp
  have r2 := right_sq hn l2
  have h27 := ok219 false e3 n n n n (prodF n n n (prodF n n n m p) (turnF n n m)) q
  rw [if_pos ⟨r2, rq, rfl, rfl⟩] at h27
  refine call_fn rfl rfl rfl (h27) ?_
  simp -implicitDefEqProofs (maxSteps := 10000000) only [rkA, rkB, stepA, valA, simprocAttr]
  have h33 := ok65 false n n (List.zipWith addF (prodF n n n (prodF n n n m p) (turnF n n m)) q)
  rw [if_pos ⟨right_sq hn (by rw [List.length_zipWith, l2, hq, Nat.min_self]), rfl⟩] at h33
  refine call_fn rfl rfl rfl (h33) ?_
  simp -implicitDefEqProofs (maxSteps := 10000000) only [rkA, rkB, stepA, valA, simprocAttr, turnedF]
end Go.Proofs.YtambpjbpdackfaaGreat.A.E



set_option linter.unusedVariables false
set_option linter.unusedSimpArgs false
set_option maxRecDepth 100000
namespace Go.Proofs.YtambpjbpdackfaaGreat.A
open Go Go.RowKit Go.Shelf

/-! ### root: may a state be? -/
/-! ### Update -/
abbrev newsV' (e a : Fr) : PV := .agg [num e.n, num e.d, tru e.bad, num a.n, num a.d, tru a.bad]
/-- Behind t columns: the rows, what was gathered, and the spread. -/
def upK (n : Nat) (M : Nat → Nat → Fr) (W : Nat → Fr) (r : Fr) : Nat → (Nat → Nat → Fr) × (Nat → Fr) × Fr
  | 0 => (M, fun _ => newF 0 1, r)
  | t + 1 =>
    let p := upK n M W r t
    let j := n - 1 - t
    let b := addF p.2.2 (mulF (W j) (W j))
    (colM p.1 p.2.1 j (rootD p.2.2 b) (rootC (W j) p.2.2 b) n, colE p.1 p.2.1 j (W j) n, b)
theorem upK_succ {n j : Nat} (M : Nat → Nat → Fr) (W : Nat → Fr) (r : Fr) {t : Nat} (h : n - 1 - t = j) : upK n M W r (t + 1) =
    (colM (upK n M W r t).1 (upK n M W r t).2.1 j (rootD (upK n M W r t).2.2 (addF (upK n M W r t).2.2 (mulF (W j) (W j)))) (rootC (W j) (upK n M W r t).2.2 (addF (upK n M W r t).2.2 (mulF (W j) (W j)))) n,
      colE (upK n M W r t).1 (upK n M W r t).2.1 j (W j) n, addF (upK n M W r t).2.2 (mulF (W j) (W j))) := by
  subst h
  rfl
def dotsR (n : Nat) (l h : List Fr) (j : Nat) : Fr := dotF (rowF n n (turnF n n l) j) h
def upR (n : Nat) (l h : List Fr) (r : Fr) : (Nat → Nat → Fr) × (Nat → Fr) × Fr := upK n (startF n n l) (dotsR n l h) r n
def upRS (n : Nat) (l h : List Fr) (r : Fr) : List Fr := ((List.range n).map (rowM n (upR n l h r).1)).flatten
def upRK (n : Nat) (l h : List Fr) (r : Fr) : List Fr := (List.range n).map fun i => divF ((upR n l h r).2.1 i) (upR n l h r).2.2
def upRX (n : Nat) (x l h : List Fr) (r z : Fr) : List Fr := List.zipWith addF x ((upRK n l h r).map (mulF · (subF z (dotF h x))))
theorem upRS_len (n : Nat) (l h : List Fr) (r : Fr) : (upRS n l h r).length = n * n := by
  unfold upRS
  rw [List.length_flatten, List.map_map]
  have e : ∀ k : List Nat, (k.map (List.length ∘ rowM n (upR n l h r).1)).sum = k.length * n := fun k => by
    induction k with
    | nil => simp
    | cons x k ih => rw [List.map_cons, List.sum_cons, ih, List.length_cons, Nat.succ_mul, Nat.add_comm]; show k.length * n + (rowM n (upR n l h r).1 x).length = _; rw [rowM_length]
  rw [e, List.length_range]
/-- Rows in memory, told as values. -/
theorem tells_rows {m : Mem} {c cap q : Nat → Nat} {n w : Nat} {M : Nat → Nat → Fr} (ex : Bool) (h : RowsC m c q n w M) (hcap : ∀ i, i < n → w ≤ cap i) : Tell m (.sl ex ((List.range n).map (rawC c cap w))) (.sl ex (catV ((List.range n).map (rowM w M)))) := by
  have h1 : ∀ l : List Nat, ∀ x ∈ l.map (rawC c cap w), x.cells = [x] := fun l x hx => by
    obtain ⟨i, _, rfl⟩ := List.mem_map.1 hx
    rfl
  have h2 : ∀ l : List (List Fr), ∀ x ∈ catV l, x.cells = [x] := fun l x hx => by
    obtain ⟨i, _, rfl⟩ := List.mem_map.1 hx
    rfl
  refine .slIn (sz := 1) (fun x hx => by rw [h1 _ x hx]; rfl) (fun x hx => by rw [h2 _ x hx]; rfl) (by simp) ?_
  rw [flat_one (h1 _), flat_one (h2 _), catV, List.map_map]
  refine tells_map fun i hi => ?_
  have hi' := List.mem_range.1 hi
  have := tell_row (m := m) (b := c i) (cap := cap i) (q := q i) (l := rowM w M i) (h.row i hi') (by rw [List.length_map, rowM_length]; exact hcap i hi')
  rw [List.length_map, rowM_length] at this
  exact this
theorem newMat_rf {r c : Int} {l : List PV} (hl : RFs (flat l) = true) : ∀ x m', NewMat r c l x m' → RF x = true ∧ ∀ b cells, m' b = some cells → RFs cells = true := by
  rintro x m' ⟨b, cap, q, _, rfl, rfl⟩
  refine ⟨rfl, fun d cells hd => ?_⟩
  by_cases e : d = b
  · subst e
    rw [Mem.put_same] at hd
    cases hd
    exact RFs_append hl (RFs_replicate q)
  · rw [Mem.put_other _ _ e] at hd
    cases hd
end Go.Proofs.YtambpjbpdackfaaGreat.A



set_option linter.unusedVariables false
set_option linter.unusedSimpArgs false
set_option maxRecDepth 100000
namespace Go.Proofs.YtambpjbpdackfaaGreat.A.E
open Go Go.RowKit Go.Shelf

theorem ok108 (ex ep : Bool) (x l : List Fr) (r c : Int) : Ok Tryz.prog 108 [stV ex ep (frs x) r c (frs l)] (tru (stRight x.length r c l.length)) := by
  refine ok_fn mixed Tryz.func108 (code := ?_) (h := h108) ?_ k108 ?_
  rotate_left
  · exact rfl
  unfold h108 initS
  simp -implicitDefEqProofs (maxSteps := 10000000) only [rkA, rkB, stepA, valA, simprocAttr, Tryz.ntmps108, Tryz.results108]
  have e : (frs x).length = x.length := by simp
  have e' : (frs l).length = l.length := by simp
  by_cases hx : 1 ≤ x.length ∧ x.length ≤ 4
  · have h1 : (1 : Int) ≤ (x.length : Int) := by omega
    have h2 : (x.length : Int) ≤ 4 := by omega
    simp -implicitDefEqProofs (maxSteps := 10000000) only [e, h1, h2, rkA, rkB, stepA, valA, simprocAttr]
    refine call_fn rfl rfl rfl (ok72 ep r c (frs l)) ?_
    rw [e']
    cases hr : right r c l.length with
    | false => simp -implicitDefEqProofs (maxSteps := 10000000) only [stRight, hx, hr, rkA, rkB, stepA, valA, simprocAttr]
    | true =>
      simp -implicitDefEqProofs (maxSteps := 10000000) only [rkA, rkB, stepA, valA, simprocAttr]
      cases h3 : (r == (x.length : Int)) with
      | false => simp -implicitDefEqProofs (maxSteps := 10000000) only [stRight, hx, hr, h3, rkA, rkB, stepA, valA, simprocAttr]
      | true => simp -implicitDefEqProofs (maxSteps := 10000000) only [stRight, hx, hr, h3, rkA, rkB, stepA, valA, simprocAttr]
  · have hs : stRight x.length r c l.length = false := by simp -implicitDefEqProofs (maxSteps := 10000000) only [stRight, hx, rkA, rkB, stepA, valA, simprocAttr]
    rw [hs]
    by_cases h1 : 1 ≤ x.length
    · have h1' : (1 : Int) ≤ (x.length : Int) := by omega
      have h2 : ¬ (x.length : Int) ≤ 4 := by omega
      simp -implicitDefEqProofs (maxSteps := 10000000) only [e, h1', h2, rkA, rkB, stepA, valA, simprocAttr]
    · have h1' : ¬ (1 : Int) ≤ (x.length : Int) := by omega
      simp -implicitDefEqProofs (maxSteps := 10000000) only [e, h1', rkA, rkB, stepA, valA, simprocAttr]

abbrev newsV' (e a : Fr) : PV := .agg [num e.v, num e.lo, num e.hi, tru e.bad, num a.v, num a.lo, num a.hi, tru a.bad]
/-- Behind t columns: the rows, what was gathered, and the spread. -/
def upK (n : Nat) (M : Nat → Nat → Fr) (W : Nat → Fr) (r : Fr) : Nat → (Nat → Nat → Fr) × (Nat → Fr) × Fr
  | 0 => (M, fun _ => newF 0 1, r)
  | t + 1 =>
    let p := upK n M W r t
    let j := n - 1 - t
    let b := addF p.2.2 (mulF (W j) (W j))
    (colM p.1 p.2.1 j (rootD p.2.2 b) (rootC (W j) p.2.2 b) n, colE p.1 p.2.1 j (W j) n, b)
theorem upK_succ {n j : Nat} (M : Nat → Nat → Fr) (W : Nat → Fr) (r : Fr) {t : Nat} (h : n - 1 - t = j) : upK n M W r (t + 1) =
    (colM (upK n M W r t).1 (upK n M W r t).2.1 j (rootD (upK n M W r t).2.2 (addF (upK n M W r t).2.2 (mulF (W j) (W j)))) (rootC (W j) (upK n M W r t).2.2 (addF (upK n M W r t).2.2 (mulF (W j) (W j)))) n,
      colE (upK n M W r t).1 (upK n M W r t).2.1 j (W j) n, addF (upK n M W r t).2.2 (mulF (W j) (W j))) := by
  subst h
  rfl
def dotsR (n : Nat) (l h : List Fr) (j : Nat) : Fr := dotF (rowF n n (turnF n n l) j) h
def upR (n : Nat) (l h : List Fr) (r : Fr) : (Nat → Nat → Fr) × (Nat → Fr) × Fr := upK n (startF n n l) (dotsR n l h) r n
def upRS (n : Nat) (l h : List Fr) (r : Fr) : List Fr := ((List.range n).map (rowM n (upR n l h r).1)).flatten
def upRK (n : Nat) (l h : List Fr) (r : Fr) : List Fr := (List.range n).map fun i => divF ((upR n l h r).2.1 i) (upR n l h r).2.2
def upRX (n : Nat) (x l h : List Fr) (r z : Fr) : List Fr := List.zipWith addF x ((upRK n l h r).map (mulF · (subF z (dotF h x))))
theorem upRS_len (n : Nat) (l h : List Fr) (r : Fr) : (upRS n l h r).length = n * n := by
  unfold upRS
  rw [List.length_flatten, List.map_map]
  have e : ∀ k : List Nat, (k.map (List.length ∘ rowM n (upR n l h r).1)).sum = k.length * n := fun k => by
    induction k with
    | nil => simp
    | cons x k ih => rw [List.map_cons, List.sum_cons, ih, List.length_cons, Nat.succ_mul, Nat.add_comm]; show k.length * n + (rowM n (upR n l h r).1 x).length = _; rw [rowM_length]
  rw [e, List.length_range]
/-- Rows in memory, told as values. -/
theorem tells_rows {m : Mem} {c cap q : Nat → Nat} {n w : Nat} {M : Nat → Nat → Fr} (ex : Bool) (h : RowsC m c q n w M) (hcap : ∀ i, i < n → w ≤ cap i) : Tell m (.sl ex ((List.range n).map (rawC c cap w))) (.sl ex (catV ((List.range n).map (rowM w M)))) := by
  have h1 : ∀ l : List Nat, ∀ x ∈ l.map (rawC c cap w), x.cells = [x] := fun l x hx => by
    obtain ⟨i, _, rfl⟩ := List.mem_map.1 hx
    rfl
  have h2 : ∀ l : List (List Fr), ∀ x ∈ catV l, x.cells = [x] := fun l x hx => by
    obtain ⟨i, _, rfl⟩ := List.mem_map.1 hx
    rfl
  refine .slIn (sz := 1) (fun x hx => by rw [h1 _ x hx]; rfl) (fun x hx => by rw [h2 _ x hx]; rfl) (by simp) ?_
  rw [flat_one (h1 _), flat_one (h2 _), catV, List.map_map]
  refine tells_map fun i hi => ?_
  have hi' := List.mem_range.1 hi
  have := tell_row (m := m) (b := c i) (cap := cap i) (q := q i) (l := rowM w M i) (h.row i hi') (by rw [List.length_map, rowM_length]; exact hcap i hi')
  rw [List.length_map, rowM_length] at this
  exact this
set_option maxHeartbeats 4000000 in
theorem ok87 (ex ep eh : Bool) (n : Nat) (x l h : List Fr) (r z : Fr) (hn : 1 ≤ n ∧ n ≤ 4) (hx : x.length = n) (hl : l.length = n * n) (hh : h.length = n) :
    Ok Tryz.prog 87 [stV ex ep (frs x) n n (frs l), .sl eh (frs h), frV r, frV z] (.tup [stV false false (frs (upRX n x l h r z)) n n (frs (upRS n l h r)), newsV' (subF z (dotF h x)) (upR n l h r).2.2, tru true]) := by
  have hn' : 1 ≤ n ∧ n ≤ 16 := by omega
  have hr : right (n : Int) (n : Int) l.length = true := right_sq hn' hl
  refine okt_fn mixed Tryz.func87 (code := ?_) (h := h87) ?_ k87 ?_
  rotate_left
  · exact rfl
  unfold h87 initS
  simp -implicitDefEqProofs (maxSteps := 10000000) only [rkA, rkB, stepA, valA, simprocAttr, Tryz.ntmps87, Tryz.results87]
  have h6 := ok108 ex ep x l n n
  rw [stRight_nat hl, decide_eq_true (show 1 ≤ x.length ∧ x.length ≤ 4 ∧ x.length = n by omega)] at h6
  refine call_fn rfl rfl rfl (h6) ?_
  have lx : (frs x).length = n := by simp [hx]
  have lh : (frs h).length = n := by simp [hh]
  simp -implicitDefEqProofs (maxSteps := 10000000) only [lx, lh, bne_self_eq_false, rkA, rkB, stepA, valA, simprocAttr]
  refine call_fn rfl rfl rfl (ok75 ep n n l) ?_
  simp -implicitDefEqProofs (maxSteps := 10000000) only [rkA, rkB, stepA, valA, simprocAttr]
  refine wp_rfM' (items := rowItems n n l) rfl (itm149 ep n n l hr) (fun sv i s => i ≤ n ∧ ∃ mm c cap q, RowsC mm c q i n (startF n n l) ∧ (∀ a, a < i → n ≤ cap a) ∧ s = ⟨[], [(4, [.v (.sl ex (frs x)), nt n, nt n, .v (.sl ep (frs l))]), (5, [.v (.sl eh (frs h))]), (6, [nt r.v, nt r.lo, nt r.hi, .v (tru r.bad)]), (7, [nt z.v, nt z.lo, nt z.hi, .v (tru z.bad)]), (8, [.acc 1008 [], nt 0, nt 0, .acc 4008 []]), (9, [nt 0, nt 0, nt 0, .v (tru false), nt 0, nt 0, nt 0, .v (tru false)]), (12, [.acc 1012 ((List.range i).map (rawC c cap n))]), (13, [.acc 1013 []])], [], [(1008, 0), (1012, i), (1013, 0), (4008, 0)], sv, 0, mm⟩) ?_ ?_ ?_
  · simp -implicitDefEqProofs (maxSteps := 10000000) only [rkA, rkB, stepA, valA, simprocAttr]
    exact ⟨Nat.zero_le _, nomem, fun _ => 0, fun _ => 0, fun _ => 0, ⟨fun i h => by omega, fun i j h => by omega⟩, fun a h => by omega, rfl⟩
  · rintro i x' p m s' R hx' ⟨hi, mm, c, cap, q, hM, hcap, rfl⟩ hxm hfr hR
    have hlt : i < n := by
      have := (List.getElem?_eq_some_iff.1 hx').1
      simpa [rowItems] using this
    have hxe : x' = rowItem n n l i := by
      rw [rowItems, List.getElem?_map, List.getElem?_range (by simpa using hlt), Option.map_some] at hx'
      exact (Option.some.inj hx').symm
    subst hxe
    obtain ⟨b, cp, z', h1, rfl, rfl⟩ := hxm
    have hb : mm b = none := hfr b (by rw [Mem.put_same]; rfl)
    have lr : (frs (rowF n n l i)).length = n := by rw [List.length_map, row_start hr hlt, rowM_length]
    rw [lr] at h1
    rw [lr, row_start hr hlt]
    refine ⟨rfl, ?_⟩
    have hfit := fits_raw c cap n i (.s (.slice (some ⟨b, 0, none⟩) n cp)) ⟨_, _, _, rfl⟩ (by omega)
    have hll : ((List.range i).map (rawC c cap n)).length = i := by simp
    simp -implicitDefEqProofs (maxSteps := 10000000) only [hfit, hll, raw_grow, rkA, rkB, stepA, valA, simprocAttr]
    refine hR _ ⟨by omega, _, _, _, _, hM.grow (z := z') hb, fun a ha => ?_, rfl⟩
    by_cases e : a = i
    · simp only [e, if_true]; exact h1
    · simp only [e, if_false]; exact hcap a (by omega)
  rintro s' ⟨hi, mm, c, cap, q, hM, hcap, rfl⟩
  have li : (rowItems n n l).length = n := by simp [rowItems]
  rw [li] at hM hcap ⊢
  clear hi
  simp -implicitDefEqProofs (maxSteps := 10000000) only [rkA, rkB, stepA, valA, simprocAttr]
  have h25 := ok161 ep n n l
  rw [if_pos hr] at h25
  refine call_fn rfl rfl rfl (h25) ?_
  simp -implicitDefEqProofs (maxSteps := 10000000) only [rkA, rkB, stepA, valA, simprocAttr]
  have hrt := right_turn hr
  refine call_fn rfl rfl rfl (ok75 false n n (turnF n n l)) ?_
  simp -implicitDefEqProofs (maxSteps := 10000000) only [rkA, rkB, stepA, valA, simprocAttr]
  have lt : (rowsF n n (turnF n n l)).length = n := by rw [rowsF_length hrt, Int.toNat_natCast]
  refine wp_rf' (items := rowsF n n (turnF n n l)) rfl (it149 false n n (turnF n n l)) (fun sv i s => i ≤ n ∧ s = ⟨[], [(4, [.v (.sl ex (frs x)), nt n, nt n, .v (.sl ep (frs l))]), (5, [.v (.sl eh (frs h))]), (6, [nt r.v, nt r.lo, nt r.hi, .v (tru r.bad)]), (7, [nt z.v, nt z.lo, nt z.hi, .v (tru z.bad)]), (8, [.acc 1008 [], nt 0, nt 0, .acc 4008 []]), (9, [nt 0, nt 0, nt 0, .v (tru false), nt 0, nt 0, nt 0, .v (tru false)]), (12, [.acc 1012 ((List.range n).map (rawC c cap n))]), (13, [.acc 1013 (frs ((List.range i).map (dotsR n l h)))])], [], [(1008, 0), (1012, n), (1013, i), (4008, 0)], sv, 0, mm⟩) ?_ ?_ ?_
  · simp -implicitDefEqProofs (maxSteps := 10000000) only [rkA, rkB, stepA, valA, simprocAttr]
    exact Nat.zero_le _
  · rintro i x' s' R hx' ⟨hi, rfl⟩ hR
    obtain ⟨hlt, rfl, hxa⟩ := rowsF_all hrt hx'
    rw [Int.toNat_natCast] at hlt
    have hrl := rowF_len hrt (i := i) (by simpa using hlt)
    rw [Int.toNat_natCast] at hrl
    refine ⟨rfl, ?_⟩
    simp -implicitDefEqProofs (maxSteps := 10000000) only [rkA, rkB, stepA, valA, simprocAttr]
    refine call_fn rfl rfl rfl (ok151 false eh (rowF n n (turnF n n l) i) h (by omega) (by omega)) ?_
    have hd : dotF (rowF n n (turnF n n l) i) h = dotsR n l h i := rfl
    have hfit : fits 4 32 (frs ((List.range i).map (dotsR n l h))) [frV (dotsR n l h i)] = true := fits_frs (l := [dotsR n l h i]) (by simp; omega)
    have hll : (frs ((List.range i).map (dotsR n l h))).length = i := by simp
    simp -implicitDefEqProofs (maxSteps := 10000000) only [hd, hfit, hll, rkA, rkB, stepA, valA, simprocAttr]
    refine hR _ ⟨by omega, ?_⟩
    rw [List.range_succ, List.map_append]
    simp only [frs, List.map_append, List.map_cons, List.map_nil]
  rintro s' ⟨hi, rfl⟩
  rw [lt]
  clear hi
  simp -implicitDefEqProofs (maxSteps := 10000000) only [rkA, rkB, stepA, valA, simprocAttr]
  refine new_make (T := 32) (N := 4) rfl rfl rfl rfl rfl (by omega) (by omega) (by omega) ?_
  intro b hb
  have hb' : mm b = none := hb
  have hcb : ∀ i, i < n → c i ≠ b := fun i hi e => by have := hM.row i hi; rw [e, hb'] at this; cases this
  have n0 : (0 : Int) ≤ (n : Int) := by omega
  have n1 : (n : Int) * 8 ≤ 140737488355328 := by omega
  have n2 : (n : Int) ≤ 16777216 := by omega
  simp -implicitDefEqProofs (maxSteps := 10000000) only [Int.toNat_natCast, flat_zeros, n0, n1, n2, rkA, rkB, stepA, valA, simprocAttr]
  have h35 := ok86 true (List.replicate n 0) (by simp; omega)
  rw [List.map_replicate, List.map_replicate] at h35
  refine call_fn rfl rfl rfl (h35) ?_
  simp -implicitDefEqProofs (maxSteps := 10000000) only [rkA, rkB, stepA, valA, simprocAttr]
  have lz : (flat (frs (List.replicate n (⟨0, 0, 0, false⟩ : Fr)))).length = n * 4 := by rw [flat_length (frs_cells _)]; simp
  have lf : (flat (frs (List.replicate n (newF 0 1)))).length = n * 4 := by rw [flat_length (frs_cells _)]; simp
  refine copy_of (ys := frs (List.replicate n (newF 0 1))) rfl rfl (.same _) (RFs_frs _) (Mem.put_same _ _ _) (frs_ok _) (by simp) (by rw [lz, lf]; omega) ?_
  have hdr : (flat (frs (List.replicate n (⟨0, 0, 0, false⟩ : Fr)))).drop (flat (frs (List.replicate n (newF 0 1)))).length = [] := List.drop_of_length_le (by rw [lz, lf]; omega)
  have hM2 : RowsC ((mm.put b (flat (frs (List.replicate n (⟨0, 0, 0, false⟩ : Fr))))).put b (flat (frs (List.replicate n (newF 0 1))))) c q n n (startF n n l) := (hM.other hcb).other hcb
  have hrep : List.replicate n (newF 0 1) = (List.range n).map (fun _ => newF 0 1) := by
    apply List.ext_getElem?
    intro i
    by_cases hi : i < n
    · simp [hi]
    · rw [List.getElem?_eq_none (by simp; omega), List.getElem?_eq_none (by simp; omega)]
  have hE2 : ((mm.put b (flat (frs (List.replicate n (⟨0, 0, 0, false⟩ : Fr))))).put b (flat (frs (List.replicate n (newF 0 1))))) b = some (flat (frs ((List.range n).map (upK n (startF n n l) (dotsR n l h) r 0).2.1))) := by
    rw [Mem.put_same, hrep]
    rfl
  generalize hmm : (mm.put b (flat (frs (List.replicate n (⟨0, 0, 0, false⟩ : Fr))))).put b (flat (frs (List.replicate n (newF 0 1)))) = mm1 at hM2 hE2
  have w1 := wrapped (x := (n : Int) - 1) (by omega) (by omega)
  simp -implicitDefEqProofs (maxSteps := 10000000) only [Nat.zero_add, hdr, List.append_nil, hmm, w1, rkA, rkB, stepA, valA, simprocAttr]
  clear hmm hb hb' hM hrep hdr lz lf
  refine wp_loop (fun m s => ∃ (t : Nat) (mm : Mem) (A : Fr), t + m = n ∧ A = (upK n (startF n n l) (dotsR n l h) r t).2.2 ∧ RowsC mm c q n n (upK n (startF n n l) (dotsR n l h) r t).1 ∧ mm b = some (flat (frs ((List.range n).map (upK n (startF n n l) (dotsR n l h) r t).2.1))) ∧
    s = ⟨[jk, jk, jk, jk, .ptr 4 0, .ptr 5 0, jk, .ptr 7 0, .ptr 8 0, .ptr 9 0, jk, nt n, .ptr 12 0, .ptr 13 0, jk, jk, jk, jk, .v (.s (.slice (some ⟨b, 0, none⟩) n n)), .ptr 19 0, nt ((m : Int) - 1), jk, jk, jk, jk, jk, jk, jk, jk, jk, jk, jk, jk, jk, jk, jk, jk, jk, jk, jk, jk, jk, jk, jk, jk, jk, jk, jk, jk, jk, jk, jk, jk, jk, jk, jk, jk, jk, jk, jk, jk, jk, jk, jk, jk, jk, jk, jk, jk, jk, jk, jk, jk, jk, jk, jk, jk, jk, jk, jk, jk, jk, jk, jk, jk, jk, jk, jk, jk, jk, jk, jk, jk, jk, jk, jk, jk, jk, jk, jk, jk, jk, jk, jk, jk, jk, jk, jk, jk, jk, jk, jk, jk, jk, jk, jk, jk, jk, jk, jk, jk, jk, jk, jk, jk, jk, jk, jk, jk, jk, jk, jk, jk, jk, jk, jk, jk, jk, jk, jk, jk, jk],
      [(4, [.v (.sl ex (frs x)), nt n, nt n, .v (.sl ep (frs l))]), (5, [.v (.sl eh (frs h))]), (6, [nt r.v, nt r.lo, nt r.hi, .v (tru r.bad)]), (7, [nt z.v, nt z.lo, nt z.hi, .v (tru z.bad)]), (8, [.acc 1008 [], nt 0, nt 0, .acc 4008 []]), (9, [nt 0, nt 0, nt 0, .v (tru false), nt 0, nt 0, nt 0, .v (tru false)]), (12, [.acc 1012 ((List.range n).map (rawC c cap n))]), (13, [.acc 1013 (frs ((List.range n).map (dotsR n l h)))]), (19, [nt A.v, nt A.lo, nt A.hi, .v (tru A.bad)])], [], [(1008, 0), (1012, n), (1013, n), (4008, 0)], [], 0, mm⟩) n ?_ ?_
  · simp -implicitDefEqProofs (maxSteps := 10000000) only [rkA, rkB, stepA, valA, simprocAttr]
    exact ⟨0, mm1, r, by omega, rfl, hM2, hE2, rfl⟩
  clear hM2 hE2 mm1
  rintro m s ⟨t, mm, A, htm, hA, hM, hE, rfl⟩
  simp -implicitDefEqProofs (maxSteps := 10000000) only [rkA, rkB, stepA, valA, simprocAttr]
  refine gB_dec ?_ ?_ <;> intro hc <;> simp -implicitDefEqProofs (maxSteps := 10000000) only [hc, rkA, rkB, stepA, valA, simprocAttr]
  · obtain ⟨j, rfl⟩ : ∃ j, m = j + 1 := ⟨m - 1, by omega⟩
    have hj : j < n := by omega
    have ej : ((j + 1 : Nat) : Int) - 1 = (j : Int) := by omega
    have h0j : (0 : Int) ≤ (j : Int) := by omega
    have gw : (frs ((List.range n).map (dotsR n l h)))[j]? = some (frV (dotsR n l h j)) := by simp [hj]
    simp -implicitDefEqProofs (maxSteps := 10000000) only [ej, h0j, Int.toNat_natCast, gw, rkA, rkB, stepA, valA, simprocAttr]
    refine call_meth rfl rfl methMul (ok250 _ _) ?_
    simp -implicitDefEqProofs (maxSteps := 10000000) only [rkA, rkB, stepA, valA, simprocAttr]
    refine call_meth rfl rfl methAdd (ok63 _ _) ?_
    simp -implicitDefEqProofs (maxSteps := 10000000) only [h0j, Int.toNat_natCast, gw, rkA, rkB, stepA, valA, simprocAttr]
    generalize hB : addF A (mulF (dotsR n l h j) (dotsR n l h j)) = B
    refine mem_fn rfl rfl rfl (okm162 false n j hj (by omega) _ _ (dotsR n l h j) A B c cap q hcap b mm hM hE hcb) ?_
    rintro r' m' ⟨hM', hE'⟩
    have w2 := wrapped (x := (j : Int) - 1) (by omega) (by omega)
    simp -implicitDefEqProofs (maxSteps := 10000000) only [w2, rkA, rkB, stepA, valA, simprocAttr]
    refine loopK_of (m' := j) (by omega) ?_
    simp -implicitDefEqProofs (maxSteps := 10000000) only [rkA, rkB, stepA, valA, simprocAttr]
    have hup := upK_succ (startF n n l) (dotsR n l h) r (show n - 1 - t = j by omega)
    rw [← hA, hB] at hup
    exact ⟨t + 1, m', B, by omega, by rw [hup], by rw [hup]; exact hM', by rw [hup]; exact hE', rfl⟩
  · have ht : t = n := by omega
    rw [ht] at hA hM hE
    refine call_fn rfl rfl rfl (ok151 eh ex h x (by omega) (by omega)) ?_
    simp -implicitDefEqProofs (maxSteps := 10000000) only [rkA, rkB, stepA, valA, simprocAttr]
    refine call_meth rfl rfl methSub (ok254 _ _) ?_
    generalize hz : subF z (dotF h x) = Z
    generalize hU : upK n (startF n n l) (dotsR n l h) r n = U at hA hM hE
    have hUR : upR n l h r = U := hU
    simp -implicitDefEqProofs (maxSteps := 10000000) only [rkA, rkB, stepA, valA, simprocAttr]
    have hkl : ((List.range n).map fun i => divF (U.2.1 i) A).length = n := by simp
    refine wp_loop (fun m s => ∃ (i : Nat), i + m = n ∧
      s = ⟨[jk, jk, jk, jk, .ptr 4 0, jk, jk, jk, .ptr 8 0, .ptr 9 0, jk, nt n, .ptr 12 0, jk, jk, jk, jk, jk, jk, .ptr 19 0, jk, jk, .ptr 22 0, .acc 23 (frs ((List.range i).map fun i => divF (U.2.1 i) A)), jk, jk, jk, jk, jk, jk, jk, jk, jk, jk, jk, jk, jk, jk, jk, jk, jk, jk, jk, jk, jk, jk, jk, jk, jk, jk, jk, jk, jk, jk, jk, jk, jk, jk, jk, jk, jk, jk, jk, jk, jk, jk, jk, jk, jk, jk, jk, jk, jk, jk, jk, jk, jk, jk, jk, jk, jk, jk, jk, jk, jk, jk, jk, jk, jk, jk, jk, jk, jk, jk, jk, jk, jk, jk, jk, jk, jk, jk, jk, jk, jk, jk, jk, jk, jk, jk, .v (.s (.slice (some ⟨b, 0, none⟩) n n)), nt n, nt i, jk, jk, jk, jk, jk, jk, jk, jk, jk, jk, jk, jk, jk, jk, jk, jk, jk, jk, jk, jk, jk, jk, jk, jk, jk, jk, jk, jk, jk],
        [(4, [.v (.sl ex (frs x)), nt n, nt n, .v (.sl ep (frs l))]), (5, [.v (.sl eh (frs h))]), (6, [nt r.v, nt r.lo, nt r.hi, .v (tru r.bad)]), (7, [nt z.v, nt z.lo, nt z.hi, .v (tru z.bad)]), (8, [.acc 1008 [], nt 0, nt 0, .acc 4008 []]), (9, [nt 0, nt 0, nt 0, .v (tru false), nt 0, nt 0, nt 0, .v (tru false)]), (12, [.acc 1012 ((List.range n).map (rawC c cap n))]), (13, [.acc 1013 (frs ((List.range n).map (dotsR n l h)))]), (19, [nt A.v, nt A.lo, nt A.hi, .v (tru A.bad)]), (22, [nt Z.v, nt Z.lo, nt Z.hi, .v (tru Z.bad), nt A.v, nt A.lo, nt A.hi, .v (tru A.bad)])], [], [(23, i), (1008, 0), (1012, n), (1013, n), (4008, 0)], [], 0, mm⟩) n ?_ ?_
    · simp -implicitDefEqProofs (maxSteps := 10000000) only [rkA, rkB, stepA, valA, simprocAttr]
      exact ⟨0, by omega, rfl⟩
    rintro m s ⟨i, him, rfl⟩
    simp -implicitDefEqProofs (maxSteps := 10000000) only [rkA, rkB, stepA, valA, simprocAttr]
    refine gB_dec ?_ ?_ <;> intro hc <;> simp -implicitDefEqProofs (maxSteps := 10000000) only [hc, rkA, rkB, stepA, valA, simprocAttr]
    · have hi : i < n := by omega
      have h0i : (0 : Int) ≤ (i : Int) := by omega
      have hin : (i : Int) < (n : Int) := by omega
      have hle : ((List.range n).map U.2.1)[i]? = some (U.2.1 i) := by simp [hi]
      have hlde := ldM_fr hle
      simp -implicitDefEqProofs (maxSteps := 10000000) only [h0i, hin, Int.toNat_natCast, addr_add, Nat.zero_add, hE, hlde, rkA, rkB, stepA, valA, simprocAttr]
      refine call_meth rfl rfl methDiv (ok249 _ _) ?_
      have hfit : fits 4 32 (frs ((List.range i).map fun i => divF (U.2.1 i) A)) [frV (divF (U.2.1 i) A)] = true := fits_frs (l := [divF (U.2.1 i) A]) (by simp; omega)
      have hll : (frs ((List.range i).map fun i => divF (U.2.1 i) A)).length = i := by simp
      have hw := wrapped (x := (i : Int) + 1) (by omega) (by omega)
      simp -implicitDefEqProofs (maxSteps := 10000000) only [hfit, hll, hw, rkA, rkB, stepA, valA, simprocAttr]
      refine loopK_of (m' := m - 1) (by omega) ?_
      simp -implicitDefEqProofs (maxSteps := 10000000) only [rkA, rkB, stepA, valA, simprocAttr]
      refine ⟨i + 1, by omega, ?_⟩
      rw [List.range_succ, List.map_append]
      simp only [frs, List.map_append, List.map_cons, List.map_nil, Int.natCast_add, Int.natCast_one]
    · have hin : i = n := by omega
      rw [hin]
      have hcat : ((List.range n).map (rowM n U.1)).flatten = upRS n l h r := by rw [upRS, hUR]
      have hcl := upRS_len n l h r
      have hsq := side16 (n := n) (m := n) (by omega) (by omega)
      have hpos : 0 < n * n := Nat.mul_pos (by omega) (by omega)
      have hne : upRS n l h r ≠ [] := fun e => by rw [e] at hcl; simp at hcl; omega
      have hcc := okn123 false ((List.range n).map (rowM n U.1)) (by rw [hcat]; exact hne) (by rw [hcat, hcl]; omega) (by simp; omega)
      rw [hcat] at hcc
      refine newRow_fn rfl rfl (.cons (tells_rows false hM hcap) .nil) hcc (RFs_frs _) (by simpa using hne) ?_
      intro c2 cap2 q2 hc2 hcap2
      simp -implicitDefEqProofs (maxSteps := 10000000) only [rkA, rkB, stepA, valA, simprocAttr]
      have hrs : right (n : Int) (n : Int) (upRS n l h r).length = true := right_sq hn' hcl
      refine lendNew_fn rfl rfl (.cons (.same _) (.cons (.same _) (.cons (tell_row (Mem.put_same _ _ _) hcap2) .nil))) (okm17 n n false (upRS n l h r) hrs) (newMat_rf (RFs_frs _)) ?_
      rintro y m' ⟨b3, cap3, q3, hcap3, rfl, rfl⟩ hfr
      simp -implicitDefEqProofs (maxSteps := 10000000) only [rkA, rkB, stepA, valA, simprocAttr]
      have hk : ((List.range n).map fun i => divF (U.2.1 i) A) = upRK n l h r := by rw [upRK, hUR, ← hA]
      have hkl : (upRK n l h r).length = n := by simp [upRK]
      rw [hk]
      refine call_fn rfl rfl rfl (ok153 false (upRK n l h r) Z (by omega)) ?_
      simp -implicitDefEqProofs (maxSteps := 10000000) only [rkA, rkB, stepA, valA, simprocAttr]
      refine call_fn rfl rfl rfl (ok163 ex false x ((upRK n l h r).map (mulF · Z)) (by omega) (by simp; omega)) ?_
      simp -implicitDefEqProofs (maxSteps := 10000000) only [rkA, rkB, stepA, valA, simprocAttr]
      refine ⟨_, rfl, ?_⟩
      rw [upRX, hz, hUR, ← hA]
      exact .tup (.cons (.agg (.cons (.same _) (.cons (.same _) (.cons (.same _) (.cons (tell_row (Mem.put_same _ _ _) hcap3) .nil))))) (.cons (.same _) (.cons (.same _) .nil)))
end Go.Proofs.YtambpjbpdackfaaGreat.A.E


set_option linter.unusedVariables false
set_option linter.unusedSimpArgs false
set_option maxRecDepth 100000
namespace Go.Proofs.YtambpjbpdackfaaGreat.A
open Go Go.RowKit Go.Shelf

/-! ### The document's answers, of whole numbers -/
/-! ### What the document fixes of a root -/
end Go.Proofs.YtambpjbpdackfaaGreat.A



set_option linter.unusedVariables false
set_option linter.unusedSimpArgs false
set_option maxRecDepth 100000
namespace Go.Proofs.YtambpjbpdackfaaGreat.A
open Go Go.RowKit Go.Shelf

/-! ### Predict -/
theorem applyF_len (n : Nat) (l v : List Fr) : (applyF n n l v).length = n := by simp [applyF, allF]
end Go.Proofs.YtambpjbpdackfaaGreat.A



set_option linter.unusedVariables false
set_option linter.unusedSimpArgs false
set_option maxRecDepth 100000
namespace Go.Proofs.YtambpjbpdackfaaGreat.A
open Go Go.RowKit Go.Shelf

/-! ### Update -/
abbrev newsV (e a : Fr) : PV := .agg [num e.n, num e.d, tru e.bad, num a.n, num a.d, tru a.bad]
section
variable (n : Nat) (x p h : List Fr) (r z : Fr)
def uF : List Fr := applyF n n p h
def spreadF : Fr := addF (dotF h (uF n p h)) r
def surpriseF : Fr := subF z (dotF h x)
def kF : List Fr := (uF n p h).map (divF · (spreadF n p h r))
def unitF : List Fr := (unitP n n).map (newF · 1)
def mF : List Fr := List.zipWith subF (unitF n) (prodF n 1 n (kF n p h r) h)
def krkF : List Fr := prodF n 1 n ((kF n p h r).map (mulF · r)) (turnF n 1 (kF n p h r))
def upP : List Fr := turnedF n (mF n p h r) p (krkF n p h r)
def upX : List Fr := List.zipWith addF x ((kF n p h r).map (mulF · (surpriseF x h z)))
end
end Go.Proofs.YtambpjbpdackfaaGreat.A


set_option linter.unusedVariables false
set_option linter.unusedSimpArgs false
set_option maxRecDepth 100000
namespace Go.Proofs.YtambpjbpdackfaaGreat.A
open Go Go.RowKit Go.Shelf

/-! ### Fractions as numbers -/
def Fr.val (x : Fr) : Rat := (x.n : Rat) / (x.d : Rat)
theorem cast_ne {d : Int} (h : d ≠ 0) : (d : Rat) ≠ 0 := by
  intro e
  exact h (Rat.intCast_inj.1 (by simpa using e))
theorem div_val {n d m e : Int} (hd : d ≠ 0) (he : e ≠ 0) (h : (n : Rat) / d = (m : Rat) / e) : n * e = m * d := by
  have h1 := cast_ne hd
  have h2 := cast_ne he
  have h3 : (n : Rat) * e = (m : Rat) * d := by grind
  rw [← Rat.intCast_mul, ← Rat.intCast_mul] at h3
  exact Rat.intCast_inj.1 h3

/-- What New tells, where it is not Bad. -/
theorem newF_spec {n d : Int} (h : (newF n d).bad = false) : d ≠ 0 ∧ 0 < (newF n d).d ∧ (newF n d).n * d = n * (newF n d).d ∧ Int.gcd (newF n d).n (newF n d).d = 1 ∧ (newF n d).d ≤ 1073741824 ∧ (newF n d).n ≤ 1073741824 ∧ -1073741824 ≤ (newF n d).n := by
  unfold newF at h ⊢
  by_cases h1 : n > 1152921504606846976 ∨ n < -1152921504606846976 ∨ d > 1152921504606846976 ∨ d < -1152921504606846976 ∨ d = 0
  · rw [if_pos h1] at h; cases h
  rw [if_neg h1] at h ⊢
  simp only at h ⊢
  have hd : d ≠ 0 := by omega
  have key : ∀ m e : Int, 0 < e → m * d = n * e → ∀ x : Fr, x = (if m.tdiv (Int.gcd m e : Int) > 1073741824 ∨ m.tdiv (Int.gcd m e : Int) < -1073741824 ∨ e.tdiv (Int.gcd m e : Int) > 1073741824 then Fr.wrong else ⟨m.tdiv (Int.gcd m e : Int), e.tdiv (Int.gcd m e : Int), false⟩) → x.bad = false →
      d ≠ 0 ∧ 0 < x.d ∧ x.n * d = n * x.d ∧ Int.gcd x.n x.d = 1 ∧ x.d ≤ 1073741824 ∧ x.n ≤ 1073741824 ∧ -1073741824 ≤ x.n := by
    intro m e he hme x hx hb
    have hg : 0 < Int.gcd m e := Int.gcd_pos_of_ne_zero_right m (by omega)
    obtain ⟨m', hm'⟩ := Int.gcd_dvd_left m e
    obtain ⟨e', he'⟩ := Int.gcd_dvd_right m e
    generalize hk : Int.gcd m e = k at *
    have hk0 : (k : Int) ≠ 0 := by omega
    have q1 : m.tdiv (k : Int) = m' := by rw [hm', Int.mul_tdiv_cancel_left _ hk0]
    have q2 : e.tdiv (k : Int) = e' := by rw [he', Int.mul_tdiv_cancel_left _ hk0]
    rw [q1, q2] at hx
    have hcop : Int.gcd m' e' = 1 := by
      have h3 : Int.gcd ((k : Int) * m') ((k : Int) * e') = k * Int.gcd m' e' := by
        rw [Int.gcd_mul_left]; simp
      rw [← hm', ← he', hk] at h3
      have : k * 1 = k * Int.gcd m' e' := by omega
      exact (Nat.eq_of_mul_eq_mul_left hg this).symm
    have he0 : 0 < e' := by
      have h4 : 0 < (k : Int) * e' := by rw [← he']; exact he
      exact Int.pos_of_mul_pos_right h4 (by omega)
    split at hx
    · rw [hx] at hb; cases hb
    · rename_i hns
      subst hx
      refine ⟨hd, he0, ?_, hcop, by simp only; omega, by simp only; omega, by simp only; omega⟩
      simp only
      rw [hm', he'] at hme
      have : (k : Int) * (m' * d) = (k : Int) * (n * e') := by
        rw [← Int.mul_assoc, hme, ← Int.mul_assoc, ← Int.mul_assoc, Int.mul_comm (k : Int) n]
      exact Int.eq_of_mul_eq_mul_left hk0 this
  by_cases hneg : d < 0
  · simp only [hneg, if_true] at h ⊢
    exact key (-n) (-d) (by omega) (by rw [Int.neg_mul, Int.mul_neg]) _ rfl h
  · simp only [hneg, if_false] at h ⊢
    exact key n d (by omega) rfl _ rfl h

theorem fine_low {x : Fr} (h : x.fine = true) : x.bad = false ∧ 0 < x.d ∧ Int.gcd x.n x.d = 1 := by
  obtain ⟨h1, h2, h3, h4, h5⟩ := Fr.fine_spec h
  refine ⟨h1, by omega, ?_⟩
  have hn : newF x.n x.d = x := by
    unfold Fr.fine at h
    simp only [Bool.and_eq_true, beq_iff_eq, decide_eq_true_eq] at h
    obtain ⟨n, d, b⟩ := x
    obtain ⟨_, k1, k2, k3, _⟩ := h
    generalize newF n d = y at *
    obtain ⟨n', d', b'⟩ := y
    simp only at k1 k2 k3
    rw [k1, k2, k3]
  have hb : (newF x.n x.d).bad = false := by rw [hn]; exact h1
  obtain ⟨_, _, _, g, _⟩ := newF_spec hb
  rw [hn] at g
  exact g
theorem dvd_cop {a b c : Int} (h : a ∣ b * c) (g : Int.gcd b a = 1) : a ∣ c := by
  rw [← Int.natAbs_dvd_natAbs] at h ⊢
  rw [Int.natAbs_mul] at h
  refine Nat.Coprime.dvd_of_dvd_mul_left ?_ h
  rw [Int.gcd_comm] at g
  exact g
/-- What stands for the same number is the same. -/
theorem fine_inj {a b : Fr} (ha : a.fine = true) (hb : b.fine = true) (h : a.val = b.val) : a = b := by
  obtain ⟨a1, a2, a3⟩ := fine_low ha
  obtain ⟨b1, b2, b3⟩ := fine_low hb
  have e := div_val (by omega) (by omega) h
  have c1 : a.d ∣ b.d := by
    have : a.d ∣ a.n * b.d := ⟨b.n, by rw [e, Int.mul_comm]⟩
    exact dvd_cop this a3
  have c2 : b.d ∣ a.d := by
    have : b.d ∣ b.n * a.d := ⟨a.n, by rw [← e, Int.mul_comm]⟩
    exact dvd_cop this b3
  have hd : a.d = b.d := Int.dvd_antisymm (by omega) (by omega) c1 c2
  rw [hd] at e
  have hn : a.n = b.n := Int.eq_of_mul_eq_mul_right (by omega) e
  obtain ⟨n, d, x⟩ := a
  obtain ⟨n', d', x'⟩ := b
  simp only at hd hn a1 b1
  rw [hd, hn, a1, b1]
/-- x stands for the number v. -/
def Is (x : Fr) (v : Rat) : Prop := x.fine = true ∧ x.val = v
theorem Is.inj {a b : Fr} {v : Rat} (ha : Is a v) (hb : Is b v) : a = b := fine_inj ha.1 hb.1 (ha.2.trans hb.2.symm)
end Go.Proofs.YtambpjbpdackfaaGreat.A


set_option linter.unusedVariables false
set_option linter.unusedSimpArgs false
set_option maxRecDepth 100000
namespace Go.Proofs.YtambpjbpdackfaaGreat.A
open Go Go.RowKit Go.Shelf

/-! ### Sums of numbers -/
/-! ### Dots -/
/-! ### Products, entry by entry -/
end Go.Proofs.YtambpjbpdackfaaGreat.A


set_option linter.unusedVariables false
set_option linter.unusedSimpArgs false
set_option maxRecDepth 100000
namespace Go.Proofs.YtambpjbpdackfaaGreat.A
open Go Go.RowKit Go.Shelf

/-! ### Plain laws of clearing -/
/-! ### The function TriClears -/
end Go.Proofs.YtambpjbpdackfaaGreat.A


set_option linter.unusedVariables false
set_option linter.unusedSimpArgs false
set_option maxRecDepth 100000
namespace Go.Proofs.YtambpjbpdackfaaGreat.A
open Go Go.RowKit Go.Shelf

/-! ### Plain laws of squares -/
end Go.Proofs.YtambpjbpdackfaaGreat.A



set_option linter.unusedVariables false
set_option linter.unusedSimpArgs false
set_option maxRecDepth 100000
namespace Go.Proofs.YtambpjbpdackfaaGreat.A
open Go Go.RowKit Go.Shelf

/-! ### Nothing's triangles -/
/-! ### Plain laws of clearing, of whole numbers -/
/-! ### The function TriTells -/
end Go.Proofs.YtambpjbpdackfaaGreat.A



set_option linter.unusedVariables false
set_option linter.unusedSimpArgs false
set_option maxRecDepth 100000
namespace Go.Proofs.YtambpjbpdackfaaGreat.A
open Go Go.RowKit Go.Shelf

/-! ### root: new states, and what they stand for -/
theorem clearF_len (n : Nat) (l : List Fr) : (clearF n l).length = n * n := by rw [clearF, gridP_length, Nat.add_zero]
end Go.Proofs.YtambpjbpdackfaaGreat.A



set_option linter.unusedVariables false
set_option linter.unusedSimpArgs false
set_option maxRecDepth 100000
namespace Go.Proofs.YtambpjbpdackfaaGreat.A.E
open Go Go.RowKit Go.Shelf

theorem clearF_len (n : Nat) (l : List Fr) : (clearF n l).length = n * n := by rw [clearF, gridP_length, Nat.add_zero]
theorem ok85 (ex er : Bool) (x l : List Fr) (n : Nat) (hn : 1 ≤ n ∧ n ≤ 16) (hl : l.length = n * n) (hx : x.length ≤ 4398046511104) :
    Ok Tryz.prog 85 [.sl ex (frs x), matV er n n (frs l)] (if 1 ≤ x.length ∧ x.length ≤ 4 ∧ x.length = n then .tup [stV false false (frs x) n n (frs (clearF n l)), tru true] else .tup [stNil, tru false]) := by
  refine ok_fn mixed Tryz.func85 (code := ?_) (h := h85) ?_ k85 ?_
  rotate_left
  · exact rfl
  unfold h85 initS
  simp -implicitDefEqProofs (maxSteps := 10000000) only [rkA, rkB, stepA, valA, simprocAttr, Tryz.ntmps85, Tryz.results85]
  refine call_fn rfl rfl rfl (ok78 n hn er l hl) ?_
  simp -implicitDefEqProofs (maxSteps := 10000000) only [rkA, rkB, stepA, valA, simprocAttr]
  refine call_fn rfl rfl rfl (ok71 ex x hx) ?_
  simp -implicitDefEqProofs (maxSteps := 10000000) only [rkA, rkB, stepA, valA, simprocAttr]
  refine call_fn rfl rfl rfl (ok108 false false x (clearF n l) n n) ?_
  rw [stRight_nat (clearF_len n l)]
  by_cases h : 1 ≤ x.length ∧ x.length ≤ 4 ∧ x.length = n
  · rw [if_pos h, decide_eq_true h]
    simp -implicitDefEqProofs (maxSteps := 10000000) only [rkA, rkB, stepA, valA, simprocAttr]
  · rw [if_neg h, decide_eq_false h]
    simp -implicitDefEqProofs (maxSteps := 10000000) only [rkA, rkB, stepA, valA, simprocAttr]
theorem ok34 (ex ep : Bool) (x l : List Fr) (n : Nat) (hl : l.length = n * n) :
    Ok Tryz.prog 34 [stV ex ep (frs x) n n (frs l)] (if 1 ≤ x.length ∧ x.length ≤ 4 ∧ x.length = n then matV false n n (frs (sqF n l)) else matNil) := by
  refine ok_fn mixed Tryz.func34 (code := ?_) (h := h34) ?_ k34 ?_
  rotate_left
  · exact rfl
  unfold h34 initS
  simp -implicitDefEqProofs (maxSteps := 10000000) only [rkA, rkB, stepA, valA, simprocAttr, Tryz.ntmps34, Tryz.results34]
  refine call_fn rfl rfl rfl (ok108 ex ep x l n n) ?_
  rw [stRight_nat hl]
  by_cases h : 1 ≤ x.length ∧ x.length ≤ 4 ∧ x.length = n
  · rw [if_pos h, decide_eq_true h]
    simp -implicitDefEqProofs (maxSteps := 10000000) only [rkA, rkB, stepA, valA, simprocAttr]
    refine call_fn rfl rfl rfl (ok109 n (by omega) ep l hl) ?_
    simp -implicitDefEqProofs (maxSteps := 10000000) only [rkA, rkB, stepA, valA, simprocAttr]
  · rw [if_neg h, decide_eq_false h]
    simp -implicitDefEqProofs (maxSteps := 10000000) only [rkA, rkB, stepA, valA, simprocAttr]
end Go.Proofs.YtambpjbpdackfaaGreat.A.E


set_option linter.unusedVariables false
set_option linter.unusedSimpArgs false
set_option maxRecDepth 100000
namespace Go.Proofs.YtambpjbpdackfaaGreat.A.E
open Go Go.RowKit Go.Shelf

/-! ### Whole numbers, enclosed: points -/
abbrev whole (n : Int) : Fr := ⟨n * 16777216, n * 16777216, n * 16777216, false⟩
end Go.Proofs.YtambpjbpdackfaaGreat.A.E



set_option linter.unusedVariables false
set_option linter.unusedSimpArgs false
set_option maxRecDepth 100000
namespace Go.Proofs.YtambpjbpdackfaaGreat.A.E
open Go Go.RowKit Go.Shelf

/-! ### Is a fraction enclosed? -/
def enclB (x : Fr) (n d : Int) : Bool := x.fine && (decide (1 ≤ d) && (rightW n && (rightW d && (decide (cmpF x.lo d n 16777216 ≤ 0) && decide (cmpF n 16777216 x.hi d ≤ 0)))))
theorem rightXW {n : Int} (h : rightX n = true) : rightW n = true := by
  unfold rightX at h
  unfold rightW
  rw [decide_eq_true_eq] at h ⊢
  omega
theorem fine_lohi {x : Fr} (h : x.fine = true) : rightX x.lo = true ∧ rightX x.hi = true := by
  unfold Fr.fine at h
  simp only [Bool.and_eq_true] at h
  exact ⟨h.2.1, h.2.2.1⟩
theorem ok88 (x : Fr) (n d : Int) : Ok Tryz.prog 88 [frV x, num n, num d] (tru (enclB x n d)) := by
  refine ok_fn mixed Tryz.func88 (code := ?_) (h := h88) ?_ k88 ?_
  rotate_left
  · exact rfl
  unfold h88 initS
  simp -implicitDefEqProofs (maxSteps := 10000000) only [rkA, rkB, stepA, valA, simprocAttr, Tryz.ntmps88, Tryz.results88]
  refine call_fn rfl rfl rfl (ok111 x) ?_
  unfold enclB
  cases hf : x.fine with
  | false => simp -implicitDefEqProofs (maxSteps := 10000000) only [rkA, rkB, stepA, valA, simprocAttr]
  | true =>
    obtain ⟨hlo, hhi⟩ := fine_lohi hf
    simp -implicitDefEqProofs (maxSteps := 10000000) only [rkA, rkB, stepA, valA, simprocAttr]
    refine gB_dec ?_ ?_ <;> intro h1
    · have : ¬ 1 ≤ d := by omega
      simp -implicitDefEqProofs (maxSteps := 10000000) only [h1, this, rkA, rkB, stepA, valA, simprocAttr]
    · have h1' : 1 ≤ d := by omega
      simp -implicitDefEqProofs (maxSteps := 10000000) only [h1, h1', rkA, rkB, stepA, valA, simprocAttr]
      refine call_fn rfl rfl rfl (ok164' n) ?_
      cases hn : rightW n with
      | false => simp -implicitDefEqProofs (maxSteps := 10000000) only [rkA, rkB, stepA, valA, simprocAttr]
      | true =>
        simp -implicitDefEqProofs (maxSteps := 10000000) only [rkA, rkB, stepA, valA, simprocAttr]
        refine call_fn rfl rfl rfl (ok164' d) ?_
        cases hd : rightW d with
        | false => simp -implicitDefEqProofs (maxSteps := 10000000) only [rkA, rkB, stepA, valA, simprocAttr]
        | true =>
          simp -implicitDefEqProofs (maxSteps := 10000000) only [rkA, rkB, stepA, valA, simprocAttr]
          refine call_fn rfl rfl rfl (ok114 x.lo d n 16777216 (rightXW hlo) hd hn (by decide)) ?_
          simp -implicitDefEqProofs (maxSteps := 10000000) only [rkA, rkB, stepA, valA, simprocAttr]
          refine gB_dec ?_ ?_ <;> intro h2 <;> simp -implicitDefEqProofs (maxSteps := 10000000) only [h2, rkA, rkB, stepA, valA, simprocAttr]
          refine call_fn rfl rfl rfl (ok114 n 16777216 x.hi d hn (by decide) (rightXW hhi) hd) ?_
          simp -implicitDefEqProofs (maxSteps := 10000000) only [rkA, rkB, stepA, valA, simprocAttr]
/-! ### Products of whole numbers -/
end Go.Proofs.YtambpjbpdackfaaGreat.A.E



set_option linter.unusedVariables false
set_option linter.unusedSimpArgs false
set_option maxRecDepth 100000
namespace Go.Proofs.YtambpjbpdackfaaGreat.A.E
open Go Go.RowKit Go.Shelf

/-! ### What the document fixes of one number, behind layer 10 -/
end Go.Proofs.YtambpjbpdackfaaGreat.A.E



set_option linter.unusedVariables false
set_option linter.unusedSimpArgs false
set_option maxRecDepth 100000
namespace Go.Proofs.YtambpjbpdackfaaGreat.A.E
open Go Go.RowKit Go.Shelf

/-! ### The function RootNew -/
end Go.Proofs.YtambpjbpdackfaaGreat.A.E



set_option linter.unusedVariables false
set_option linter.unusedSimpArgs false
set_option maxRecDepth 100000
namespace Go.Proofs.YtambpjbpdackfaaGreat.A.E
open Go Go.RowKit Go.Shelf

/-! ### root: one tick on -/
def preS (n : Nat) (l f g : List Fr) : List Fr := triF n (n + n) (besF n n n (prodF n n n f l) g)
theorem besF_len {n : Nat} (hn : 1 ≤ n ∧ n ≤ 16) {a b : List Fr} (ha : a.length = n * n) (hb : b.length = n * n) : (besF n n n a b).length = n * (n + n) := by
  have ra := right_sq hn ha
  have rb := right_sq hn hb
  have key : ∀ m, m ≤ n → (besP n n n a b m).length = m * (n + n) := fun m => by
    induction m with
    | zero => intro _; simp [besP]
    | succ m ih =>
      intro hm
      have h1 := rowF_len ra (i := m) (by rw [Int.toNat_natCast]; omega)
      have h2 := rowF_len rb (i := m) (by rw [Int.toNat_natCast]; omega)
      rw [Int.toNat_natCast] at h1 h2
      rw [besP_succ, List.length_append, List.length_append, ih (by omega), h1, h2, Nat.succ_mul]
      omega
  unfold besF
  rw [Int.toNat_natCast]
  exact key n (Nat.le_refl _)
theorem preS_len (n : Nat) (l f g : List Fr) : (preS n l f g).length = n * n := by rw [preS, triF, clearF, gridP_length, Nat.add_zero]
theorem ok106 (ex ep ef eg : Bool) (x l f g : List Fr) (n : Nat) (hn : 1 ≤ n ∧ n ≤ 4) (hx : x.length = n) (hl : l.length = n * n) (hf : f.length = n * n) (hg : g.length = n * n) :
    Ok Tryz.prog 106 [stV ex ep (frs x) n n (frs l), matV ef n n (frs f), matV eg n n (frs g)] (.tup [stV false false (frs (applyF n n f x)) n n (frs (preS n l f g)), tru true]) := by
  have hn' : 1 ≤ n ∧ n ≤ 16 := by omega
  have rf := right_sq hn' hf
  have rl := right_sq hn' hl
  have rg := right_sq hn' hg
  refine ok_fn mixed Tryz.func106 (code := ?_) (h := h106) ?_ k106 ?_
  rotate_left
  · exact rfl
  unfold h106 initS
  simp -implicitDefEqProofs (maxSteps := 10000000) only [rkA, rkB, stepA, valA, simprocAttr, Tryz.ntmps106, Tryz.results106]
  have h22 := ok174 ef ex n n f x (by omega)
  rw [if_pos ⟨rf, by simp [hx]⟩] at h22
  refine call_fn rfl rfl rfl (h22) ?_
  simp -implicitDefEqProofs (maxSteps := 10000000) only [rkA, rkB, stepA, valA, simprocAttr]
  have h13 := ok175 ef ep n n n n f l
  rw [if_pos ⟨rf, rl, rfl⟩] at h13
  refine call_fn rfl rfl rfl (h13) ?_
  simp -implicitDefEqProofs (maxSteps := 10000000) only [rkA, rkB, stepA, valA, simprocAttr]
  have lx : (frs x).length = n := by simp [hx]
  have h6 := ok108 ex ep x l n n
  rw [stRight_nat hl, decide_eq_true (show 1 ≤ x.length ∧ x.length ≤ 4 ∧ x.length = n by omega)] at h6
  refine call_fn rfl rfl rfl (h6) ?_
  simp -implicitDefEqProofs (maxSteps := 10000000) only [lx, bne_self_eq_false, rkA, rkB, stepA, valA, simprocAttr]
  have h17 := ok72 eg n n (frs g)
  rw [List.length_map, rg] at h17
  refine call_fn rfl rfl rfl (h17) ?_
  simp -implicitDefEqProofs (maxSteps := 10000000) only [lx, bne_self_eq_false, rkA, rkB, stepA, valA, simprocAttr]
  have lp : (prodF n n n f l).length = n * n := by rw [prodF_len]; simp
  have h28 := ok176 false eg n n n n (prodF n n n f l) g
  rw [if_pos ⟨right_sq hn' lp, rg, rfl, by omega⟩] at h28
  refine call_fn rfl rfl rfl (h28) ?_
  simp -implicitDefEqProofs (maxSteps := 10000000) only [rkA, rkB, stepA, valA, simprocAttr]
  have hc : (n : Int) + (n : Int) = ((n + n : Nat) : Int) := by simp
  have hF := ok19 n (n + n) (by omega) (by omega) (by omega) false (besF n n n (prodF n n n f l) g) (besF_len hn' lp hg)
  rw [← hc] at hF
  refine call_fn rfl rfl rfl (hF) ?_
  simp -implicitDefEqProofs (maxSteps := 10000000) only [rkA, rkB, stepA, valA, simprocAttr]
  rw [preS]
end Go.Proofs.YtambpjbpdackfaaGreat.A.E



set_option linter.unusedVariables false
set_option linter.unusedSimpArgs false
set_option maxRecDepth 100000
namespace Go.Proofs.YtambpjbpdackfaaGreat.A.E
open Go Go.RowKit Go.Shelf

/-! ### Both lanes -/
structure Pr where
  n : Nat
  x : List Fr
  p : List Fr
  y : List Fr
  s : List Fr
  e0 : Fr
  a0 : Fr
  e1 : Fr
  a1 : Fr
structure Pr.good (q : Pr) : Prop where
  n1 : 1 ≤ q.n
  n4 : q.n ≤ 4
  lx : q.x.length = q.n
  lp : q.p.length = q.n * q.n
  ly : q.y.length = q.n
  ls : q.s.length = q.n * q.n
abbrev nilV : PV := .s (.slice none 0 0)
abbrev pairV (b1 b2 b3 b4 : Bool) (q : Pr) : PV := .agg [.sl b1 (frs q.x), num q.n, num q.n, .sl b2 (frs q.p), .sl b3 (frs q.y), num q.n, num q.n, .sl b4 (frs q.s),
  num q.e0.v, num q.e0.lo, num q.e0.hi, tru q.e0.bad, num q.a0.v, num q.a0.lo, num q.a0.hi, tru q.a0.bad, num q.e1.v, num q.e1.lo, num q.e1.hi, tru q.e1.bad, num q.a1.v, num q.a1.lo, num q.a1.hi, tru q.a1.bad]
abbrev pairNil : PV := .agg [nilV, num 0, num 0, nilV, nilV, num 0, num 0, nilV,
  num 0, num 0, num 0, tru false, num 0, num 0, num 0, tru false, num 0, num 0, num 0, tru false, num 0, num 0, num 0, tru false]
theorem ok42 (b1 b2 b3 b4 : Bool) (q : Pr) (h : q.good) : Ok Tryz.prog 42 [pairV b1 b2 b3 b4 q] (tru true) := by
  have hc : 1 ≤ q.x.length ∧ q.x.length ≤ 4 ∧ q.x.length = q.n := by have := h.n1; have := h.n4; have := h.lx; omega
  have hd : 1 ≤ q.y.length ∧ q.y.length ≤ 4 ∧ q.y.length = q.n := by have := h.n1; have := h.n4; have := h.ly; omega
  have h1 := ok120 b1 b2 q.x q.p q.n q.n
  rw [stRight_nat h.lp, decide_eq_true hc] at h1
  have h2 := ok108 b3 b4 q.y q.s q.n q.n
  rw [stRight_nat h.ls, decide_eq_true hd] at h2
  have l1 : (frs q.x).length = q.n := by rw [List.length_map, h.lx]
  have l2 : (frs q.y).length = q.n := by rw [List.length_map, h.ly]
  refine ok_fn mixed Tryz.func42 (code := ?_) (h := h42) ?_ k42 ?_
  rotate_left
  · exact rfl
  unfold h42 initS
  simp -implicitDefEqProofs (maxSteps := 10000000) only [rkA, rkB, stepA, valA, simprocAttr, Tryz.ntmps42, Tryz.results42]
  refine call_fn rfl rfl rfl (h1) ?_
  simp -implicitDefEqProofs (maxSteps := 10000000) only [rkA, rkB, stepA, valA, simprocAttr]
  refine call_fn rfl rfl rfl (h2) ?_
  simp -implicitDefEqProofs (maxSteps := 10000000) only [l1, l2, beq_self_eq_true, rkA, rkB, stepA, valA, simprocAttr]
theorem ok120_nilP : Ok Tryz.prog 120 [stNil] (tru false) := by
  have h := ok120 false false [] [] 0 0
  have e : stRight ([] : List Fr).length 0 0 ([] : List Fr).length = false := by decide
  rw [e] at h
  exact h.args fun I vs h => Cs.st_nil h fun us h => h
theorem ok42_nil : Ok Tryz.prog 42 [pairNil] (tru false) := by
  refine ok_fn mixed Tryz.func42 (code := ?_) (h := h42) ?_ k42 ?_
  rotate_left
  · exact rfl
  unfold h42 initS
  simp -implicitDefEqProofs (maxSteps := 10000000) only [rkA, rkB, stepA, valA, simprocAttr, Tryz.ntmps42, Tryz.results42]
  refine call_fn rfl rfl rfl (ok120_nilP) ?_
  simp -implicitDefEqProofs (maxSteps := 10000000) only [rkA, rkB, stepA, valA, simprocAttr]
theorem ok116 (e : Bool) (l : List Int) (hl : l.length ≤ 100000) : Ok Tryz.prog 116 [.sl e (l.map num)] (.sl false (frs (l.map point))) := by
  refine ok_fn mixed Tryz.func116 (code := ?_) (h := h116) ?_ k116 ?_
  rotate_left
  · exact rfl
  unfold h116 initS
  simp -implicitDefEqProofs (maxSteps := 10000000) only [rkA, rkB, stepA, valA, simprocAttr, Tryz.ntmps116, Tryz.results116]
  refine wp_loop (fun m s => ∃ i : Nat, i + m = l.length ∧ s = ⟨[jk, jk, jk, .acc 3 (frs ((l.take i).map point)), jk, jk, .v (.sl e (l.map num)), nt l.length, nt i, jk, jk, jk, jk, jk, jk, jk, jk, jk, jk], [], [], [(2, 0), (3, i)], [], 0, nomem⟩) l.length ?_ ?_
  · simp -implicitDefEqProofs (maxSteps := 10000000) only [List.length_map, rkA, rkB, stepA, valA, simprocAttr]
    exact ⟨0, by omega, rfl⟩
  rintro m s ⟨i, hi, rfl⟩
  simp -implicitDefEqProofs (maxSteps := 10000000) only [rkA, rkB, stepA, valA, simprocAttr]
  refine gB_dec ?_ ?_ <;> intro hc <;> simp -implicitDefEqProofs (maxSteps := 10000000) only [hc, rkA, rkB, stepA, valA, simprocAttr]
  · have hlt : i < l.length := by omega
    have h0 : (0 : Int) ≤ (i : Int) := by omega
    have hg : (l.map num)[i]? = some (num l[i]) := by simp [hlt]
    have hw := wrapped (x := (i : Int) + 1) (by omega) (by omega)
    simp -implicitDefEqProofs (maxSteps := 10000000) only [h0, Int.toNat_natCast, hg, rkA, rkB, stepA, valA, simprocAttr]
    refine call_fn rfl rfl rfl (ok64 l[i]) ?_
    have hfit : fits 4 32 (frs ((l.take i).map point)) [frV (point l[i])] = true := fits_frs (k := (l.take i).map point) (l := [point l[i]]) (by simp only [List.length_map, List.length_take, List.length_cons, List.length_nil]; omega)
    have hl' : (frs ((l.take i).map point)).length = i := by simp only [List.length_map, List.length_take]; omega
    simp -implicitDefEqProofs (maxSteps := 10000000) only [hfit, hl', hw, rkA, rkB, stepA, valA, simprocAttr]
    refine loopK_of (m' := m - 1) (by omega) ?_
    simp -implicitDefEqProofs (maxSteps := 10000000) only [rkA, rkB, stepA, valA, simprocAttr]
    refine ⟨i + 1, by omega, ?_⟩
    rw [List.take_succ_eq_append_getElem hlt]
    simp only [List.map_append, List.map_cons, List.map_nil, Int.natCast_add, Int.natCast_one]
  · have hil : i = l.length := by omega
    subst hil
    rw [List.take_length]
theorem ok115 (e : Bool) (n : Nat) (hn : 1 ≤ n ∧ n ≤ 4) (l : List Int) (hl : l.length = n * n) : Ok Tryz.prog 115 [num n, .sl e (l.map num)] (matV false n n (frs (l.map point))) := by
  have hnn : n * n ≤ 4 * 4 := Nat.mul_le_mul hn.2 hn.2
  have lp : (l.map point).length = n * n := by rw [List.length_map, hl]
  have h44 := ok17 n n false (l.map point) (by omega)
  rw [if_pos (right_sq (by omega) lp)] at h44
  refine ok_fn mixed Tryz.func115 (code := ?_) (h := h115) ?_ k115 ?_
  rotate_left
  · exact rfl
  unfold h115 initS
  simp -implicitDefEqProofs (maxSteps := 10000000) only [rkA, rkB, stepA, valA, simprocAttr, Tryz.ntmps115, Tryz.results115]
  refine call_fn rfl rfl rfl (ok116 e l (by omega)) ?_
  simp -implicitDefEqProofs (maxSteps := 10000000) only [rkA, rkB, stepA, valA, simprocAttr]
  refine call_fn rfl rfl rfl (h44) ?_
  simp -implicitDefEqProofs (maxSteps := 10000000) only [rkA, rkB, stepA, valA, simprocAttr]
/-- A sound frame. -/
structure SoundF (k q : Int) (m : Nat) (l : List Int) : Prop where
  right : rightFr k q m l = true
  m1 : 1 ≤ m
  m4 : m ≤ 4
  len : (k = 1 ∧ l.length = m + m * m) ∨ (k = 2 ∧ l.length = m * m + m * m) ∨ (k = 3 ∧ l.length = m + 2)
  small : ∀ x ∈ l, -17179869184 ≤ x ∧ x ≤ 17179869184
  last : k = 3 → 65536 ≤ (partZ k m l 1).getD 0 0
  diag : k ≠ 3 → ∀ i, i < m → 65536 ≤ (partZ k m l 1).getD (i * m + i) 0
theorem soundF {k q n : Int} {l : List Int} (h : soundZ k q n l = 0) : ∃ m : Nat, n = m ∧ SoundF k q m l := by
  unfold soundZ at h
  cases hr : rightFr k q n l with
  | false => rw [if_pos hr] at h; cases h
  | true =>
    obtain ⟨m, rfl, h1, h4, hlen, hq0, hq1, hx⟩ := rightFr_spec hr
    rw [if_neg (by rw [hr]; decide), Int.toNat_natCast] at h
    cases hg : l.any greatZ with
    | true => rw [if_pos hg] at h; cases h
    | false =>
      rw [if_neg (by rw [hg]; decide)] at h
      refine ⟨m, rfl, hr, h1, h4, hlen, fun x hx => ?_, fun h3 => ?_, fun h3 i hi => ?_⟩
      · rw [List.any_eq_false] at hg
        have := hg x hx
        unfold greatZ at this
        simp only [Bool.or_eq_true, decide_eq_true_eq, not_or] at this
        omega
      · rw [if_pos h3] at h
        split at h
        · cases h
        · omega
      · rw [if_neg h3] at h
        cases hl : lowZ (partZ k m l 1) m with
        | true => rw [if_pos hl] at h; cases h
        | false =>
          unfold lowZ at hl
          rw [List.any_eq_false] at hl
          have := hl i (by simpa using hi)
          simp only [decide_eq_true_eq] at this
          omega
theorem part0_len {k : Int} {m : Nat} {l : List Int} (h1 : 1 ≤ m) (hlen : (k = 1 ∧ l.length = m + m * m) ∨ (k = 2 ∧ l.length = m * m + m * m) ∨ (k = 3 ∧ l.length = m + 2)) : (partZ k m l 0).length = if k = 2 then m * m else m := by
  unfold partZ pcZ endsZ
  rcases hlen with ⟨rfl, h⟩ | ⟨rfl, h⟩ | ⟨rfl, h⟩
  · simp [stZ, h]
  · simp [stZ, h]
  · simp [stZ, h]
theorem part2_len {m : Nat} {l : List Int} (h : l.length = m + 2) : (partZ 3 m l 2).length = 1 := by
  unfold partZ pcZ endsZ
  simp [stZ, h]
def fz : Fr := ⟨0, 0, 0, false⟩
def beginP (m : Nat) (l : List Int) : Pr :=
  { n := m, x := (partZ 1 m l 0).map point, p := sqF m (clearF m ((partZ 1 m l 1).map point)), y := (partZ 1 m l 0).map point, s := clearF m ((partZ 1 m l 1).map point), e0 := fz, a0 := fz, e1 := fz, a1 := fz }
theorem begin_good {q : Int} {m : Nat} {l : List Int} (h : SoundF 1 q m l) : (beginP m l).good where
  n1 := h.m1
  n4 := h.m4
  lx := by
    have := part0_len h.m1 h.len
    rw [if_neg (by decide)] at this
    show ((partZ 1 m l 0).map point).length = m
    rw [List.length_map, this]
  lp := sqF_len _ _
  ly := by
    have := part0_len h.m1 h.len
    rw [if_neg (by decide)] at this
    show ((partZ 1 m l 0).map point).length = m
    rw [List.length_map, this]
  ls := clearF_len _ _
theorem ok40_bad (e : Bool) (k q n : Int) (l : List Int) (hl : l.length ≤ 4398046511104) (h : soundZ k q n l ≠ 0 ∨ k ≠ 1) : Ok Tryz.prog 40 [frmV e k q n l] (.tup [pairNil, tru false]) := by
  refine ok_fn mixed Tryz.func40 (code := ?_) (h := h40) ?_ k40 ?_
  rotate_left
  · exact rfl
  unfold h40 initS
  simp -implicitDefEqProofs (maxSteps := 10000000) only [rkA, rkB, stepA, valA, simprocAttr, Tryz.ntmps40, Tryz.results40]
  refine call_fn rfl rfl rfl (ok41 e k q n l hl) ?_
  by_cases h0 : soundZ k q n l = 0
  · have h1 : (k != 1) = true := by
      have : k ≠ 1 := h.resolve_left fun hh => hh h0
      simpa using this
    have hb : ((0 : Int) != 0) = false := by decide
    rw [h0]
    simp -implicitDefEqProofs (maxSteps := 10000000) only [hb, h1, rkA, rkB, stepA, valA, simprocAttr]
  · have hb : (soundZ k q n l != 0) = true := by simpa using h0
    simp -implicitDefEqProofs (maxSteps := 10000000) only [hb, rkA, rkB, stepA, valA, simprocAttr]
theorem sound_len {k q : Int} {m : Nat} {l : List Int} (h : SoundF k q m l) : l.length ≤ 32 := by
  have h4 := h.m4
  have hmm : m * m ≤ 4 * 4 := Nat.mul_le_mul h4 h4
  have := h.len
  omega
theorem part_get {k : Int} {m : Nat} {l : List Int} {i : Nat} (h : i < (endsZ k m l.length).length) : ((partsZ k m l).map rowV)[i]? = some (rowV (partZ k m l i)) := by
  rw [List.getElem?_map, parts_at h]
  rfl
theorem ok40 (e : Bool) (q n : Int) (l : List Int) (h : soundZ 1 q n l = 0) : Ok Tryz.prog 40 [frmV e 1 q n l] (.tup [pairV false false false false (beginP n.toNat l), tru true]) := by
  obtain ⟨m, rfl, hs⟩ := soundF h
  rw [Int.toNat_natCast]
  have hl := sound_len hs
  have hg := begin_good hs
  have hp := ok44 e 1 q m l (by omega) hs.right
  rw [Int.toNat_natCast] at hp
  have h8 := ok41 e 1 q m l (by omega)
  rw [h] at h8
  have hb : ((0 : Int) != 0) = false := by decide
  have hb1 : ((1 : Int) != 1) = false := by decide
  have l0 := part0_len hs.m1 hs.len
  rw [if_neg (by decide)] at l0
  have l1 := part_len hs.m1 hs.len
  rw [if_neg (by decide)] at l1
  have hm1 := hs.m1
  have hm4 := hs.m4
  have g0 := part_get (k := 1) (m := m) (l := l) (i := 0) (by unfold endsZ; simp)
  have g1 := part_get (k := 1) (m := m) (l := l) (i := 1) (by unfold endsZ; simp)
  have lx : ((partZ 1 m l 0).map point).length = m := by rw [List.length_map, l0]
  have ls : ((partZ 1 m l 1).map point).length = m * m := by rw [List.length_map, l1]
  have hr := ok85 false false ((partZ 1 m l 0).map point) ((partZ 1 m l 1).map point) m (by omega) ls (by omega)
  rw [if_pos (by omega)] at hr
  have hj := ok117 false false ((partZ 1 m l 0).map point) (clearF m ((partZ 1 m l 1).map point)) m (by omega) (clearF_len _ _) (by omega)
  rw [if_pos (by omega)] at hj
  refine ok_fn mixed Tryz.func40 (code := ?_) (h := h40) ?_ k40 ?_
  rotate_left
  · exact rfl
  unfold h40 initS
  simp -implicitDefEqProofs (maxSteps := 10000000) only [rkA, rkB, stepA, valA, simprocAttr, Tryz.ntmps40, Tryz.results40]
  refine call_fn rfl rfl rfl (h8) ?_
  simp -implicitDefEqProofs (maxSteps := 10000000) only [hb, hb1, rkA, rkB, stepA, valA, simprocAttr]
  refine call_fn rfl rfl rfl (hp) ?_
  simp -implicitDefEqProofs (maxSteps := 10000000) only [g1, rkA, rkB, stepA, valA, simprocAttr]
  refine call_fn rfl rfl rfl (ok115 _ m (by omega) (partZ 1 m l 1) l1) ?_
  simp -implicitDefEqProofs (maxSteps := 10000000) only [g0, rkA, rkB, stepA, valA, simprocAttr]
  refine call_fn rfl rfl rfl (ok116 _ (partZ 1 m l 0) (by omega)) ?_
  simp -implicitDefEqProofs (maxSteps := 10000000) only [rkA, rkB, stepA, valA, simprocAttr]
  refine call_fn rfl rfl rfl (hr) ?_
  simp -implicitDefEqProofs (maxSteps := 10000000) only [g0, rkA, rkB, stepA, valA, simprocAttr]
  refine call_fn rfl rfl rfl (ok116 _ (partZ 1 m l 0) (by omega)) ?_
  simp -implicitDefEqProofs (maxSteps := 10000000) only [rkA, rkB, stepA, valA, simprocAttr]
  refine call_fn rfl rfl rfl (hj) ?_
  simp -implicitDefEqProofs (maxSteps := 10000000) only [beginP, fz, rkA, rkB, stepA, valA, simprocAttr]
end Go.Proofs.YtambpjbpdackfaaGreat.A.E



set_option linter.unusedVariables false
set_option linter.unusedSimpArgs false
set_option maxRecDepth 100000
namespace Go.Proofs.YtambpjbpdackfaaGreat.A.E
open Go Go.RowKit Go.Shelf

theorem applyF_len (n : Nat) (l v : List Fr) : (applyF n n l v).length = n := by simp [applyF, allF]
theorem ok129 (ex ep ef eg : Bool) (x p f g : List Fr) (n : Nat) (hn : 1 ≤ n ∧ n ≤ 4) (hx : x.length = n) (hp : p.length = n * n) (hf : f.length = n * n) (hg : g.length = n * n) :
    Ok Tryz.prog 129 [stV ex ep (frs x) n n (frs p), matV ef n n (frs f), matV eg n n (frs g)] (.tup [stV false false (frs (applyF n n f x)) n n (frs (turnedF n f p (sqF n g))), tru true]) := by
  have hn' : 1 ≤ n ∧ n ≤ 16 := by omega
  refine ok_fn mixed Tryz.func129 (code := ?_) (h := h129) ?_ k129 ?_
  rotate_left
  · exact rfl
  unfold h129 initS
  simp -implicitDefEqProofs (maxSteps := 10000000) only [rkA, rkB, stepA, valA, simprocAttr, Tryz.ntmps129, Tryz.results129]
  refine call_fn rfl rfl rfl (ok109 n hn' eg g hg) ?_
  simp -implicitDefEqProofs (maxSteps := 10000000) only [rkA, rkB, stepA, valA, simprocAttr]
  have h22 := ok174 ef ex n n f x (by omega)
  rw [if_pos ⟨right_sq hn' hf, by simp [hx]⟩] at h22
  refine call_fn rfl rfl rfl (h22) ?_
  simp -implicitDefEqProofs (maxSteps := 10000000) only [rkA, rkB, stepA, valA, simprocAttr]
  have h6 := ok120 ex ep x p n n
  rw [stRight_nat hp, decide_eq_true (show 1 ≤ x.length ∧ x.length ≤ 4 ∧ x.length = n by omega)] at h6
  refine call_fn rfl rfl rfl (h6) ?_
  simp -implicitDefEqProofs (maxSteps := 10000000) only [rkA, rkB, stepA, valA, simprocAttr]
  refine call_fn rfl rfl rfl (ok189 n hn' ef ep false f p (sqF n g) hf hp (sqF_len n g)) ?_
  simp -implicitDefEqProofs (maxSteps := 10000000) only [rkA, rkB, stepA, valA, simprocAttr]
  have h7 := ok120 false false (applyF n n f x) (turnedF n f p (sqF n g)) n n
  rw [stRight_nat (turnedF_len n f p _), applyF_len, decide_eq_true (show 1 ≤ n ∧ n ≤ 4 ∧ n = n by omega)] at h7
  refine call_fn rfl rfl rfl (h7) ?_
  simp -implicitDefEqProofs (maxSteps := 10000000) only [rkA, rkB, stepA, valA, simprocAttr]
end Go.Proofs.YtambpjbpdackfaaGreat.A.E



set_option linter.unusedVariables false
set_option linter.unusedSimpArgs false
set_option maxRecDepth 100000
namespace Go.Proofs.YtambpjbpdackfaaGreat.A.E
open Go Go.RowKit Go.Shelf

abbrev newsV (e a : Fr) : PV := .agg [num e.v, num e.lo, num e.hi, tru e.bad, num a.v, num a.lo, num a.hi, tru a.bad]
section
variable (n : Nat) (x p h : List Fr) (r z : Fr)
def uF : List Fr := applyF n n p h
def spreadF : Fr := addF (dotF h (uF n p h)) r
def surpriseF : Fr := subF z (dotF h x)
def kF : List Fr := (uF n p h).map (divF · (spreadF n p h r))
def unitF : List Fr := (unitP n n).map (newF · 1)
def mF : List Fr := List.zipWith subF (unitF n) (prodF n 1 n (kF n p h r) h)
def krkF : List Fr := prodF n 1 n ((kF n p h r).map (mulF · r)) (turnF n 1 (kF n p h r))
def upP : List Fr := turnedF n (mF n p h r) p (krkF n p h r)
def upX : List Fr := List.zipWith addF x ((kF n p h r).map (mulF · (surpriseF x h z)))
end
set_option maxHeartbeats 2000000 in
theorem ok130 (ex ep eh : Bool) (n : Nat) (x p h : List Fr) (r z : Fr) (hn : 1 ≤ n ∧ n ≤ 4) (hx : x.length = n) (hp : p.length = n * n) (hh : h.length = n) :
    Ok Tryz.prog 130 [stV ex ep (frs x) n n (frs p), .sl eh (frs h), frV r, frV z] (.tup [stV false false (frs (upX n x p h r z)) n n (frs (upP n p h r)), newsV (surpriseF x h z) (spreadF n p h r), tru true]) := by
  have hn' : 1 ≤ n ∧ n ≤ 16 := by omega
  refine ok_fn mixed Tryz.func130 (code := ?_) (h := h130) ?_ k130 ?_
  rotate_left
  · exact rfl
  unfold h130 initS
  simp -implicitDefEqProofs (maxSteps := 10000000) only [rkA, rkB, stepA, valA, simprocAttr, Tryz.ntmps130, Tryz.results130]
  have h6 := ok120 ex ep x p n n
  rw [stRight_nat hp, decide_eq_true (show 1 ≤ x.length ∧ x.length ≤ 4 ∧ x.length = n by omega)] at h6
  refine call_fn rfl rfl rfl (h6) ?_
  have lx : (frs x).length = n := by simp [hx]
  have lh : (frs h).length = n := by simp [hh]
  simp -implicitDefEqProofs (maxSteps := 10000000) only [lx, lh, bne_self_eq_false, rkA, rkB, stepA, valA, simprocAttr]
  have h22 := ok174 ep eh n n p h (by omega)
  rw [if_pos ⟨right_sq hn' hp, by simp [hh]⟩] at h22
  refine call_fn rfl rfl rfl (h22) ?_
  simp -implicitDefEqProofs (maxSteps := 10000000) only [rkA, rkB, stepA, valA, simprocAttr]
  refine call_fn rfl rfl rfl (ok151 eh false h (applyF n n p h) (by omega) (by rw [applyF_len]; omega)) ?_
  simp -implicitDefEqProofs (maxSteps := 10000000) only [rkA, rkB, stepA, valA, simprocAttr]
  refine call_meth rfl rfl methAdd (ok63 (dotF h (applyF n n p h)) r) ?_
  simp -implicitDefEqProofs (maxSteps := 10000000) only [rkA, rkB, stepA, valA, simprocAttr]
  refine call_fn rfl rfl rfl (ok151 eh ex h x (by omega) (by omega)) ?_
  simp -implicitDefEqProofs (maxSteps := 10000000) only [rkA, rkB, stepA, valA, simprocAttr]
  refine call_meth rfl rfl methSub (ok254 z (dotF h x)) ?_
  simp -implicitDefEqProofs (maxSteps := 10000000) only [rkA, rkB, stepA, valA, simprocAttr]
  have hu : (frs (applyF n n p h)).length = n := by simp [applyF_len]
  have hul := applyF_len n p h
  generalize hud : applyF n n p h = u at hu hul
  generalize had : addF (dotF h u) r = a
  generalize hed : subF z (dotF h x) = e
  refine wp_loop (fun m s => ∃ i : Nat, i + m = n ∧ s = ⟨[jk, .v (.sl eh (frs h)), jk, jk, .ptr 4 0, jk, .ptr 6 0, jk, .ptr 8 0, .ptr 9 0, jk, nt n, jk, jk, .ptr 14 0, .ptr 15 0, .acc 16 (frs ((u.take i).map (divF · a))), jk, jk, jk, jk, jk, jk, jk, jk, jk, jk, jk, jk, jk, jk, jk, jk, jk, jk, jk, jk, jk, jk, jk, jk, jk, jk, jk, jk, jk, jk, jk, jk, jk, jk, jk, jk, jk, jk, jk, jk, jk, jk, jk, jk, jk, jk, jk, jk, jk, jk, jk, jk, .v (.sl false (frs u)), nt n, nt i, jk, jk, jk, jk, jk, jk, jk, jk, jk, jk, jk, jk, jk, jk, jk, jk, jk, jk, jk, jk, jk, jk, jk, jk, jk, jk, jk, jk, jk, jk, jk, jk, jk, jk, jk, jk, jk, jk, jk, jk, jk, jk, jk, jk, jk, jk, jk, jk, jk, jk, jk, jk, jk, jk, jk, jk, jk, jk, jk, jk, jk, jk, jk, jk, jk, jk, jk, jk, jk, jk, jk, jk, jk, jk, jk, jk, jk, jk],
    [(4, [.v (.sl ex (frs x)), nt n, nt n, .v (.sl ep (frs p))]), (6, [nt r.v, nt r.lo, nt r.hi, .v (tru r.bad)]), (7, [nt z.v, nt z.lo, nt z.hi, .v (tru z.bad)]), (8, [.acc 1008 [], nt 0, nt 0, .acc 4008 []]), (9, [nt 0, nt 0, nt 0, .v (tru false), nt 0, nt 0, nt 0, .v (tru false)]),
      (14, [nt a.v, nt a.lo, nt a.hi, .v (tru a.bad)]), (15, [nt e.v, nt e.lo, nt e.hi, .v (tru e.bad)])], [], [(16, i), (1008, 0), (4008, 0)], [], 0, nomem⟩) n ?_ ?_
  · simp -implicitDefEqProofs (maxSteps := 10000000) only [hu, rkA, rkB, stepA, valA, simprocAttr]
    exact ⟨0, by simp, rfl⟩
  rintro m s ⟨i, hi, rfl⟩
  simp -implicitDefEqProofs (maxSteps := 10000000) only [rkA, rkB, stepA, valA, simprocAttr]
  refine gB_dec ?_ ?_ <;> intro hc <;> simp -implicitDefEqProofs (maxSteps := 10000000) only [hc, rkA, rkB, stepA, valA, simprocAttr]
  · have hlt : i < u.length := by omega
    have h0 : (0 : Int) ≤ (i : Int) := by omega
    have hg : (frs u)[i]? = some (frV u[i]) := by simp [hlt]
    simp -implicitDefEqProofs (maxSteps := 10000000) only [h0, Int.toNat_natCast, hg, rkA, rkB, stepA, valA, simprocAttr]
    refine call_meth rfl rfl methDiv (ok249 u[i] a) ?_
    have hfit : fits 4 32 (frs ((u.take i).map (divF · a))) [frV (divF u[i] a)] = true := fits_frs (l := [divF u[i] a]) (by simp; omega)
    have hw := wrapped (x := (i : Int) + 1) (by omega) (by omega)
    have hl : (frs ((u.take i).map (divF · a))).length = i := by simp; omega
    simp -implicitDefEqProofs (maxSteps := 10000000) only [hfit, hl, hw, rkA, rkB, stepA, valA, simprocAttr]
    refine loopK_of (m' := m - 1) (by omega) ?_
    simp -implicitDefEqProofs (maxSteps := 10000000) only [rkA, rkB, stepA, valA, simprocAttr]
    refine ⟨i + 1, by omega, ?_⟩
    rw [List.take_succ_eq_append_getElem hlt]
    simp only [frs, List.map_append, List.map_cons, List.map_nil, Int.natCast_add, Int.natCast_one]
  · have hin : u.length ≤ i := by omega
    rw [List.take_of_length_le hin]
    have hk1 : (u.map (divF · a)).length = n := by simp [hul]
    have hkd : u.map (divF · a) = kF n p h r := by simp only [kF, spreadF, uF, hud, had]
    generalize hkk : u.map (divF · a) = k at hk1 hkd
    have hkl : (frs k).length = n := by simp [hk1]
    have rk : right (n : Int) 1 k.length = true := right_nat (R := n) (K := 1) hn' (by omega) (by omega)
    have rh : right 1 (n : Int) h.length = true := right_nat (R := 1) (K := n) (by omega) hn' (by omega)
    have h1 := ok17 n 1 false k (by omega)
    rw [if_pos rk] at h1
    refine call_fn rfl rfl rfl (h1) ?_
    simp -implicitDefEqProofs (maxSteps := 10000000) only [rkA, rkB, stepA, valA, simprocAttr]
    have h2 := ok17 1 n eh h (by omega)
    rw [if_pos rh] at h2
    refine call_fn rfl rfl rfl (h2) ?_
    simp -implicitDefEqProofs (maxSteps := 10000000) only [rkA, rkB, stepA, valA, simprocAttr]
    have h3 := ok190 n
    rw [if_pos (by omega), Int.toNat_natCast] at h3
    refine call_fn rfl rfl rfl (h3) ?_
    simp -implicitDefEqProofs (maxSteps := 10000000) only [rkA, rkB, stepA, valA, simprocAttr]
    have h4 := ok175 false false n 1 1 n k h
    rw [if_pos ⟨rk, rh, rfl⟩] at h4
    refine call_fn rfl rfl rfl (h4) ?_
    simp -implicitDefEqProofs (maxSteps := 10000000) only [rkA, rkB, stepA, valA, simprocAttr]
    have l4 : (prodF n 1 n k h).length = n * n := by rw [prodF_len]; simp
    have ru : right (n : Int) (n : Int) ((unitP n n).map (newF · 1)).length = true := right_sq hn' (by rw [List.length_map, unitP_length])
    have h5 := ok191 false false n n n n ((unitP n n).map (newF · 1)) (prodF n 1 n k h)
    rw [if_pos ⟨ru, right_sq hn' l4, rfl, rfl⟩] at h5
    refine call_fn rfl rfl rfl (h5) ?_
    simp -implicitDefEqProofs (maxSteps := 10000000) only [rkA, rkB, stepA, valA, simprocAttr]
    refine call_fn rfl rfl rfl (ok153 false k r (by omega)) ?_
    simp -implicitDefEqProofs (maxSteps := 10000000) only [rkA, rkB, stepA, valA, simprocAttr]
    have rs : right (n : Int) 1 (k.map (mulF · r)).length = true := right_nat (R := n) (K := 1) hn' (by omega) (by simp [hk1])
    have h7 := ok17 n 1 false (k.map (mulF · r)) (by simp; omega)
    rw [if_pos rs] at h7
    refine call_fn rfl rfl rfl (h7) ?_
    simp -implicitDefEqProofs (maxSteps := 10000000) only [rkA, rkB, stepA, valA, simprocAttr]
    have h8 := ok161 false n 1 k
    rw [if_pos rk] at h8
    refine call_fn rfl rfl rfl (h8) ?_
    simp -implicitDefEqProofs (maxSteps := 10000000) only [rkA, rkB, stepA, valA, simprocAttr]
    have h9 := ok175 false false n 1 1 n (k.map (mulF · r)) (turnF n 1 k)
    rw [if_pos ⟨rs, right_turn rk, rfl⟩] at h9
    refine call_fn rfl rfl rfl (h9) ?_
    simp -implicitDefEqProofs (maxSteps := 10000000) only [rkA, rkB, stepA, valA, simprocAttr]
    have l5 : (List.zipWith subF ((unitP n n).map (newF · 1)) (prodF n 1 n k h)).length = n * n := by rw [List.length_zipWith, List.length_map, unitP_length, l4, Nat.min_self]
    refine call_fn rfl rfl rfl (ok189 n hn' false ep false (List.zipWith subF ((unitP n n).map (newF · 1)) (prodF n 1 n k h)) p (prodF n 1 n (k.map (mulF · r)) (turnF n 1 k)) l5 hp (by rw [prodF_len]; simp)) ?_
    simp -implicitDefEqProofs (maxSteps := 10000000) only [rkA, rkB, stepA, valA, simprocAttr]
    refine call_fn rfl rfl rfl (ok153 false k e (by omega)) ?_
    simp -implicitDefEqProofs (maxSteps := 10000000) only [rkA, rkB, stepA, valA, simprocAttr]
    refine call_fn rfl rfl rfl (ok163 ex false x (k.map (mulF · e)) (by omega) (by simp; omega)) ?_
    simp -implicitDefEqProofs (maxSteps := 10000000) only [rkA, rkB, stepA, valA, simprocAttr]
    simp -implicitDefEqProofs (maxSteps := 10000000) only [upX, upP, mF, krkF, unitF, surpriseF, spreadF, uF, hud, had, hed, ← hkd, rkA, rkB, stepA, valA, simprocAttr]
end Go.Proofs.YtambpjbpdackfaaGreat.A.E



set_option linter.unusedVariables false
set_option linter.unusedSimpArgs false
set_option maxRecDepth 100000
namespace Go.Proofs.YtambpjbpdackfaaGreat.A.E
open Go Go.RowKit Go.Shelf

/-! ### Both lanes behind a frame -/
def pt (k : Int) (m : Nat) (l : List Int) (i : Nat) : List Fr := (partZ k m l i).map point
def tickP (q : Pr) (l : List Int) : Pr :=
  { n := q.n, x := applyF q.n q.n (pt 2 q.n l 0) q.x, p := turnedF q.n (pt 2 q.n l 0) q.p (sqF q.n (pt 2 q.n l 1)),
    y := applyF q.n q.n (pt 2 q.n l 0) q.y, s := preS q.n q.s (pt 2 q.n l 0) (pt 2 q.n l 1), e0 := fz, a0 := fz, e1 := fz, a1 := fz }
def oneZ (l : List Int) : Fr := point (l.getD 0 0)
def measP (q : Pr) (l : List Int) : Pr :=
  { n := q.n, x := upX q.n q.x q.p (pt 3 q.n l 0) (oneZ (partZ 3 q.n l 1)) (oneZ (partZ 3 q.n l 2)), p := upP q.n q.p (pt 3 q.n l 0) (oneZ (partZ 3 q.n l 1)),
    y := upRX q.n q.y q.s (pt 3 q.n l 0) (oneZ (partZ 3 q.n l 1)) (oneZ (partZ 3 q.n l 2)), s := upRS q.n q.s (pt 3 q.n l 0) (oneZ (partZ 3 q.n l 1)),
    e0 := surpriseF q.x (pt 3 q.n l 0) (oneZ (partZ 3 q.n l 2)), a0 := spreadF q.n q.p (pt 3 q.n l 0) (oneZ (partZ 3 q.n l 1)),
    e1 := subF (oneZ (partZ 3 q.n l 2)) (dotF (pt 3 q.n l 0) q.y), a1 := (upR q.n q.s (pt 3 q.n l 0) (oneZ (partZ 3 q.n l 1))).2.2 }
/-- Is a frame taken? -/
def takes (q : Pr) (k s n : Int) (l : List Int) : Bool := decide (soundZ k s n l = 0) && (decide (n = q.n) && decide (k ≠ 1))
def afterP (q : Pr) (k : Int) (l : List Int) : Pr := if k = 2 then tickP q l else measP q l
theorem ok48_bad (e b1 b2 b3 b4 : Bool) (q : Pr) (h : q.good) (k s n : Int) (l : List Int) (hl : l.length ≤ 4398046511104) (ht : takes q k s n l = false) :
    Ok Tryz.prog 48 [pairV b1 b2 b3 b4 q, frmV e k s n l] (.tup [pairNil, tru false]) := by
  have h8 := ok41 e k s n l hl
  have hx : (frs q.x).length = q.n := by rw [List.length_map, h.lx]
  refine ok_fn mixed Tryz.func48 (code := ?_) (h := h48) ?_ k48 ?_
  rotate_left
  · exact rfl
  unfold h48 initS
  simp -implicitDefEqProofs (maxSteps := 10000000) only [rkA, rkB, stepA, valA, simprocAttr, Tryz.ntmps48, Tryz.results48]
  refine call_fn rfl rfl rfl (h8) ?_
  by_cases h0 : soundZ k s n l = 0
  · have hb : ((0 : Int) != 0) = false := by decide
    rw [h0]
    simp -implicitDefEqProofs (maxSteps := 10000000) only [hb, rkA, rkB, stepA, valA, simprocAttr]
    refine call_fn rfl rfl rfl (ok42 b1 b2 b3 b4 q h) ?_
    by_cases h1 : n = q.n
    · have hb1 : ((q.n : Int) != n) = false := by rw [h1]; simp
      have hk : k = 1 := by
        unfold takes at ht
        rw [h0, h1] at ht
        simpa using ht
      have hb2 : ((1 : Int) == 1) = true := by decide
      rw [hk]
      simp -implicitDefEqProofs (maxSteps := 10000000) only [hx, hb1, hb2, rkA, rkB, stepA, valA, simprocAttr]
    · have hb1 : ((q.n : Int) != n) = true := by simp; exact fun e => h1 e.symm
      simp -implicitDefEqProofs (maxSteps := 10000000) only [hx, hb1, rkA, rkB, stepA, valA, simprocAttr]
  · have hb : (soundZ k s n l != 0) = true := by simpa using h0
    simp -implicitDefEqProofs (maxSteps := 10000000) only [hb, rkA, rkB, stepA, valA, simprocAttr]
theorem takes_spec {q : Pr} {k s n : Int} {l : List Int} (h : takes q k s n l = true) : n = q.n ∧ SoundF k s q.n l ∧ (k = 2 ∨ k = 3) := by
  unfold takes at h
  simp only [Bool.and_eq_true, decide_eq_true_eq] at h
  obtain ⟨h1, rfl, h3⟩ := h
  obtain ⟨m, hm, hs⟩ := soundF h1
  have : m = q.n := by omega
  subst this
  refine ⟨rfl, hs, ?_⟩
  have := hs.len
  omega
theorem one_get {l : List Int} (h : l.length = 1) : (l.map num)[0]? = some (num (l.getD 0 0)) := at_num (by omega)
set_option maxHeartbeats 2000000 in
theorem ok48 (e b1 b2 b3 b4 : Bool) (q : Pr) (h : q.good) (k s n : Int) (l : List Int) (ht : takes q k s n l = true) :
    Ok Tryz.prog 48 [pairV b1 b2 b3 b4 q, frmV e k s n l] (.tup [pairV false false false false (afterP q k l), tru true]) := by
  have h0 : soundZ k s n l = 0 := by
    unfold takes at ht
    simp only [Bool.and_eq_true, decide_eq_true_eq] at ht
    exact ht.1
  obtain ⟨rfl, hs, hk⟩ := takes_spec ht
  have hl := sound_len hs
  have h8 := ok41 e k s q.n l (by omega)
  rw [h0] at h8
  have hx : (frs q.x).length = q.n := by rw [List.length_map, h.lx]
  have hb : ((0 : Int) != 0) = false := by decide
  have hb1 : ((q.n : Int) != q.n) = false := by simp
  have hp := ok44 e k s q.n l (by omega) hs.right
  rw [Int.toNat_natCast] at hp
  have l0 := part0_len hs.m1 hs.len
  have l1 := part_len hs.m1 hs.len
  have hm1 := hs.m1
  have hm4 := hs.m4
  have hnn : q.n * q.n ≤ 4 * 4 := Nat.mul_le_mul hm4 hm4
  refine ok_fn mixed Tryz.func48 (code := ?_) (h := h48) ?_ k48 ?_
  rotate_left
  · exact rfl
  unfold h48 initS
  simp -implicitDefEqProofs (maxSteps := 10000000) only [rkA, rkB, stepA, valA, simprocAttr, Tryz.ntmps48, Tryz.results48]
  refine call_fn rfl rfl rfl (h8) ?_
  simp -implicitDefEqProofs (maxSteps := 10000000) only [hb, rkA, rkB, stepA, valA, simprocAttr]
  refine call_fn rfl rfl rfl (ok42 b1 b2 b3 b4 q h) ?_
  rcases hk with rfl | rfl
  · have hb2 : ((2 : Int) == 1) = false := by decide
    have hb3 : ((2 : Int) == 2) = true := by decide
    rw [if_pos rfl] at l0
    rw [if_neg (by decide)] at l1
    have g0 := part_get (k := 2) (m := q.n) (l := l) (i := 0) (by unfold endsZ; simp)
    have g1 := part_get (k := 2) (m := q.n) (l := l) (i := 1) (by unfold endsZ; simp)
    have lf : (pt 2 q.n l 0).length = q.n * q.n := by rw [pt, List.length_map, l0]
    have lg : (pt 2 q.n l 1).length = q.n * q.n := by rw [pt, List.length_map, l1]
    simp -implicitDefEqProofs (maxSteps := 10000000) only [hx, hb1, hb2, rkA, rkB, stepA, valA, simprocAttr]
    refine call_fn rfl rfl rfl (hp) ?_
    simp -implicitDefEqProofs (maxSteps := 10000000) only [hb3, g0, rkA, rkB, stepA, valA, simprocAttr]
    refine call_fn rfl rfl rfl (ok115 _ q.n (by omega) (partZ 2 q.n l 0) l0) ?_
    simp -implicitDefEqProofs (maxSteps := 10000000) only [g1, rkA, rkB, stepA, valA, simprocAttr]
    refine call_fn rfl rfl rfl (ok115 _ q.n (by omega) (partZ 2 q.n l 1) l1) ?_
    simp -implicitDefEqProofs (maxSteps := 10000000) only [rkA, rkB, stepA, valA, simprocAttr]
    refine call_fn rfl rfl rfl (ok129 b1 b2 false false q.x q.p (pt 2 q.n l 0) (pt 2 q.n l 1) q.n ⟨hm1, hm4⟩ h.lx h.lp lf lg) ?_
    simp -implicitDefEqProofs (maxSteps := 10000000) only [rkA, rkB, stepA, valA, simprocAttr]
    refine call_fn rfl rfl rfl (ok106 b3 b4 false false q.y q.s (pt 2 q.n l 0) (pt 2 q.n l 1) q.n ⟨hm1, hm4⟩ h.ly h.ls lf lg) ?_
    simp -implicitDefEqProofs (maxSteps := 10000000) only [afterP, tickP, fz, if_true, rkA, rkB, stepA, valA, simprocAttr]
  · have hb2 : ((3 : Int) == 1) = false := by decide
    have hb3 : ((3 : Int) == 2) = false := by decide
    have hlen : l.length = q.n + 2 := by have := hs.len; omega
    have l2 := part2_len (m := q.n) (l := l) hlen
    rw [if_neg (by decide)] at l0
    rw [if_pos rfl] at l1
    have g0 := part_get (k := 3) (m := q.n) (l := l) (i := 0) (by unfold endsZ; simp)
    have g1 := part_get (k := 3) (m := q.n) (l := l) (i := 1) (by unfold endsZ; simp)
    have g2 := part_get (k := 3) (m := q.n) (l := l) (i := 2) (by unfold endsZ; simp)
    have o1 := one_get l1
    have o2 := one_get l2
    have lh : (pt 3 q.n l 0).length = q.n := by rw [pt, List.length_map, l0]
    have e3 : (3 : Int) ≠ 2 := by decide
    simp -implicitDefEqProofs (maxSteps := 10000000) only [hx, hb1, hb2, rkA, rkB, stepA, valA, simprocAttr]
    refine call_fn rfl rfl rfl (hp) ?_
    simp -implicitDefEqProofs (maxSteps := 10000000) only [hb3, g0, rkA, rkB, stepA, valA, simprocAttr]
    refine call_fn rfl rfl rfl (ok116 _ (partZ 3 q.n l 0) (by omega)) ?_
    simp -implicitDefEqProofs (maxSteps := 10000000) only [g1, o1, rkA, rkB, stepA, valA, simprocAttr]
    refine call_fn rfl rfl rfl (ok64 ((partZ 3 q.n l 1).getD 0 0)) ?_
    simp -implicitDefEqProofs (maxSteps := 10000000) only [g2, o2, rkA, rkB, stepA, valA, simprocAttr]
    refine call_fn rfl rfl rfl (ok64 ((partZ 3 q.n l 2).getD 0 0)) ?_
    simp -implicitDefEqProofs (maxSteps := 10000000) only [rkA, rkB, stepA, valA, simprocAttr]
    refine call_fn rfl rfl rfl (ok130 b1 b2 false q.n q.x q.p (pt 3 q.n l 0) (oneZ (partZ 3 q.n l 1)) (oneZ (partZ 3 q.n l 2)) ⟨hm1, hm4⟩ h.lx h.lp lh) ?_
    simp -implicitDefEqProofs (maxSteps := 10000000) only [rkA, rkB, stepA, valA, simprocAttr]
    refine call_fn rfl rfl rfl (ok87 b3 b4 false q.n q.y q.s (pt 3 q.n l 0) (oneZ (partZ 3 q.n l 1)) (oneZ (partZ 3 q.n l 2)) ⟨hm1, hm4⟩ h.ly h.ls lh) ?_
    simp -implicitDefEqProofs (maxSteps := 10000000) only [afterP, measP, e3, if_false, rkA, rkB, stepA, valA, simprocAttr]
theorem after_good {q : Pr} (h : q.good) {k : Int} {l : List Int} : (afterP q k l).good := by
  unfold afterP
  split
  · exact ⟨h.n1, h.n4, applyF_len _ _ _, turnedF_len _ _ _ _, applyF_len _ _ _, preS_len _ _ _ _⟩
  · refine ⟨h.n1, h.n4, ?_, turnedF_len _ _ _ _, ?_, upRS_len _ _ _ _⟩
    · show (upX q.n q.x q.p _ _ _).length = q.n
      unfold upX kF uF
      simp [h.lx, applyF_len]
    · show (upRX q.n q.y q.s _ _ _).length = q.n
      unfold upRX upRK
      simp [h.ly]
end Go.Proofs.YtambpjbpdackfaaGreat.A.E


/- Functions that hand a new row back to which something will be appended; rules for regions told for any order. -/
set_option linter.unusedVariables false
set_option linter.unusedSimpArgs false
namespace Go.Proofs.YtambpjbpdackfaaGreat.A
open Go Go.RowKit Go.Shelf

section
variable {P : Program} {its : Option (Nat × List Item)} {s : St} {K : St → Prop} {Q : XA → St → Prop} {w : World} {I : Imm}

theorem okA_of {f : FuncId} {fn : Func} {code : Code} {ac : AC} {t : Nat} {args els : List PV} (hf : P.funcs[f]? = some fn) (hname : (fn.name == "runtime.NumGoroutine") = false) (hb : fn.body = some code) (hag : Ag P ac code)
    (hq : fn.results.toList = [.tmp t]) (hrf : RFs (flat els) = true) (hne : els ≠ [])
    (hwp : wpA P none ac (atEnd fun s => (∃ tok, s.tm[t]? = some (.acc tok els) ∧ els.length = tkOf s.tk tok) ∨ (∃ r, s.tm[t]? = some (.v r) ∧ RowA els r s.mm)) (initS args fn.ntmps)) : OkA P f args els := by
  refine ⟨enters_of hf hname hb, fun I w vs hg _ hc => ?_⟩
  refine calls_of hf hb hag hg (noMem I w) hc hwp ?_
  intro J β κ s a w' hend hS
  have hB : BelowL ⟨w, fun c => (nomem c).isSome⟩ w' := hS.below
  have hold : ∀ c x, s.mm c = some x → ¬ c < w.heap.size := fun c x hm => by
    rcases (hS.mem c x hm).1 with e | e
    · exact Nat.not_lt.2 e
    · cases e
  rcases hend with ⟨tok, ht, hlen⟩ | ⟨r, ht, hr⟩
  · have hR := ev_R (x := .tmp t) hS ht
    have hrun : (results fn a.tmps).run P w' = .ok (a.eval (.tmp t)) w' := by
      obtain ⟨u, hu, hC⟩ := run_results (P := P) (fn := fn) (qs := [(false, 0)]) (r := .sl false els) hS (by rw [hq]; rfl) (by rw [hq]; simp [resAll, res1, ht, tov, packR])
      have e0 : fn.results = #[.tmp t] := by have := congrArg List.toArray hq; simpa using this
      simp [results, e0, Act.eval]
    generalize a.eval (.tmp t) = u at hR hrun
    refine ⟨u, hrun, ?_⟩
    cases hR with
    | acc0 => exact absurd rfl hne
    | @acc _ _ c n cap sz g1 g2 g3 g4 g5 g6 =>
      subst g2
      have hκ := g6 hlen
      obtain ⟨k1, cs, ty, arr, k2, k3, k4, k5, k6⟩ := hS.tok tok (by rw [← hlen]; exact List.length_pos_iff.2 g1)
      rw [hκ] at k1 k2 k3 k4 k5 k6
      simp only at k1 k2 k3 k4 k5 k6
      obtain ⟨arr', q1, q2, q3, q4⟩ := g4
      rw [k4] at q1
      cases q1
      obtain ⟨cs1, ty1, fz1, more, z1, z2⟩ := hS.good c arr k4
      rw [k2] at z1
      cases z1
      have hfl := flat_length q2
      have harr : arr.take (flat els).length = arr := List.take_of_length_le (by rw [hfl, hlen, ← k5]; exact Nat.le_refl _)
      rw [harr] at q3
      have hcN : ∀ J' : Imm, Cs J' (flat els) arr := fun J' => RFs.any hrf q3
      have hIn : I c = none := by
        cases hI : I c with
        | none => rfl
        | some x =>
          have := (hg.lt hI)
          exact absurd this (Nat.not_lt.2 k1)
      have hsz : (flat els).length + more.length = cap * sz := by
        rw [← k3, (hcN I).length, ← List.length_append, ← z2]
        exact Array.length_toList
      refine ⟨_, I, .s (.slice (some ⟨c, 0, none⟩) els.length cap), nomem.put c (flat els ++ List.replicate more.length .junk), rfl, ⟨c, cap, more.length, sz, g1, g3, q2, hsz, rfl, rfl⟩, hB, Imm.le_refl _, hg.below hB.ofNone, fun _ _ => rfl, ?_, ?_, .s _⟩
      · intro d x hd
        by_cases e : d = c
        · subst e
          rw [Mem.put_same] at hd
          cases hd
          exact ⟨hIn, cs, ty, k2, by rw [z2]; exact (hcN I).append (Cs_junks I more)⟩
        · rw [Mem.put_other _ _ e] at hd
          cases hd
      · intro d hd _
        have e : d ≠ c := fun e => by rw [e] at hd; exact absurd hd (Nat.not_lt.2 k1)
        rw [Mem.put_other _ _ e]
        rfl
  · obtain ⟨u, hu, hC⟩ := run_results (P := P) (fn := fn) (qs := [(false, 0)]) (r := r) hS (by rw [hq]; rfl) (by rw [hq]; simp [resAll, res1, ht, tov, packR])
    refine ⟨u, hu, u, J, r, s.mm, rfl, hr, hB, hS.ext, hS.good, hS.old, hS.memAt, fun c hc _ => ?_, hC⟩
    cases hm : s.mm c with
    | none => rfl
    | some x => exact absurd hc (hold c x hm)
theorem oka_fn (hm : P.follows .mixedOrders = true) {f : FuncId} {fn : Func} {code : Code} {h : Hint} {t : Nat} {args els : List PV} (hf : P.funcs[f]? = some fn) (hb : fn.body = some code) (hk : okF P fn h [(false, 0)] = true)
    (hq : fn.results.toList = [.tmp t]) (hrf : RFs (flat els) = true) (hne : els ≠ [])
    (hwp : wpA P none (acOf h code) (atEnd fun s => (∃ tok, s.tm[t]? = some (.acc tok els) ∧ els.length = tkOf s.tk tok) ∨ (∃ r, s.tm[t]? = some (.v r) ∧ RowA els r s.mm)) (initS args fn.ntmps)) : OkA P f args els := by
  obtain ⟨h1, h2, h3⟩ := okF_spec hb hk
  exact okA_of hf h1 hb (ag_of hm h code h3) hq hrf hne hwp
/-- The same, told as a value. -/
theorem OkA.val {f : FuncId} {args els : List PV} (h : OkA P f args els) : Ok P f args (.sl false els) := by
  refine Ok.ofM h ?_
  rintro r m ⟨c, cap, k, sz, hne, hcap, hu, hlen, rfl, rfl⟩
  refine .row (Mem.put_same _ _ _) hu rfl (by rw [List.length_append]; omega) hcap (fun h => by cases h) ?_
  rw [List.drop_zero, List.take_left]
  exact Tells.same _ _
theorem RowA.rf {els : List PV} (h : RFs (flat els) = true) (r : PV) (m : Mem) (hr : RowA els r m) : RF r = true ∧ ∀ c cells, m c = some cells → RFs cells = true := by
  obtain ⟨c, cap, k, sz, hne, h1, _, _, rfl, rfl⟩ := hr
  refine ⟨rfl, fun d cells hd => ?_⟩
  by_cases e : d = c
  · subst e
    rw [Mem.put_same] at hd
    cases hd
    exact RFs_append h (RFs_junk k)
  · rw [Mem.put_other _ _ e] at hd
    cases hd
/-- A call that hands such a row on. -/
theorem rowA_fn {d : Option Nat} {f : Operand} {xs : Array Operand} {ts : Array TypeId} {k : Nat} {caps ps l els : List PV} (hf : ev s f = some (.v (.fn (.func k) caps))) (hp : pvs s xs.toList = some ps) (ht : Tells s.mm (ps ++ caps) l) (hOk : OkA P k l els) (hr : RFs (flat els) = true)
    (hK : ∀ c cap q sz, s.mm c = none → els ≠ [] → els.length ≤ cap → (∀ e ∈ els, e.cells.length = sz) → (flat els).length + q = cap * sz → K { putT s d (.v (.s (.slice (some ⟨c, 0, none⟩) els.length cap))) with mm := s.mm.put c (flat els ++ List.replicate q .junk) }) : lendNewA P s d ⟨.value f, xs, ts⟩ K := by
  refine lendNew_fn hf hp ht hOk (RowA.rf hr) ?_
  rintro r m' ⟨c, cap, q, sz, hne, h1, h2, h3, rfl, rfl⟩ hfree
  have hc := hfree c (by rw [Mem.put_same]; rfl)
  have := hK c cap q sz hc hne h1 h2 h3
  rw [Mem.join_put]
  exact this
theorem step_lendAcc (d : Option Nat) (c : Call) (g : Option (Nat × Bool)) (pre : List Nat) (i : Inf) (hi : i.mc = 9) : execA P its s ⟨d, .call c, g, pre, i⟩ K = (lendAccA P s d c K ∨ lendA P s d c K) := by
  rw [execA_more (n := 8) (by exact hi)]; unfold execM; simp only [hi]
/-- A call whose result will be appended to. -/
theorem acc_fn {d : Nat} {f : Operand} {xs : Array Operand} {ts : Array TypeId} {k : Nat} {caps ps l els : List PV} (hf : ev s f = some (.v (.fn (.func k) caps))) (hp : pvs s xs.toList = some ps) (ht : Tells s.mm (ps ++ caps) l) (hOk : OkA P k l els) (hr : RFs (flat els) = true)
    (hK : K (putT { s.newTok d with tk := upd d els.length (s.newTok d).tk } (some d) (.acc d els))) : lendAccA P s (some d) ⟨.value f, xs, ts⟩ K ∨ lendA P s (some d) ⟨.value f, xs, ts⟩ K := by
  left
  unfold lendAccA
  simp only [hf, hp]
  exact ⟨l, els, ht, hOk, hr, hK⟩
theorem accNil_fn {d : Option Nat} {f : Operand} {xs : Array Operand} {ts : Array TypeId} {k : Nat} {caps ps l : List PV} {r : PV} (hf : ev s f = some (.v (.fn (.func k) caps))) (hp : pvs s xs.toList = some ps) (ht : Tells s.mm (ps ++ caps) l) (hOk : Ok P k l r) (hr : RF r = true)
    (hK : K (putT s d (.v r))) : lendAccA P s d ⟨.value f, xs, ts⟩ K ∨ lendA P s d ⟨.value f, xs, ts⟩ K := .inr (lend_fn hf hp ht hOk hr hK)
theorem nilA_acc {t : Nat} {els : List PV} (d : Option Nat) (x : Operand) (h : ev s x = some (.acc t els)) : nilA s d x K = K (putT s d (bl els.isEmpty)) := by
  unfold nilA; rw [h]
/-- A region told for any order: what holds of the state when these operations are done. -/
theorem wp_regi {id : Nat} {ops : List Oper} {l : List (Nat × Inf)} {d : Bool} (Inv : (Nat → Bool) → St → Prop) (h0 : Inv (fun _ => false) s)
    (hstep : ∀ (D : Nat → Bool) (i : Nat) (o : AO) (s : St), (aoL 0 ops l)[i]? = some o → D i = false → (∀ j ∈ o.pre, D j = true) → Inv D s → wpOp P none (aoL 0 ops l) o s (Inv fun j => D j || j == i))
    (hfin : ∀ (D : Nat → Bool) (s : St), (∀ j, j < (aoL 0 ops l).length → D j = true) → Inv D s → Q .normal s) : wpA P its (acOf (.i l) (.region id ⟨ops⟩ d)) Q s := ⟨Inv, h0, hstep, hfin⟩
end
end Go.Proofs.YtambpjbpdackfaaGreat.A


set_option linter.unusedVariables false
namespace Go.Proofs.YtambpjbpdackfaaGreat.A
open Go Go.RowKit Go.Shelf
/- (couplet/lanes.Pair).State -/
def hM58 : Hint := .s (.r [(0, { n := 24 })]) (.s (.b (.s (.r [(0, { n := 24, agg := true })]) (.s (.s (.o) (.o)) (.s (.o) (.s (.s (.r [(0, { off := 0 }), (1, { off := 0 }), (2, { n := 1, agg := false })]) (.o)) (.o)))))) (.s (.r [(0, { off := 4 }), (1, { off := 0 }), (2, { n := 1, agg := false })]) (.o)))
theorem kM58 : okF Tryz.prog Tryz.f58 hM58 [(false, 0)] = true := by kernel_rfl

/- (couplet/lanes.Pair).Cover -/
def hM59 : Hint := .s (.r [(0, { n := 24 })]) (.s (.b (.s (.r [(0, { n := 24, agg := true })]) (.s (.s (.o) (.o)) (.s (.o) (.s (.s (.r [(0, { off := 0 }), (1, { off := 1 }), (2, { off := 2 }), (3, { n := 1, agg := false })]) (.o)) (.o)))))) (.s (.r [(0, { off := 4 }), (1, { n := 4, agg := true }), (3, { off := 2, n := 1, agg := false })]) (.o)))
theorem kM59 : okF Tryz.prog Tryz.f59 hM59 [(false, 0)] = true := by kernel_rfl

/- (couplet/lanes.Pair).Words -/
def hM56 : Hint := .s (.r [(0, { n := 24 })]) (.s (.r [(0, { n := 24, agg := true }), (2, { mc := 9 }), (3, { zero := [(.slice none 0 0)], acc := [(0, 1005)] }), (4, { n := 1 })]) (.s (.s (.r [(0, { n := 1, agg := false }), (1, { n := 3, t := 1 })]) (.s (.s (.o) (.o)) (.o))) (.s (.s (.r [(0, { n := 24, agg := true })]) (.b (.f [.row 5 0 5005] (.s (.o) (.o)) (.b (.r [(0, { n := 1, agg := false }), (4, { n := 4 }), (5, { n := 4, t := 32 }), (6, { n := 1 })]))))) (.s (.r [(0, { n := 1, agg := false })]) (.o)))))
theorem kM56 : okF Tryz.prog Tryz.f56 hM56 [(false, 0)] = true := by kernel_rfl

end Go.Proofs.YtambpjbpdackfaaGreat.A



set_option linter.unusedVariables false
set_option linter.unusedSimpArgs false
set_option maxRecDepth 100000
namespace Go.Proofs.YtambpjbpdackfaaGreat.A.E
open Go Go.RowKit Go.Shelf

/-! ### What a lane holds -/
theorem oka71 (ex : Bool) (l : List Fr) (hl : l ≠ []) (h : l.length ≤ 4398046511104) : OkA Tryz.prog 71 [.sl ex (frs l)] (frs l) := by
  have hfit : fits 4 32 [] (frs l) = true := by
    have := fits_frs (k := []) (l := l) (by simpa using h)
    simpa using this
  have he : (frs l).isEmpty = false := by cases l <;> simp_all
  refine oka_fn mixed Tryz.func71 (code := ?_) (h := hN71) ?_ kN71 rfl (RFs_frs l) (by simpa using hl) ?_
  rotate_left
  · exact rfl
  unfold hN71 initS
  simp -implicitDefEqProofs (maxSteps := 10000000) only [rkA, rkB, stepA, valA, simprocAttr, Tryz.ntmps71, Tryz.results71]
  refine nilA_sl _ _ rfl fun b hb => ?_
  have hb' := hb he
  subst hb'
  simp -implicitDefEqProofs (maxSteps := 10000000) only [hfit, he, rkA, rkB, stepA, valA, simprocAttr]
  refine .inl ⟨7, ?_⟩
  simp -implicitDefEqProofs (maxSteps := 10000000) only [rkA, rkB, stepA, valA, simprocAttr]
/-- A lane's numbers, and its matrix. -/
def Pr.lx' (q : Pr) (lane : Int) : List Fr := if lane = 0 then q.x else q.y
def Pr.lm (q : Pr) (lane : Int) : List Fr := if lane = 0 then q.p else q.s
def laneOk (lane : Int) : Bool := decide (0 ≤ lane) && decide (lane ≤ 1)
theorem lane_two {lane : Int} (h : laneOk lane = true) : lane = 0 ∨ lane = 1 := by
  unfold laneOk at h
  simp only [Bool.and_eq_true, decide_eq_true_eq] at h
  omega
theorem ok58_nil (lane : Int) : Ok Tryz.prog 58 [pairNil, num lane] nilV := by
  refine ok_fn mixed Tryz.func58 (code := ?_) (h := hM58) ?_ kM58 ?_
  rotate_left
  · exact rfl
  unfold hM58 initS
  simp -implicitDefEqProofs (maxSteps := 10000000) only [rkA, rkB, stepA, valA, simprocAttr, Tryz.ntmps58, Tryz.results58]
  refine call_fn rfl rfl rfl (ok42_nil) ?_
  simp -implicitDefEqProofs (maxSteps := 10000000) only [rkA, rkB, stepA, valA, simprocAttr]
theorem ok58_out (b1 b2 b3 b4 : Bool) (q : Pr) (h : q.good) (lane : Int) (hl : laneOk lane = false) : Ok Tryz.prog 58 [pairV b1 b2 b3 b4 q, num lane] nilV := by
  refine ok_fn mixed Tryz.func58 (code := ?_) (h := hM58) ?_ kM58 ?_
  rotate_left
  · exact rfl
  unfold hM58 initS
  simp -implicitDefEqProofs (maxSteps := 10000000) only [rkA, rkB, stepA, valA, simprocAttr, Tryz.ntmps58, Tryz.results58]
  refine call_fn rfl rfl rfl (ok42 b1 b2 b3 b4 q h) ?_
  unfold laneOk at hl
  by_cases h1 : lane < 0
  · simp -implicitDefEqProofs (maxSteps := 10000000) only [h1, rkA, rkB, stepA, valA, simprocAttr]
  · have h2 : lane > 1 := by
      have : decide (0 ≤ lane) = true := by simp; omega
      rw [this] at hl
      simp at hl
      omega
    simp -implicitDefEqProofs (maxSteps := 10000000) only [h1, h2, rkA, rkB, stepA, valA, simprocAttr]
theorem Pr.good.xne {q : Pr} (h : q.good) (lane : Int) : q.lx' lane ≠ [] := by
  have h1 := h.n1
  unfold Pr.lx'
  split
  · intro e
    have := h.lx
    rw [e] at this
    simp at this
    omega
  · intro e
    have := h.ly
    rw [e] at this
    simp at this
    omega
theorem oka58 (b1 b2 b3 b4 : Bool) (q : Pr) (h : q.good) (lane : Int) (hl : laneOk lane = true) : OkA Tryz.prog 58 [pairV b1 b2 b3 b4 q, num lane] (frs (q.lx' lane)) := by
  have hne := h.xne lane
  have h4 := h.n4
  have l1 := h.lx
  have l2 := h.ly
  refine oka_fn mixed Tryz.func58 (code := ?_) (h := hN58) ?_ kN58 rfl (RFs_frs _) (by simpa using hne) ?_
  rotate_left
  · exact rfl
  unfold hN58 initS
  simp -implicitDefEqProofs (maxSteps := 10000000) only [rkA, rkB, stepA, valA, simprocAttr, Tryz.ntmps58, Tryz.results58]
  refine call_fn rfl rfl rfl (ok42 b1 b2 b3 b4 q h) ?_
  rcases lane_two hl with rfl | rfl
  · have k1 : ¬ (0 : Int) < 0 := by omega
    have k2 : ¬ (0 : Int) > 1 := by omega
    have k3 : ((0 : Int) == 0) = true := by decide
    simp -implicitDefEqProofs (maxSteps := 10000000) only [k1, k2, k3, rkA, rkB, stepA, valA, simprocAttr]
    refine rowA_fn rfl rfl (Tells.same _ _) (oka71 b1 q.x hne (by omega)) (RFs_frs _) ?_
    intro c cap k sz hc hn hcap hu hlen
    simp -implicitDefEqProofs (maxSteps := 10000000) only [rkA, rkB, stepA, valA, simprocAttr]
    exact .inr ⟨_, rfl, c, cap, k, sz, hn, hcap, hu, hlen, rfl, rfl⟩
  · have k1 : ¬ (1 : Int) < 0 := by omega
    have k2 : ¬ (1 : Int) > 1 := by omega
    have k3 : ((1 : Int) == 0) = false := by decide
    simp -implicitDefEqProofs (maxSteps := 10000000) only [k1, k2, k3, rkA, rkB, stepA, valA, simprocAttr]
    refine rowA_fn rfl rfl (Tells.same _ _) (oka71 b3 q.y hne (by omega)) (RFs_frs _) ?_
    intro c cap k sz hc hn hcap hu hlen
    simp -implicitDefEqProofs (maxSteps := 10000000) only [rkA, rkB, stepA, valA, simprocAttr]
    exact .inr ⟨_, rfl, c, cap, k, sz, hn, hcap, hu, hlen, rfl, rfl⟩
theorem ok58 (b1 b2 b3 b4 : Bool) (q : Pr) (h : q.good) (lane : Int) (hl : laneOk lane = true) : Ok Tryz.prog 58 [pairV b1 b2 b3 b4 q, num lane] (.sl false (frs (q.lx' lane))) := (oka58 b1 b2 b3 b4 q h lane hl).val
/-- What a lane's matrix stands for. -/
def Pr.cov (q : Pr) (lane : Int) : List Fr := if lane = 0 then q.p else sqF q.n q.s
theorem ok59_nil (lane : Int) : Ok Tryz.prog 59 [pairNil, num lane] nilV := by
  refine ok_fn mixed Tryz.func59 (code := ?_) (h := hM59) ?_ kM59 ?_
  rotate_left
  · exact rfl
  unfold hM59 initS
  simp -implicitDefEqProofs (maxSteps := 10000000) only [rkA, rkB, stepA, valA, simprocAttr, Tryz.ntmps59, Tryz.results59]
  refine call_fn rfl rfl rfl (ok42_nil) ?_
  simp -implicitDefEqProofs (maxSteps := 10000000) only [rkA, rkB, stepA, valA, simprocAttr]
theorem ok59_out (b1 b2 b3 b4 : Bool) (q : Pr) (h : q.good) (lane : Int) (hl : laneOk lane = false) : Ok Tryz.prog 59 [pairV b1 b2 b3 b4 q, num lane] nilV := by
  refine ok_fn mixed Tryz.func59 (code := ?_) (h := hM59) ?_ kM59 ?_
  rotate_left
  · exact rfl
  unfold hM59 initS
  simp -implicitDefEqProofs (maxSteps := 10000000) only [rkA, rkB, stepA, valA, simprocAttr, Tryz.ntmps59, Tryz.results59]
  refine call_fn rfl rfl rfl (ok42 b1 b2 b3 b4 q h) ?_
  unfold laneOk at hl
  by_cases h1 : lane < 0
  · simp -implicitDefEqProofs (maxSteps := 10000000) only [h1, rkA, rkB, stepA, valA, simprocAttr]
  · have h2 : lane > 1 := by
      have : decide (0 ≤ lane) = true := by simp; omega
      rw [this] at hl
      simp at hl
      omega
    simp -implicitDefEqProofs (maxSteps := 10000000) only [h1, h2, rkA, rkB, stepA, valA, simprocAttr]
theorem ok59 (b1 b2 b3 b4 : Bool) (q : Pr) (h : q.good) (lane : Int) (hl : laneOk lane = true) : Ok Tryz.prog 59 [pairV b1 b2 b3 b4 q, num lane] (.sl false (frs (q.cov lane))) := by
  have h1 := h.n1
  have h4 := h.n4
  have l1 := h.lp
  have l2 := h.ly
  have hnn : q.n * q.n ≤ 4 * 4 := Nat.mul_le_mul h4 h4
  have h22 := ok34 b3 b4 q.y q.s q.n h.ls
  rw [if_pos (by omega)] at h22
  refine ok_fn mixed Tryz.func59 (code := ?_) (h := h59) ?_ k59 ?_
  rotate_left
  · exact rfl
  unfold h59 initS
  simp -implicitDefEqProofs (maxSteps := 10000000) only [rkA, rkB, stepA, valA, simprocAttr, Tryz.ntmps59, Tryz.results59]
  refine call_fn rfl rfl rfl (ok42 b1 b2 b3 b4 q h) ?_
  rcases lane_two hl with rfl | rfl
  · have k1 : ¬ (0 : Int) < 0 := by omega
    have k2 : ¬ (0 : Int) > 1 := by omega
    have k3 : ((0 : Int) == 0) = true := by decide
    simp -implicitDefEqProofs (maxSteps := 10000000) only [k1, k2, k3, rkA, rkB, stepA, valA, simprocAttr]
    refine call_fn rfl rfl rfl (ok71 b2 q.p (by omega)) ?_
    simp -implicitDefEqProofs (maxSteps := 10000000) only [Pr.cov, if_true, rkA, rkB, stepA, valA, simprocAttr]
  · have k1 : ¬ (1 : Int) < 0 := by omega
    have k2 : ¬ (1 : Int) > 1 := by omega
    have k3 : ((1 : Int) == 0) = false := by decide
    have k4 : ¬ (1 : Int) = 0 := by decide
    simp -implicitDefEqProofs (maxSteps := 10000000) only [k1, k2, k3, rkA, rkB, stepA, valA, simprocAttr]
    refine call_fn rfl rfl rfl (h22) ?_
    simp -implicitDefEqProofs (maxSteps := 10000000) only [Pr.cov, k4, if_false, rkA, rkB, stepA, valA, simprocAttr]
theorem ok133 (b1 b2 b3 b4 : Bool) (q : Pr) (lane : Int) : Ok Tryz.prog 133 [pairV b1 b2 b3 b4 q, num lane] (matV (if lane = 0 then b2 else b4) q.n q.n (frs (q.lm lane))) := by
  refine ok_fn mixed Tryz.func133 (code := ?_) (h := h133) ?_ k133 ?_
  rotate_left
  · exact rfl
  unfold h133 initS
  simp -implicitDefEqProofs (maxSteps := 10000000) only [rkA, rkB, stepA, valA, simprocAttr, Tryz.ntmps133, Tryz.results133]
  by_cases h : lane = 0
  · subst h
    have k3 : ((0 : Int) == 0) = true := by decide
    simp -implicitDefEqProofs (maxSteps := 10000000) only [k3, Pr.lm, if_true, rkA, rkB, stepA, valA, simprocAttr]
  · have k3 : (lane == 0) = false := by simpa using h
    simp -implicitDefEqProofs (maxSteps := 10000000) only [k3, Pr.lm, h, if_false, rkA, rkB, stepA, valA, simprocAttr]
/-- A lane's words. -/
def trilF (n : Nat) (l : List Fr) (i : Nat) : List Fr := (List.range i).flatMap fun (j : Nat) => (rowF n n l (j : Int)).take (j + 1)
def Pr.words (q : Pr) (lane : Int) : List Fr := q.lx' lane ++ trilF q.n (q.lm lane) q.n
theorem ok56_nil (lane : Int) : Ok Tryz.prog 56 [pairNil, num lane] nilV := by
  refine ok_fn mixed Tryz.func56 (code := ?_) (h := hM56) ?_ kM56 ?_
  rotate_left
  · exact rfl
  unfold hM56 initS
  simp -implicitDefEqProofs (maxSteps := 10000000) only [rkA, rkB, stepA, valA, simprocAttr, Tryz.ntmps56, Tryz.results56]
  simp -implicitDefEqProofs (maxSteps := 10000000) only [step_lendAcc, rkA, rkB, stepA, valA, simprocAttr]
  refine accNil_fn rfl rfl (Tells.same _ _) (ok58_nil lane) rfl ?_
  simp -implicitDefEqProofs (maxSteps := 10000000) only [rkA, rkB, stepA, valA, simprocAttr]
theorem ok56_out (b1 b2 b3 b4 : Bool) (q : Pr) (h : q.good) (lane : Int) (hl : laneOk lane = false) : Ok Tryz.prog 56 [pairV b1 b2 b3 b4 q, num lane] nilV := by
  refine ok_fn mixed Tryz.func56 (code := ?_) (h := hM56) ?_ kM56 ?_
  rotate_left
  · exact rfl
  unfold hM56 initS
  simp -implicitDefEqProofs (maxSteps := 10000000) only [rkA, rkB, stepA, valA, simprocAttr, Tryz.ntmps56, Tryz.results56]
  simp -implicitDefEqProofs (maxSteps := 10000000) only [step_lendAcc, rkA, rkB, stepA, valA, simprocAttr]
  refine accNil_fn rfl rfl (Tells.same _ _) (ok58_out b1 b2 b3 b4 q h lane hl) rfl ?_
  simp -implicitDefEqProofs (maxSteps := 10000000) only [rkA, rkB, stepA, valA, simprocAttr]
abbrev bxP (b1 b2 b3 b4 : Bool) (q : Pr) : List TV := [.v (.sl b1 (frs q.x)), nt q.n, nt q.n, .v (.sl b2 (frs q.p)), .v (.sl b3 (frs q.y)), nt q.n, nt q.n, .v (.sl b4 (frs q.s)),
  nt q.e0.v, nt q.e0.lo, nt q.e0.hi, .v (tru q.e0.bad), nt q.a0.v, nt q.a0.lo, nt q.a0.hi, .v (tru q.a0.bad), nt q.e1.v, nt q.e1.lo, nt q.e1.hi, .v (tru q.e1.bad), nt q.a1.v, nt q.a1.lo, nt q.a1.hi, .v (tru q.a1.bad)]
theorem Pr.good.lml {q : Pr} (h : q.good) (lane : Int) : (q.lm lane).length = q.n * q.n := by
  unfold Pr.lm
  split
  · exact h.lp
  · exact h.ls
theorem Pr.good.lxl {q : Pr} (h : q.good) (lane : Int) : (q.lx' lane).length = q.n := by
  unfold Pr.lx'
  split
  · exact h.lx
  · exact h.ly
theorem tril_len {n : Nat} {l : List Fr} (hr : right (n : Int) (n : Int) l.length = true) : ∀ i, i ≤ n → (trilF n l i).length ≤ i * n
  | 0, _ => by simp [trilF]
  | i + 1, hi => by
    have ih := tril_len hr i (by omega)
    unfold trilF at ih ⊢
    rw [List.range_succ, List.flatMap_append, List.length_append]
    simp only [List.flatMap_cons, List.flatMap_nil, List.append_nil, List.length_take]
    have lr : (rowF n n l (i : Int)).length = n := by rw [rowF_len hr (by simp; omega), Int.toNat_natCast]
    rw [lr, Nat.add_mul]
    omega
theorem tril_succ (n : Nat) (l : List Fr) (i : Nat) : trilF n l (i + 1) = trilF n l i ++ (rowF n n l (i : Int)).take (i + 1) := by
  unfold trilF
  rw [List.range_succ, List.flatMap_append]
  simp
theorem oka56 (b1 b2 b3 b4 : Bool) (q : Pr) (h : q.good) (lane : Int) (hl : laneOk lane = true) : OkA Tryz.prog 56 [pairV b1 b2 b3 b4 q, num lane] (frs (q.words lane)) := by
  have hne := h.xne lane
  have he : (frs (q.lx' lane)).isEmpty = false := by cases hh : q.lx' lane <;> simp_all
  refine oka_fn mixed Tryz.func56 (code := ?_) (h := hM56) ?_ kM56 rfl (RFs_frs _) (by unfold Pr.words; simp [hne]) ?_
  rotate_left
  · exact rfl
  unfold hM56 initS
  simp -implicitDefEqProofs (maxSteps := 10000000) only [rkA, rkB, stepA, valA, simprocAttr, Tryz.ntmps56, Tryz.results56]
  simp -implicitDefEqProofs (maxSteps := 10000000) only [step_lendAcc, rkA, rkB, stepA, valA, simprocAttr]
  refine acc_fn rfl rfl (Tells.same _ _) (oka58 b1 b2 b3 b4 q h lane hl) (RFs_frs _) ?_
  simp -implicitDefEqProofs (maxSteps := 10000000) only [rkA, rkB, stepA, valA, simprocAttr]
  rw [nilA_acc (t := 10) (els := frs (q.lx' lane)) _ _ rfl, he]
  simp -implicitDefEqProofs (maxSteps := 10000000) only [rkA, rkB, stepA, valA, simprocAttr]
  refine call_fn rfl rfl rfl (ok133 b1 b2 b3 b4 q lane) ?_
  simp -implicitDefEqProofs (maxSteps := 10000000) only [rkA, rkB, stepA, valA, simprocAttr]
  refine call_fn rfl rfl rfl (ok75 (if lane = 0 then b2 else b4) q.n q.n (q.lm lane)) ?_
  simp -implicitDefEqProofs (maxSteps := 10000000) only [rkA, rkB, stepA, valA, simprocAttr]
  have hr : right (q.n : Int) (q.n : Int) (q.lm lane).length = true := right_sq ⟨h.n1, by have := h.n4; omega⟩ (h.lml lane)
  have h1 := h.n1
  have h4 := h.n4
  have lx := h.lxl lane
  refine wp_rf' (items := rowsF q.n q.n (q.lm lane)) rfl (it149 (if lane = 0 then b2 else b4) q.n q.n (q.lm lane)) (fun sv i s => i ≤ q.n ∧ s = ⟨[], [(2, bxP b1 b2 b3 b4 q), (5, [.acc 10 (frs (q.lx' lane ++ trilF q.n (q.lm lane) i))])], [], [(10, (q.lx' lane ++ trilF q.n (q.lm lane) i).length), (1005, 0)], sv, 0, nomem⟩) ?_ ?_ ?_
  · simp -implicitDefEqProofs (maxSteps := 10000000) only [rkA, rkB, stepA, valA, simprocAttr]
    exact ⟨Nat.zero_le _, by simp only [trilF, List.range_zero, List.flatMap_nil, List.append_nil, List.length_map]⟩
  · rintro i x' s' R hx ⟨hi, rfl⟩ hR
    obtain ⟨hlt, rfl, hxi⟩ := rowsF_all hr hx
    have hlt' : i < q.n := by simpa using hlt
    refine ⟨rfl, ?_⟩
    have lr : (rowF q.n q.n (q.lm lane) (i : Int)).length = q.n := by rw [rowF_len hr hlt, Int.toNat_natCast]
    have hsl := slice_to (ex := false) (l := rowF q.n q.n (q.lm lane) (i : Int)) (k := i + 1) (by omega)
    have hi1 : (i : Int) + 1 = ((i + 1 : Nat) : Int) := by simp
    have hw := wrapped (x := ((i + 1 : Nat) : Int)) (by omega) (by omega)
    have n1 : (0 : Int) ≤ ((i + 1 : Nat) : Int) := by omega
    have hln : (q.lx' lane ++ trilF q.n (q.lm lane) i).length ≤ 4 + 4 * 4 := by
      have t0 := tril_len hr i hi
      have : i * q.n ≤ 4 * 4 := Nat.mul_le_mul (by omega) h4
      rw [List.length_append]
      omega
    have hfit : fits 4 32 (frs (q.lx' lane ++ trilF q.n (q.lm lane) i)) (frs ((rowF q.n q.n (q.lm lane) (i : Int)).take (i + 1))) = true := fits_frs (by rw [List.length_take]; omega)
    have hl' : (frs (q.lx' lane ++ trilF q.n (q.lm lane) i)).length = (q.lx' lane ++ trilF q.n (q.lm lane) i).length := by rw [List.length_map]
    have hl2 : (frs ((rowF q.n q.n (q.lm lane) (i : Int)).take (i + 1))).length = ((rowF q.n q.n (q.lm lane) (i : Int)).take (i + 1)).length := by rw [List.length_map]
    simp -implicitDefEqProofs (maxSteps := 10000000) only [hi1, hw, n1, Int.toNat_natCast, hsl, hfit, hl', hl2, rkA, rkB, stepA, valA, simprocAttr]
    refine hR _ ⟨by omega, ?_⟩
    rw [tril_succ, ← List.append_assoc]
    simp only [List.map_append, List.length_append]
  · rintro s' ⟨hi, rfl⟩
    simp -implicitDefEqProofs (maxSteps := 10000000) only [rkA, rkB, stepA, valA, simprocAttr]
    rw [rowsF_length hr]
    refine .inl ⟨10, ?_⟩
    simp -implicitDefEqProofs (maxSteps := 10000000) only [Pr.words, List.length_map, Int.toNat_natCast, rkA, rkB, stepA, valA, simprocAttr]
end Go.Proofs.YtambpjbpdackfaaGreat.A.E



set_option linter.unusedVariables false
set_option linter.unusedSimpArgs false
set_option maxRecDepth 100000
namespace Go.Proofs.YtambpjbpdackfaaGreat.A.E
open Go Go.RowKit Go.Shelf

/-! ### Is a pair ruined? -/
theorem ok121 (x : Fr) : Ok Tryz.prog 121 [frV x] (tru x.bad) := by
  refine ok_fn mixed Tryz.func121 (code := ?_) (h := h121) ?_ k121 ?_
  rotate_left
  · exact rfl
  unfold h121 initS
  simp -implicitDefEqProofs (maxSteps := 10000000) only [rkA, rkB, stepA, valA, simprocAttr, Tryz.ntmps121, Tryz.results121]
theorem ok185 (e : Bool) (f : Nat) (caps : List PV) (p : Fr → Bool) (l : List Fr) (hl : l.length ≤ 4398046511104) (hp : ∀ x ∈ l, Ok Tryz.prog f ([frV x] ++ caps) (tru (p x))) : Ok Tryz.prog 185 [.sl e (frs l), .fn (.func f) caps] (num (ixOf p l)) := by
  refine ok_fn mixed Tryz.func185 (code := ?_) (h := h185) ?_ k185 ?_
  rotate_left
  · exact rfl
  unfold h185 initS
  simp -implicitDefEqProofs (maxSteps := 10000000) only [rkA, rkB, stepA, valA, simprocAttr, Tryz.ntmps185, Tryz.results185]
  refine wp_loop (fun m s => ∃ i : Nat, i + m = l.length ∧ (∀ j (hj : j < i) (hjl : j < l.length), p l[j] = false) ∧ s = ⟨[.v (.sl e (frs l)), .v (.fn (.func f) caps), jk, jk, jk, jk, jk, nt l.length, nt i, jk, jk, jk, jk, jk, jk, jk, jk, jk, jk], [], [], [], [], 0, nomem⟩) l.length ?_ ?_
  · simp -implicitDefEqProofs (maxSteps := 10000000) only [List.length_map, rkA, rkB, stepA, valA, simprocAttr]
    exact ⟨0, by omega, fun j hj => by omega, rfl⟩
  rintro m s ⟨i, hi, hb, rfl⟩
  simp -implicitDefEqProofs (maxSteps := 10000000) only [rkA, rkB, stepA, valA, simprocAttr]
  refine gB_dec ?_ ?_ <;> intro hc <;> simp -implicitDefEqProofs (maxSteps := 10000000) only [hc, rkA, rkB, stepA, valA, simprocAttr]
  · have hlt : i < l.length := by omega
    have h0 : (0 : Int) ≤ (i : Int) := by omega
    have hg : (frs l)[i]? = some (frV l[i]) := by simp [hlt]
    have hw := wrapped (x := (i : Int) + 1) (by omega) (by omega)
    have hpi := hp l[i] (List.getElem_mem hlt)
    simp -implicitDefEqProofs (maxSteps := 10000000) only [h0, Int.toNat_natCast, hg, rkA, rkB, stepA, valA, simprocAttr]
    refine call_fn rfl rfl rfl (hpi) ?_
    cases hpx : p l[i] with
    | true =>
      have := ixOf_at p l i hlt (fun j hj => hb j hj (by omega)) hpx
      simp -implicitDefEqProofs (maxSteps := 10000000) only [this, rkA, rkB, stepA, valA, simprocAttr]
    | false =>
      simp -implicitDefEqProofs (maxSteps := 10000000) only [hw, rkA, rkB, stepA, valA, simprocAttr]
      refine loopK_of (m' := m - 1) (by omega) ?_
      simp -implicitDefEqProofs (maxSteps := 10000000) only [rkA, rkB, stepA, valA, simprocAttr]
      refine ⟨i + 1, by omega, fun j hj hjl => ?_, by simp only [Int.natCast_add, Int.natCast_one]⟩
      by_cases ej : j = i
      · subst ej; exact hpx
      · exact hb j (by omega) hjl
  · have := ixOf_none p l fun j hj => hb j (by omega) hj
    simp -implicitDefEqProofs (maxSteps := 10000000) only [this, rkA, rkB, stepA, valA, simprocAttr]
theorem ok122 (e : Bool) (f : Nat) (caps : List PV) (p : Fr → Bool) (l : List Fr) (hl : l.length ≤ 4398046511104) (hp : ∀ x ∈ l, Ok Tryz.prog f ([frV x] ++ caps) (tru (p x))) : Ok Tryz.prog 122 [.sl e (frs l), .fn (.func f) caps] (tru (l.any p)) := by
  have ha := ixOf_any p l
  refine ok_fn mixed Tryz.func122 (code := ?_) (h := h122) ?_ k122 ?_
  rotate_left
  · exact rfl
  unfold h122 initS
  simp -implicitDefEqProofs (maxSteps := 10000000) only [rkA, rkB, stepA, valA, simprocAttr, Tryz.ntmps122, Tryz.results122]
  refine call_fn rfl rfl rfl (ok185 e f caps p l hl hp) ?_
  simp -implicitDefEqProofs (maxSteps := 10000000) only [ge_iff_le, ha, rkA, rkB, stepA, valA, simprocAttr]
abbrev newsP (q : Pr) : PV := .agg [num q.e0.v, num q.e0.lo, num q.e0.hi, tru q.e0.bad, num q.a0.v, num q.a0.lo, num q.a0.hi, tru q.a0.bad, num q.e1.v, num q.e1.lo, num q.e1.hi, tru q.e1.bad, num q.a1.v, num q.a1.lo, num q.a1.hi, tru q.a1.bad]
theorem ok43_nil : Ok Tryz.prog 43 [pairNil] (tru true) := by
  refine ok_fn mixed Tryz.func43 (code := ?_) (h := h43) ?_ k43 ?_
  rotate_left
  · exact rfl
  unfold h43 initS
  simp -implicitDefEqProofs (maxSteps := 10000000) only [rkA, rkB, stepA, valA, simprocAttr, Tryz.ntmps43, Tryz.results43]
  refine wp_loop (fun m s => ∃ i : Nat, i + m = 2 ∧ s = ⟨[jk, .ptr 1 0, jk, .v (.fn (.func 121) []), jk, jk, jk, .v (.agg [num 0, num 0, num 0, tru false, num 0, num 0, num 0, tru false, num 0, num 0, num 0, tru false, num 0, num 0, num 0, tru false]), nt i, jk, jk, jk, jk, jk, jk, jk, jk, jk, jk, jk, jk, jk, jk, jk, jk, jk, jk, jk, jk, jk, jk, jk, jk, jk, jk, jk, jk, jk, jk, jk, jk], [(1, [.v nilV, nt 0, nt 0, .v nilV, .v nilV, nt 0, nt 0, .v nilV, nt 0, nt 0, nt 0, .v (tru false), nt 0, nt 0, nt 0, .v (tru false), nt 0, nt 0, nt 0, .v (tru false), nt 0, nt 0, nt 0, .v (tru false)])], [], [], [], 0, nomem⟩) 2 ?_ ?_
  · simp -implicitDefEqProofs (maxSteps := 10000000) only [rkA, rkB, stepA, valA, simprocAttr]
    exact ⟨0, rfl, rfl⟩
  rintro m s ⟨i, hi, rfl⟩
  have w1 := wrapped (x := (0 : Int) + 1) (by omega) (by omega)
  have w2 := wrapped (x := (1 : Int) + 1) (by omega) (by omega)
  have w3 := wrapped (x := (1 : Int)) (by omega) (by omega)
  have w4 := wrapped (x := (2 : Int)) (by omega) (by omega)
  obtain rfl | rfl | rfl : i = 0 ∨ i = 1 ∨ i = 2 := by omega
  · have hc : ((0 : Nat) : Int) < 2 := by omega
    simp -implicitDefEqProofs (maxSteps := 10000000) only [hc, Int.natCast_zero, w1, w3, rkA, rkB, stepA, valA, simprocAttr]
    refine loopK_of (m' := 1) (by omega) ?_
    simp -implicitDefEqProofs (maxSteps := 10000000) only [rkA, rkB, stepA, valA, simprocAttr]
    exact ⟨1, rfl, rfl⟩
  · have hc : ((1 : Nat) : Int) < 2 := by omega
    simp -implicitDefEqProofs (maxSteps := 10000000) only [hc, Int.natCast_one, w2, w4, rkA, rkB, stepA, valA, simprocAttr]
    refine loopK_of (m' := 0) (by omega) ?_
    simp -implicitDefEqProofs (maxSteps := 10000000) only [rkA, rkB, stepA, valA, simprocAttr]
    exact ⟨2, rfl, rfl⟩
  · have hc : ¬ ((2 : Nat) : Int) < 2 := by omega
    simp -implicitDefEqProofs (maxSteps := 10000000) only [hc, rkA, rkB, stepA, valA, simprocAttr]
    refine call_fn rfl rfl rfl (ok42_nil) ?_
    simp -implicitDefEqProofs (maxSteps := 10000000) only [rkA, rkB, stepA, valA, simprocAttr]
theorem NewRow.tell {els : List PV} {sz : Nat} (hu : ∀ e ∈ els, e.cells.length = sz) (r : PV) (m : Mem) (h : NewRow els r m) : Tell m r (.sl false els) := by
  rcases h with ⟨rfl, rfl, a, rfl⟩ | ⟨hne, c, cap, k, hcap, rfl, rfl⟩
  · cases a with
    | none => exact .nil
    | some a => exact .empty
  · refine .row (Mem.put_same _ _ _) hu rfl (by rw [List.length_append]; omega) hcap (fun h => by cases h) ?_
    rw [List.drop_zero, List.take_left]
    exact Tells.same _ _
theorem ok123 (ex : Bool) (rows : List (List Fr)) (h0 : rows.flatten ≠ []) (h1 : rows.flatten.length ≤ 1000000) (h2 : rows.length ≤ 1000000) : Ok Tryz.prog 123 [.sl ex (catV rows)] (.sl false (frs rows.flatten)) :=
  Ok.ofM (okn123 ex rows h0 h1 h2) (NewRow.tell (frs_cells _))
def Pr.news (q : Pr) : Bool := q.e0.bad || (q.a0.bad || (q.e1.bad || q.a1.bad))
def Pr.all (q : Pr) : List Fr := [q.words 0, q.words 1, q.p, q.s].flatten
def Pr.ruin (q : Pr) : Bool := q.news || q.all.any (·.bad)
theorem words_le {q : Pr} (h : q.good) (lane : Int) : (q.words lane).length ≤ 20 := by
  have h4 := h.n4
  have hr : right (q.n : Int) (q.n : Int) (q.lm lane).length = true := right_sq ⟨h.n1, by omega⟩ (h.lml lane)
  have t0 := tril_len hr q.n (Nat.le_refl _)
  have : q.n * q.n ≤ 4 * 4 := Nat.mul_le_mul h4 h4
  have := h.lxl lane
  unfold Pr.words
  rw [List.length_append]
  omega
theorem ok43 (b1 b3 : Bool) (q : Pr) (h : q.good) : Ok Tryz.prog 43 [pairV b1 false b3 false q] (tru q.ruin) := by
  have hlane0 : laneOk 0 = true := by decide
  have hlane1 : laneOk 1 = true := by decide
  have k0 := words_le h 0
  have k1 := words_le h 1
  have h4 := h.n4
  have hnn : q.n * q.n ≤ 4 * 4 := Nat.mul_le_mul h4 h4
  have lp := h.lp
  have ls := h.ls
  have hfl : q.all.length ≤ 100 := by
    unfold Pr.all
    simp only [List.flatten_cons, List.flatten_nil, List.append_nil, List.length_append]
    omega
  have hfn : [q.words 0, q.words 1, q.p, q.s].flatten ≠ [] := by
    intro e
    have hx := h.lxl 0
    have := h.n1
    simp only [List.flatten_cons, List.flatten_nil, List.append_nil, Pr.words] at e
    have e2 := congrArg List.length e
    simp only [List.length_append, List.length_nil] at e2
    omega
  have hcat := ok123 true [q.words 0, q.words 1, q.p, q.s] hfn (by have : q.all.length ≤ 100 := hfl; unfold Pr.all at this; omega) (by simp)
  refine ok_fn mixed Tryz.func43 (code := ?_) (h := h43) ?_ k43 ?_
  rotate_left
  · exact rfl
  unfold h43 initS
  simp -implicitDefEqProofs (maxSteps := 10000000) only [rkA, rkB, stepA, valA, simprocAttr, Tryz.ntmps43, Tryz.results43]
  refine wp_loop (fun m s => ∃ i : Nat, i + m = 2 ∧ (1 ≤ i → q.e0.bad = false ∧ q.a0.bad = false) ∧ (2 ≤ i → q.e1.bad = false ∧ q.a1.bad = false) ∧ s = ⟨[jk, .ptr 1 0, jk, .v (.fn (.func 121) []), jk, jk, jk, .v (newsP q), nt i, jk, jk, jk, jk, jk, jk, jk, jk, jk, jk, jk, jk, jk, jk, jk, jk, jk, jk, jk, jk, jk, jk, jk, jk, jk, jk, jk, jk, jk, jk, jk, jk], [(1, bxP b1 false b3 false q)], [], [], [], 0, nomem⟩) 2 ?_ ?_
  · simp -implicitDefEqProofs (maxSteps := 10000000) only [rkA, rkB, stepA, valA, simprocAttr]
    exact ⟨0, rfl, fun h => by omega, fun h => by omega, rfl⟩
  rintro m s ⟨i, hi, hn1, hn2, rfl⟩
  have w1 := wrapped (x := (0 : Int) + 1) (by omega) (by omega)
  have w2 := wrapped (x := (1 : Int) + 1) (by omega) (by omega)
  have w3 := wrapped (x := (1 : Int)) (by omega) (by omega)
  have w4 := wrapped (x := (2 : Int)) (by omega) (by omega)
  obtain rfl | rfl | rfl : i = 0 ∨ i = 1 ∨ i = 2 := by omega
  · have hc : ((0 : Nat) : Int) < 2 := by omega
    simp -implicitDefEqProofs (maxSteps := 10000000) only [hc, Int.natCast_zero, w1, w3, rkA, rkB, stepA, valA, simprocAttr]
    cases he : q.e0.bad with
    | true =>
      have : q.ruin = true := by simp [Pr.ruin, Pr.news, he]
      simp -implicitDefEqProofs (maxSteps := 10000000) only [this, rkA, rkB, stepA, valA, simprocAttr]
    | false =>
      simp -implicitDefEqProofs (maxSteps := 10000000) only [rkA, rkB, stepA, valA, simprocAttr]
      cases ha : q.a0.bad with
      | true =>
        have : q.ruin = true := by simp [Pr.ruin, Pr.news, ha]
        simp -implicitDefEqProofs (maxSteps := 10000000) only [this, rkA, rkB, stepA, valA, simprocAttr]
      | false =>
        simp -implicitDefEqProofs (maxSteps := 10000000) only [rkA, rkB, stepA, valA, simprocAttr]
        refine loopK_of (m' := 1) (by omega) ?_
        simp -implicitDefEqProofs (maxSteps := 10000000) only [rkA, rkB, stepA, valA, simprocAttr]
        refine ⟨1, rfl, fun _ => ?_, fun h => by omega, ?_⟩ <;> first | exact ⟨he, ha⟩ | trivial | (simp [he, ha, w3, w4]; done)
  · have hc : ((1 : Nat) : Int) < 2 := by omega
    simp -implicitDefEqProofs (maxSteps := 10000000) only [hc, Int.natCast_one, w2, w4, rkA, rkB, stepA, valA, simprocAttr]
    cases he : q.e1.bad with
    | true =>
      have : q.ruin = true := by simp [Pr.ruin, Pr.news, he]
      simp -implicitDefEqProofs (maxSteps := 10000000) only [this, rkA, rkB, stepA, valA, simprocAttr]
    | false =>
      simp -implicitDefEqProofs (maxSteps := 10000000) only [rkA, rkB, stepA, valA, simprocAttr]
      cases ha : q.a1.bad with
      | true =>
        have : q.ruin = true := by simp [Pr.ruin, Pr.news, ha]
        simp -implicitDefEqProofs (maxSteps := 10000000) only [this, rkA, rkB, stepA, valA, simprocAttr]
      | false =>
        simp -implicitDefEqProofs (maxSteps := 10000000) only [rkA, rkB, stepA, valA, simprocAttr]
        refine loopK_of (m' := 0) (by omega) ?_
        simp -implicitDefEqProofs (maxSteps := 10000000) only [rkA, rkB, stepA, valA, simprocAttr]
        refine ⟨2, rfl, fun _ => hn1 (by omega), fun _ => ?_, ?_⟩ <;> first | exact ⟨he, ha⟩ | trivial | (simp [he, ha, w3, w4]; done)
  · have hc : ¬ ((2 : Nat) : Int) < 2 := by omega
    have hz : q.ruin = q.all.any (·.bad) := by
      unfold Pr.ruin Pr.news
      rw [(hn1 (by omega)).1, (hn1 (by omega)).2, (hn2 (by omega)).1, (hn2 (by omega)).2]
      rfl
    simp -implicitDefEqProofs (maxSteps := 10000000) only [hc, rkA, rkB, stepA, valA, simprocAttr]
    refine call_fn rfl rfl rfl (ok42 b1 false b3 false q h) ?_
    simp -implicitDefEqProofs (maxSteps := 10000000) only [rkA, rkB, stepA, valA, simprocAttr]
    refine call_fn rfl rfl rfl ((oka56 b1 false b3 false q h 0 hlane0).val) ?_
    simp -implicitDefEqProofs (maxSteps := 10000000) only [rkA, rkB, stepA, valA, simprocAttr]
    refine call_fn rfl rfl rfl ((oka56 b1 false b3 false q h 1 hlane1).val) ?_
    simp -implicitDefEqProofs (maxSteps := 10000000) only [rkA, rkB, stepA, valA, simprocAttr]
    refine call_fn rfl rfl rfl (hcat) ?_
    simp -implicitDefEqProofs (maxSteps := 10000000) only [rkA, rkB, stepA, valA, simprocAttr]
    refine call_fn rfl rfl rfl (ok122 false _ [] (·.bad) q.all (by omega) (fun x _ => ok121 x)) ?_
    simp -implicitDefEqProofs (maxSteps := 10000000) only [hz, rkA, rkB, stepA, valA, simprocAttr]
end Go.Proofs.YtambpjbpdackfaaGreat.A.E


set_option linter.unusedVariables false
namespace Go.Proofs.YtambpjbpdackfaaGreat.A
open Go Go.RowKit Go.Shelf
/- couplet/coupletlaw15.Play -/
def hM37 : Hint := .s (.r [(0, { zero := [(.slice none 0 0), (.int .i64 0), (.int .i64 0), (.slice none 0 0), (.slice none 0 0), (.int .i64 0), (.int .i64 0), (.slice none 0 0), (.int .i64 0), (.int .i64 0), (.int .i64 0), (.bool false), (.int .i64 0), (.int .i64 0), (.int .i64 0), (.bool false), (.int .i64 0), (.int .i64 0), (.int .i64 0), (.bool false), (.int .i64 0), (.int .i64 0), (.int .i64 0), (.bool false)] })]) (.s (.r [(0, { zero := [(.slice none 0 0), (.int .i64 0), (.int .i64 0), (.slice none 0 0), (.slice none 0 0), (.int .i64 0), (.int .i64 0), (.slice none 0 0), (.int .i64 0), (.int .i64 0), (.int .i64 0), (.bool false), (.int .i64 0), (.int .i64 0), (.int .i64 0), (.bool false), (.int .i64 0), (.int .i64 0), (.int .i64 0), (.bool false), (.int .i64 0), (.int .i64 0), (.int .i64 0), (.bool false)] })]) (.s (.o) (.s (.s (.o) (.b (.l [.junk [0, 1, 3, 6, 7, 8, 9, 13, 14, 15, 16, 17, 18, 19, 20, 21, 22, 23, 24, 25, 26, 27, 28, 29, 30, 31, 32, 33], .drop [7, 8], .forget 4007, .forget 1008, .forget 4008, .forget 5008, .forget 8008] (.s (.o) (.s (.s (.o) (.o)) (.s (.b (.s (.r [(0, { n := 4 }), (1, { n := 4, agg := true }), (2, { zero := [(.int .i64 0), (.int .i64 0), (.int .i64 0), (.slice none 0 0)], acc := [(3, 4007)] }), (3, { n := 4 })]) (.s (.s (.o) (.s (.s (.r [(0, { n := 4, agg := true }), (5, { n := 24 })]) (.o)) (.o))) (.s (.r [(0, { n := 24, agg := true }), (1, { n := 4, agg := true }), (6, { zero := [(.slice none 0 0), (.int .i64 0), (.int .i64 0), (.slice none 0 0), (.slice none 0 0), (.int .i64 0), (.int .i64 0), (.slice none 0 0), (.int .i64 0), (.int .i64 0), (.int .i64 0), (.bool false), (.int .i64 0), (.int .i64 0), (.int .i64 0), (.bool false), (.int .i64 0), (.int .i64 0), (.int .i64 0), (.bool false), (.int .i64 0), (.int .i64 0), (.int .i64 0), (.bool false)], acc := [(0, 1008), (3, 4008), (4, 5008), (7, 8008)] }), (7, { n := 24 })]) (.s (.o) (.s (.r [(0, { n := 24, agg := true }), (1, { n := 24 })]) (.o))))))) (.o))))))) (.s (.r [(0, { n := 24, agg := true }), (2, { n := 24 })]) (.o)))))
theorem kM37 : okF Tryz.prog Tryz.f37 hM37 [(true, 24), (false, 0)] = true := by kernel_rfl

/- couplet/coupletlaw15.LanesMeet -/
end Go.Proofs.YtambpjbpdackfaaGreat.A



set_option linter.unusedVariables false
set_option linter.unusedSimpArgs false
set_option maxRecDepth 100000
namespace Go.Proofs.YtambpjbpdackfaaGreat.A.E
open Go Go.RowKit Go.Shelf

/-! ### Frames gone through -/
structure Frm where
  k : Int
  q : Int
  n : Int
  l : List Int
abbrev fr4V (f : Frm) : PV := frmV false f.k f.q f.n f.l
def optV : Option Pr → PV
  | none => pairNil
  | some q => pairV false false false false q
def fewZ (l : List Frm) : Bool := decide (l.length ≤ 12) && l.all fun f => decide (f.l.length ≤ 40)
theorem ok35 (e : Bool) (l : List Frm) (hl : l.length ≤ 4398046511104) : Ok Tryz.prog 35 [.sl e (l.map fr4V)] (tru (fewZ l)) := by
  refine ok_fn mixed Tryz.func35 (code := ?_) (h := h35) ?_ k35 ?_
  rotate_left
  · exact rfl
  unfold h35 initS
  simp -implicitDefEqProofs (maxSteps := 10000000) only [rkA, rkB, stepA, valA, simprocAttr, Tryz.ntmps35, Tryz.results35]
  refine wp_loop (fun m s => ∃ i : Nat, i + m = 14 ∧ i ≤ l.length ∧ i ≤ 13 ∧ (∀ j (hj : j < i) (hjl : j < l.length), (l[j]).l.length ≤ 40) ∧ s = ⟨[.v (.sl e (l.map fr4V)), jk, jk, nt i, jk, jk, jk, jk, jk, jk, jk, jk, jk, jk, jk, jk, jk, jk, jk, jk, jk, jk, jk, jk], [], [], [], [], 0, nomem⟩) 14 ?_ ?_
  · simp -implicitDefEqProofs (maxSteps := 10000000) only [rkA, rkB, stepA, valA, simprocAttr]
    exact ⟨0, by omega, by omega, by omega, fun j hj => by omega, rfl⟩
  rintro m s ⟨i, him, hil, hi13, hb, rfl⟩
  simp -implicitDefEqProofs (maxSteps := 10000000) only [List.length_map, rkA, rkB, stepA, valA, simprocAttr]
  by_cases h1 : i < l.length
  · have h1' : (i : Int) < (l.length : Int) := by omega
    by_cases h2 : i ≤ 12
    · have h2' : (i : Int) ≤ 12 := by omega
      have h0 : (0 : Int) ≤ (i : Int) := by omega
      have hg : (l.map fr4V)[i]? = some (fr4V l[i]) := by simp [h1]
      have hw := wrapped (x := (i : Int) + 1) (by omega) (by omega)
      simp -implicitDefEqProofs (maxSteps := 10000000) only [h1', h2', h0, Int.toNat_natCast, hg, List.length_map, rkA, rkB, stepA, valA, simprocAttr]
      by_cases h3 : (l[i]).l.length > 40
      · have h3' : ((l[i]).l.length : Int) > 40 := by omega
        have hz : fewZ l = false := by
          unfold fewZ
          have : (l.all fun f => decide (f.l.length ≤ 40)) = false := by
            rw [List.all_eq_false]
            exact ⟨l[i], List.getElem_mem h1, by simpa using h3⟩
          rw [this, Bool.and_false]
        simp -implicitDefEqProofs (maxSteps := 10000000) only [h3', hz, rkA, rkB, stepA, valA, simprocAttr]
      · have h3' : ¬ ((l[i]).l.length : Int) > 40 := by omega
        simp -implicitDefEqProofs (maxSteps := 10000000) only [h3', hw, rkA, rkB, stepA, valA, simprocAttr]
        refine loopK_of (m' := m - 1) (by omega) ?_
        simp -implicitDefEqProofs (maxSteps := 10000000) only [rkA, rkB, stepA, valA, simprocAttr]
        refine ⟨i + 1, by omega, by omega, by omega, fun j hj hjl => ?_, by simp only [Int.natCast_add, Int.natCast_one]⟩
        by_cases ej : j = i
        · subst ej; omega
        · exact hb j (by omega) hjl
    · have h2' : ¬ (i : Int) ≤ 12 := by omega
      have hz : fewZ l = false := by
        unfold fewZ
        rw [decide_eq_false (by omega), Bool.false_and]
      have hz' : decide ((l.length : Int) ≤ 12) = false := decide_eq_false (by omega)
      simp -implicitDefEqProofs (maxSteps := 10000000) only [h1', h2', hz, hz', List.length_map, rkA, rkB, stepA, valA, simprocAttr]
  · have h1' : ¬ (i : Int) < (l.length : Int) := by omega
    have hil2 : i = l.length := by omega
    have hz : fewZ l = decide ((l.length : Int) ≤ 12) := by
      unfold fewZ
      have : (l.all fun f => decide (f.l.length ≤ 40)) = true := by
        rw [List.all_eq_true]
        intro f hf
        obtain ⟨j, hj, rfl⟩ := List.getElem_of_mem hf
        simpa using hb j (by omega) hj
      rw [this, Bool.and_true]
      by_cases h12 : l.length ≤ 12
      · rw [decide_eq_true h12, decide_eq_true (by omega)]
      · rw [decide_eq_false h12, decide_eq_false (by omega)]
    simp -implicitDefEqProofs (maxSteps := 10000000) only [h1', hz, List.length_map, rkA, rkB, stepA, valA, simprocAttr]
def playStep (st : Option Pr) (f : Frm) : Option Pr :=
  match st with
  | none => if soundZ f.k f.q f.n f.l = 0 ∧ f.k = 1 then some (beginP f.n.toNat f.l) else none
  | some p => if takes p f.k f.q f.n f.l = true then some (afterP p f.k f.l) else some p
def playP (l : List Frm) : Option Pr := l.foldl playStep none
theorem step_good {st : Option Pr} (h : ∀ p, st = some p → p.good) (f : Frm) : ∀ p, playStep st f = some p → p.good := by
  intro p hp
  unfold playStep at hp
  split at hp
  · split at hp
    · rename_i hc
      cases hp
      obtain ⟨h1, h2⟩ := hc
      rw [h2] at h1
      obtain ⟨m, hm, hs⟩ := soundF h1
      rw [hm, Int.toNat_natCast]
      exact begin_good hs
    · cases hp
  · rename_i p0
    split at hp
    · cases hp
      exact after_good (h p0 rfl)
    · cases hp
      exact h _ rfl
theorem play_good (l : List Frm) : ∀ p, playP l = some p → p.good := by
  unfold playP
  have key : ∀ (l : List Frm) (st : Option Pr), (∀ p, st = some p → p.good) → ∀ p, l.foldl playStep st = some p → p.good := by
    intro l
    induction l with
    | nil => exact fun st h => h
    | cons f l ih => exact fun st h => ih _ (step_good h f)
  exact key l none (fun p h => by cases h)
theorem playP_succ (l : List Frm) (i : Nat) (hi : i < l.length) : playP (l.take (i + 1)) = playStep (playP (l.take i)) l[i] := by
  unfold playP
  rw [List.take_succ_eq_append_getElem hi, List.foldl_append]
  rfl
/-- What one frame does, told. -/
theorem ok40' (f : Frm) (hl : f.l.length ≤ 4398046511104) : Ok Tryz.prog 40 [fr4V f] (.tup [optV (playStep none f), tru (playStep none f).isSome]) := by
  unfold playStep
  by_cases h : soundZ f.k f.q f.n f.l = 0 ∧ f.k = 1
  · rw [if_pos h]
    obtain ⟨h1, h2⟩ := h
    obtain ⟨k, q, n, l⟩ := f
    subst h2
    exact ok40 false q n l h1
  · rw [if_neg h]
    refine ok40_bad false f.k f.q f.n f.l hl ?_
    by_cases h1 : soundZ f.k f.q f.n f.l = 0
    · exact .inr fun e => h ⟨h1, e⟩
    · exact .inl h1
abbrev bxNil : List TV := [.v nilV, nt 0, nt 0, .v nilV, .v nilV, nt 0, nt 0, .v nilV, nt 0, nt 0, nt 0, .v (tru false), nt 0, nt 0, nt 0, .v (tru false), nt 0, nt 0, nt 0, .v (tru false), nt 0, nt 0, nt 0, .v (tru false)]
def bxO : Option Pr → List TV
  | none => bxNil
  | some q => bxP false false false false q
theorem ok37 (e : Bool) (l : List Frm) (hl : l.length ≤ 100) (hs : ∀ f ∈ l, f.l.length ≤ 4398046511104) : Ok Tryz.prog 37 [.sl e (l.map fr4V)] (.tup [optV (playP l), tru (playP l).isSome]) := by
  refine ok_fn mixed Tryz.func37 (code := ?_) (h := hM37) ?_ kM37 ?_
  rotate_left
  · exact rfl
  unfold hM37 initS
  simp -implicitDefEqProofs (maxSteps := 10000000) only [rkA, rkB, stepA, valA, simprocAttr, Tryz.ntmps37, Tryz.results37]
  refine wp_loop (fun m s => ∃ i : Nat, i + m = l.length ∧ s = ⟨[jk, jk, .ptr 2 0, jk, .ptr 4 0, .v (tru (playP (l.take i)).isSome), jk, jk, jk, jk, .v (.sl e (l.map fr4V)), nt l.length, nt i, jk, jk, jk, jk, jk, jk, jk, jk, jk, jk, jk, jk, jk, jk, jk, jk, jk, jk, jk, jk, jk], [(2, bxNil), (4, bxO (playP (l.take i)))], [], [(1008, 0), (4007, 0), (4008, 0), (5008, 0), (8008, 0)], [], 0, nomem⟩) l.length ?_ ?_
  · simp -implicitDefEqProofs (maxSteps := 10000000) only [List.length_map, rkA, rkB, stepA, valA, simprocAttr]
    exact ⟨0, by omega, rfl⟩
  rintro m s ⟨i, him, rfl⟩
  simp -implicitDefEqProofs (maxSteps := 10000000) only [rkA, rkB, stepA, valA, simprocAttr]
  refine gB_dec ?_ ?_ <;> intro hc <;> simp -implicitDefEqProofs (maxSteps := 10000000) only [hc, rkA, rkB, stepA, valA, simprocAttr]
  · have hlt : i < l.length := by omega
    have h0 : (0 : Int) ≤ (i : Int) := by omega
    have hg : (l.map fr4V)[i]? = some (fr4V l[i]) := by simp [hlt]
    have hw := wrapped (x := (i : Int) + 1) (by omega) (by omega)
    have hfl := hs l[i] (List.getElem_mem hlt)
    have hps := playP_succ l i hlt
    have hgood := play_good (l.take i)
    simp -implicitDefEqProofs (maxSteps := 10000000) only [h0, Int.toNat_natCast, hg, rkA, rkB, stepA, valA, simprocAttr]
    generalize playP (l.take i) = st at *
    cases st with
    | none =>
      simp -implicitDefEqProofs (maxSteps := 10000000) only [Option.isSome_none, bxO, rkA, rkB, stepA, valA, simprocAttr]
      refine call_fn rfl rfl rfl (ok40' l[i] hfl) ?_
      rw [← hps]
      cases hst : playP (l.take (i + 1)) with
      | none =>
        simp -implicitDefEqProofs (maxSteps := 10000000) only [optV, Option.isSome_none, hw, rkA, rkB, stepA, valA, simprocAttr]
        refine loopK_of (m' := m - 1) (by omega) ?_
        simp -implicitDefEqProofs (maxSteps := 10000000) only [rkA, rkB, stepA, valA, simprocAttr]
        exact ⟨i + 1, by omega, by simp only [hst, bxO, Option.isSome_none, Int.natCast_add, Int.natCast_one]⟩
      | some q =>
        simp -implicitDefEqProofs (maxSteps := 10000000) only [optV, Option.isSome_some, hw, rkA, rkB, stepA, valA, simprocAttr]
        refine loopK_of (m' := m - 1) (by omega) ?_
        simp -implicitDefEqProofs (maxSteps := 10000000) only [rkA, rkB, stepA, valA, simprocAttr]
        exact ⟨i + 1, by omega, by simp only [hst, bxO, Option.isSome_some, Int.natCast_add, Int.natCast_one]⟩
    | some q =>
      have hq := hgood q rfl
      have hps' : playP (l.take (i + 1)) = if takes q l[i].k l[i].q l[i].n l[i].l = true then some (afterP q l[i].k l[i].l) else some q := hps
      simp -implicitDefEqProofs (maxSteps := 10000000) only [Option.isSome_some, bxO, rkA, rkB, stepA, valA, simprocAttr]
      cases ht : takes q l[i].k l[i].q l[i].n l[i].l with
      | false =>
        rw [ht, if_neg (by decide)] at hps'
        refine call_fn rfl rfl rfl (ok48_bad false false false false false q hq l[i].k l[i].q l[i].n l[i].l hfl ht) ?_
        simp -implicitDefEqProofs (maxSteps := 10000000) only [hw, rkA, rkB, stepA, valA, simprocAttr]
        refine loopK_of (m' := m - 1) (by omega) ?_
        simp -implicitDefEqProofs (maxSteps := 10000000) only [rkA, rkB, stepA, valA, simprocAttr]
        exact ⟨i + 1, by omega, by simp only [hps', bxO, Option.isSome_some, Int.natCast_add, Int.natCast_one]⟩
      | true =>
        rw [ht, if_pos rfl] at hps'
        refine call_fn rfl rfl rfl (ok48 false false false false false q hq l[i].k l[i].q l[i].n l[i].l ht) ?_
        simp -implicitDefEqProofs (maxSteps := 10000000) only [hw, rkA, rkB, stepA, valA, simprocAttr]
        refine loopK_of (m' := m - 1) (by omega) ?_
        simp -implicitDefEqProofs (maxSteps := 10000000) only [rkA, rkB, stepA, valA, simprocAttr]
        exact ⟨i + 1, by omega, by simp only [hps', bxO, Option.isSome_some, Int.natCast_add, Int.natCast_one]⟩
  · have hil : i = l.length := by omega
    subst hil
    rw [List.take_length]
    cases playP l with
    | none => simp -implicitDefEqProofs (maxSteps := 10000000) only [optV, bxO, Option.isSome_none, rkA, rkB, stepA, valA, simprocAttr]
    | some q => simp -implicitDefEqProofs (maxSteps := 10000000) only [optV, bxO, Option.isSome_some, rkA, rkB, stepA, valA, simprocAttr]
end Go.Proofs.YtambpjbpdackfaaGreat.A.E



set_option linter.unusedVariables false
set_option linter.unusedSimpArgs false
set_option maxRecDepth 100000
namespace Go.Proofs.YtambpjbpdackfaaGreat.A.E
open Go Go.RowKit Go.Shelf

/-! ### What the document fixes of one number, behind layer 15 -/
def awB : Pr := beginP 1 [0, 16777216]
def awM : Pr := afterP awB 3 [16777216, 16777216, 33554432]
theorem one_of {l : List Fr} (h : l.length = 1) : l = [l.getD 0 fz] := by
  cases l with
  | nil => cases h
  | cons x r =>
    have : r = [] := List.eq_nil_of_length_eq_zero (by simpa using h)
    subst this
    rfl
set_option maxHeartbeats 2000000 in
theorem ok39 : Ok Tryz.prog 39 [] (tru true) := by
  have s1 : soundZ 1 0 1 [0, 16777216] = 0 := by decide +kernel
  have hb := ok40 true 0 1 [0, 16777216] s1
  have gB : awB.good := by
    obtain ⟨m, hm, hs⟩ := soundF s1
    have : m = 1 := by omega
    subst this
    exact begin_good hs
  have t1 : takes awB 3 0 1 [16777216, 16777216, 33554432] = true := by decide +kernel
  have ha := ok48 true false false false false awB gB 3 0 1 [16777216, 16777216, 33554432] t1
  have gM : awM.good := after_good gB
  have nM : awM.n = 1 := rfl
  have lane0 : laneOk 0 = true := by decide
  have lane1 : laneOk 1 = true := by decide
  have z0 := ok58 false false false false awM gM 0 lane0
  have z1 := ok58 false false false false awM gM 1 lane1
  have x0 := one_of (l := awM.lx' 0) (by rw [gM.lxl, nM])
  have x1 := one_of (l := awM.lx' 1) (by rw [gM.lxl, nM])
  have v0 : enclB ((awM.lx' 0).getD 0 fz) 1 1 = true := by decide +kernel
  have v1 : enclB ((awM.lx' 1).getD 0 fz) 1 1 = true := by decide +kernel
  have hr : awM.ruin = false := by decide +kernel
  have hw : (frs (awM.words 0)).length = 2 := by decide +kernel
  have e0 := ok88 ((awM.lx' 0).getD 0 fz) 1 1
  have e1 := ok88 ((awM.lx' 1).getD 0 fz) 1 1
  rw [v0] at e0
  rw [v1] at e1
  have h30 := ok43 false false awM gM
  rw [hr] at h30
  have h28 := (oka56 false false false false awM gM 0 lane0).val
  have h20 := ok42 false false false false awM gM
  change Ok Tryz.prog 40 [frmV true 1 0 1 [0, 16777216]] (.tup [pairV false false false false awB, tru true]) at hb
  change Ok Tryz.prog 48 [pairV false false false false awB, frmV true 3 0 1 [16777216, 16777216, 33554432]] (.tup [pairV false false false false awM, tru true]) at ha
  clear v0 v1 hr t1 s1 gB gM nM
  generalize awM = M at *
  generalize awB = B at *
  rw [x0] at z0
  rw [x1] at z1
  generalize (M.lx' 0).getD 0 fz = u0 at *
  generalize (M.lx' 1).getD 0 fz = u1 at *
  refine ok_fn mixed Tryz.func39 (code := ?_) (h := h39) ?_ k39 ?_
  rotate_left
  · exact rfl
  unfold h39 initS
  simp -implicitDefEqProofs (maxSteps := 10000000) only [rkA, rkB, stepA, valA, simprocAttr, Tryz.ntmps39, Tryz.results39]
  refine call_fn rfl rfl rfl (hb) ?_
  simp -implicitDefEqProofs (maxSteps := 10000000) only [rkA, rkB, stepA, valA, simprocAttr]
  refine call_fn rfl rfl rfl (ha) ?_
  simp -implicitDefEqProofs (maxSteps := 10000000) only [rkA, rkB, stepA, valA, simprocAttr]
  refine call_fn rfl rfl rfl (z0) ?_
  have b1 : ((1 : Int) != 1) = false := by decide
  have b2 : ((2 : Int) == 2) = true := by decide
  simp -implicitDefEqProofs (maxSteps := 10000000) only [List.map_cons, List.map_nil, List.length_cons, List.length_nil, Int.natCast_one, b1, rkA, rkB, stepA, valA, simprocAttr]
  refine call_fn rfl rfl rfl (z1) ?_
  simp -implicitDefEqProofs (maxSteps := 10000000) only [List.map_cons, List.map_nil, List.length_cons, List.length_nil, Int.natCast_one, b1, rkA, rkB, stepA, valA, simprocAttr]
  refine call_fn rfl rfl rfl (z0) ?_
  simp -implicitDefEqProofs (maxSteps := 10000000) only [List.map_cons, List.map_nil, rkA, rkB, stepA, valA, simprocAttr]
  refine call_fn rfl rfl rfl (e0) ?_
  simp -implicitDefEqProofs (maxSteps := 10000000) only [rkA, rkB, stepA, valA, simprocAttr]
  refine call_fn rfl rfl rfl (z1) ?_
  simp -implicitDefEqProofs (maxSteps := 10000000) only [List.map_cons, List.map_nil, rkA, rkB, stepA, valA, simprocAttr]
  refine call_fn rfl rfl rfl (e1) ?_
  simp -implicitDefEqProofs (maxSteps := 10000000) only [rkA, rkB, stepA, valA, simprocAttr]
  refine call_fn rfl rfl rfl (h30) ?_
  simp -implicitDefEqProofs (maxSteps := 10000000) only [rkA, rkB, stepA, valA, simprocAttr]
  refine call_fn rfl rfl rfl (h28) ?_
  simp -implicitDefEqProofs (maxSteps := 10000000) only [hw, b2, rkA, rkB, stepA, valA, simprocAttr]
  trace_state
  refine call_fn rfl rfl rfl (h20) ?_
  simp -implicitDefEqProofs (maxSteps := 10000000) only [rkA, rkB, stepA, valA, simprocAttr]
end Go.Proofs.YtambpjbpdackfaaGreat.A.E



set_option linter.unusedVariables false
set_option linter.unusedSimpArgs false
set_option maxRecDepth 100000
namespace Go.Proofs.YtambpjbpdackfaaGreat.A
open Go Go.RowKit Go.Shelf

end Go.Proofs.YtambpjbpdackfaaGreat.A



set_option linter.unusedVariables false
set_option linter.unusedSimpArgs false
set_option maxRecDepth 100000
namespace Go.Proofs.YtambpjbpdackfaaGreat.A
open Go Go.RowKit Go.Shelf

/-! ### The reference's numbers of two words: products, sizes -/
end Go.Proofs.YtambpjbpdackfaaGreat.A



set_option linter.unusedVariables false
set_option linter.unusedSimpArgs false
set_option maxRecDepth 100000
namespace Go.Proofs.YtambpjbpdackfaaGreat.A
open Go Go.RowKit Go.Shelf

/-! ### The reference's product, divided -/
end Go.Proofs.YtambpjbpdackfaaGreat.A



set_option linter.unusedVariables false
set_option linter.unusedSimpArgs false
set_option maxRecDepth 100000
namespace Go.Proofs.YtambpjbpdackfaaGreat.A
open Go Go.RowKit Go.Shelf

/-! ### The reference's root -/
end Go.Proofs.YtambpjbpdackfaaGreat.A



set_option linter.unusedVariables false
set_option linter.unusedSimpArgs false
set_option maxRecDepth 100000
namespace Go.Proofs.YtambpjbpdackfaaGreat.A.E
open Go Go.RowKit Go.Shelf

/-! ### The reference's numbers in units -/
/-! ### One of the document's operations -/
end Go.Proofs.YtambpjbpdackfaaGreat.A.E



set_option linter.unusedVariables false
set_option linter.unusedSimpArgs false
set_option maxRecDepth 100000
namespace Go.Proofs.YtambpjbpdackfaaGreat.A.E
open Go Go.RowKit Go.Shelf

/-! ### The document's operations of enclosed numbers -/
section
variable (F : Int → Int → Int → Int × Bool) (ps : List (Int × Int))
variable {F ps}
end
end Go.Proofs.YtambpjbpdackfaaGreat.A.E



set_option linter.unusedVariables false
set_option linter.unusedSimpArgs false
set_option maxRecDepth 100000
namespace Go.Proofs.YtambpjbpdackfaaGreat.A.E
open Go Go.RowKit Go.Shelf

end Go.Proofs.YtambpjbpdackfaaGreat.A.E



set_option linter.unusedVariables false
set_option linter.unusedSimpArgs false
set_option maxRecDepth 100000
namespace Go.Proofs.YtambpjbpdackfaaGreat.A.E
open Go Go.RowKit Go.Shelf

end Go.Proofs.YtambpjbpdackfaaGreat.A.E



set_option linter.unusedVariables false
set_option linter.unusedSimpArgs false
set_option maxRecDepth 100000
namespace Go.Proofs.YtambpjbpdackfaaGreat.A.E
open Go Go.RowKit Go.Shelf

end Go.Proofs.YtambpjbpdackfaaGreat.A.E



set_option linter.unusedVariables false
set_option linter.unusedSimpArgs false
set_option maxRecDepth 100000
namespace Go.Proofs.YtambpjbpdackfaaGreat.A.E
open Go Go.RowKit Go.Shelf

end Go.Proofs.YtambpjbpdackfaaGreat.A.E


set_option linter.unusedVariables false
set_option linter.unusedSimpArgs false
set_option maxRecDepth 100000
namespace Go.Proofs.YtambpjbpdackfaaGreat.A.E
open Go Go.RowKit Go.Shelf

end Go.Proofs.YtambpjbpdackfaaGreat.A.E



set_option linter.unusedVariables false
set_option linter.unusedSimpArgs false
set_option maxRecDepth 100000
namespace Go.Proofs.YtambpjbpdackfaaGreat.A.E
open Go Go.RowKit Go.Shelf

/-! ### The reference's rows and tables -/
end Go.Proofs.YtambpjbpdackfaaGreat.A.E



set_option linter.unusedVariables false
set_option linter.unusedSimpArgs false
set_option maxRecDepth 100000
namespace Go.Proofs.YtambpjbpdackfaaGreat.A.E
open Go Go.RowKit Go.Shelf

/-! ### The reference's tables are the program's -/
end Go.Proofs.YtambpjbpdackfaaGreat.A.E


set_option linter.unusedVariables false
namespace Go.Proofs.YtambpjbpdackfaaGreat.A
open Go Go.RowKit Go.Shelf
/- couplet/coupletlaw15.points -/
end Go.Proofs.YtambpjbpdackfaaGreat.A


/- Code told in parts, of calls to which no memory is handed over: between two parts, all memory that is known may be told as values, once it is not written any more. -/
set_option linter.unusedVariables false
set_option linter.unusedSimpArgs false
namespace Go.Proofs.YtambpjbpdackfaaGreat.A
open Go Go.RowKit Go.Shelf

/-- Told again, more closely. -/
inductive Re (m : Mem) : TV → TV → Prop
  | same (x : TV) : Re m x x
  | tell {p q : PV} : Tell m p q → Re m (.v p) (.v q)
inductive Res (m : Mem) : List TV → List TV → Prop
  | nil : Res m [] []
  | cons {x y : TV} {xs ys : List TV} : Re m x y → Res m xs ys → Res m (x :: xs) (y :: ys)
theorem Res.same (m : Mem) : ∀ (l : List TV), Res m l l
  | [] => .nil
  | x :: l => .cons (.same x) (Res.same m l)
inductive ReB (m : Mem) : List (Nat × List TV) → List (Nat × List TV) → Prop
  | nil : ReB m [] []
  | cons {b : Nat} {x y : List TV} {xs ys : List (Nat × List TV)} : Res m x y → ReB m xs ys → ReB m ((b, x) :: xs) ((b, y) :: ys)
theorem ReB.same (m : Mem) : ∀ (l : List (Nat × List TV)), ReB m l l
  | [] => .nil
  | (_, x) :: l => .cons (Res.same m x) (ReB.same m l)
theorem ReB.lk {m : Mem} {l l' : List (Nat × List TV)} (h : ReB m l l') {b : Nat} {c' : List TV} (hb : A.lk b l' = some c') : ∃ c, A.lk b l = some c ∧ Res m c c' := by
  induction h with
  | nil => cases hb
  | @cons b0 x y xs ys h1 h2 ih =>
    simp only [A.lk] at hb ⊢
    by_cases e : b0 = b
    · rw [if_pos e] at hb ⊢
      cases hb
      exact ⟨x, rfl, h1⟩
    · rw [if_neg e] at hb ⊢
      exact ih hb

section
variable {P : Program} {w00 w0 : Bs} {w : World} {I0 I : Imm} {β : Nat → Nat} {κ : Nat → Nat × Nat × Nat} {s : St} {sav : List (Array Value)} {a : Act} {tk : Nat → Nat}

theorem Re.sound {m : Mem} (h : MemAt I m w) {x y : TV} {u : Value} (hr : Re m x y) (hx : R I β κ tk x u) : R (memI I m w) β κ tk y u := by
  cases hr with
  | same x => exact hx.mono (memI_le h)
  | tell ht => exact .v (Tell.sound h ht (hx.inv.mono (memI_le h)))
theorem Res.sound {m : Mem} (h : MemAt I m w) : ∀ {xs ys : List TV} {us : List Value}, Res m xs ys → Rs I β κ tk xs us → Rs (memI I m w) β κ tk ys us
  | _, _, _, .nil, .nil => .nil
  | _, _, _, .cons h1 h2, .cons k1 k2 => .cons (h1.sound h k1) (Res.sound h h2 k2)
/-- How code is told in parts. -/
inductive HT where
  | h (x : Hint)
  | s (x y : HT)
  | z (x : HT)
  | m (l : List (Nat × Inf))
def okT (P : Program) : HT → Code → Bool
  | .h x, c => okC P x c
  | .s x y, .seq c d => okT P x c && okT P y d
  | .z x, c => okT P x c
  | .m l, .region _ ops false => regMOk P (aoL 0 ops.toList l)
  | _, _ => false
/-- The parts fit the function. -/
def okP (P : Program) (fn : Func) (h : HT) (qs : List (Bool × Nat)) : Bool :=
  !(fn.name == "runtime.NumGoroutine") && rinfOk P fn.results.toList qs && (match fn.body with | some c => okT P h c | none => false)
variable {Q : XA → St → Prop}
theorem Res.set {m : Mem} {p q : PV} (h : Tell m p q) : ∀ {l : List TV} {k : Nat}, l[k]? = some (.v p) → Res m l (l.set k (.v q))
  | [], _, e => by simp at e
  | x :: l, 0, e => by
    simp only [List.getElem?_cons_zero, Option.some.injEq] at e
    subst e
    exact .cons (.tell h) (Res.same m l)
  | x :: l, k + 1, e => by
    simp only [List.getElem?_cons_succ] at e
    exact .cons (.same x) (Res.set h e)
end
end Go.Proofs.YtambpjbpdackfaaGreat.A


set_option linter.unusedVariables false
namespace Go.Proofs.YtambpjbpdackfaaGreat.A
open Go Go.RowKit Go.Shelf
/- couplet/coupletlaw15.LanesBegin -/
end Go.Proofs.YtambpjbpdackfaaGreat.A



set_option linter.unusedVariables false
set_option linter.unusedSimpArgs false
set_option maxRecDepth 100000
namespace Go.Proofs.YtambpjbpdackfaaGreat.A.E
open Go Go.RowKit Go.Shelf

/-! ### The function LanesBegin -/
def frmSh : List CSh := [.int .i64, .int .i64, .int .i64, .sl false [.int .i64]]
theorem frm_fit {xs : List PV} (h : FitL frmSh xs) : ∃ (k q n : Int) (l : List Int), xs = [num k, num q, num n, .sl false (l.map num)] := by
  simp only [frmSh, FitL] at h
  obtain ⟨_, _, rfl, ⟨k, rfl, _⟩, _, _, rfl, ⟨q, rfl, _⟩, _, _, rfl, ⟨n, rfl, _⟩, _, _, rfl, hl, rfl⟩ := h
  obtain ⟨l, rfl, _⟩ := FitC.ints hl
  exact ⟨k, q, n, l, rfl⟩
end Go.Proofs.YtambpjbpdackfaaGreat.A.E



set_option linter.unusedVariables false
set_option linter.unusedSimpArgs false
set_option maxRecDepth 100000
namespace Go.Proofs.YtambpjbpdackfaaGreat.A.E
open Go Go.RowKit Go.Shelf

/-! ### compare: gaps, and odds -/
def leastE (a : Fr) : Int := if a.lo > 0 then a.lo else if a.hi < 0 then a.hi else 0
def oddsE (s a : Fr) (k : Int) : Bool :=
  s.fine && (a.fine && (decide (0 < a.lo) && ((mdF a.hi (k * k) 1 1).2 && decide (0 < cmpF (leastE s) (leastE s) (mdF a.hi (k * k) 1 1).1 16777216))))
def Pr.sp (q : Pr) (lane : Int) : Fr := if lane = 0 then q.e0 else q.e1
def Pr.ap (q : Pr) (lane : Int) : Fr := if lane = 0 then q.a0 else q.a1
def oddR (lane k : Int) : Bool := laneOk lane && (decide (0 ≤ k) && decide (k ≤ 1048576))
def Pr.odds (q : Pr) (lane k : Int) : Bool := oddR lane k && oddsE (q.sp lane) (q.ap lane) k
end Go.Proofs.YtambpjbpdackfaaGreat.A.E



set_option linter.unusedVariables false
set_option linter.unusedSimpArgs false
set_option maxRecDepth 100000
namespace Go.Proofs.YtambpjbpdackfaaGreat.A.E
open Go Go.RowKit Go.Shelf

/-! ### The function CompareBounds -/
theorem few_len {l : List Frm} (h : fewZ l = true) : l.length ≤ 12 ∧ ∀ f ∈ l, f.l.length ≤ 40 := by
  unfold fewZ at h
  simp only [Bool.and_eq_true, decide_eq_true_eq, List.all_eq_true] at h
  exact h
abbrev frsSh : CSh := .sl true frmSh
theorem frs_fit {x : PV} (h : FitC frsSh x) : ∃ l : List Frm, x = .sl false (l.map fr4V) := by
  simp only [frsSh, FitC] at h
  obtain ⟨els, rfl, h⟩ := h
  obtain ⟨zs, rfl, _⟩ := map_of_all (f := fr4V) (p := fun _ => True) (l := els) (fun e he => by
    obtain ⟨cs, rfl, h⟩ := h e he
    obtain ⟨k, q, n, l, rfl⟩ := frm_fit h
    exact ⟨⟨k, q, n, l⟩, rfl, trivial⟩)
  exact ⟨zs, rfl⟩
theorem frs_len {l : List Frm} (b : ∀ (ex : Bool) (els : List PV), PV.sl false (l.map fr4V) = .sl ex els → els.length * 48 ≤ 140737488351232) : l.length ≤ 4398046511104 := by
  have := b false _ rfl
  rw [List.length_map] at this
  omega
end Go.Proofs.YtambpjbpdackfaaGreat.A.E


set_option linter.unusedVariables false
namespace Go.Proofs.YtambpjbpdackfaaGreat.A
open Go Go.RowKit Go.Shelf
/- couplet/coupletlaw15.LanesWords -/
def hM10 : Hint := .s (.o) (.s (.s (.o) (.s (.s (.o) (.o)) (.o))) (.s (.r [(5, { zero := [(.slice none 0 0), (.int .i64 0), (.int .i64 0), (.slice none 0 0), (.slice none 0 0), (.int .i64 0), (.int .i64 0), (.slice none 0 0), (.int .i64 0), (.int .i64 0), (.int .i64 0), (.bool false), (.int .i64 0), (.int .i64 0), (.int .i64 0), (.bool false), (.int .i64 0), (.int .i64 0), (.int .i64 0), (.bool false), (.int .i64 0), (.int .i64 0), (.int .i64 0), (.bool false)], acc := [(0, 1005), (3, 4005), (4, 5005), (7, 8005)] }), (6, { n := 24 })]) (.s (.r [(0, { n := 24, agg := true }), (3, { n := 24, agg := true }), (6, { n := 24, agg := true })]) (.s (.s (.o) (.s (.s (.r [(12, { n := 24, agg := true })]) (.o)) (.o))) (.s (.r [(0, { off := 0 }), (1, { off := 0 }), (2, { n := 1, agg := false })]) (.s (.o) (.s (.s (.i [(0, { n := 4 }), (1, { off := 0 }), (2, { off := 0 }), (3, { n := 1, agg := false }), (4, { n := 4, t := 32, acc := [(0, 1)] }), (5, { off := 4 }), (6, { off := 0 }), (7, { n := 1, agg := false }), (8, { n := 4, t := 32 }), (9, { off := 0 }), (10, { off := 1 }), (11, { off := 2 }), (12, { n := 1, agg := false }), (13, { n := 4, t := 32 }), (14, { off := 4 }), (15, { off := 1 }), (16, { off := 2 }), (17, { n := 1, agg := false }), (18, { n := 4, t := 32 })]) (.b (.l [.junk [0, 1, 2, 3, 4, 6, 12, 13, 14, 15, 16, 17, 18, 19, 20, 21, 22, 23, 24, 25, 26, 27, 28, 29, 30, 31, 32, 33, 34, 35, 36, 37, 38, 39, 40, 41, 42, 43, 44, 45, 46, 47, 48, 49, 50, 51, 52, 53, 54, 55, 56, 57, 58, 59, 60, 61, 62, 63, 64, 65, 66, 67, 68, 69, 70, 71, 72, 73, 74, 75, 76, 77, 78, 79, 80, 81, 82, 83, 84, 88, 89, 90, 91, 92, 93, 94, 95, 96, 97, 98, 99, 100, 101, 102, 103, 104, 105, 106, 107, 108, 109, 110, 111, 112, 113, 114, 115, 116, 117, 118, 119, 120, 121, 122, 123, 124, 125, 126, 127, 128, 129, 130, 131, 132, 133, 134, 135, 136, 137, 138, 139, 140, 141, 142, 143, 144, 145, 146], .drop [13]] (.s (.o) (.s (.s (.o) (.o)) (.s (.b (.s (.r [(0, { n := 4 }), (1, { n := 4, agg := true }), (2, { zero := [(.int .i64 0), (.int .i64 0), (.int .i64 0), (.bool false)] }), (3, { n := 4 })]) (.r [(2, { off := 3 }), (3, { n := 1, agg := false })]))) (.o))))))) (.s (.s (.r [(0, { off := 8 }), (1, { n := 16, agg := true })]) (.b (.l [.junk [0, 1, 2, 3, 4, 6, 12, 13, 14, 15, 16, 17, 18, 19, 20, 21, 22, 23, 24, 25, 26, 27, 28, 29, 30, 31, 32, 33, 34, 35, 36, 37, 38, 39, 40, 41, 42, 43, 44, 45, 46, 47, 48, 49, 50, 51, 52, 53, 54, 55, 56, 57, 58, 59, 60, 61, 62, 63, 64, 65, 66, 67, 68, 69, 70, 71, 72, 73, 74, 75, 76, 77, 78, 79, 80, 81, 82, 83, 84, 85, 86, 87, 88, 89, 90, 91, 92, 93, 94, 95, 96, 97, 100, 101, 102, 103, 104, 105, 106, 107, 108, 109, 110, 111, 112, 113, 114, 115, 116, 117, 118, 119, 120, 121, 122, 123, 124, 125, 126, 127, 128, 129, 130, 131, 132, 133, 134, 135, 136, 137, 138, 139, 140, 141, 142, 143, 144, 145, 146], .drop [15]] (.s (.o) (.s (.s (.o) (.o)) (.s (.b (.s (.r [(0, { n := 8, agg := true, t := 2 }), (1, { zero := [(.int .i64 0), (.int .i64 0), (.int .i64 0), (.bool false), (.int .i64 0), (.int .i64 0), (.int .i64 0), (.bool false)] }), (2, { n := 8 })]) (.r [(2, { off := 0 }), (3, { off := 3 }), (4, { n := 1, agg := false }), (7, { off := 4 }), (8, { off := 3 }), (9, { n := 1, agg := false })]))) (.o))))))) (.s (.r [(25, { n := 24, agg := true }), (28, { n := 1 })]) (.o))))))))))
theorem kM10 : okF Tryz.prog Tryz.f10 hM10 [(false, 0)] = true := by kernel_rfl

end Go.Proofs.YtambpjbpdackfaaGreat.A


