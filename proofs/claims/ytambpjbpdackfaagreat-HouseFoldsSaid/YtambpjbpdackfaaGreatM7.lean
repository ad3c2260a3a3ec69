import Derived.Test.YtambpjbpdackfaaGreatM6
import Derived.Test.YtambpjbpdackfaaGreatM4
import Derived.Test.YtambpjbpdackfaaGreatM5
import Derived.Test.YtambpjbpdackfaaGreatM3
import Derived.SizedLaws
set_option linter.unusedVariables false
set_option linter.unusedSimpArgs false
set_option maxRecDepth 100000
namespace Go.Proofs.YtambpjbpdackfaaGreat.A
open Go Go.RowKit Go.Shelf

theorem wp_rfM' {P : Program} {Q : XA → St → Prop} {tm : List TV} {bx : List (Nat × List TV)} {ro : List (Nat × List PV)} {tk : List (Nat × Nat)} {sv : List (List TV)} {it : Nat} {mm : Mem} {f : Operand} {ps : Array Nat} {g : List Gh} {a b : Hint} {x y : Code} {p : PV} {items : List Item} (hf : ev ⟨tm, bx, ro, tk, sv, it, mm⟩ f = some (.v p)) (hI : IterOkM P p items)
    (Inv : List (List TV) → Nat → St → Prop) (h0 : opt (ghs g ⟨[], bx, ro, tk, tm :: sv, it, mm⟩) (Inv (tm :: sv) 0))
    (hr : ∀ (i : Nat) (x' : Item) (p : List PV) (m : Mem) (s' : St) (R : St → Prop), items[i]? = some x' → Inv (tm :: sv) i s' → x' p m → (∀ c, (m c).isSome = true → s'.mm c = none) → (∀ s1, Inv (tm :: sv) (i + 1) s1 → R s1) → p.length = ps.toList.length ∧ wpA P none (acOf a x) (rfK P (acOf b y) (roundK g R Q)) (enterR ps.toList p { s' with mm := s'.mm.join m }))
    (hq : ∀ s', Inv (tm :: sv) items.length s' → Q .normal (leaveR s')) :
    wpA P none (acOf (.f g a b) (.rangeFunc f ps x y)) Q ⟨tm, bx, ro, tk, sv, it, mm⟩ := wp_rfM hf hI (Inv (tm :: sv)) h0 hr hq
theorem fits_raw (c cap : Nat → Nat) (w i : Nat) (x : PV) (hx : ∃ b k j, x = .s (.slice b k j)) (hi : i ≤ 100) : fits 1 24 ((List.range i).map (rawC c cap w)) [x] = true := by
  obtain ⟨b, k, j, rfl⟩ := hx
  have h1 : ((List.range i).map (rawC c cap w)).all (fun e => e.ok && e.cells.length == 1) = true := by
    rw [List.all_eq_true]
    intro e he
    obtain ⟨a, _, rfl⟩ := List.mem_map.1 he
    rfl
  unfold fits
  rw [h1]
  simp [PV.ok, PV.cells]
  exact ⟨rfl, by omega⟩
theorem raw_grow (c cap : Nat → Nat) (w i b z : Nat) : (List.range i).map (rawC c cap w) ++ [.s (.slice (some ⟨b, 0, none⟩) w z)] = (List.range (i + 1)).map (rawC (fun j => if j = i then b else c j) (fun j => if j = i then z else cap j) w) := by
  rw [List.range_succ, List.map_append, List.map_singleton]
  congr 1
  · refine List.map_congr_left fun j hj => ?_
    have := List.mem_range.1 hj
    simp only [rawC, show ¬ j = i by omega, if_false]
  · simp only [rawC, if_true]
theorem RowsC.grow {mm : Mem} {c q : Nat → Nat} {i w b z : Nat} {M : Nat → Nat → Fr} (h : RowsC mm c q i w M) (hb : mm b = none) :
    RowsC (mm.put b (flat (frs (rowM w M i)) ++ jnk z)) (fun j => if j = i then b else c j) (fun j => if j = i then z else q j) (i + 1) w M := by
  have hcb : ∀ j, j < i → c j ≠ b := fun j hj e => by have := h.row j hj; rw [e, hb] at this; cases this
  refine ⟨fun j hj => ?_, fun j k hj hk => ?_⟩
  · by_cases e : j = i
    · subst e
      simp only [if_true]
      rw [Mem.put_same]
    · simp only [e, if_false]
      rw [Mem.put_other _ _ (hcb j (by omega))]
      exact h.row j (by omega)
  · by_cases e : j = i <;> by_cases e' : k = i
    · intro _; omega
    · simp only [e, e', if_true, if_false]
      exact fun h1 => absurd h1.symm (hcb k (by omega))
    · simp only [e, e', if_true, if_false]
      exact fun h1 => absurd h1 (hcb j (by omega))
    · simp only [e, e', if_false]
      exact h.inj j k (by omega) (by omega)
/-- A row's first numbers in memory, told as a value. -/
theorem tell_first {m : Mem} {b cap k : Nat} {l : List Fr} {post : List PV} (hm : m b = some (flat (frs l) ++ post)) (hk : k ≤ l.length) (hc : l.length ≤ cap) : Tell m (.s (.slice (some ⟨b, 0, none⟩) k cap)) (.sl false (frs (l.take k))) := by
  have hd := flat_frs_take (l := l) (k := k) post hk
  have hl3 : (flat (frs (l.take k))).length = k * 3 := by rw [flat_length (frs_cells _), List.length_map, List.length_take, Nat.min_eq_left hk]
  refine .row hm (frs_cells _) (by simp [Nat.min_eq_left hk]) ?_ (by omega) (fun h => by cases h) ?_
  · rw [List.length_append, hl3, flat_length (frs_cells _), List.length_map]
    have : k * 3 ≤ l.length * 3 := Nat.mul_le_mul_right _ hk
    omega
  · rw [List.drop_zero, hl3, hd]
    exact Tells.same _ _

/-! ### All columns folded -/
def startF (n w : Nat) (l : List Fr) : Nat → Nat → Fr := fun i c => atF n w l i c
def foldsF (w n : Nat) (M : Nat → Nat → Fr) : Nat → Nat → Nat → Fr
  | 0 => M
  | k + 1 => foldF w (foldsF w n M k) k n
def triF (n w : Nat) (l : List Fr) : List Fr := clearF n (signsF n (gridP (foldsF w n (startF n w l) n) n n 0))
theorem row_start {n w : Nat} {l : List Fr} (hr : right n w l.length = true) {i : Nat} (hi : i < n) : rowF n w l i = rowM w (startF n w l) i := by
  rw [rowF_eq ⟨0, 0, false⟩ hr (by simpa using hi), Int.toNat_natCast, rowM]
  refine List.map_congr_left fun j hj => ?_
  rw [startF, atF_eq hr (by simpa using hi) (by simpa using hj), Int.toNat_natCast]
set_option maxHeartbeats 2000000 in
theorem ok73 (n w : Nat) (hn : 1 ≤ n) (hnw : n ≤ w) (hw : w ≤ 16) (e : Bool) (l : List Fr) (h : l.length = n * w) : Ok Tryz.prog 73 [matV e n w (frs l)] (.tup [matV false n n (frs (triF n w l)), tru true]) := by
  have hr : right (n : Int) (w : Int) l.length = true := right_nat ⟨hn, by omega⟩ ⟨by omega, hw⟩ h
  refine okt_fn mixed Tryz.func73 (code := ?_) (h := h73) ?_ k73 ?_
  rotate_left
  · exact rfl
  unfold h73 initS
  simp -implicitDefEqProofs only [rkA, rkB, stepA, valA, simprocAttr, Tryz.ntmps73, Tryz.results73]
  have h17 := ok144 e n w (frs l)
  have el : (frs l).length = l.length := by simp
  rw [el, hr] at h17
  refine call_fn rfl rfl rfl (h17) ?_
  have hgt : ¬ (n : Int) > w := by omega
  simp -implicitDefEqProofs only [hgt, rkA, rkB, stepA, valA, simprocAttr]
  refine call_fn rfl rfl rfl (ok145 e n w l) ?_
  simp -implicitDefEqProofs only [rkA, rkB, stepA, valA, simprocAttr]
  refine wp_rfM' (items := rowItems n w l) rfl (itm199 e n w l hr) (fun sv i s => i ≤ n ∧ ∃ mm c cap q, RowsC mm c q i w (startF n w l) ∧ (∀ a, a < i → w ≤ cap a) ∧ s = ⟨[], [(1, [nt n, nt w, .v (.sl e (frs l))]), (2, [nt 0, nt 0, .acc 3002 []]), (4, [.acc 1004 ((List.range i).map (rawC c cap w))])], [], [(1004, i), (3002, 0)], sv, 0, mm⟩) ?_ ?_ ?_
  · simp -implicitDefEqProofs only [rkA, rkB, stepA, valA, simprocAttr]
    exact ⟨Nat.zero_le _, nomem, fun _ => 0, fun _ => 0, fun _ => 0, ⟨fun i h => by omega, fun i j h => by omega⟩, fun a h => by omega, rfl⟩
  · rintro i x' p m s' R hx ⟨hi, mm, c, cap, q, hM, hcap, rfl⟩ hxm hfr hR
    have hlt : i < n := by
      have := (List.getElem?_eq_some_iff.1 hx).1
      simpa [rowItems] using this
    have hx' : x' = rowItem n w l i := by
      rw [rowItems, List.getElem?_map, List.getElem?_range (by simpa using hlt), Option.map_some] at hx
      exact (Option.some.inj hx).symm
    subst hx'
    obtain ⟨b, cp, z, h1, rfl, rfl⟩ := hxm
    have hb : mm b = none := hfr b (by rw [Mem.put_same]; rfl)
    have lr : (frs (rowF n w l i)).length = w := by rw [List.length_map, row_start hr hlt, rowM_length]
    rw [lr] at h1
    rw [lr, row_start hr hlt]
    refine ⟨rfl, ?_⟩
    have hfit := fits_raw c cap w i (.s (.slice (some ⟨b, 0, none⟩) w cp)) ⟨_, _, _, rfl⟩ (by omega)
    have hl : ((List.range i).map (rawC c cap w)).length = i := by simp
    simp -implicitDefEqProofs only [hfit, hl, raw_grow, rkA, rkB, stepA, valA, simprocAttr]
    refine hR _ ⟨by omega, _, _, _, _, hM.grow (z := z) hb, fun a ha => ?_, rfl⟩
    by_cases e : a = i
    · simp only [e, if_true]; exact h1
    · simp only [e, if_false]; exact hcap a (by omega)
  · rintro s' ⟨hi, mm, c, cap, q, hM, hcap, rfl⟩
    have li : (rowItems n w l).length = n := by simp [rowItems]
    rw [li] at hM hcap ⊢
    clear hi
    simp -implicitDefEqProofs only [rkA, rkB, stepA, valA, simprocAttr]
    refine wp_loop (fun m s => ∃ (k : Nat) (mm : Mem), k + m = n ∧ RowsC mm c q n w (foldsF w n (startF n w l) k) ∧ s = ⟨[jk, .ptr 1 0, .ptr 2 0, jk, .ptr 4 0, jk, jk, jk, jk, jk, jk, jk, jk, jk, jk, jk, jk, jk, jk, jk, jk, jk, jk, jk, jk, jk, jk, jk, jk, jk, jk, jk, jk, nt n, nt k, jk, jk, jk, jk, jk, jk, jk, jk, jk, jk, jk, jk, jk, jk, jk, jk, jk, jk, jk, jk, jk, jk, jk, jk, jk, jk, jk, jk, jk, jk, jk, jk, jk, jk, jk, jk, jk],
      [(1, [nt n, nt w, .v (.sl e (frs l))]), (2, [nt 0, nt 0, .acc 3002 []]), (4, [.acc 1004 ((List.range n).map (rawC c cap w))])], [], [(1004, n), (3002, 0)], [], 0, mm⟩) n ?_ ?_
    · simp -implicitDefEqProofs only [rkA, rkB, stepA, valA, simprocAttr]
      exact ⟨0, mm, by omega, hM, rfl⟩
    clear hM mm
    rintro m s ⟨k, mm, hk, hM, rfl⟩
    simp -implicitDefEqProofs only [rkA, rkB, stepA, valA, simprocAttr]
    refine gB_dec ?_ ?_ <;> intro hc <;> simp -implicitDefEqProofs only [hc, rkA, rkB, stepA, valA, simprocAttr]
    · have hw2 := wrapped (x := (k : Int) + 1) (by omega) (by omega)
      refine mem_fn rfl rfl rfl (okm146 false n w k (by omega) hnw hw _ c cap q hcap mm hM) ?_
      intro r m' hm'
      simp -implicitDefEqProofs only [hw2, rkA, rkB, stepA, valA, simprocAttr]
      refine loopK_of (m' := m - 1) (by omega) ?_
      simp -implicitDefEqProofs only [rkA, rkB, stepA, valA, simprocAttr]
      exact ⟨k + 1, m', by omega, hm', by simp only [Int.natCast_add, Int.natCast_one]⟩
    · have hkn : k = n := by omega
      rw [hkn] at hM
      clear hc hk hkn
      generalize hS : foldsF w n (startF n w l) n = S at hM
      have ll : ((List.range n).map (rawC c cap w)).length = n := by simp
      simp -implicitDefEqProofs only [ll, rkA, rkB, stepA, valA, simprocAttr]
      have hlen := gridP_length S n
      refine wp_loop (fun m s => ∃ k : Nat, k + m = n ∧ s = ⟨[jk, .ptr 1 0, .ptr 2 0, jk, jk, jk, jk, jk, .acc 8 (frs (gridP S n k 0)), jk, jk, jk, jk, jk, jk, jk, jk, jk, jk, jk, jk, jk, jk, jk, jk, jk, jk, jk, jk, jk, jk, jk, jk, jk, jk, jk, jk, jk, jk, jk, jk, .acc 1004 ((List.range n).map (rawC c cap w)), nt n, nt k, jk, jk, jk, jk, jk, jk, jk, jk, jk, jk, jk, jk, jk, jk, jk, jk, jk, jk, jk, jk, jk, jk, jk, jk, jk, jk, jk, jk],
        [(1, [nt n, nt w, .v (.sl e (frs l))]), (2, [nt 0, nt 0, .acc 3002 []]), (4, [.acc 1004 ((List.range n).map (rawC c cap w))])], [], [(8, (gridP S n k 0).length), (1004, n), (3002, 0)], [], 0, mm⟩) n ?_ ?_
      · simp -implicitDefEqProofs only [rkA, rkB, stepA, valA, simprocAttr]
        exact ⟨0, by simp, rfl⟩
      rintro m s ⟨k, hk, rfl⟩
      simp -implicitDefEqProofs only [rkA, rkB, stepA, valA, simprocAttr]
      refine gB_dec ?_ ?_ <;> intro hc <;> simp -implicitDefEqProofs only [hc, rkA, rkB, stepA, valA, simprocAttr]
      · have hk' : k < n := by omega
        have h0k : (0 : Int) ≤ (k : Int) := by omega
        have h0n : (0 : Int) ≤ (n : Int) := by omega
        have gk : ((List.range n).map (rawC c cap w))[k]? = some (rawC c cap w k) := by simp [hk']
        have ck := hcap k hk'
        have ne : (cap k = 0) = False := by simp; omega
        have s2 : (n ≤ cap k) = True := by simp; omega
        have im : (False → True) = True := by simp
        have hz : (0 ≤ n) = True := by simp
        simp -implicitDefEqProofs only [h0k, h0n, hc, Int.toNat_natCast, gk, ne, s2, im, hz, addr_add, Nat.zero_mul, Nat.sub_zero, rkA, rkB, stepA, valA, simprocAttr]
        have hlr : (rowM w S k).length = w := rowM_length _ _ _
        have ht := tell_first (m := mm) (b := c k) (cap := cap k) (k := n) (hM.row k hk') (by omega) (by omega)
        refine appM_of rfl rfl ht (RFs_frs _) ?_
        have hfit : fits 3 24 (frs (gridP S n k 0)) (frs ((rowM w S k).take n)) = true := fits_frs (by
          have := hlen k 0
          have := side16 (n := k) (m := n) (by omega) (by omega)
          rw [List.length_take]
          omega)
        have hlg : (frs (gridP S n k 0)).length = (gridP S n k 0).length := by simp
        have hw2 := wrapped (x := (k : Int) + 1) (by omega) (by omega)
        have g1 : frs (gridP S n k 0) ++ frs ((rowM w S k).take n) = frs (gridP S n (k + 1) 0) := by
          rw [← List.map_append]
          congr 1
          rw [← gridP_next, gridP, gridP, rowM, ← List.map_take, List.take_range, Nat.min_eq_left hnw]
          simp
        have g2 : (gridP S n k 0).length + (frs ((rowM w S k).take n)).length = (gridP S n (k + 1) 0).length := by
          rw [hlen, hlen, List.length_map, List.length_take, hlr, Nat.min_eq_left hnw, Nat.succ_mul]
          omega
        simp -implicitDefEqProofs only [hfit, hlg, g1, g2, hw2, rkA, rkB, stepA, valA, simprocAttr]
        refine loopK_of (m' := m - 1) (by omega) ?_
        simp -implicitDefEqProofs only [rkA, rkB, stepA, valA, simprocAttr]
        exact ⟨k + 1, by omega, by simp only [Int.natCast_add, Int.natCast_one]⟩
      · have hkn : k = n := by omega
        subst hkn
        have hL : (gridP S k k 0).length = k * k := by rw [hlen, Nat.add_zero]
        have hb := side16 (n := k) (m := k) (by omega) (by omega)
        have h34 := ok91 k k false (gridP S k k 0) (by omega)
        rw [right_sq ⟨hn, by omega⟩ hL, if_pos rfl] at h34
        refine call_fn rfl rfl rfl (h34) ?_
        simp -implicitDefEqProofs only [rkA, rkB, stepA, valA, simprocAttr]
        refine call_fn rfl rfl rfl (ok147 k ⟨hn, by omega⟩ false (gridP S k k 0) hL) ?_
        simp -implicitDefEqProofs only [rkA, rkB, stepA, valA, simprocAttr]
        refine call_fn rfl rfl rfl (ok148 k ⟨hn, by omega⟩ false (signsF k (gridP S k k 0)) (by rw [signsF, gridP_length, Nat.add_zero])) ?_
        simp -implicitDefEqProofs only [rkA, rkB, stepA, valA, simprocAttr]
        rw [triF, hS]
        exact ⟨_, rfl, .same _⟩
end Go.Proofs.YtambpjbpdackfaaGreat.A


set_option linter.unusedVariables false
set_option linter.unusedSimpArgs false
set_option maxRecDepth 100000
namespace Go.Proofs.YtambpjbpdackfaaGreat.A.E
open Go Go.RowKit Go.Shelf

theorem RowsC.grow {mm : Mem} {c q : Nat → Nat} {i w b z : Nat} {M : Nat → Nat → Fr} (h : RowsC mm c q i w M) (hb : mm b = none) :
    RowsC (mm.put b (flat (frs (rowM w M i)) ++ jnk z)) (fun j => if j = i then b else c j) (fun j => if j = i then z else q j) (i + 1) w M := by
  have hcb : ∀ j, j < i → c j ≠ b := fun j hj e => by have := h.row j hj; rw [e, hb] at this; cases this
  refine ⟨fun j hj => ?_, fun j k hj hk => ?_⟩
  · by_cases e : j = i
    · subst e
      simp only [if_true]
      rw [Mem.put_same]
    · simp only [e, if_false]
      rw [Mem.put_other _ _ (hcb j (by omega))]
      exact h.row j (by omega)
  · by_cases e : j = i <;> by_cases e' : k = i
    · intro _; omega
    · simp only [e, e', if_true, if_false]
      exact fun h1 => absurd h1.symm (hcb k (by omega))
    · simp only [e, e', if_true, if_false]
      exact fun h1 => absurd h1 (hcb j (by omega))
    · simp only [e, e', if_false]
      exact h.inj j k (by omega) (by omega)
/-- A row's first numbers in memory, told as a value. -/
theorem tell_first {m : Mem} {b cap k : Nat} {l : List Fr} {post : List PV} (hm : m b = some (flat (frs l) ++ post)) (hk : k ≤ l.length) (hc : l.length ≤ cap) : Tell m (.s (.slice (some ⟨b, 0, none⟩) k cap)) (.sl false (frs (l.take k))) := by
  have hd := flat_frs_take (l := l) (k := k) post hk
  have hl3 : (flat (frs (l.take k))).length = k * 4 := by rw [flat_length (frs_cells _), List.length_map, List.length_take, Nat.min_eq_left hk]
  refine .row hm (frs_cells _) (by simp [Nat.min_eq_left hk]) ?_ (by omega) (fun h => by cases h) ?_
  · rw [List.length_append, hl3, flat_length (frs_cells _), List.length_map]
    have : k * 4 ≤ l.length * 4 := Nat.mul_le_mul_right _ hk
    omega
  · rw [List.drop_zero, hl3, hd]
    exact Tells.same _ _

def startF (n w : Nat) (l : List Fr) : Nat → Nat → Fr := fun i c => atF n w l i c
def foldsF (w n : Nat) (M : Nat → Nat → Fr) : Nat → Nat → Nat → Fr
  | 0 => M
  | k + 1 => foldF w (foldsF w n M k) k n
def triF (n w : Nat) (l : List Fr) : List Fr := clearF n (signsF n (gridP (foldsF w n (startF n w l) n) n n 0))
theorem row_start {n w : Nat} {l : List Fr} (hr : right n w l.length = true) {i : Nat} (hi : i < n) : rowF n w l i = rowM w (startF n w l) i := by
  rw [rowF_eq ⟨0, 0, 0, false⟩ hr (by simpa using hi), Int.toNat_natCast, rowM]
  refine List.map_congr_left fun j hj => ?_
  rw [startF, atF_eq hr (by simpa using hi) (by simpa using hj), Int.toNat_natCast]
theorem ok19n (e : Bool) (r c : Int) (l : List Fr) (h : (right r c l.length && decide (r ≤ c)) = false) : Ok Tryz.prog 19 [matV e r c (frs l)] (.tup [matNil, tru false]) := by
  refine okt_fn mixed Tryz.func19 (code := ?_) (h := h19) ?_ k19 ?_
  rotate_left
  · exact rfl
  unfold h19 initS
  simp -implicitDefEqProofs only [rkA, rkB, stepA, valA, simprocAttr, Tryz.ntmps19, Tryz.results19]
  have h17 := ok72 e r c (frs l)
  have el : (frs l).length = l.length := by simp
  rw [el] at h17
  refine call_fn rfl rfl rfl (h17) ?_
  cases hr : right r c l.length with
  | false =>
    simp -implicitDefEqProofs only [rkA, rkB, stepA, valA, simprocAttr]
    exact ⟨_, rfl, .same _⟩
  | true =>
    have hne : r > c := by rw [hr] at h; simpa using h
    simp -implicitDefEqProofs only [hne, rkA, rkB, stepA, valA, simprocAttr]
    exact ⟨_, rfl, .same _⟩
set_option maxHeartbeats 2000000 in
theorem ok19 (n w : Nat) (hn : 1 ≤ n) (hnw : n ≤ w) (hw : w ≤ 16) (e : Bool) (l : List Fr) (h : l.length = n * w) : Ok Tryz.prog 19 [matV e n w (frs l)] (.tup [matV false n n (frs (triF n w l)), tru true]) := by
  have hr : right (n : Int) (w : Int) l.length = true := right_nat ⟨hn, by omega⟩ ⟨by omega, hw⟩ h
  refine okt_fn mixed Tryz.func19 (code := ?_) (h := h19) ?_ k19 ?_
  rotate_left
  · exact rfl
  unfold h19 initS
  simp -implicitDefEqProofs only [rkA, rkB, stepA, valA, simprocAttr, Tryz.ntmps19, Tryz.results19]
  have h17 := ok72 e n w (frs l)
  have el : (frs l).length = l.length := by simp
  rw [el, hr] at h17
  refine call_fn rfl rfl rfl (h17) ?_
  have hgt : ¬ (n : Int) > w := by omega
  simp -implicitDefEqProofs only [hgt, rkA, rkB, stepA, valA, simprocAttr]
  refine call_fn rfl rfl rfl (ok75 e n w l) ?_
  simp -implicitDefEqProofs only [rkA, rkB, stepA, valA, simprocAttr]
  refine wp_rfM' (items := rowItems n w l) rfl (itm149 e n w l hr) (fun sv i s => i ≤ n ∧ ∃ mm c cap q, RowsC mm c q i w (startF n w l) ∧ (∀ a, a < i → w ≤ cap a) ∧ s = ⟨[], [(1, [nt n, nt w, .v (.sl e (frs l))]), (2, [nt 0, nt 0, .acc 3002 []]), (4, [.acc 1004 ((List.range i).map (rawC c cap w))])], [], [(1004, i), (3002, 0)], sv, 0, mm⟩) ?_ ?_ ?_
  · simp -implicitDefEqProofs only [rkA, rkB, stepA, valA, simprocAttr]
    exact ⟨Nat.zero_le _, nomem, fun _ => 0, fun _ => 0, fun _ => 0, ⟨fun i h => by omega, fun i j h => by omega⟩, fun a h => by omega, rfl⟩
  · rintro i x' p m s' R hx ⟨hi, mm, c, cap, q, hM, hcap, rfl⟩ hxm hfr hR
    have hlt : i < n := by
      have := (List.getElem?_eq_some_iff.1 hx).1
      simpa [rowItems] using this
    have hx' : x' = rowItem n w l i := by
      rw [rowItems, List.getElem?_map, List.getElem?_range (by simpa using hlt), Option.map_some] at hx
      exact (Option.some.inj hx).symm
    subst hx'
    obtain ⟨b, cp, z, h1, rfl, rfl⟩ := hxm
    have hb : mm b = none := hfr b (by rw [Mem.put_same]; rfl)
    have lr : (frs (rowF n w l i)).length = w := by rw [List.length_map, row_start hr hlt, rowM_length]
    rw [lr] at h1
    rw [lr, row_start hr hlt]
    refine ⟨rfl, ?_⟩
    have hfit := fits_raw c cap w i (.s (.slice (some ⟨b, 0, none⟩) w cp)) ⟨_, _, _, rfl⟩ (by omega)
    have hl : ((List.range i).map (rawC c cap w)).length = i := by simp
    simp -implicitDefEqProofs only [hfit, hl, raw_grow, rkA, rkB, stepA, valA, simprocAttr]
    refine hR _ ⟨by omega, _, _, _, _, hM.grow (z := z) hb, fun a ha => ?_, rfl⟩
    by_cases e : a = i
    · simp only [e, if_true]; exact h1
    · simp only [e, if_false]; exact hcap a (by omega)
  · rintro s' ⟨hi, mm, c, cap, q, hM, hcap, rfl⟩
    have li : (rowItems n w l).length = n := by simp [rowItems]
    rw [li] at hM hcap ⊢
    clear hi
    simp -implicitDefEqProofs only [rkA, rkB, stepA, valA, simprocAttr]
    refine wp_loop (fun m s => ∃ (k : Nat) (mm : Mem), k + m = n ∧ RowsC mm c q n w (foldsF w n (startF n w l) k) ∧ s = ⟨[jk, .ptr 1 0, .ptr 2 0, jk, .ptr 4 0, jk, jk, jk, jk, jk, jk, jk, jk, jk, jk, jk, jk, jk, jk, jk, jk, jk, jk, jk, jk, jk, jk, jk, jk, jk, jk, jk, jk, nt n, nt k, jk, jk, jk, jk, jk, jk, jk, jk, jk, jk, jk, jk, jk, jk, jk, jk, jk, jk, jk, jk, jk, jk, jk, jk, jk, jk, jk, jk, jk, jk, jk, jk, jk, jk, jk, jk, jk],
      [(1, [nt n, nt w, .v (.sl e (frs l))]), (2, [nt 0, nt 0, .acc 3002 []]), (4, [.acc 1004 ((List.range n).map (rawC c cap w))])], [], [(1004, n), (3002, 0)], [], 0, mm⟩) n ?_ ?_
    · simp -implicitDefEqProofs only [rkA, rkB, stepA, valA, simprocAttr]
      exact ⟨0, mm, by omega, hM, rfl⟩
    clear hM mm
    rintro m s ⟨k, mm, hk, hM, rfl⟩
    simp -implicitDefEqProofs only [rkA, rkB, stepA, valA, simprocAttr]
    refine gB_dec ?_ ?_ <;> intro hc <;> simp -implicitDefEqProofs only [hc, rkA, rkB, stepA, valA, simprocAttr]
    · have hw2 := wrapped (x := (k : Int) + 1) (by omega) (by omega)
      refine mem_fn rfl rfl rfl (okm76 false n w k (by omega) hnw hw _ c cap q hcap mm hM) ?_
      intro r m' hm'
      simp -implicitDefEqProofs only [hw2, rkA, rkB, stepA, valA, simprocAttr]
      refine loopK_of (m' := m - 1) (by omega) ?_
      simp -implicitDefEqProofs only [rkA, rkB, stepA, valA, simprocAttr]
      exact ⟨k + 1, m', by omega, hm', by simp only [Int.natCast_add, Int.natCast_one]⟩
    · have hkn : k = n := by omega
      rw [hkn] at hM
      clear hc hk hkn
      generalize hS : foldsF w n (startF n w l) n = S at hM
      have ll : ((List.range n).map (rawC c cap w)).length = n := by simp
      simp -implicitDefEqProofs only [ll, rkA, rkB, stepA, valA, simprocAttr]
      have hlen := gridP_length S n
      refine wp_loop (fun m s => ∃ k : Nat, k + m = n ∧ s = ⟨[jk, .ptr 1 0, .ptr 2 0, jk, jk, jk, jk, jk, .acc 8 (frs (gridP S n k 0)), jk, jk, jk, jk, jk, jk, jk, jk, jk, jk, jk, jk, jk, jk, jk, jk, jk, jk, jk, jk, jk, jk, jk, jk, jk, jk, jk, jk, jk, jk, jk, jk, .acc 1004 ((List.range n).map (rawC c cap w)), nt n, nt k, jk, jk, jk, jk, jk, jk, jk, jk, jk, jk, jk, jk, jk, jk, jk, jk, jk, jk, jk, jk, jk, jk, jk, jk, jk, jk, jk, jk],
        [(1, [nt n, nt w, .v (.sl e (frs l))]), (2, [nt 0, nt 0, .acc 3002 []]), (4, [.acc 1004 ((List.range n).map (rawC c cap w))])], [], [(8, (gridP S n k 0).length), (1004, n), (3002, 0)], [], 0, mm⟩) n ?_ ?_
      · simp -implicitDefEqProofs only [rkA, rkB, stepA, valA, simprocAttr]
        exact ⟨0, by simp, rfl⟩
      rintro m s ⟨k, hk, rfl⟩
      simp -implicitDefEqProofs only [rkA, rkB, stepA, valA, simprocAttr]
      refine gB_dec ?_ ?_ <;> intro hc <;> simp -implicitDefEqProofs only [hc, rkA, rkB, stepA, valA, simprocAttr]
      · have hk' : k < n := by omega
        have h0k : (0 : Int) ≤ (k : Int) := by omega
        have h0n : (0 : Int) ≤ (n : Int) := by omega
        have gk : ((List.range n).map (rawC c cap w))[k]? = some (rawC c cap w k) := by simp [hk']
        have ck := hcap k hk'
        have ne : (cap k = 0) = False := by simp; omega
        have s2 : (n ≤ cap k) = True := by simp; omega
        have im : (False → True) = True := by simp
        have hz : (0 ≤ n) = True := by simp
        simp -implicitDefEqProofs only [h0k, h0n, hc, Int.toNat_natCast, gk, ne, s2, im, hz, addr_add, Nat.zero_mul, Nat.sub_zero, rkA, rkB, stepA, valA, simprocAttr]
        have hlr : (rowM w S k).length = w := rowM_length _ _ _
        have ht := tell_first (m := mm) (b := c k) (cap := cap k) (k := n) (hM.row k hk') (by omega) (by omega)
        refine appM_of rfl rfl ht (RFs_frs _) ?_
        have hfit : fits 4 32 (frs (gridP S n k 0)) (frs ((rowM w S k).take n)) = true := fits_frs (by
          have := hlen k 0
          have := side16 (n := k) (m := n) (by omega) (by omega)
          rw [List.length_take]
          omega)
        have hlg : (frs (gridP S n k 0)).length = (gridP S n k 0).length := by simp
        have hw2 := wrapped (x := (k : Int) + 1) (by omega) (by omega)
        have g1 : frs (gridP S n k 0) ++ frs ((rowM w S k).take n) = frs (gridP S n (k + 1) 0) := by
          rw [← List.map_append]
          congr 1
          rw [← gridP_next, gridP, gridP, rowM, ← List.map_take, List.take_range, Nat.min_eq_left hnw]
          simp
        have g2 : (gridP S n k 0).length + (frs ((rowM w S k).take n)).length = (gridP S n (k + 1) 0).length := by
          rw [hlen, hlen, List.length_map, List.length_take, hlr, Nat.min_eq_left hnw, Nat.succ_mul]
          omega
        simp -implicitDefEqProofs only [hfit, hlg, g1, g2, hw2, rkA, rkB, stepA, valA, simprocAttr]
        refine loopK_of (m' := m - 1) (by omega) ?_
        simp -implicitDefEqProofs only [rkA, rkB, stepA, valA, simprocAttr]
        exact ⟨k + 1, by omega, by simp only [Int.natCast_add, Int.natCast_one]⟩
      · have hkn : k = n := by omega
        subst hkn
        have hL : (gridP S k k 0).length = k * k := by rw [hlen, Nat.add_zero]
        have hb := side16 (n := k) (m := k) (by omega) (by omega)
        have h34 := ok17 k k false (gridP S k k 0) (by omega)
        rw [right_sq ⟨hn, by omega⟩ hL, if_pos rfl] at h34
        refine call_fn rfl rfl rfl (h34) ?_
        simp -implicitDefEqProofs only [rkA, rkB, stepA, valA, simprocAttr]
        refine call_fn rfl rfl rfl (ok77 k ⟨hn, by omega⟩ false (gridP S k k 0) hL) ?_
        simp -implicitDefEqProofs only [rkA, rkB, stepA, valA, simprocAttr]
        refine call_fn rfl rfl rfl (ok78 k ⟨hn, by omega⟩ false (signsF k (gridP S k k 0)) (by rw [signsF, gridP_length, Nat.add_zero])) ?_
        simp -implicitDefEqProofs only [rkA, rkB, stepA, valA, simprocAttr]
        rw [triF, hS]
        exact ⟨_, rfl, .same _⟩
end Go.Proofs.YtambpjbpdackfaaGreat.A.E





set_option linter.unusedVariables false
set_option linter.unusedSimpArgs false
set_option maxRecDepth 100000
namespace Go.Proofs.YtambpjbpdackfaaGreat.A.E
open Go Go.RowKit Go.Shelf

/-! ### The reference's Fold -/
theorem ok81 (a : Fr) : Ok Tryz.prog 81 [frV a] (frV (negF a)) := by
  have e : negF a = subF ⟨0, 0, 0, false⟩ a := by
    have : point 0 = ⟨0, 0, 0, false⟩ := by decide
    rw [negF, this]
  refine ok_fn mixed Tryz.func81 (code := ?_) (h := h81) ?_ k81 ?_
  rotate_left
  · exact rfl
  unfold h81 initS
  simp -implicitDefEqProofs (maxSteps := 10000000) only [rkA, rkB, stepA, valA, simprocAttr, Tryz.ntmps81, Tryz.results81]
  refine call_fn rfl rfl rfl (ok79b ⟨0, 0, 0, false⟩ a) ?_
  simp -implicitDefEqProofs (maxSteps := 10000000) only [e, rkA, rkB, stepA, valA, simprocAttr]
/-- A part of a row in memory, told as a value. -/
theorem tell_mid {m : Mem} {b cap a len : Nat} {l : List Fr} {post : List PV} (hm : m b = some (flat (frs l) ++ post)) (h : a + len ≤ l.length) (hc : len ≤ cap) : Tell m (.s (.slice (some ⟨b, a * 4, none⟩) len cap)) (.sl false (frs ((l.drop a).take len))) := by
  have hd := flat_frs_drop (l := l) (k := a) post (by omega)
  have ht := flat_frs_take (l := l.drop a) (k := len) post (by rw [List.length_drop]; omega)
  have hlen : ((l.drop a).take len).length = len := by rw [List.length_take, List.length_drop]; omega
  have hl3 : (flat (frs ((l.drop a).take len))).length = len * 4 := by rw [flat_length (frs_cells _), List.length_map, hlen]
  refine .row hm (frs_cells _) (by rw [List.length_map, hlen]) ?_ (by omega) (fun h => by cases h) ?_
  · rw [List.length_append, hl3, flat_length (frs_cells _), List.length_map]
    have : a * 4 + len * 4 ≤ l.length * 4 := by omega
    omega
  · rw [hd, hl3, ht]
    exact Tells.same _ _
theorem grid_row {g : Nat → Nat → Fr} {n N i a : Nat} (hi : i < N) (ha : a ≤ n) : ((gridP g n N 0).drop (i * n + a)).take (n - a) = (rowM n g i).drop a := by
  apply List.ext_getElem?
  intro j
  by_cases hj : j < n - a
  · rw [List.getElem?_take_of_lt hj, List.getElem?_drop, List.getElem?_drop, show i * n + a + j = i * n + (a + j) by omega, gridP_get _ _ _ _ _ hi (by omega), rowM_get (by omega)]
  · rw [List.getElem?_eq_none (by rw [List.length_take]; omega), List.getElem?_eq_none (by rw [List.length_drop, rowM_length]; omega)]
theorem at_inj {n i k a b : Nat} (hk : k < n) (hb : b < n) (h : i * n + k = a * n + b) : i = a ∧ k = b := by
  have e : ∀ i k : Nat, k < n → (i * n + k) / n = i := fun i k hk => by
    rw [Nat.mul_comm, Nat.mul_add_div (by omega), Nat.div_eq_of_lt hk, Nat.add_zero]
  have h1 := e i k hk
  rw [h, e a b hb] at h1
  subst h1
  exact ⟨rfl, by omega⟩
theorem grid_set {g : Nat → Nat → Fr} {n N i k : Nat} {x : Fr} (hi : i < N) (hk : k < n) : (gridP g n N 0).set (i * n + k) x = gridP (setM g i k x) n N 0 := by
  have hlen := gridP_length g n N 0
  refine grid_of (by rw [List.length_set, hlen, Nat.add_zero]) fun a b ha hb => ?_
  rw [List.getElem?_set]
  by_cases e : i * n + k = a * n + b
  · obtain ⟨rfl, rfl⟩ := at_inj hk hb e
    have := at_table (i := i) (j := k) (n := N) (m := n) hi hk
    rw [if_pos e, if_pos (by omega)]
    simp [setM]
  · rw [if_neg e, gridP_get _ _ _ _ _ ha hb]
    have : ¬ (a = i ∧ b = k) := fun h => e (by rw [h.1, h.2])
    simp [setM, this]
/-- A row of a table folded, as the document does it: the row itself keeps its numbers, but the first. -/
def refF (w : Nat) (M : Nat → Nat → Fr) (k n : Nat) : Nat → Nat → Fr := setM (foldTo w M k n) k k (normF w M k)
def refsF (w n : Nat) (M : Nat → Nat → Fr) : Nat → Nat → Nat → Fr
  | 0 => M
  | k + 1 => refF w (refsF w n M k) k n
theorem sign_pos (x : Fr) : decide (0 ≤ signF x) = (x.bad || decide (0 ≤ x.v)) := by
  unfold signF
  cases hb : x.bad
  · by_cases h0 : x.v = 0
    · simp [h0]
    · by_cases h1 : x.v < 0
      · have : ¬ 0 ≤ x.v := by omega
        simp [h0, h1, this]
      · have : 0 ≤ x.v := by omega
        simp [h0, h1, this]
  · simp
/-- What is told of the folded table. -/
def outG (R : Nat → Nat → Fr) (i k : Nat) : Fr := if k > i then ⟨0, 0, 0, false⟩ else if (R k k).bad = false ∧ (R k k).v < 0 then negF (R i k) else R i k
/-- One row in work: its numbers up to the j-th. -/
def rowTo (w : Nat) (M : Nat → Nat → Fr) (k i j : Nat) : Nat → Nat → Fr := fun a c => if a = i ∧ k ≤ c ∧ c < j then subF (M a c) (mulF (vA w M k c) (tF w M k i)) else foldTo w M k i a c
theorem rowTo_start (w : Nat) (M : Nat → Nat → Fr) (k i : Nat) : rowTo w M k i k = foldTo w M k i := by
  funext a c
  unfold rowTo
  rw [if_neg (by omega)]
theorem rowTo_at {w k i j : Nat} {M : Nat → Nat → Fr} (hki : k < i) : rowTo w M k i j i j = M i j := by
  unfold rowTo foldTo
  rw [if_neg (by omega), if_neg (by omega)]
theorem rowTo_step {w k i j : Nat} {M : Nat → Nat → Fr} (hki : k < i) (hkj : k ≤ j) : setM (rowTo w M k i j) i j (subF (M i j) (mulF (vA w M k j) (tF w M k i))) = rowTo w M k i (j + 1) := by
  funext a c
  unfold setM rowTo
  by_cases e : a = i ∧ c = j
  · obtain ⟨rfl, rfl⟩ := e
    rw [if_pos ⟨rfl, rfl⟩, if_pos ⟨rfl, hkj, by omega⟩]
  · rw [if_neg e]
    by_cases h : a = i ∧ k ≤ c ∧ c < j
    · rw [if_pos h, if_pos ⟨h.1, h.2.1, by omega⟩]
    · rw [if_neg h, if_neg (fun h' => h ⟨h'.1, h'.2.1, by
        have := h'.2.2
        by_cases ec : c = j
        · exact absurd ⟨h'.1, ec⟩ e
        · omega⟩)]
theorem rowTo_end {n w k i : Nat} {M : Nat → Nat → Fr} (hki : k < i) : gridP (rowTo w M k i w) w n 0 = gridP (foldTo w M k (i + 1)) w n 0 := by
  refine gridP_congr fun a c ha hc => ?_
  unfold rowTo foldTo
  by_cases h : a = i ∧ k ≤ c
  · rw [if_pos ⟨h.1, h.2, hc⟩, if_pos ⟨by omega, by omega, h.2⟩, h.1]
  · rw [if_neg (fun h' => h ⟨h'.1, h'.2.1⟩)]
    by_cases h1 : k < a ∧ a < i ∧ k ≤ c
    · rw [if_pos h1, if_pos ⟨h1.1, by omega, h1.2.2⟩]
    · have h2 : ¬ (k < a ∧ a < i + 1 ∧ k ≤ c) := by
        intro h'
        by_cases e : a = i
        · exact h ⟨e, h'.2.2⟩
        · exact h1 ⟨h'.1, by omega, h'.2.2⟩
      rw [if_neg h1, if_neg h2]
set_option maxHeartbeats 4000000 in
theorem ok21 (n w : Nat) (hn : 1 ≤ n) (hnw : n ≤ w) (hw : w ≤ 16) (l : List Fr) (hl : l.length = n * w) :
    Ok Tryz.prog 21 [.sl false (frs l), num n, num w] (.sl false (frs (gridP (outG (refsF w n (startF n w l) n)) n n 0))) := by
  have la : (frs l).length = n * w := by simp [hl]
  have b1 : n * w ≤ 256 := side16 (by omega) hw
  have b0 : 1 * 1 ≤ n * w := Nat.mul_le_mul hn (by omega)
  refine okt_fn mixed Tryz.func21 (code := ?_) (h := hN21) ?_ kN21 ?_
  rotate_left
  · exact rfl
  unfold hN21 initS
  simp -implicitDefEqProofs (maxSteps := 10000000) only [rkA, rkB, stepA, valA, simprocAttr, Tryz.ntmps21, Tryz.results21]
  refine grow_of rfl rfl (.same _) (.same _) rfl (RFs_frs _) (fits_frs (k := []) (l := l) (by simp only [List.length_nil]; omega)) (fun h => ?_) (fun _ c cap k hc hcap hk => ?_)
  · exfalso
    have : l = [] := by simpa using h
    rw [this] at hl
    simp at hl
    omega
  simp -implicitDefEqProofs (maxSteps := 10000000) only [List.nil_append, rkA, rkB, stepA, valA, simprocAttr]
  have hst : l = gridP (refsF w n (startF n w l) 0) w n 0 := by
    refine grid_of hl fun i j hi hj => ?_
    have ht := at_table (i := i) (j := j) (n := n) (m := w) hi hj
    rw [refsF, startF, atF_eq (right_nat ⟨hn, by omega⟩ ⟨by omega, hw⟩ hl) (by simpa using hi) (by simpa using hj), Int.toNat_natCast, List.getD_eq_getElem?_getD, List.getElem?_eq_getElem (by omega)]
    rfl
  have hcap' : n * w ≤ cap := by
    rw [la] at hcap
    simpa using hcap
  refine wp_loop (fun m s => ∃ (k : Nat) (mm : Mem) (z : Nat), k + m = n ∧ mm c = some (flat (frs (gridP (refsF w n (startF n w l) k) w n 0)) ++ jnk z) ∧ s = ⟨[jk, .v (num n), .v (num w), jk, jk, jk, jk, .v (.s (.slice (some ⟨c, 0, none⟩) (n * w) cap)), nt k, jk, jk, jk, jk, jk, jk, jk, jk, jk, jk, jk, jk, jk, jk, jk, jk, jk, jk, jk, jk, jk, jk, jk, jk, jk, jk, jk, jk, jk, jk, jk, jk, jk, jk, jk, jk, jk, jk, jk, jk, jk, jk, jk, jk, jk, jk, jk, jk, jk, jk, jk, jk, jk, jk, jk, jk, jk, jk, jk, jk, jk, jk, jk, jk, jk, jk, jk, jk, jk, jk, jk, jk, jk, jk, jk, jk, jk, jk, jk, jk, jk, jk, jk, jk, jk, jk, jk, jk, jk, jk, jk, jk, jk, jk, jk, jk, jk, jk, jk, jk, jk, jk, jk, jk, jk, jk, jk, jk, jk, jk, jk, jk, jk, jk, jk, jk, jk, jk, jk, jk, jk, jk, jk, jk, jk, jk, jk, jk, jk, jk, jk, jk, jk, jk, jk, jk, jk, jk, jk, jk, jk, jk, jk, jk, jk, jk, jk, jk, jk, jk, jk, jk, jk, jk, jk, jk, jk, jk, jk, jk, jk, jk, jk, jk, jk, jk, jk, jk, jk, jk, jk, jk, jk, jk, jk, jk, jk], [], [], [(6, 0)], [], 0, mm⟩) n ?_ ?_
  · simp -implicitDefEqProofs (maxSteps := 10000000) only [la, rkA, rkB, stepA, valA, simprocAttr]
    exact ⟨0, _, k, by omega, by rw [Mem.put_same, ← hst], rfl⟩
  clear hk hc hst
  rintro m s ⟨k, mm, z, hkm, hmm, rfl⟩
  simp -implicitDefEqProofs (maxSteps := 10000000) only [rkA, rkB, stepA, valA, simprocAttr]
  generalize hM : refsF w n (startF n w l) k = M at hmm
  refine gB_dec ?_ ?_ <;> intro hkn <;> simp -implicitDefEqProofs (maxSteps := 10000000) only [hkn, rkA, rkB, stepA, valA, simprocAttr]
  · have hkn' : k < n := by omega
    have t0 := at_table (i := k) (j := k) (n := n) (m := w) hkn' (by omega)
    have c1 : (k : Int) * (w : Int) = ((k * w : Nat) : Int) := by simp
    have c2 : ((k * w : Nat) : Int) + (k : Int) = ((k * w + k : Nat) : Int) := by simp
    have c3 : ((k * w : Nat) : Int) + (w : Int) = ((k * w + w : Nat) : Int) := by simp
    have w1 := wrapped (x := ((k * w : Nat) : Int)) (by omega) (by omega)
    have hrow : k * w + w ≤ n * w := by
      have : (k + 1) * w ≤ n * w := Nat.mul_le_mul_right _ hkn'
      rw [Nat.add_mul, Nat.one_mul] at this
      exact this
    have w2 := wrapped (x := ((k * w + k : Nat) : Int)) (by omega) (by omega)
    have w3 := wrapped (x := ((k * w + w : Nat) : Int)) (by omega) (by omega)
    have n2 : (0 : Int) ≤ ((k * w + k : Nat) : Int) := by omega
    have n3 : (0 : Int) ≤ ((k * w + w : Nat) : Int) := by omega
    have s1 : (k * w + k ≤ k * w + w) = True := by simp; omega
    have s2 : (k * w + w ≤ cap) = True := by simp; omega
    have ne : (cap = k * w + k) = False := by simp; omega
    have im : (False → True) = True := by simp
    have sb : k * w + w - (k * w + k) = w - k := by omega
    simp -implicitDefEqProofs (maxSteps := 10000000) only [c1, w1, c2, w2, c3, w3, n2, n3, Int.toNat_natCast, s1, s2, ne, im, sb, addr_add, rkA, rkB, stepA, valA, simprocAttr]
    have lg : (gridP M w n 0).length = n * w := by rw [gridP_length, Nat.add_zero]
    have hx0 : Tell mm (.s (.slice (some ⟨c, (k * w + k) * 4, none⟩) (w - k) (cap - (k * w + k)))) (.sl false (frs (xF w M k))) := by
      have h := tell_mid (cap := cap - (k * w + k)) (a := k * w + k) (len := w - k) hmm (by rw [lg]; omega) (by omega)
      rwa [grid_row hkn' (by omega)] at h
    have lx := xF_len (w := w) (k := k) M
    have lxf : (frs (xF w M k)).length = w - k := by rw [List.length_map, lx]
    refine grow_of rfl rfl (.same _) hx0 rfl (RFs_frs _) (fits_frs (k := []) (l := xF w M k) (by simp only [List.length_nil]; omega)) (fun h => ?_) (fun _ cx capx zx hcx hcapx hzx => ?_)
    · exfalso
      have := congrArg List.length h
      rw [lxf] at this
      simp at this
      omega
    have hcx' : mm cx = none := hcx
    have hcc : c ≠ cx := fun e => by rw [← e, hmm] at hcx'; cases hcx'
    have hcapx' : w - k ≤ capx := by
      rw [lxf] at hcapx
      simpa using hcapx
    simp -implicitDefEqProofs (maxSteps := 10000000) only [List.nil_append, lxf, List.length_nil, Nat.zero_add, rkA, rkB, stepA, valA, simprocAttr]
    have hx1 : (mm.put cx (flat (frs (xF w M k)) ++ jnk zx)) cx = some (flat (frs (xF w M k)) ++ jnk zx) := Mem.put_same _ _ _
    have hm1 : (mm.put cx (flat (frs (xF w M k)) ++ jnk zx)) c = some (flat (frs (gridP M w n 0)) ++ jnk z) := by rw [Mem.put_other _ _ hcc, hmm]
    clear hx0 hcx hzx hcapx hmm hcx'
    generalize mm.put cx (flat (frs (xF w M k)) ++ jnk zx) = m1 at hx1 hm1 ⊢
    have tx : Tell m1 (.s (.slice (some ⟨cx, 0, none⟩) (w - k) capx)) (.sl false (frs (xF w M k))) := by
      have := tell_row (cap := capx) hx1 (by omega)
      rwa [lxf] at this
    refine lend_fn rfl rfl (.cons tx (.cons tx .nil)) (ok80 false false _ _ (by omega) (by omega)) rfl ?_
    simp -implicitDefEqProofs (maxSteps := 10000000) only [rkA, rkB, stepA, valA, simprocAttr]
    refine lend_fn rfl rfl (.cons tx (.cons tx .nil)) (ok80 false false _ _ (by omega) (by omega)) rfl ?_
    simp -implicitDefEqProofs (maxSteps := 10000000) only [rkA, rkB, stepA, valA, simprocAttr]
    refine call_fn rfl rfl rfl (ok79e (dotF (xF w M k) (xF w M k))) ?_
    have gx0 : (xF w M k)[0]? = some (M k k) := by
      unfold xF
      rw [List.getElem?_drop]
      exact rowM_get (by omega)
    have hw0 : (0 < ((w - k : Nat) : Int)) = True := by simp; omega
    obtain ⟨rest, hxr⟩ : ∃ rest, xF w M k = M k k :: rest := by
      cases hxx : xF w M k with
      | nil => rw [hxx] at gx0; cases gx0
      | cons a rest =>
        rw [hxx] at gx0
        obtain rfl : a = M k k := by simpa using gx0
        exact ⟨rest, rfl⟩
    have hl3 : ldM false 1 3 (flat (frs (xF w M k)) ++ jnk zx) = some (.v (tru (M k k).bad)) := ldM_one (by rw [hxr]; rfl)
    have hl0 : ldM false 1 0 (flat (frs (xF w M k)) ++ jnk zx) = some (.v (num (M k k).v)) := ldM_one (by rw [hxr]; rfl)
    have hsp := sign_pos (M k k)
    simp -implicitDefEqProofs (maxSteps := 10000000) only [hw0, hx1, Nat.zero_add, hl3, rkA, rkB, stepA, valA, simprocAttr]
    cases hb : (M k k).bad with
    | true =>
      have hp : negF (rootF (dotF (xF w M k) (xF w M k))) = normF w M k := (if_pos (by rw [hb] at hsp; simpa using hsp)).symm
      simp -implicitDefEqProofs (maxSteps := 10000000) only [rkA, rkB, stepA, valA, simprocAttr]
      refine call_fn rfl rfl rfl (ok81 (rootF (dotF (xF w M k) (xF w M k)))) ?_
      simp -implicitDefEqProofs (maxSteps := 10000000) only [hp, rkA, rkB, stepA, valA, simprocAttr]
      refine grow_of rfl rfl (.same _) tx rfl (RFs_frs _) (fits_frs (k := []) (l := xF w M k) (by simp only [List.length_nil]; omega)) (fun h => ?_) (fun _ cv capv zv hcv hcapv hzv => ?_)
      · exfalso
        have := congrArg List.length h
        rw [lxf] at this
        simp at this
        omega
      have hcv' : m1 cv = none := hcv
      have hcc2 : c ≠ cv := fun e => by rw [← e, hm1] at hcv'; cases hcv'
      have hcapv' : w - k ≤ capv := by
        rw [lxf] at hcapv
        simpa using hcapv
      have hm2 : (m1.put cv (flat (frs (xF w M k)) ++ jnk zv)) c = some (flat (frs (gridP M w n 0)) ++ jnk z) := by rw [Mem.put_other _ _ hcc2, hm1]
      have hlv := ldM_frj (post := jnk zv) (k := 0) gx0
      have hsv := stM_frj (l := xF w M k) (k := 0) (x := subF (M k k) (normF w M k)) (post := jnk zv) (by omega)
      rw [Nat.zero_mul] at hlv hsv
      rw [vF_set (by omega)] at hsv
      simp -implicitDefEqProofs (maxSteps := 10000000) only [List.nil_append, lxf, List.length_nil, Nat.zero_add, hw0, Mem.put_same, hlv, rkA, rkB, stepA, valA, simprocAttr]
      refine call_fn rfl rfl rfl (ok79b (M k k) (normF w M k)) ?_
      simp -implicitDefEqProofs (maxSteps := 10000000) only [hw0, Mem.put_same, hsv, Nat.zero_add, rkA, rkB, stepA, valA, simprocAttr]
      have hv3 : ((m1.put cv (flat (frs (xF w M k)) ++ jnk zv)).put cv (flat (frs (vF w M k)) ++ jnk zv)) cv = some (flat (frs (vF w M k)) ++ jnk zv) := Mem.put_same _ _ _
      have hm3 : ((m1.put cv (flat (frs (xF w M k)) ++ jnk zv)).put cv (flat (frs (vF w M k)) ++ jnk zv)) c = some (flat (frs (gridP (foldTo w M k (k + 1)) w n 0)) ++ jnk z) := by rw [Mem.put_other _ _ hcc2, hm2, foldTo_first]
      generalize (m1.put cv (flat (frs (xF w M k)) ++ jnk zv)).put cv (flat (frs (vF w M k)) ++ jnk zv) = m3 at hv3 hm3 ⊢
      have lv := vF_len (w := w) (k := k) M
      have tv : ∀ mm : Mem, mm cv = some (flat (frs (vF w M k)) ++ jnk zv) → Tell mm (.s (.slice (some ⟨cv, 0, none⟩) (w - k) capv)) (.sl false (frs (vF w M k))) := fun mm hmm => by
        have := tell_row (cap := capv) hmm (by rw [List.length_map, lv]; omega)
        rwa [List.length_map, lv] at this
      refine lend_fn rfl rfl (.cons (tv m3 hv3) (.cons (tv m3 hv3) .nil)) (ok80 false false _ _ (by omega) (by omega)) rfl ?_
      have hw1 := wrapped (x := ((k + 1 : Nat) : Int)) (by omega) (by omega)
      have hk1 : (k : Int) + 1 = ((k + 1 : Nat) : Int) := by simp
      simp -implicitDefEqProofs (maxSteps := 10000000) only [hw1, hk1, rkA, rkB, stepA, valA, simprocAttr]
      refine wp_loop (fun m s => ∃ (i : Nat) (mm : Mem), k < i ∧ i + m = n ∧ mm c = some (flat (frs (gridP (foldTo w M k i) w n 0)) ++ jnk z) ∧ mm cv = some (flat (frs (vF w M k)) ++ jnk zv) ∧ s = ⟨[jk, .v (num n), .v (num w), jk, jk, jk, jk, .v (.s (.slice (some ⟨c, 0, none⟩) (n * w) cap)), nt k, jk, .ptr 10 0, .v (.s (.slice (some ⟨cv, 0, none⟩) (w - k) capv)), .ptr 12 0, nt i, jk, jk, jk, jk, jk, jk, jk, jk, jk, jk, jk, jk, jk, jk, jk, jk, jk, jk, jk, jk, jk, jk, jk, jk, jk, jk, jk, jk, jk, jk, jk, jk, jk, jk, jk, jk, jk, jk, jk, jk, jk, jk, jk, jk, jk, jk, jk, jk, jk, jk, jk, jk, jk, jk, jk, jk, jk, jk, jk, jk, jk, jk, jk, jk, jk, jk, jk, jk, jk, jk, jk, jk, jk, jk, jk, jk, jk, jk, jk, jk, jk, jk, jk, jk, jk, jk, jk, jk, jk, jk, jk, jk, jk, jk, jk, jk, jk, jk, jk, jk, jk, jk, jk, jk, jk, jk, jk, jk, jk, jk, jk, jk, jk, jk, jk, jk, jk, jk, jk, jk, jk, jk, jk, jk, jk, jk, jk, jk, jk, jk, jk, jk, jk, jk, jk, jk, jk, jk, jk, jk, jk, jk, jk, jk, jk, jk, jk, jk, jk, jk, jk, jk, jk, jk, jk, jk, jk, jk, jk, jk, jk, jk, jk, jk, jk, jk, jk, jk, jk, jk, jk, jk],
        [(10, [.v (num (normF w M k).v), .v (num (normF w M k).lo), .v (num (normF w M k).hi), .v (tru (normF w M k).bad)]), (12, [.v (num (dotF (vF w M k) (vF w M k)).v), .v (num (dotF (vF w M k) (vF w M k)).lo), .v (num (dotF (vF w M k) (vF w M k)).hi), .v (tru (dotF (vF w M k) (vF w M k)).bad)])], [], [(6, 0)], [], 0, mm⟩) (n - (k + 1)) ?_ ?_
      · simp -implicitDefEqProofs (maxSteps := 10000000) only [rkA, rkB, stepA, valA, simprocAttr]
        exact ⟨k + 1, m3, by omega, by omega, hm3, hv3, rfl⟩
      clear hv3 hm3 hm2 hm1 hx1 tx hsv hlv hcv hcv' hcapv hzv
      rintro m' s ⟨i, mm, hki, him, hmm, hmv, rfl⟩
      simp -implicitDefEqProofs (maxSteps := 10000000) only [rkA, rkB, stepA, valA, simprocAttr]
      refine gB_dec ?_ ?_ <;> intro hin <;> simp -implicitDefEqProofs (maxSteps := 10000000) only [hin, rkA, rkB, stepA, valA, simprocAttr]
      · have hin' : i < n := by omega
        have i0 := at_table (i := i) (j := k) (n := n) (m := w) hin' (by omega)
        have irow : i * w + w ≤ n * w := by
          have : (i + 1) * w ≤ n * w := Nat.mul_le_mul_right _ hin'
          rw [Nat.add_mul, Nat.one_mul] at this
          exact this
        have d1 : (i : Int) * (w : Int) = ((i * w : Nat) : Int) := by simp
        have d2 : ((i * w : Nat) : Int) + (k : Int) = ((i * w + k : Nat) : Int) := by simp
        have d3 : ((i * w : Nat) : Int) + (w : Int) = ((i * w + w : Nat) : Int) := by simp
        have e1 := wrapped (x := ((i * w : Nat) : Int)) (by omega) (by omega)
        have e2 := wrapped (x := ((i * w + k : Nat) : Int)) (by omega) (by omega)
        have e3 := wrapped (x := ((i * w + w : Nat) : Int)) (by omega) (by omega)
        have m2 : (0 : Int) ≤ ((i * w + k : Nat) : Int) := by omega
        have m3' : (0 : Int) ≤ ((i * w + w : Nat) : Int) := by omega
        have p1 : (i * w + k ≤ i * w + w) = True := by simp; omega
        have p2 : (i * w + w ≤ cap) = True := by simp; omega
        have pe : (cap = i * w + k) = False := by simp; omega
        have pb : i * w + w - (i * w + k) = w - k := by omega
        simp -implicitDefEqProofs (maxSteps := 10000000) only [d1, e1, d2, e2, d3, e3, m2, m3', Int.toNat_natCast, p1, p2, pe, im, pb, addr_add, rkA, rkB, stepA, valA, simprocAttr]
        have lg2 : (gridP (foldTo w M k i) w n 0).length = n * w := by rw [gridP_length, Nat.add_zero]
        have hxi : Tell mm (.s (.slice (some ⟨c, (i * w + k) * 4, none⟩) (w - k) (cap - (i * w + k)))) (.sl false (frs ((rowM w M i).drop k))) := by
          have h := tell_mid (cap := cap - (i * w + k)) (a := i * w + k) (len := w - k) hmm (by rw [lg2]; omega) (by omega)
          rwa [grid_row hin' (by omega), foldTo_row] at h
        have lri : ((rowM w M i).drop k).length = w - k := by rw [List.length_drop, rowM_length]
        refine lend_fn rfl rfl (.cons hxi (.cons (tv mm hmv) .nil)) (ok80 false false _ _ (by omega) (by omega)) rfl ?_
        simp -implicitDefEqProofs (maxSteps := 10000000) only [rkA, rkB, stepA, valA, simprocAttr]
        refine call_fn rfl rfl rfl (ok79a (dotF ((rowM w M i).drop k) (vF w M k)) (dotF ((rowM w M i).drop k) (vF w M k))) ?_
        simp -implicitDefEqProofs (maxSteps := 10000000) only [rkA, rkB, stepA, valA, simprocAttr]
        refine call_fn rfl rfl rfl (ok79d (addF (dotF ((rowM w M i).drop k) (vF w M k)) (dotF ((rowM w M i).drop k) (vF w M k))) (dotF (vF w M k) (vF w M k))) ?_
        have htF : divF (addF (dotF ((rowM w M i).drop k) (vF w M k)) (dotF ((rowM w M i).drop k) (vF w M k))) (dotF (vF w M k) (vF w M k)) = tF w M k i := rfl
        simp -implicitDefEqProofs (maxSteps := 10000000) only [htF, rkA, rkB, stepA, valA, simprocAttr]
        refine wp_loop (fun m s => ∃ (j : Nat) (mm : Mem), k ≤ j ∧ j + m = w ∧ mm c = some (flat (frs (gridP (rowTo w M k i j) w n 0)) ++ jnk z) ∧ mm cv = some (flat (frs (vF w M k)) ++ jnk zv) ∧ s = ⟨[jk, .v (num n), .v (num w), jk, jk, jk, jk, .v (.s (.slice (some ⟨c, 0, none⟩) (n * w) cap)), nt k, jk, .ptr 10 0, .v (.s (.slice (some ⟨cv, 0, none⟩) (w - k) capv)), .ptr 12 0, nt i, jk, .ptr 15 0, nt j, jk, jk, jk, jk, jk, jk, jk, jk, jk, jk, jk, jk, jk, jk, jk, jk, jk, jk, jk, jk, jk, jk, jk, jk, jk, jk, jk, jk, jk, jk, jk, jk, jk, jk, jk, jk, jk, jk, jk, jk, jk, jk, jk, jk, jk, jk, jk, jk, jk, jk, jk, jk, jk, jk, jk, jk, jk, jk, jk, jk, jk, jk, jk, jk, jk, jk, jk, jk, jk, jk, jk, jk, jk, jk, jk, jk, jk, jk, jk, jk, jk, jk, jk, jk, jk, jk, jk, jk, jk, jk, jk, jk, jk, jk, jk, jk, jk, jk, jk, jk, jk, jk, jk, jk, jk, jk, jk, jk, jk, jk, jk, jk, jk, jk, jk, jk, jk, jk, jk, jk, jk, jk, jk, jk, jk, jk, jk, jk, jk, jk, jk, jk, jk, jk, jk, jk, jk, jk, jk, jk, jk, jk, jk, jk, jk, jk, jk, jk, jk, jk, jk, jk, jk, jk, jk, jk, jk, jk, jk, jk, jk, jk, jk, jk, jk, jk, jk, jk, jk],
          [(10, [.v (num (normF w M k).v), .v (num (normF w M k).lo), .v (num (normF w M k).hi), .v (tru (normF w M k).bad)]), (12, [.v (num (dotF (vF w M k) (vF w M k)).v), .v (num (dotF (vF w M k) (vF w M k)).lo), .v (num (dotF (vF w M k) (vF w M k)).hi), .v (tru (dotF (vF w M k) (vF w M k)).bad)]), (14, [.v (num (dotF ((rowM w M i).drop k) (vF w M k)).v), .v (num (dotF ((rowM w M i).drop k) (vF w M k)).lo), .v (num (dotF ((rowM w M i).drop k) (vF w M k)).hi), .v (tru (dotF ((rowM w M i).drop k) (vF w M k)).bad)]), (15, [.v (num (tF w M k i).v), .v (num (tF w M k i).lo), .v (num (tF w M k i).hi), .v (tru (tF w M k i).bad)])], [], [(6, 0)], [], 0, mm⟩) (w - k) ?_ ?_
        · simp -implicitDefEqProofs (maxSteps := 10000000) only [rkA, rkB, stepA, valA, simprocAttr]
          exact ⟨k, mm, by omega, by omega, by rw [rowTo_start]; exact hmm, hmv, rfl⟩
        clear hxi hmm hmv mm
        rintro mj s ⟨j, mm, hkj, hjm, hmm, hmv, rfl⟩
        simp -implicitDefEqProofs (maxSteps := 10000000) only [rkA, rkB, stepA, valA, simprocAttr]
        refine gB_dec ?_ ?_ <;> intro hjw <;> simp -implicitDefEqProofs (maxSteps := 10000000) only [hjw, rkA, rkB, stepA, valA, simprocAttr]
        · have hjw' : j < w := by omega
          have j0 := at_table (i := i) (j := j) (n := n) (m := w) hin' hjw'
          have d4 : ((i * w : Nat) : Int) + (j : Int) = ((i * w + j : Nat) : Int) := by simp
          have e4 := wrapped (x := ((i * w + j : Nat) : Int)) (by omega) (by omega)
          have m4 : (0 : Int) ≤ ((i * w + j : Nat) : Int) := by omega
          have m5 : ((i * w + j : Nat) : Int) < ((n * w : Nat) : Int) := by omega
          have d5 : (j : Int) - (k : Int) = ((j - k : Nat) : Int) := by omega
          have e5 := wrapped (x := ((j - k : Nat) : Int)) (by omega) (by omega)
          have m6 : (0 : Int) ≤ ((j - k : Nat) : Int) := by omega
          have m7 : ((j - k : Nat) : Int) < ((w - k : Nat) : Int) := by omega
          have g1 : (gridP (rowTo w M k i j) w n 0)[i * w + j]? = some (M i j) := by
            rw [gridP_get _ _ _ _ _ hin' hjw', rowTo_at hki]
          have g2 : (vF w M k)[j - k]? = some (vA w M k j) := by
            unfold vF
            rw [List.getElem?_drop, List.getElem?_map, show k + (j - k) = j by omega, List.getElem?_range hjw']
            rfl
          have l1 := ldM_frj (post := jnk z) g1
          have l2 := ldM_frj (post := jnk zv) g2
          have hss := stM_frj (l := gridP (rowTo w M k i j) w n 0) (k := i * w + j) (x := subF (M i j) (mulF (vA w M k j) (tF w M k i))) (post := jnk z) (by rw [gridP_length]; omega)
          rw [grid_set hin' hjw', rowTo_step hki hkj] at hss
          have hwj := wrapped (x := (j : Int) + 1) (by omega) (by omega)
          simp -implicitDefEqProofs (maxSteps := 10000000) only [d1, e1, d4, e4, m4, m5, d5, e5, m6, m7, Int.toNat_natCast, addr_add, Nat.zero_add, hmm, hmv, l1, l2, rkA, rkB, stepA, valA, simprocAttr]
          refine call_fn rfl rfl rfl (ok79c (vA w M k j) (tF w M k i)) ?_
          simp -implicitDefEqProofs (maxSteps := 10000000) only [d1, e1, d4, e4, m4, m5, d5, e5, m6, m7, Int.toNat_natCast, addr_add, Nat.zero_add, hmm, hmv, l1, l2, rkA, rkB, stepA, valA, simprocAttr]
          refine call_fn rfl rfl rfl (ok79b (M i j) (mulF (vA w M k j) (tF w M k i))) ?_
          simp -implicitDefEqProofs (maxSteps := 10000000) only [d1, e1, d4, e4, m4, m5, Int.toNat_natCast, addr_add, Nat.zero_add, hmm, hss, hwj, rkA, rkB, stepA, valA, simprocAttr]
          refine loopK_of (m' := mj - 1) (by omega) ?_
          simp -implicitDefEqProofs (maxSteps := 10000000) only [rkA, rkB, stepA, valA, simprocAttr]
          exact ⟨j + 1, mm.put c (flat (frs (gridP (rowTo w M k i (j + 1)) w n 0)) ++ jnk z), by omega, by omega, Mem.put_same _ _ _, by rw [Mem.put_other _ _ (fun e => hcc2 e.symm), hmv], by simp only [Int.natCast_add, Int.natCast_one]⟩
        · have hjw' : j = w := by omega
          subst hjw'
          have hwi := wrapped (x := (i : Int) + 1) (by omega) (by omega)
          simp -implicitDefEqProofs (maxSteps := 10000000) only [hwi, rkA, rkB, stepA, valA, simprocAttr]
          refine loopK_of (m' := m' - 1) (by omega) ?_
          simp -implicitDefEqProofs (maxSteps := 10000000) only [rkA, rkB, stepA, valA, simprocAttr]
          exact ⟨i + 1, mm, by omega, by omega, by rw [hmm, rowTo_end hki], hmv, by simp only [Int.natCast_add, Int.natCast_one]⟩
      · have hin' : i = n := by omega
        subst hin'
        have m8 : ((k * w + k : Nat) : Int) < ((i * w : Nat) : Int) := by omega
        have hss := stM_frj (l := gridP (foldTo w M k i) w i 0) (k := k * w + k) (x := normF w M k) (post := jnk z) (by rw [gridP_length]; omega)
        rw [grid_set hkn' (by omega)] at hss
        have hwk := wrapped (x := ((k + 1 : Nat) : Int)) (by omega) (by omega)
        simp -implicitDefEqProofs (maxSteps := 10000000) only [c1, w1, c2, w2, n2, m8, hk1, hwk, Int.toNat_natCast, addr_add, Nat.zero_add, hmm, hss, rkA, rkB, stepA, valA, simprocAttr]
        refine loopK_of (m' := m - 1) (by omega) ?_
        simp -implicitDefEqProofs (maxSteps := 10000000) only [rkA, rkB, stepA, valA, simprocAttr]
        exact ⟨k + 1, _, z, by omega, by rw [Mem.put_same, refsF, hM]; rfl, rfl⟩
    | false =>
      simp -implicitDefEqProofs (maxSteps := 10000000) only [hw0, hx1, Nat.zero_add, hl0, rkA, rkB, stepA, valA, simprocAttr]
      refine gB_dec ?_ ?_ <;> intro hv
      · have hp : negF (rootF (dotF (xF w M k) (xF w M k))) = normF w M k := (if_pos (by rw [hb] at hsp; have : (0 : Int) ≤ (M k k).v := hv; simpa [this] using hsp)).symm
        simp -implicitDefEqProofs (maxSteps := 10000000) only [hv, rkA, rkB, stepA, valA, simprocAttr]
        refine call_fn rfl rfl rfl (ok81 (rootF (dotF (xF w M k) (xF w M k)))) ?_
        simp -implicitDefEqProofs (maxSteps := 10000000) only [hp, rkA, rkB, stepA, valA, simprocAttr]
        refine grow_of rfl rfl (.same _) tx rfl (RFs_frs _) (fits_frs (k := []) (l := xF w M k) (by simp only [List.length_nil]; omega)) (fun h => ?_) (fun _ cv capv zv hcv hcapv hzv => ?_)
        · exfalso
          have := congrArg List.length h
          rw [lxf] at this
          simp at this
          omega
        have hcv' : m1 cv = none := hcv
        have hcc2 : c ≠ cv := fun e => by rw [← e, hm1] at hcv'; cases hcv'
        have hcapv' : w - k ≤ capv := by
          rw [lxf] at hcapv
          simpa using hcapv
        have hm2 : (m1.put cv (flat (frs (xF w M k)) ++ jnk zv)) c = some (flat (frs (gridP M w n 0)) ++ jnk z) := by rw [Mem.put_other _ _ hcc2, hm1]
        have hlv := ldM_frj (post := jnk zv) (k := 0) gx0
        have hsv := stM_frj (l := xF w M k) (k := 0) (x := subF (M k k) (normF w M k)) (post := jnk zv) (by omega)
        rw [Nat.zero_mul] at hlv hsv
        rw [vF_set (by omega)] at hsv
        simp -implicitDefEqProofs (maxSteps := 10000000) only [List.nil_append, lxf, List.length_nil, Nat.zero_add, hw0, Mem.put_same, hlv, rkA, rkB, stepA, valA, simprocAttr]
        refine call_fn rfl rfl rfl (ok79b (M k k) (normF w M k)) ?_
        simp -implicitDefEqProofs (maxSteps := 10000000) only [hw0, Mem.put_same, hsv, Nat.zero_add, rkA, rkB, stepA, valA, simprocAttr]
        have hv3 : ((m1.put cv (flat (frs (xF w M k)) ++ jnk zv)).put cv (flat (frs (vF w M k)) ++ jnk zv)) cv = some (flat (frs (vF w M k)) ++ jnk zv) := Mem.put_same _ _ _
        have hm3 : ((m1.put cv (flat (frs (xF w M k)) ++ jnk zv)).put cv (flat (frs (vF w M k)) ++ jnk zv)) c = some (flat (frs (gridP (foldTo w M k (k + 1)) w n 0)) ++ jnk z) := by rw [Mem.put_other _ _ hcc2, hm2, foldTo_first]
        generalize (m1.put cv (flat (frs (xF w M k)) ++ jnk zv)).put cv (flat (frs (vF w M k)) ++ jnk zv) = m3 at hv3 hm3 ⊢
        have lv := vF_len (w := w) (k := k) M
        have tv : ∀ mm : Mem, mm cv = some (flat (frs (vF w M k)) ++ jnk zv) → Tell mm (.s (.slice (some ⟨cv, 0, none⟩) (w - k) capv)) (.sl false (frs (vF w M k))) := fun mm hmm => by
          have := tell_row (cap := capv) hmm (by rw [List.length_map, lv]; omega)
          rwa [List.length_map, lv] at this
        refine lend_fn rfl rfl (.cons (tv m3 hv3) (.cons (tv m3 hv3) .nil)) (ok80 false false _ _ (by omega) (by omega)) rfl ?_
        have hw1 := wrapped (x := ((k + 1 : Nat) : Int)) (by omega) (by omega)
        have hk1 : (k : Int) + 1 = ((k + 1 : Nat) : Int) := by simp
        simp -implicitDefEqProofs (maxSteps := 10000000) only [hw1, hk1, rkA, rkB, stepA, valA, simprocAttr]
        refine wp_loop (fun m s => ∃ (i : Nat) (mm : Mem), k < i ∧ i + m = n ∧ mm c = some (flat (frs (gridP (foldTo w M k i) w n 0)) ++ jnk z) ∧ mm cv = some (flat (frs (vF w M k)) ++ jnk zv) ∧ s = ⟨[jk, .v (num n), .v (num w), jk, jk, jk, jk, .v (.s (.slice (some ⟨c, 0, none⟩) (n * w) cap)), nt k, jk, .ptr 10 0, .v (.s (.slice (some ⟨cv, 0, none⟩) (w - k) capv)), .ptr 12 0, nt i, jk, jk, jk, jk, jk, jk, jk, jk, jk, jk, jk, jk, jk, jk, jk, jk, jk, jk, jk, jk, jk, jk, jk, jk, jk, jk, jk, jk, jk, jk, jk, jk, jk, jk, jk, jk, jk, jk, jk, jk, jk, jk, jk, jk, jk, jk, jk, jk, jk, jk, jk, jk, jk, jk, jk, jk, jk, jk, jk, jk, jk, jk, jk, jk, jk, jk, jk, jk, jk, jk, jk, jk, jk, jk, jk, jk, jk, jk, jk, jk, jk, jk, jk, jk, jk, jk, jk, jk, jk, jk, jk, jk, jk, jk, jk, jk, jk, jk, jk, jk, jk, jk, jk, jk, jk, jk, jk, jk, jk, jk, jk, jk, jk, jk, jk, jk, jk, jk, jk, jk, jk, jk, jk, jk, jk, jk, jk, jk, jk, jk, jk, jk, jk, jk, jk, jk, jk, jk, jk, jk, jk, jk, jk, jk, jk, jk, jk, jk, jk, jk, jk, jk, jk, jk, jk, jk, jk, jk, jk, jk, jk, jk, jk, jk, jk, jk, jk, jk, jk, jk, jk, jk],
          [(10, [.v (num (normF w M k).v), .v (num (normF w M k).lo), .v (num (normF w M k).hi), .v (tru (normF w M k).bad)]), (12, [.v (num (dotF (vF w M k) (vF w M k)).v), .v (num (dotF (vF w M k) (vF w M k)).lo), .v (num (dotF (vF w M k) (vF w M k)).hi), .v (tru (dotF (vF w M k) (vF w M k)).bad)])], [], [(6, 0)], [], 0, mm⟩) (n - (k + 1)) ?_ ?_
        · simp -implicitDefEqProofs (maxSteps := 10000000) only [rkA, rkB, stepA, valA, simprocAttr]
          exact ⟨k + 1, m3, by omega, by omega, hm3, hv3, rfl⟩
        clear hv3 hm3 hm2 hm1 hx1 tx hsv hlv hcv hcv' hcapv hzv
        rintro m' s ⟨i, mm, hki, him, hmm, hmv, rfl⟩
        simp -implicitDefEqProofs (maxSteps := 10000000) only [rkA, rkB, stepA, valA, simprocAttr]
        refine gB_dec ?_ ?_ <;> intro hin <;> simp -implicitDefEqProofs (maxSteps := 10000000) only [hin, rkA, rkB, stepA, valA, simprocAttr]
        · have hin' : i < n := by omega
          have i0 := at_table (i := i) (j := k) (n := n) (m := w) hin' (by omega)
          have irow : i * w + w ≤ n * w := by
            have : (i + 1) * w ≤ n * w := Nat.mul_le_mul_right _ hin'
            rw [Nat.add_mul, Nat.one_mul] at this
            exact this
          have d1 : (i : Int) * (w : Int) = ((i * w : Nat) : Int) := by simp
          have d2 : ((i * w : Nat) : Int) + (k : Int) = ((i * w + k : Nat) : Int) := by simp
          have d3 : ((i * w : Nat) : Int) + (w : Int) = ((i * w + w : Nat) : Int) := by simp
          have e1 := wrapped (x := ((i * w : Nat) : Int)) (by omega) (by omega)
          have e2 := wrapped (x := ((i * w + k : Nat) : Int)) (by omega) (by omega)
          have e3 := wrapped (x := ((i * w + w : Nat) : Int)) (by omega) (by omega)
          have m2 : (0 : Int) ≤ ((i * w + k : Nat) : Int) := by omega
          have m3' : (0 : Int) ≤ ((i * w + w : Nat) : Int) := by omega
          have p1 : (i * w + k ≤ i * w + w) = True := by simp; omega
          have p2 : (i * w + w ≤ cap) = True := by simp; omega
          have pe : (cap = i * w + k) = False := by simp; omega
          have pb : i * w + w - (i * w + k) = w - k := by omega
          simp -implicitDefEqProofs (maxSteps := 10000000) only [d1, e1, d2, e2, d3, e3, m2, m3', Int.toNat_natCast, p1, p2, pe, im, pb, addr_add, rkA, rkB, stepA, valA, simprocAttr]
          have lg2 : (gridP (foldTo w M k i) w n 0).length = n * w := by rw [gridP_length, Nat.add_zero]
          have hxi : Tell mm (.s (.slice (some ⟨c, (i * w + k) * 4, none⟩) (w - k) (cap - (i * w + k)))) (.sl false (frs ((rowM w M i).drop k))) := by
            have h := tell_mid (cap := cap - (i * w + k)) (a := i * w + k) (len := w - k) hmm (by rw [lg2]; omega) (by omega)
            rwa [grid_row hin' (by omega), foldTo_row] at h
          have lri : ((rowM w M i).drop k).length = w - k := by rw [List.length_drop, rowM_length]
          refine lend_fn rfl rfl (.cons hxi (.cons (tv mm hmv) .nil)) (ok80 false false _ _ (by omega) (by omega)) rfl ?_
          simp -implicitDefEqProofs (maxSteps := 10000000) only [rkA, rkB, stepA, valA, simprocAttr]
          refine call_fn rfl rfl rfl (ok79a (dotF ((rowM w M i).drop k) (vF w M k)) (dotF ((rowM w M i).drop k) (vF w M k))) ?_
          simp -implicitDefEqProofs (maxSteps := 10000000) only [rkA, rkB, stepA, valA, simprocAttr]
          refine call_fn rfl rfl rfl (ok79d (addF (dotF ((rowM w M i).drop k) (vF w M k)) (dotF ((rowM w M i).drop k) (vF w M k))) (dotF (vF w M k) (vF w M k))) ?_
          have htF : divF (addF (dotF ((rowM w M i).drop k) (vF w M k)) (dotF ((rowM w M i).drop k) (vF w M k))) (dotF (vF w M k) (vF w M k)) = tF w M k i := rfl
          simp -implicitDefEqProofs (maxSteps := 10000000) only [htF, rkA, rkB, stepA, valA, simprocAttr]
          refine wp_loop (fun m s => ∃ (j : Nat) (mm : Mem), k ≤ j ∧ j + m = w ∧ mm c = some (flat (frs (gridP (rowTo w M k i j) w n 0)) ++ jnk z) ∧ mm cv = some (flat (frs (vF w M k)) ++ jnk zv) ∧ s = ⟨[jk, .v (num n), .v (num w), jk, jk, jk, jk, .v (.s (.slice (some ⟨c, 0, none⟩) (n * w) cap)), nt k, jk, .ptr 10 0, .v (.s (.slice (some ⟨cv, 0, none⟩) (w - k) capv)), .ptr 12 0, nt i, jk, .ptr 15 0, nt j, jk, jk, jk, jk, jk, jk, jk, jk, jk, jk, jk, jk, jk, jk, jk, jk, jk, jk, jk, jk, jk, jk, jk, jk, jk, jk, jk, jk, jk, jk, jk, jk, jk, jk, jk, jk, jk, jk, jk, jk, jk, jk, jk, jk, jk, jk, jk, jk, jk, jk, jk, jk, jk, jk, jk, jk, jk, jk, jk, jk, jk, jk, jk, jk, jk, jk, jk, jk, jk, jk, jk, jk, jk, jk, jk, jk, jk, jk, jk, jk, jk, jk, jk, jk, jk, jk, jk, jk, jk, jk, jk, jk, jk, jk, jk, jk, jk, jk, jk, jk, jk, jk, jk, jk, jk, jk, jk, jk, jk, jk, jk, jk, jk, jk, jk, jk, jk, jk, jk, jk, jk, jk, jk, jk, jk, jk, jk, jk, jk, jk, jk, jk, jk, jk, jk, jk, jk, jk, jk, jk, jk, jk, jk, jk, jk, jk, jk, jk, jk, jk, jk, jk, jk, jk, jk, jk, jk, jk, jk, jk, jk, jk, jk, jk, jk, jk, jk, jk, jk],
            [(10, [.v (num (normF w M k).v), .v (num (normF w M k).lo), .v (num (normF w M k).hi), .v (tru (normF w M k).bad)]), (12, [.v (num (dotF (vF w M k) (vF w M k)).v), .v (num (dotF (vF w M k) (vF w M k)).lo), .v (num (dotF (vF w M k) (vF w M k)).hi), .v (tru (dotF (vF w M k) (vF w M k)).bad)]), (14, [.v (num (dotF ((rowM w M i).drop k) (vF w M k)).v), .v (num (dotF ((rowM w M i).drop k) (vF w M k)).lo), .v (num (dotF ((rowM w M i).drop k) (vF w M k)).hi), .v (tru (dotF ((rowM w M i).drop k) (vF w M k)).bad)]), (15, [.v (num (tF w M k i).v), .v (num (tF w M k i).lo), .v (num (tF w M k i).hi), .v (tru (tF w M k i).bad)])], [], [(6, 0)], [], 0, mm⟩) (w - k) ?_ ?_
          · simp -implicitDefEqProofs (maxSteps := 10000000) only [rkA, rkB, stepA, valA, simprocAttr]
            exact ⟨k, mm, by omega, by omega, by rw [rowTo_start]; exact hmm, hmv, rfl⟩
          clear hxi hmm hmv mm
          rintro mj s ⟨j, mm, hkj, hjm, hmm, hmv, rfl⟩
          simp -implicitDefEqProofs (maxSteps := 10000000) only [rkA, rkB, stepA, valA, simprocAttr]
          refine gB_dec ?_ ?_ <;> intro hjw <;> simp -implicitDefEqProofs (maxSteps := 10000000) only [hjw, rkA, rkB, stepA, valA, simprocAttr]
          · have hjw' : j < w := by omega
            have j0 := at_table (i := i) (j := j) (n := n) (m := w) hin' hjw'
            have d4 : ((i * w : Nat) : Int) + (j : Int) = ((i * w + j : Nat) : Int) := by simp
            have e4 := wrapped (x := ((i * w + j : Nat) : Int)) (by omega) (by omega)
            have m4 : (0 : Int) ≤ ((i * w + j : Nat) : Int) := by omega
            have m5 : ((i * w + j : Nat) : Int) < ((n * w : Nat) : Int) := by omega
            have d5 : (j : Int) - (k : Int) = ((j - k : Nat) : Int) := by omega
            have e5 := wrapped (x := ((j - k : Nat) : Int)) (by omega) (by omega)
            have m6 : (0 : Int) ≤ ((j - k : Nat) : Int) := by omega
            have m7 : ((j - k : Nat) : Int) < ((w - k : Nat) : Int) := by omega
            have g1 : (gridP (rowTo w M k i j) w n 0)[i * w + j]? = some (M i j) := by
              rw [gridP_get _ _ _ _ _ hin' hjw', rowTo_at hki]
            have g2 : (vF w M k)[j - k]? = some (vA w M k j) := by
              unfold vF
              rw [List.getElem?_drop, List.getElem?_map, show k + (j - k) = j by omega, List.getElem?_range hjw']
              rfl
            have l1 := ldM_frj (post := jnk z) g1
            have l2 := ldM_frj (post := jnk zv) g2
            have hss := stM_frj (l := gridP (rowTo w M k i j) w n 0) (k := i * w + j) (x := subF (M i j) (mulF (vA w M k j) (tF w M k i))) (post := jnk z) (by rw [gridP_length]; omega)
            rw [grid_set hin' hjw', rowTo_step hki hkj] at hss
            have hwj := wrapped (x := (j : Int) + 1) (by omega) (by omega)
            simp -implicitDefEqProofs (maxSteps := 10000000) only [d1, e1, d4, e4, m4, m5, d5, e5, m6, m7, Int.toNat_natCast, addr_add, Nat.zero_add, hmm, hmv, l1, l2, rkA, rkB, stepA, valA, simprocAttr]
            refine call_fn rfl rfl rfl (ok79c (vA w M k j) (tF w M k i)) ?_
            simp -implicitDefEqProofs (maxSteps := 10000000) only [d1, e1, d4, e4, m4, m5, d5, e5, m6, m7, Int.toNat_natCast, addr_add, Nat.zero_add, hmm, hmv, l1, l2, rkA, rkB, stepA, valA, simprocAttr]
            refine call_fn rfl rfl rfl (ok79b (M i j) (mulF (vA w M k j) (tF w M k i))) ?_
            simp -implicitDefEqProofs (maxSteps := 10000000) only [d1, e1, d4, e4, m4, m5, Int.toNat_natCast, addr_add, Nat.zero_add, hmm, hss, hwj, rkA, rkB, stepA, valA, simprocAttr]
            refine loopK_of (m' := mj - 1) (by omega) ?_
            simp -implicitDefEqProofs (maxSteps := 10000000) only [rkA, rkB, stepA, valA, simprocAttr]
            exact ⟨j + 1, mm.put c (flat (frs (gridP (rowTo w M k i (j + 1)) w n 0)) ++ jnk z), by omega, by omega, Mem.put_same _ _ _, by rw [Mem.put_other _ _ (fun e => hcc2 e.symm), hmv], by simp only [Int.natCast_add, Int.natCast_one]⟩
          · have hjw' : j = w := by omega
            subst hjw'
            have hwi := wrapped (x := (i : Int) + 1) (by omega) (by omega)
            simp -implicitDefEqProofs (maxSteps := 10000000) only [hwi, rkA, rkB, stepA, valA, simprocAttr]
            refine loopK_of (m' := m' - 1) (by omega) ?_
            simp -implicitDefEqProofs (maxSteps := 10000000) only [rkA, rkB, stepA, valA, simprocAttr]
            exact ⟨i + 1, mm, by omega, by omega, by rw [hmm, rowTo_end hki], hmv, by simp only [Int.natCast_add, Int.natCast_one]⟩
        · have hin' : i = n := by omega
          subst hin'
          have m8 : ((k * w + k : Nat) : Int) < ((i * w : Nat) : Int) := by omega
          have hss := stM_frj (l := gridP (foldTo w M k i) w i 0) (k := k * w + k) (x := normF w M k) (post := jnk z) (by rw [gridP_length]; omega)
          rw [grid_set hkn' (by omega)] at hss
          have hwk := wrapped (x := ((k + 1 : Nat) : Int)) (by omega) (by omega)
          simp -implicitDefEqProofs (maxSteps := 10000000) only [c1, w1, c2, w2, n2, m8, hk1, hwk, Int.toNat_natCast, addr_add, Nat.zero_add, hmm, hss, rkA, rkB, stepA, valA, simprocAttr]
          refine loopK_of (m' := m - 1) (by omega) ?_
          simp -implicitDefEqProofs (maxSteps := 10000000) only [rkA, rkB, stepA, valA, simprocAttr]
          exact ⟨k + 1, _, z, by omega, by rw [Mem.put_same, refsF, hM]; rfl, rfl⟩
      · have hp : rootF (dotF (xF w M k) (xF w M k)) = normF w M k := (if_neg (by rw [hb] at hsp; have : ¬ (0 : Int) ≤ (M k k).v := hv; simpa [this] using hsp)).symm
        simp -implicitDefEqProofs (maxSteps := 10000000) only [hv, hp, rkA, rkB, stepA, valA, simprocAttr]
        refine grow_of rfl rfl (.same _) tx rfl (RFs_frs _) (fits_frs (k := []) (l := xF w M k) (by simp only [List.length_nil]; omega)) (fun h => ?_) (fun _ cv capv zv hcv hcapv hzv => ?_)
        · exfalso
          have := congrArg List.length h
          rw [lxf] at this
          simp at this
          omega
        have hcv' : m1 cv = none := hcv
        have hcc2 : c ≠ cv := fun e => by rw [← e, hm1] at hcv'; cases hcv'
        have hcapv' : w - k ≤ capv := by
          rw [lxf] at hcapv
          simpa using hcapv
        have hm2 : (m1.put cv (flat (frs (xF w M k)) ++ jnk zv)) c = some (flat (frs (gridP M w n 0)) ++ jnk z) := by rw [Mem.put_other _ _ hcc2, hm1]
        have hlv := ldM_frj (post := jnk zv) (k := 0) gx0
        have hsv := stM_frj (l := xF w M k) (k := 0) (x := subF (M k k) (normF w M k)) (post := jnk zv) (by omega)
        rw [Nat.zero_mul] at hlv hsv
        rw [vF_set (by omega)] at hsv
        simp -implicitDefEqProofs (maxSteps := 10000000) only [List.nil_append, lxf, List.length_nil, Nat.zero_add, hw0, Mem.put_same, hlv, rkA, rkB, stepA, valA, simprocAttr]
        refine call_fn rfl rfl rfl (ok79b (M k k) (normF w M k)) ?_
        simp -implicitDefEqProofs (maxSteps := 10000000) only [hw0, Mem.put_same, hsv, Nat.zero_add, rkA, rkB, stepA, valA, simprocAttr]
        have hv3 : ((m1.put cv (flat (frs (xF w M k)) ++ jnk zv)).put cv (flat (frs (vF w M k)) ++ jnk zv)) cv = some (flat (frs (vF w M k)) ++ jnk zv) := Mem.put_same _ _ _
        have hm3 : ((m1.put cv (flat (frs (xF w M k)) ++ jnk zv)).put cv (flat (frs (vF w M k)) ++ jnk zv)) c = some (flat (frs (gridP (foldTo w M k (k + 1)) w n 0)) ++ jnk z) := by rw [Mem.put_other _ _ hcc2, hm2, foldTo_first]
        generalize (m1.put cv (flat (frs (xF w M k)) ++ jnk zv)).put cv (flat (frs (vF w M k)) ++ jnk zv) = m3 at hv3 hm3 ⊢
        have lv := vF_len (w := w) (k := k) M
        have tv : ∀ mm : Mem, mm cv = some (flat (frs (vF w M k)) ++ jnk zv) → Tell mm (.s (.slice (some ⟨cv, 0, none⟩) (w - k) capv)) (.sl false (frs (vF w M k))) := fun mm hmm => by
          have := tell_row (cap := capv) hmm (by rw [List.length_map, lv]; omega)
          rwa [List.length_map, lv] at this
        refine lend_fn rfl rfl (.cons (tv m3 hv3) (.cons (tv m3 hv3) .nil)) (ok80 false false _ _ (by omega) (by omega)) rfl ?_
        have hw1 := wrapped (x := ((k + 1 : Nat) : Int)) (by omega) (by omega)
        have hk1 : (k : Int) + 1 = ((k + 1 : Nat) : Int) := by simp
        simp -implicitDefEqProofs (maxSteps := 10000000) only [hw1, hk1, rkA, rkB, stepA, valA, simprocAttr]
        refine wp_loop (fun m s => ∃ (i : Nat) (mm : Mem), k < i ∧ i + m = n ∧ mm c = some (flat (frs (gridP (foldTo w M k i) w n 0)) ++ jnk z) ∧ mm cv = some (flat (frs (vF w M k)) ++ jnk zv) ∧ s = ⟨[jk, .v (num n), .v (num w), jk, jk, jk, jk, .v (.s (.slice (some ⟨c, 0, none⟩) (n * w) cap)), nt k, jk, .ptr 10 0, .v (.s (.slice (some ⟨cv, 0, none⟩) (w - k) capv)), .ptr 12 0, nt i, jk, jk, jk, jk, jk, jk, jk, jk, jk, jk, jk, jk, jk, jk, jk, jk, jk, jk, jk, jk, jk, jk, jk, jk, jk, jk, jk, jk, jk, jk, jk, jk, jk, jk, jk, jk, jk, jk, jk, jk, jk, jk, jk, jk, jk, jk, jk, jk, jk, jk, jk, jk, jk, jk, jk, jk, jk, jk, jk, jk, jk, jk, jk, jk, jk, jk, jk, jk, jk, jk, jk, jk, jk, jk, jk, jk, jk, jk, jk, jk, jk, jk, jk, jk, jk, jk, jk, jk, jk, jk, jk, jk, jk, jk, jk, jk, jk, jk, jk, jk, jk, jk, jk, jk, jk, jk, jk, jk, jk, jk, jk, jk, jk, jk, jk, jk, jk, jk, jk, jk, jk, jk, jk, jk, jk, jk, jk, jk, jk, jk, jk, jk, jk, jk, jk, jk, jk, jk, jk, jk, jk, jk, jk, jk, jk, jk, jk, jk, jk, jk, jk, jk, jk, jk, jk, jk, jk, jk, jk, jk, jk, jk, jk, jk, jk, jk, jk, jk, jk, jk, jk, jk],
          [(10, [.v (num (normF w M k).v), .v (num (normF w M k).lo), .v (num (normF w M k).hi), .v (tru (normF w M k).bad)]), (12, [.v (num (dotF (vF w M k) (vF w M k)).v), .v (num (dotF (vF w M k) (vF w M k)).lo), .v (num (dotF (vF w M k) (vF w M k)).hi), .v (tru (dotF (vF w M k) (vF w M k)).bad)])], [], [(6, 0)], [], 0, mm⟩) (n - (k + 1)) ?_ ?_
        · simp -implicitDefEqProofs (maxSteps := 10000000) only [rkA, rkB, stepA, valA, simprocAttr]
          exact ⟨k + 1, m3, by omega, by omega, hm3, hv3, rfl⟩
        clear hv3 hm3 hm2 hm1 hx1 tx hsv hlv hcv hcv' hcapv hzv
        rintro m' s ⟨i, mm, hki, him, hmm, hmv, rfl⟩
        simp -implicitDefEqProofs (maxSteps := 10000000) only [rkA, rkB, stepA, valA, simprocAttr]
        refine gB_dec ?_ ?_ <;> intro hin <;> simp -implicitDefEqProofs (maxSteps := 10000000) only [hin, rkA, rkB, stepA, valA, simprocAttr]
        · have hin' : i < n := by omega
          have i0 := at_table (i := i) (j := k) (n := n) (m := w) hin' (by omega)
          have irow : i * w + w ≤ n * w := by
            have : (i + 1) * w ≤ n * w := Nat.mul_le_mul_right _ hin'
            rw [Nat.add_mul, Nat.one_mul] at this
            exact this
          have d1 : (i : Int) * (w : Int) = ((i * w : Nat) : Int) := by simp
          have d2 : ((i * w : Nat) : Int) + (k : Int) = ((i * w + k : Nat) : Int) := by simp
          have d3 : ((i * w : Nat) : Int) + (w : Int) = ((i * w + w : Nat) : Int) := by simp
          have e1 := wrapped (x := ((i * w : Nat) : Int)) (by omega) (by omega)
          have e2 := wrapped (x := ((i * w + k : Nat) : Int)) (by omega) (by omega)
          have e3 := wrapped (x := ((i * w + w : Nat) : Int)) (by omega) (by omega)
          have m2 : (0 : Int) ≤ ((i * w + k : Nat) : Int) := by omega
          have m3' : (0 : Int) ≤ ((i * w + w : Nat) : Int) := by omega
          have p1 : (i * w + k ≤ i * w + w) = True := by simp; omega
          have p2 : (i * w + w ≤ cap) = True := by simp; omega
          have pe : (cap = i * w + k) = False := by simp; omega
          have pb : i * w + w - (i * w + k) = w - k := by omega
          simp -implicitDefEqProofs (maxSteps := 10000000) only [d1, e1, d2, e2, d3, e3, m2, m3', Int.toNat_natCast, p1, p2, pe, im, pb, addr_add, rkA, rkB, stepA, valA, simprocAttr]
          have lg2 : (gridP (foldTo w M k i) w n 0).length = n * w := by rw [gridP_length, Nat.add_zero]
          have hxi : Tell mm (.s (.slice (some ⟨c, (i * w + k) * 4, none⟩) (w - k) (cap - (i * w + k)))) (.sl false (frs ((rowM w M i).drop k))) := by
            have h := tell_mid (cap := cap - (i * w + k)) (a := i * w + k) (len := w - k) hmm (by rw [lg2]; omega) (by omega)
            rwa [grid_row hin' (by omega), foldTo_row] at h
          have lri : ((rowM w M i).drop k).length = w - k := by rw [List.length_drop, rowM_length]
          refine lend_fn rfl rfl (.cons hxi (.cons (tv mm hmv) .nil)) (ok80 false false _ _ (by omega) (by omega)) rfl ?_
          simp -implicitDefEqProofs (maxSteps := 10000000) only [rkA, rkB, stepA, valA, simprocAttr]
          refine call_fn rfl rfl rfl (ok79a (dotF ((rowM w M i).drop k) (vF w M k)) (dotF ((rowM w M i).drop k) (vF w M k))) ?_
          simp -implicitDefEqProofs (maxSteps := 10000000) only [rkA, rkB, stepA, valA, simprocAttr]
          refine call_fn rfl rfl rfl (ok79d (addF (dotF ((rowM w M i).drop k) (vF w M k)) (dotF ((rowM w M i).drop k) (vF w M k))) (dotF (vF w M k) (vF w M k))) ?_
          have htF : divF (addF (dotF ((rowM w M i).drop k) (vF w M k)) (dotF ((rowM w M i).drop k) (vF w M k))) (dotF (vF w M k) (vF w M k)) = tF w M k i := rfl
          simp -implicitDefEqProofs (maxSteps := 10000000) only [htF, rkA, rkB, stepA, valA, simprocAttr]
          refine wp_loop (fun m s => ∃ (j : Nat) (mm : Mem), k ≤ j ∧ j + m = w ∧ mm c = some (flat (frs (gridP (rowTo w M k i j) w n 0)) ++ jnk z) ∧ mm cv = some (flat (frs (vF w M k)) ++ jnk zv) ∧ s = ⟨[jk, .v (num n), .v (num w), jk, jk, jk, jk, .v (.s (.slice (some ⟨c, 0, none⟩) (n * w) cap)), nt k, jk, .ptr 10 0, .v (.s (.slice (some ⟨cv, 0, none⟩) (w - k) capv)), .ptr 12 0, nt i, jk, .ptr 15 0, nt j, jk, jk, jk, jk, jk, jk, jk, jk, jk, jk, jk, jk, jk, jk, jk, jk, jk, jk, jk, jk, jk, jk, jk, jk, jk, jk, jk, jk, jk, jk, jk, jk, jk, jk, jk, jk, jk, jk, jk, jk, jk, jk, jk, jk, jk, jk, jk, jk, jk, jk, jk, jk, jk, jk, jk, jk, jk, jk, jk, jk, jk, jk, jk, jk, jk, jk, jk, jk, jk, jk, jk, jk, jk, jk, jk, jk, jk, jk, jk, jk, jk, jk, jk, jk, jk, jk, jk, jk, jk, jk, jk, jk, jk, jk, jk, jk, jk, jk, jk, jk, jk, jk, jk, jk, jk, jk, jk, jk, jk, jk, jk, jk, jk, jk, jk, jk, jk, jk, jk, jk, jk, jk, jk, jk, jk, jk, jk, jk, jk, jk, jk, jk, jk, jk, jk, jk, jk, jk, jk, jk, jk, jk, jk, jk, jk, jk, jk, jk, jk, jk, jk, jk, jk, jk, jk, jk, jk, jk, jk, jk, jk, jk, jk, jk, jk, jk, jk, jk, jk],
            [(10, [.v (num (normF w M k).v), .v (num (normF w M k).lo), .v (num (normF w M k).hi), .v (tru (normF w M k).bad)]), (12, [.v (num (dotF (vF w M k) (vF w M k)).v), .v (num (dotF (vF w M k) (vF w M k)).lo), .v (num (dotF (vF w M k) (vF w M k)).hi), .v (tru (dotF (vF w M k) (vF w M k)).bad)]), (14, [.v (num (dotF ((rowM w M i).drop k) (vF w M k)).v), .v (num (dotF ((rowM w M i).drop k) (vF w M k)).lo), .v (num (dotF ((rowM w M i).drop k) (vF w M k)).hi), .v (tru (dotF ((rowM w M i).drop k) (vF w M k)).bad)]), (15, [.v (num (tF w M k i).v), .v (num (tF w M k i).lo), .v (num (tF w M k i).hi), .v (tru (tF w M k i).bad)])], [], [(6, 0)], [], 0, mm⟩) (w - k) ?_ ?_
          · simp -implicitDefEqProofs (maxSteps := 10000000) only [rkA, rkB, stepA, valA, simprocAttr]
            exact ⟨k, mm, by omega, by omega, by rw [rowTo_start]; exact hmm, hmv, rfl⟩
          clear hxi hmm hmv mm
          rintro mj s ⟨j, mm, hkj, hjm, hmm, hmv, rfl⟩
          simp -implicitDefEqProofs (maxSteps := 10000000) only [rkA, rkB, stepA, valA, simprocAttr]
          refine gB_dec ?_ ?_ <;> intro hjw <;> simp -implicitDefEqProofs (maxSteps := 10000000) only [hjw, rkA, rkB, stepA, valA, simprocAttr]
          · have hjw' : j < w := by omega
            have j0 := at_table (i := i) (j := j) (n := n) (m := w) hin' hjw'
            have d4 : ((i * w : Nat) : Int) + (j : Int) = ((i * w + j : Nat) : Int) := by simp
            have e4 := wrapped (x := ((i * w + j : Nat) : Int)) (by omega) (by omega)
            have m4 : (0 : Int) ≤ ((i * w + j : Nat) : Int) := by omega
            have m5 : ((i * w + j : Nat) : Int) < ((n * w : Nat) : Int) := by omega
            have d5 : (j : Int) - (k : Int) = ((j - k : Nat) : Int) := by omega
            have e5 := wrapped (x := ((j - k : Nat) : Int)) (by omega) (by omega)
            have m6 : (0 : Int) ≤ ((j - k : Nat) : Int) := by omega
            have m7 : ((j - k : Nat) : Int) < ((w - k : Nat) : Int) := by omega
            have g1 : (gridP (rowTo w M k i j) w n 0)[i * w + j]? = some (M i j) := by
              rw [gridP_get _ _ _ _ _ hin' hjw', rowTo_at hki]
            have g2 : (vF w M k)[j - k]? = some (vA w M k j) := by
              unfold vF
              rw [List.getElem?_drop, List.getElem?_map, show k + (j - k) = j by omega, List.getElem?_range hjw']
              rfl
            have l1 := ldM_frj (post := jnk z) g1
            have l2 := ldM_frj (post := jnk zv) g2
            have hss := stM_frj (l := gridP (rowTo w M k i j) w n 0) (k := i * w + j) (x := subF (M i j) (mulF (vA w M k j) (tF w M k i))) (post := jnk z) (by rw [gridP_length]; omega)
            rw [grid_set hin' hjw', rowTo_step hki hkj] at hss
            have hwj := wrapped (x := (j : Int) + 1) (by omega) (by omega)
            simp -implicitDefEqProofs (maxSteps := 10000000) only [d1, e1, d4, e4, m4, m5, d5, e5, m6, m7, Int.toNat_natCast, addr_add, Nat.zero_add, hmm, hmv, l1, l2, rkA, rkB, stepA, valA, simprocAttr]
            refine call_fn rfl rfl rfl (ok79c (vA w M k j) (tF w M k i)) ?_
            simp -implicitDefEqProofs (maxSteps := 10000000) only [d1, e1, d4, e4, m4, m5, d5, e5, m6, m7, Int.toNat_natCast, addr_add, Nat.zero_add, hmm, hmv, l1, l2, rkA, rkB, stepA, valA, simprocAttr]
            refine call_fn rfl rfl rfl (ok79b (M i j) (mulF (vA w M k j) (tF w M k i))) ?_
            simp -implicitDefEqProofs (maxSteps := 10000000) only [d1, e1, d4, e4, m4, m5, Int.toNat_natCast, addr_add, Nat.zero_add, hmm, hss, hwj, rkA, rkB, stepA, valA, simprocAttr]
            refine loopK_of (m' := mj - 1) (by omega) ?_
            simp -implicitDefEqProofs (maxSteps := 10000000) only [rkA, rkB, stepA, valA, simprocAttr]
            exact ⟨j + 1, mm.put c (flat (frs (gridP (rowTo w M k i (j + 1)) w n 0)) ++ jnk z), by omega, by omega, Mem.put_same _ _ _, by rw [Mem.put_other _ _ (fun e => hcc2 e.symm), hmv], by simp only [Int.natCast_add, Int.natCast_one]⟩
          · have hjw' : j = w := by omega
            subst hjw'
            have hwi := wrapped (x := (i : Int) + 1) (by omega) (by omega)
            simp -implicitDefEqProofs (maxSteps := 10000000) only [hwi, rkA, rkB, stepA, valA, simprocAttr]
            refine loopK_of (m' := m' - 1) (by omega) ?_
            simp -implicitDefEqProofs (maxSteps := 10000000) only [rkA, rkB, stepA, valA, simprocAttr]
            exact ⟨i + 1, mm, by omega, by omega, by rw [hmm, rowTo_end hki], hmv, by simp only [Int.natCast_add, Int.natCast_one]⟩
        · have hin' : i = n := by omega
          subst hin'
          have m8 : ((k * w + k : Nat) : Int) < ((i * w : Nat) : Int) := by omega
          have hss := stM_frj (l := gridP (foldTo w M k i) w i 0) (k := k * w + k) (x := normF w M k) (post := jnk z) (by rw [gridP_length]; omega)
          rw [grid_set hkn' (by omega)] at hss
          have hwk := wrapped (x := ((k + 1 : Nat) : Int)) (by omega) (by omega)
          simp -implicitDefEqProofs (maxSteps := 10000000) only [c1, w1, c2, w2, n2, m8, hk1, hwk, Int.toNat_natCast, addr_add, Nat.zero_add, hmm, hss, rkA, rkB, stepA, valA, simprocAttr]
          refine loopK_of (m' := m - 1) (by omega) ?_
          simp -implicitDefEqProofs (maxSteps := 10000000) only [rkA, rkB, stepA, valA, simprocAttr]
          exact ⟨k + 1, _, z, by omega, by rw [Mem.put_same, refsF, hM]; rfl, rfl⟩
  · have hkn' : k = n := by omega
    subst hkn'
    have hg : ∀ i j, i < k → j < w → (gridP M w k 0)[i * w + j]? = some (M i j) := fun i j hi hj => gridP_get _ _ _ _ _ hi hj
    refine wp_loop (fun m s => ∃ i : Nat, i + m = k ∧ s = ⟨[jk, .v (num k), .v (num w), jk, jk, jk, jk, .v (.s (.slice (some ⟨c, 0, none⟩) (k * w) cap)), jk, jk, jk, jk, jk, jk, jk, jk, jk, .acc 17 (frs (gridP (outG M) k i 0)), nt i, jk, jk, jk, jk, jk, jk, jk, jk, jk, jk, jk, jk, jk, jk, jk, jk, jk, jk, jk, jk, jk, jk, jk, jk, jk, jk, jk, jk, jk, jk, jk, jk, jk, jk, jk, jk, jk, jk, jk, jk, jk, jk, jk, jk, jk, jk, jk, jk, jk, jk, jk, jk, jk, jk, jk, jk, jk, jk, jk, jk, jk, jk, jk, jk, jk, jk, jk, jk, jk, jk, jk, jk, jk, jk, jk, jk, jk, jk, jk, jk, jk, jk, jk, jk, jk, jk, jk, jk, jk, jk, jk, jk, jk, jk, jk, jk, jk, jk, jk, jk, jk, jk, jk, jk, jk, jk, jk, jk, jk, jk, jk, jk, jk, jk, jk, jk, jk, jk, jk, jk, jk, jk, jk, jk, jk, jk, jk, jk, jk, jk, jk, jk, jk, jk, jk, jk, jk, jk, jk, jk, jk, jk, jk, jk, jk, jk, jk, jk, jk, jk, jk, jk, jk, jk, jk, jk, jk, jk, jk, jk, jk, jk, jk, jk, jk, jk, jk], [], [], [(6, 0), (17, (gridP (outG M) k i 0).length)], [], 0, mm⟩) k ?_ ?_
    · simp -implicitDefEqProofs (maxSteps := 10000000) only [rkA, rkB, stepA, valA, simprocAttr]
      exact ⟨0, by omega, rfl⟩
    rintro m1 s ⟨i, him, rfl⟩
    simp -implicitDefEqProofs (maxSteps := 10000000) only [rkA, rkB, stepA, valA, simprocAttr]
    refine gB_dec ?_ ?_ <;> intro hin <;> simp -implicitDefEqProofs (maxSteps := 10000000) only [hin, rkA, rkB, stepA, valA, simprocAttr]
    · have hin2 : i < k := by omega
      refine wp_loop (fun m s => ∃ j : Nat, j + m = k ∧ s = ⟨[jk, .v (num k), .v (num w), jk, jk, jk, jk, .v (.s (.slice (some ⟨c, 0, none⟩) (k * w) cap)), jk, jk, jk, jk, jk, jk, jk, jk, jk, .acc 17 (frs (gridP (outG M) k i j)), nt i, nt j, jk, jk, jk, jk, jk, jk, jk, jk, jk, jk, jk, jk, jk, jk, jk, jk, jk, jk, jk, jk, jk, jk, jk, jk, jk, jk, jk, jk, jk, jk, jk, jk, jk, jk, jk, jk, jk, jk, jk, jk, jk, jk, jk, jk, jk, jk, jk, jk, jk, jk, jk, jk, jk, jk, jk, jk, jk, jk, jk, jk, jk, jk, jk, jk, jk, jk, jk, jk, jk, jk, jk, jk, jk, jk, jk, jk, jk, jk, jk, jk, jk, jk, jk, jk, jk, jk, jk, jk, jk, jk, jk, jk, jk, jk, jk, jk, jk, jk, jk, jk, jk, jk, jk, jk, jk, jk, jk, jk, jk, jk, jk, jk, jk, jk, jk, jk, jk, jk, jk, jk, jk, jk, jk, jk, jk, jk, jk, jk, jk, jk, jk, jk, jk, jk, jk, jk, jk, jk, jk, jk, jk, jk, jk, jk, jk, jk, jk, jk, jk, jk, jk, jk, jk, jk, jk, jk, jk, jk, jk, jk, jk, jk, jk, jk, jk, jk], [], [], [(6, 0), (17, (gridP (outG M) k i j).length)], [], 0, mm⟩) k ?_ ?_
      · simp -implicitDefEqProofs (maxSteps := 10000000) only [rkA, rkB, stepA, valA, simprocAttr]
        exact ⟨0, by omega, rfl⟩
      rintro m2 s ⟨j, hjm, rfl⟩
      simp -implicitDefEqProofs (maxSteps := 10000000) only [rkA, rkB, stepA, valA, simprocAttr]
      refine gB_dec ?_ ?_ <;> intro hjn <;> simp -implicitDefEqProofs (maxSteps := 10000000) only [hjn, rkA, rkB, stepA, valA, simprocAttr]
      · have hjk : j < k := by omega
        have lgr := gridP_length (outG M) k i j
        have b2 : i * k ≤ 16 * 16 := Nat.mul_le_mul (by omega) (by omega)
        have i0 := at_table (i := i) (j := j) (n := k) (m := w) hin2 (by omega)
        have j0 := at_table (i := j) (j := j) (n := k) (m := w) hjk (by omega)
        have d1 : (i : Int) * (w : Int) = ((i * w : Nat) : Int) := by simp
        have d2 : ((i * w : Nat) : Int) + (j : Int) = ((i * w + j : Nat) : Int) := by simp
        have d3 : (j : Int) * (w : Int) = ((j * w : Nat) : Int) := by simp
        have d4 : ((j * w : Nat) : Int) + (j : Int) = ((j * w + j : Nat) : Int) := by simp
        have e1 := wrapped (x := ((i * w : Nat) : Int)) (by omega) (by omega)
        have e2 := wrapped (x := ((i * w + j : Nat) : Int)) (by omega) (by omega)
        have e3 := wrapped (x := ((j * w : Nat) : Int)) (by omega) (by omega)
        have e4 := wrapped (x := ((j * w + j : Nat) : Int)) (by omega) (by omega)
        have m1 : (0 : Int) ≤ ((i * w + j : Nat) : Int) := by omega
        have m2' : (0 : Int) ≤ ((j * w + j : Nat) : Int) := by omega
        have m3 : ((i * w + j : Nat) : Int) < ((k * w : Nat) : Int) := by omega
        have m4 : ((j * w + j : Nat) : Int) < ((k * w : Nat) : Int) := by omega
        have l1 := ldM_frj (post := jnk z) (hg i j hin2 (by omega))
        have l2 := ldM_frj (post := jnk z) (hg j j hjk (by omega))
        have hw := wrapped (x := (j : Int) + 1) (by omega) (by omega)
        have hfit : ∀ x : Fr, fits 4 32 (frs (gridP (outG M) k i j)) [frV x] = true := fun x => fits_frs (k := gridP (outG M) k i j) (l := [x]) (by simp only [List.length_cons, List.length_nil]; omega)
        have hl' : (frs (gridP (outG M) k i j)).length = (gridP (outG M) k i j).length := by rw [List.length_map]
        simp -implicitDefEqProofs (maxSteps := 10000000) only [d1, e1, d2, e2, d3, e3, d4, e4, m1, m2', m3, m4, Int.toNat_natCast, addr_add, Nat.zero_add, hmm, l1, l2, rkA, rkB, stepA, valA, simprocAttr]
        have hz : outG M i j = if j > i then ⟨0, 0, 0, false⟩ else if (M j j).bad = false ∧ (M j j).v < 0 then negF (M i j) else M i j := rfl
        refine gB_dec ?_ ?_ <;> intro hji <;> simp -implicitDefEqProofs (maxSteps := 10000000) only [hji, rkA, rkB, stepA, valA, simprocAttr]
        · have hji' : j > i := by omega
          rw [if_pos hji'] at hz
          have hf0 := hfit ⟨0, 0, 0, false⟩
          simp -implicitDefEqProofs (maxSteps := 10000000) only [hf0, hl', hw, rkA, rkB, stepA, valA, simprocAttr]
          refine loopK_of (m' := m2 - 1) (by omega) ?_
          simp -implicitDefEqProofs (maxSteps := 10000000) only [rkA, rkB, stepA, valA, simprocAttr]
          refine ⟨j + 1, by omega, ?_⟩
          rw [gridP_succ, hz]
          simp only [List.map_append, List.map_cons, List.map_nil, List.length_append, List.length_cons, List.length_nil, Int.natCast_add, Int.natCast_one]
        · have hji' : ¬ j > i := by omega
          rw [if_neg hji'] at hz
          cases hbd : (M j j).bad with
          | true =>
            have hz' : outG M i j = M i j := by rw [hz, hbd, if_neg (fun h => by cases h.1)]
            have hfx := hfit (M i j)
            simp -implicitDefEqProofs (maxSteps := 10000000) only [hfx, hl', hw, rkA, rkB, stepA, valA, simprocAttr]
            refine loopK_of (m' := m2 - 1) (by omega) ?_
            simp -implicitDefEqProofs (maxSteps := 10000000) only [rkA, rkB, stepA, valA, simprocAttr]
            refine ⟨j + 1, by omega, ?_⟩
            rw [gridP_succ, hz']
            simp only [List.map_append, List.map_cons, List.map_nil, List.length_append, List.length_cons, List.length_nil, Int.natCast_add, Int.natCast_one]
          | false =>
            simp -implicitDefEqProofs (maxSteps := 10000000) only [rkA, rkB, stepA, valA, simprocAttr]
            refine gB_dec ?_ ?_ <;> intro hv
            · have hz' : outG M i j = negF (M i j) := by rw [hz, if_pos ⟨hbd, hv⟩]
              simp -implicitDefEqProofs (maxSteps := 10000000) only [hv, rkA, rkB, stepA, valA, simprocAttr]
              refine call_fn rfl rfl rfl (ok81 (M i j)) ?_
              have hfx := hfit (negF (M i j))
              simp -implicitDefEqProofs (maxSteps := 10000000) only [hfx, hl', hw, rkA, rkB, stepA, valA, simprocAttr]
              refine loopK_of (m' := m2 - 1) (by omega) ?_
              simp -implicitDefEqProofs (maxSteps := 10000000) only [rkA, rkB, stepA, valA, simprocAttr]
              refine ⟨j + 1, by omega, ?_⟩
              rw [gridP_succ, hz']
              simp only [List.map_append, List.map_cons, List.map_nil, List.length_append, List.length_cons, List.length_nil, Int.natCast_add, Int.natCast_one]
            · have hz' : outG M i j = M i j := by rw [hz, if_neg (fun h => hv h.2)]
              have hfx := hfit (M i j)
              simp -implicitDefEqProofs (maxSteps := 10000000) only [hv, hfx, hl', hw, rkA, rkB, stepA, valA, simprocAttr]
              refine loopK_of (m' := m2 - 1) (by omega) ?_
              simp -implicitDefEqProofs (maxSteps := 10000000) only [rkA, rkB, stepA, valA, simprocAttr]
              refine ⟨j + 1, by omega, ?_⟩
              rw [gridP_succ, hz']
              simp only [List.map_append, List.map_cons, List.map_nil, List.length_append, List.length_cons, List.length_nil, Int.natCast_add, Int.natCast_one]
      · have hjk : j = k := by omega
        subst hjk
        have hw := wrapped (x := (i : Int) + 1) (by omega) (by omega)
        simp -implicitDefEqProofs (maxSteps := 10000000) only [hw, rkA, rkB, stepA, valA, simprocAttr]
        refine loopK_of (m' := m1 - 1) (by omega) ?_
        simp -implicitDefEqProofs (maxSteps := 10000000) only [rkA, rkB, stepA, valA, simprocAttr]
        refine ⟨i + 1, by omega, ?_⟩
        rw [gridP_next]
        simp only [Int.natCast_add, Int.natCast_one]
    · have hik : i = k := by omega
      refine ⟨_, rfl, ?_⟩
      rw [hik, hM]
      exact Tell.same _
end Go.Proofs.YtambpjbpdackfaaGreat.A.E


set_option linter.unusedVariables false
set_option linter.unusedSimpArgs false
set_option maxRecDepth 100000
namespace Go.Proofs.YtambpjbpdackfaaGreat.A.E
open Go Go.RowKit Go.Shelf

/-! ### Whole numbers, enclosed: points -/
abbrev whole (n : Int) : Fr := ⟨n * 16777216, n * 16777216, n * 16777216, false⟩
def few (n : Int) : Prop := -67108864 ≤ n ∧ n ≤ 67108864
theorem natAbs_U (a : Int) : (a * 16777216).natAbs = a.natAbs * 16777216 := by rw [Int.natAbs_mul]; rfl
theorem signed_abs {x : Int} {b : Bool} (h : x = 0 ∨ b = decide (x < 0)) : (if b = true then -((x.natAbs : Nat) : Int) else ((x.natAbs : Nat) : Int)) = x := by
  rcases h with rfl | rfl
  · simp
  · by_cases h : x < 0
    · simp only [h, decide_true, if_true]
      omega
    · simp only [h, decide_false, Bool.false_eq_true, if_false]
      omega
theorem minus_mul (a b : Int) : a * b = 0 ∨ (decide (a < 0) != decide (b < 0)) = decide (a * b < 0) := by
  rcases Int.lt_trichotomy a 0 with ha | rfl | ha
  · rcases Int.lt_trichotomy b 0 with hb | rfl | hb
    · right
      have := Int.mul_pos_of_neg_of_neg ha hb
      rw [decide_eq_true ha, decide_eq_true hb, decide_eq_false (by omega)]; rfl
    · left; simp
    · right
      have := Int.mul_neg_of_neg_of_pos ha hb
      rw [decide_eq_true ha, decide_eq_false (by omega), decide_eq_true this]; rfl
  · left; simp
  · rcases Int.lt_trichotomy b 0 with hb | rfl | hb
    · right
      have := Int.mul_neg_of_pos_of_neg ha hb
      rw [decide_eq_false (by omega), decide_eq_true hb, decide_eq_true this]; rfl
    · left; simp
    · right
      have := Int.mul_pos ha hb
      rw [decide_eq_false (by omega), decide_eq_false (by omega), decide_eq_false (by omega)]; rfl
theorem U_lt (a : Int) : (a * 16777216 < 0) = (a < 0) := by apply propext; omega
theorem md_exact {a b mode : Int} (ha : few a) (hb : few b) (hab : few (a * b)) (hm : 0 ≤ mode ∧ mode ≤ 2) : mdF (a * 16777216) (b * 16777216) 16777216 mode = (a * b * 16777216, true) := by
  have e : (a * 16777216).natAbs * (b * 16777216).natAbs = ((a * b).natAbs * 16777216) * 16777216 := by
    rw [natAbs_U, natAbs_U, Int.natAbs_mul, Nat.mul_assoc, Nat.mul_assoc, Nat.mul_assoc]
    congr 1
    rw [← Nat.mul_assoc, Nat.mul_comm 16777216 b.natAbs, Nat.mul_assoc]
  have hU : (16777216 : Int).natAbs = 16777216 := rfl
  have hN : mdN (a * 16777216) (b * 16777216) 16777216 mode = (a * b).natAbs * 16777216 := by
    unfold mdN
    rw [hU, e, Nat.mul_div_cancel _ (by omega), Nat.mul_mod_left]
    simp [moreF]
  unfold few at ha hb hab
  have hok : mdOk (a * 16777216) (b * 16777216) 16777216 mode = true := by
    unfold mdOk rightW
    rw [hN]
    simp only [Bool.and_eq_true, decide_eq_true_eq]
    refine ⟨by omega, by omega, by omega, by omega, hm, ?_⟩
    omega
  unfold mdF
  rw [hok, if_pos rfl, hN]
  congr 1
  have hs : minus3 (a * 16777216) (b * 16777216) 16777216 = (decide (a < 0) != decide (b < 0)) := by
    unfold minus3
    simp only [U_lt]
    simp
  rw [hs]
  have h1 := signed_abs (x := a * b * 16777216) (b := decide (a < 0) != decide (b < 0)) (by
    rcases minus_mul a b with h | h
    · left; rw [h]; rfl
    · right; rw [h]; congr 1; exact (U_lt _).symm)
  rw [natAbs_U] at h1
  exact h1
theorem of_exact {n : Int} (h : few n) : mdF n 16777216 1 0 = (n * 16777216, true) := by
  have h1U : (1 : Int).natAbs = 1 := rfl
  have hU : (16777216 : Int).natAbs = 16777216 := rfl
  have hN : mdN n 16777216 1 0 = n.natAbs * 16777216 := by
    unfold mdN
    rw [h1U, hU, Nat.div_one, Nat.mod_one]
    simp [moreF]
  unfold few at h
  have hok : mdOk n 16777216 1 0 = true := by
    unfold mdOk rightW
    rw [hN]
    simp only [Bool.and_eq_true, decide_eq_true_eq]
    refine ⟨by omega, by omega, by omega, by omega, by omega, ?_⟩
    omega
  unfold mdF
  rw [hok, if_pos rfl, hN]
  congr 1
  have hs : minus3 n 16777216 1 = decide (n * 16777216 < 0) := by
    unfold minus3
    simp [U_lt]
  rw [hs]
  have h1 := signed_abs (x := n * 16777216) (b := decide (n * 16777216 < 0)) (.inr rfl)
  rw [natAbs_U] at h1
  exact h1
theorem rightX_U {n : Int} (h : few n) : rightX (n * 16777216) = true := by
  unfold few at h
  unfold rightX
  rw [decide_eq_true_eq]
  omega
theorem newF_whole {n : Int} (h : few n) : newF n 1 = whole n := by
  have e : ofX n = (n * 16777216, true) := by
    unfold ofX toldF
    rw [of_exact h]
    simp [rightX_U h]
  unfold newF point
  rw [e]
  simp [rightX_U h]
theorem fine_whole {n : Int} (h : few n) : (whole n).fine = true := by
  unfold Fr.fine
  simp [rightX_U h]
theorem addF_whole {a b : Int} (ha : few a) (hb : few b) (hs : few (a + b)) : addF (whole a) (whole b) = whole (a + b) := by
  have e : addX (a * 16777216) (b * 16777216) = ((a + b) * 16777216, true) := by
    unfold addX toldF
    rw [← Int.add_mul]
    simp [rightX_U ha, rightX_U hb, rightX_U hs]
  unfold addF madeE
  simp [okP, e, fine_whole ha, fine_whole hb, minL, maxL]
theorem mulF_whole {a b : Int} (ha : few a) (hb : few b) (hs : few (a * b)) : mulF (whole a) (whole b) = whole (a * b) := by
  have e : ∀ mode : Int, 0 ≤ mode ∧ mode ≤ 2 → mulX (a * 16777216) (b * 16777216) mode = (a * b * 16777216, true) := fun mode hm => by
    unfold mulX toldF
    rw [md_exact ha hb hs hm]
    simp [rightX_U ha, rightX_U hb, rightX_U hs]
  unfold mulF madeE
  simp [okP, allP, e, fine_whole ha, fine_whole hb, minL, maxL]
end Go.Proofs.YtambpjbpdackfaaGreat.A.E


set_option linter.unusedVariables false
set_option linter.unusedSimpArgs false
set_option maxRecDepth 100000
namespace Go.Proofs.YtambpjbpdackfaaGreat.A.E
open Go Go.RowKit Go.Shelf

/-! ### Rounding: what is told of a product, divided -/
theorem minus3_of (a b c : Int) (hc : c ≠ 0) : a * b = 0 ∨ minus3 a b c = decide ((if c < 0 then -(a * b) else a * b) < 0) := by
  rcases minus_mul a b with h | h
  · exact .inl h
  · by_cases h0 : a * b = 0
    · exact .inl h0
    · right
      unfold minus3
      rw [h]
      by_cases hc0 : c < 0
      · rw [if_pos hc0, decide_eq_true hc0]
        by_cases hx : a * b < 0
        · rw [decide_eq_true hx, decide_eq_false (by omega)]; rfl
        · rw [decide_eq_false hx, decide_eq_true (by omega)]; rfl
      · rw [if_neg hc0, decide_eq_false hc0]
        by_cases hx : a * b < 0
        · rw [decide_eq_true hx]; rfl
        · rw [decide_eq_false hx]; rfl
theorem md_spec {a b c mode : Int} (h : (mdF a b c mode).2 = true) : ∃ Y C : Int, 0 < C ∧ ((c = C ∧ Y = a * b) ∨ (c = -C ∧ Y = -(a * b))) ∧
    (mdF a b c mode).1 * C < Y + C ∧ Y < (mdF a b c mode).1 * C + C ∧ (mode = 1 → (mdF a b c mode).1 * C ≤ Y) ∧ (mode = 2 → Y ≤ (mdF a b c mode).1 * C) := by
  unfold mdF at h ⊢
  split at h
  · rename_i hok
    rw [if_pos hok]
    have hc : c ≠ 0 := by
      unfold mdOk at hok
      simp only [Bool.and_eq_true, decide_eq_true_eq] at hok
      exact hok.2.2.2.1
    refine ⟨if c < 0 then -(a * b) else a * b, (c.natAbs : Int), by omega, by split <;> omega, ?_⟩
    have hm := minus3_of a b c hc
    have hP : (if c < 0 then -(a * b) else a * b).natAbs = a.natAbs * b.natAbs := by
      rw [← Int.natAbs_mul]
      split <;> omega
    have h0 : a * b = 0 → (if c < 0 then -(a * b) else a * b) = 0 := fun h => by rw [h]; split <;> rfl
    generalize (if c < 0 then -(a * b) else a * b) = Y at *
    unfold mdN
    have hCp : 0 < c.natAbs := by omega
    generalize c.natAbs = C at *
    generalize a.natAbs * b.natAbs = P at *
    have hd := Nat.div_add_mod P C
    have hr := Nat.mod_lt P hCp
    have hmo : moreF mode (P / C) (P % C) C (minus3 a b c) = true → P % C ≠ 0 := fun h h0 => by
      unfold moreF at h
      rw [if_pos h0] at h
      cases h
    have hm1 : mode = 1 → moreF mode (P / C) (P % C) C (minus3 a b c) = (decide (P % C ≠ 0) && minus3 a b c) := fun h => by
      unfold moreF
      subst h
      by_cases h0 : P % C = 0
      · simp [h0]
      · simp [h0]
    have hm2 : mode = 2 → moreF mode (P / C) (P % C) C (minus3 a b c) = (decide (P % C ≠ 0) && !minus3 a b c) := fun h => by
      unfold moreF
      subst h
      by_cases h0 : P % C = 0
      · simp [h0]
      · simp [h0]
    generalize moreF mode (P / C) (P % C) C (minus3 a b c) = mo at *
    generalize minus3 a b c = mi at *
    generalize P / C = D at *
    generalize P % C = r at *
    have hT : ((D : Int)) * (C : Int) = ((C * D : Nat) : Int) := by rw [Nat.mul_comm, Int.natCast_mul]
    have hT1 : ((D : Int) + 1) * (C : Int) = ((C * D : Nat) : Int) + C := by rw [Int.add_mul, hT, Int.one_mul]
    generalize C * D = T at *
    have hmi : P = 0 ∨ mi = decide (Y < 0) := by
      rcases hm with h | h
      · have := h0 h
        left; omega
      · exact .inr h
    clear hm h0 h hok
    have hm1' : mode = 1 → (mo = true ↔ r ≠ 0 ∧ mi = true) := fun h => by rw [hm1 h]; simp
    have hm2' : mode = 2 → (mo = true ↔ r ≠ 0 ∧ mi = false) := fun h => by rw [hm2 h]; simp
    clear hm1 hm2
    have hmi' : P = 0 ∨ (mi = true ↔ Y < 0) := by
      rcases hmi with h | h
      · exact .inl h
      · right; rw [h, decide_eq_true_eq]
    clear hmi
    cases mo <;> cases mi
    all_goals simp only [if_true, if_false, Bool.false_eq_true, Nat.add_zero, Int.natCast_add, Int.natCast_one, Int.neg_mul, hT, hT1, true_iff, false_iff, reduceCtorEq, and_true, and_false, iff_true, iff_false, not_true_eq_false, not_false_eq_true, Int.natCast_zero, Int.add_zero]
    all_goals simp only [Bool.false_eq_true, reduceCtorEq, false_implies, true_implies, forall_const, true_iff, false_iff, and_true, and_false, iff_true, iff_false, not_true_eq_false, not_false_eq_true, Int.not_lt, ne_eq, Decidable.not_not, false_and, not_and, true_and] at hmo hmi' hm1' hm2'
    all_goals refine ⟨by omega, by omega, fun h => ?_, fun h => ?_⟩
    all_goals first
      | omega
      | (have := hm1' h; omega)
      | (have := hm2' h; omega)
      | exact (hm1' h).elim
      | exact (hm2' h).elim
  · cases h

/-! ### What is made of values and of pairs of bounds -/
theorem minL_foldl : ∀ (l : List Int) (x : Int), l.foldl (fun m y => if y < m then y else m) x ≤ x ∧ (∀ y ∈ l, l.foldl (fun m y => if y < m then y else m) x ≤ y) ∧ (l.foldl (fun m y => if y < m then y else m) x = x ∨ l.foldl (fun m y => if y < m then y else m) x ∈ l)
  | [], x => ⟨Int.le_refl _, by simp, .inl rfl⟩
  | z :: l, x => by
    rw [List.foldl_cons]
    have ht : (if z < x then z else x) ≤ x ∧ (if z < x then z else x) ≤ z ∧ ((if z < x then z else x) = x ∨ (if z < x then z else x) = z) := by split <;> omega
    generalize (if z < x then z else x) = t at ht ⊢
    obtain ⟨h1, h2, h3⟩ := minL_foldl l t
    refine ⟨by omega, fun y hy => ?_, ?_⟩
    · rcases List.mem_cons.1 hy with rfl | hy
      · omega
      · exact h2 y hy
    · rcases h3 with h3 | h3
      · rw [h3]
        rcases ht.2.2 with e | e
        · exact .inl e
        · right; rw [e]; simp
      · right; exact List.mem_cons_of_mem _ h3
theorem maxL_foldl : ∀ (l : List Int) (x : Int), x ≤ l.foldl (fun m y => if m < y then y else m) x ∧ (∀ y ∈ l, y ≤ l.foldl (fun m y => if m < y then y else m) x) ∧ (l.foldl (fun m y => if m < y then y else m) x = x ∨ l.foldl (fun m y => if m < y then y else m) x ∈ l)
  | [], x => ⟨Int.le_refl _, by simp, .inl rfl⟩
  | z :: l, x => by
    rw [List.foldl_cons]
    have ht : x ≤ (if x < z then z else x) ∧ z ≤ (if x < z then z else x) ∧ ((if x < z then z else x) = x ∨ (if x < z then z else x) = z) := by split <;> omega
    generalize (if x < z then z else x) = t at ht ⊢
    obtain ⟨h1, h2, h3⟩ := maxL_foldl l t
    refine ⟨by omega, fun y hy => ?_, ?_⟩
    · rcases List.mem_cons.1 hy with rfl | hy
      · omega
      · exact h2 y hy
    · rcases h3 with h3 | h3
      · rw [h3]
        rcases ht.2.2 with e | e
        · exact .inl e
        · right; rw [e]; simp
      · right; exact List.mem_cons_of_mem _ h3
theorem minL_le {l : List Int} {y : Int} (h : y ∈ l) : minL l ≤ y := by
  cases l with
  | nil => cases h
  | cons x l =>
    rcases List.mem_cons.1 h with rfl | h
    · exact (minL_foldl l y).1
    · exact (minL_foldl l x).2.1 y h
theorem le_maxL {l : List Int} {y : Int} (h : y ∈ l) : y ≤ maxL l := by
  cases l with
  | nil => cases h
  | cons x l =>
    rcases List.mem_cons.1 h with rfl | h
    · exact (maxL_foldl l y).1
    · exact (maxL_foldl l x).2.1 y h
theorem minL_mem {l : List Int} (h : l ≠ []) : minL l ∈ l := by
  cases l with
  | nil => exact absurd rfl h
  | cons x l =>
    rcases (minL_foldl l x).2.2 with e | e
    · have e' : minL (x :: l) = x := e
      rw [e']; simp
    · exact List.mem_cons_of_mem _ e
theorem maxL_mem {l : List Int} (h : l ≠ []) : maxL l ∈ l := by
  cases l with
  | nil => exact absurd rfl h
  | cons x l =>
    rcases (maxL_foldl l x).2.2 with e | e
    · have e' : maxL (x :: l) = x := e
      rw [e']; simp
    · exact List.mem_cons_of_mem _ e
theorem made_is {F : Int → Int → Int → Int × Bool} {a b : Fr} {ps : List (Int × Int)} (h : (madeE F a b ps).bad = false) : a.fine = true ∧ b.fine = true ∧ (F a.v b.v 0).2 = true ∧ (∀ p ∈ ps, (F p.1 p.2 1).2 = true ∧ (F p.1 p.2 2).2 = true) ∧
    madeE F a b ps = ⟨(F a.v b.v 0).1, minL (ps.map fun p => (F p.1 p.2 1).1), maxL (ps.map fun p => (F p.1 p.2 2).1), false⟩ := by
  unfold madeE at h ⊢
  split at h
  · rename_i hc
    rw [if_pos hc]
    obtain ⟨h1, h2, h3⟩ := hc
    rw [Bool.and_eq_true] at h1
    refine ⟨h2, h3, h1.1, fun p hp => ?_, rfl⟩
    have := List.all_eq_true.1 h1.2 p hp
    unfold okP at this
    exact Bool.and_eq_true_iff.1 this
  · cases h
theorem told_is {n : Int} {is : Bool} {l : List Int} (h : (toldF n is l).2 = true) : is = true ∧ (toldF n is l).1 = n ∧ rightX n = true := by
  unfold toldF at h ⊢
  split at h
  · rename_i hc
    rw [if_pos hc]
    exact ⟨hc.1, rfl, List.all_eq_true.1 hc.2 n (by simp)⟩
  · cases h
theorem fine_is {x : Fr} : x.fine = true ↔ x.bad = false ∧ rightX x.lo = true ∧ rightX x.hi = true ∧ x.lo ≤ x.v ∧ x.v ≤ x.hi := by
  unfold Fr.fine
  simp only [Bool.and_eq_true, Bool.not_eq_true', decide_eq_true_eq]

/-! ### To enclose -/
def Enc (x : Fr) (v : Rat) : Prop := x.fine = true ∧ (x.lo : Rat) ≤ v * 16777216 ∧ v * 16777216 ≤ (x.hi : Rat)
/-- Of what is made: every bound told is rounded to its side. -/
theorem made_enc {F : Int → Int → Int → Int × Bool} {a b : Fr} {ps : List (Int × Int)} {w : Rat} (h : (madeE F a b ps).bad = false)
    (hr : ∀ x y m, (F x y m).2 = true → rightX (F x y m).1 = true)
    (hlo : ∃ p ∈ ps, ((F p.1 p.2 1).1 : Rat) ≤ w * 16777216) (hhi : ∃ p ∈ ps, w * 16777216 ≤ ((F p.1 p.2 2).1 : Rat))
    (hlv : ∃ p ∈ ps, (F p.1 p.2 1).1 ≤ (F a.v b.v 0).1) (hvh : ∃ p ∈ ps, (F a.v b.v 0).1 ≤ (F p.1 p.2 2).1) : Enc (madeE F a b ps) w := by
  obtain ⟨h1, h2, h3, h4, h5⟩ := made_is h
  rw [h5]
  have hne : ps ≠ [] := fun e => by obtain ⟨p, hp, _⟩ := hlo; rw [e] at hp; cases hp
  have hml := minL_mem (l := ps.map fun p => (F p.1 p.2 1).1) (by simpa using hne)
  have hmh := maxL_mem (l := ps.map fun p => (F p.1 p.2 2).1) (by simpa using hne)
  have lo_le : ∀ p ∈ ps, minL (ps.map fun p => (F p.1 p.2 1).1) ≤ (F p.1 p.2 1).1 := fun p hp => minL_le (List.mem_map.2 ⟨p, hp, rfl⟩)
  have le_hi : ∀ p ∈ ps, (F p.1 p.2 2).1 ≤ maxL (ps.map fun p => (F p.1 p.2 2).1) := fun p hp => le_maxL (List.mem_map.2 ⟨p, hp, rfl⟩)
  refine ⟨fine_is.2 ⟨rfl, ?_, ?_, ?_, ?_⟩, ?_, ?_⟩
  · obtain ⟨p, hp, e⟩ := List.mem_map.1 hml
    show rightX (minL _) = true
    rw [← e]; exact hr _ _ _ (h4 p hp).1
  · obtain ⟨p, hp, e⟩ := List.mem_map.1 hmh
    show rightX (maxL _) = true
    rw [← e]; exact hr _ _ _ (h4 p hp).2
  · obtain ⟨p, hp, e⟩ := hlv
    exact Int.le_trans (lo_le p hp) e
  · obtain ⟨p, hp, e⟩ := hvh
    exact Int.le_trans e (le_hi p hp)
  · obtain ⟨p, hp, e⟩ := hlo
    exact Rat.le_trans (Rat.intCast_le_intCast.2 (lo_le p hp)) e
  · obtain ⟨p, hp, e⟩ := hhi
    exact Rat.le_trans e (Rat.intCast_le_intCast.2 (le_hi p hp))

theorem add_spec {x y : Int} (h : (addX x y).2 = true) : (addX x y).1 = x + y ∧ rightX (x + y) = true := by
  unfold addX at h ⊢
  split at h
  · rename_i hc
    rw [if_pos hc]
    exact (told_is h).2
  · cases h
theorem sub_spec {x y : Int} (h : (subX x y).2 = true) : (subX x y).1 = x - y ∧ rightX (x - y) = true := by
  unfold subX at h ⊢
  split at h
  · rename_i hc
    rw [if_pos hc]
    exact (told_is h).2
  · cases h
theorem addF_enc {a b : Fr} {v w : Rat} (ha : a.bad = false → Enc a v) (hb : b.bad = false → Enc b w) (h : (addF a b).bad = false) : Enc (addF a b) (v + w) := by
  unfold addF at h ⊢
  obtain ⟨h1, h2, h3, h4, h5⟩ := made_is h
  obtain ⟨fa, la, ua⟩ := ha (fine_is.1 h1).1
  obtain ⟨fb, lb, ub⟩ := hb (fine_is.1 h2).1
  have p1 := h4 (a.lo, b.lo) (by simp)
  have p2 := h4 (a.hi, b.hi) (by simp)
  have s1 : (addX a.lo b.lo).1 = a.lo + b.lo := (add_spec p1.1).1
  have s2 : (addX a.hi b.hi).1 = a.hi + b.hi := (add_spec p2.1).1
  have s0 : (addX a.v b.v).1 = a.v + b.v := (add_spec h3).1
  have oa := (fine_is.1 h1).2.2.2
  have ob := (fine_is.1 h2).2.2.2
  refine made_enc h (fun x y m hxy => ?_) ⟨_, List.mem_cons_self .., ?_⟩ ⟨(a.hi, b.hi), by simp, ?_⟩ ⟨(a.lo, b.lo), by simp, ?_⟩ ⟨(a.hi, b.hi), by simp, ?_⟩
  · have := add_spec hxy
    show rightX (addX x y).1 = true
    rw [this.1]; exact this.2
  · show ((addX a.lo b.lo).1 : Rat) ≤ _
    rw [s1, Rat.intCast_add]
    grind
  · show _ ≤ ((addX a.hi b.hi).1 : Rat)
    rw [s2, Rat.intCast_add]
    grind
  · show (addX a.lo b.lo).1 ≤ (addX a.v b.v).1
    omega
  · show (addX a.v b.v).1 ≤ (addX a.hi b.hi).1
    omega
theorem subF_enc {a b : Fr} {v w : Rat} (ha : a.bad = false → Enc a v) (hb : b.bad = false → Enc b w) (h : (subF a b).bad = false) : Enc (subF a b) (v - w) := by
  unfold subF at h ⊢
  obtain ⟨h1, h2, h3, h4, h5⟩ := made_is h
  obtain ⟨fa, la, ua⟩ := ha (fine_is.1 h1).1
  obtain ⟨fb, lb, ub⟩ := hb (fine_is.1 h2).1
  have p1 := h4 (a.lo, b.hi) (by simp)
  have p2 := h4 (a.hi, b.lo) (by simp)
  have s1 : (subX a.lo b.hi).1 = a.lo - b.hi := (sub_spec p1.1).1
  have s2 : (subX a.hi b.lo).1 = a.hi - b.lo := (sub_spec p2.1).1
  have s0 : (subX a.v b.v).1 = a.v - b.v := (sub_spec h3).1
  have oa := (fine_is.1 h1).2.2.2
  have ob := (fine_is.1 h2).2.2.2
  refine made_enc h (fun x y m hxy => ?_) ⟨_, List.mem_cons_self .., ?_⟩ ⟨(a.hi, b.lo), by simp, ?_⟩ ⟨(a.lo, b.hi), by simp, ?_⟩ ⟨(a.hi, b.lo), by simp, ?_⟩
  · have := sub_spec hxy
    show rightX (subX x y).1 = true
    rw [this.1]; exact this.2
  · show ((subX a.lo b.hi).1 : Rat) ≤ _
    rw [s1, Rat.intCast_sub]
    grind
  · show _ ≤ ((subX a.hi b.lo).1 : Rat)
    rw [s2, Rat.intCast_sub]
    grind
  · show (subX a.lo b.hi).1 ≤ (subX a.v b.v).1
    omega
  · show (subX a.v b.v).1 ≤ (subX a.hi b.lo).1
    omega

/-! ### Corners -/
theorem corner_lo {l h m n x y : Rat} (h1 : l ≤ x) (h2 : x ≤ h) (h3 : m ≤ y) (h4 : y ≤ n) : l * m ≤ x * y ∨ l * n ≤ x * y ∨ h * m ≤ x * y ∨ h * n ≤ x * y := by
  rcases Rat.le_total (a := 0) (b := y) with hy | hy
  · have k1 := Rat.mul_nonneg (show 0 ≤ x - l by grind) hy
    rcases Rat.le_total (a := 0) (b := l) with hl | hl
    · have k2 := Rat.mul_nonneg hl (show 0 ≤ y - m by grind)
      left; grind
    · have k2 := Rat.mul_nonneg (show 0 ≤ -l by grind) (show 0 ≤ n - y by grind)
      right; left; grind
  · have k1 := Rat.mul_nonneg (show 0 ≤ h - x by grind) (show 0 ≤ -y by grind)
    rcases Rat.le_total (a := 0) (b := h) with hl | hl
    · have k2 := Rat.mul_nonneg hl (show 0 ≤ y - m by grind)
      right; right; left; grind
    · have k2 := Rat.mul_nonneg (show 0 ≤ -h by grind) (show 0 ≤ n - y by grind)
      right; right; right; grind
theorem corner_hi {l h m n x y : Rat} (h1 : l ≤ x) (h2 : x ≤ h) (h3 : m ≤ y) (h4 : y ≤ n) : x * y ≤ l * m ∨ x * y ≤ l * n ∨ x * y ≤ h * m ∨ x * y ≤ h * n := by
  have := corner_lo (l := -h) (h := -l) (m := m) (n := n) (x := -x) (y := y) (by grind) (by grind) h3 h4
  rcases this with h | h | h | h
  · right; right; left; grind
  · right; right; right; grind
  · left; grind
  · right; left; grind

/-! ### Products and quotients -/
theorem mul_told {x y m : Int} (h : (mulX x y m).2 = true) : (mdF x y 16777216 m).2 = true ∧ (mulX x y m).1 = (mdF x y 16777216 m).1 ∧ rightX (mulX x y m).1 = true := by
  unfold mulX at h ⊢
  obtain ⟨h1, h2, h3⟩ := told_is h
  exact ⟨h1, h2, by rw [h2]; exact h3⟩
theorem mul_spec {x y m : Int} (h : (mulX x y m).2 = true) : (mulX x y m).1 * 16777216 < x * y + 16777216 ∧ x * y < (mulX x y m).1 * 16777216 + 16777216 ∧ (m = 1 → (mulX x y m).1 * 16777216 ≤ x * y) ∧ (m = 2 → x * y ≤ (mulX x y m).1 * 16777216) := by
  obtain ⟨h1, h2, h3⟩ := mul_told h
  obtain ⟨Y, C, hC, hcY, k⟩ := md_spec h1
  have : C = 16777216 ∧ Y = x * y := by
    rcases hcY with ⟨e1, e2⟩ | ⟨e1, e2⟩
    · exact ⟨e1.symm, e2⟩
    · omega
  rw [this.1, this.2] at k
  rw [h2]
  exact k
theorem corner_loI {l h m n x y : Int} (h1 : l ≤ x) (h2 : x ≤ h) (h3 : m ≤ y) (h4 : y ≤ n) : l * m ≤ x * y ∨ l * n ≤ x * y ∨ h * m ≤ x * y ∨ h * n ≤ x * y := by
  have := corner_lo (Rat.intCast_le_intCast.2 h1) (Rat.intCast_le_intCast.2 h2) (Rat.intCast_le_intCast.2 h3) (Rat.intCast_le_intCast.2 h4)
  simpa only [← Rat.intCast_mul, Rat.intCast_le_intCast] using this
theorem corner_hiI {l h m n x y : Int} (h1 : l ≤ x) (h2 : x ≤ h) (h3 : m ≤ y) (h4 : y ≤ n) : x * y ≤ l * m ∨ x * y ≤ l * n ∨ x * y ≤ h * m ∨ x * y ≤ h * n := by
  have := corner_hi (Rat.intCast_le_intCast.2 h1) (Rat.intCast_le_intCast.2 h2) (Rat.intCast_le_intCast.2 h3) (Rat.intCast_le_intCast.2 h4)
  simpa only [← Rat.intCast_mul, Rat.intCast_le_intCast] using this
theorem mulF_enc {a b : Fr} {v w : Rat} (ha : a.bad = false → Enc a v) (hb : b.bad = false → Enc b w) (h : (mulF a b).bad = false) : Enc (mulF a b) (v * w) := by
  unfold mulF at h ⊢
  obtain ⟨h1, h2, h3, h4, h5⟩ := made_is h
  obtain ⟨fa, la, ua⟩ := ha (fine_is.1 h1).1
  obtain ⟨fb, lb, ub⟩ := hb (fine_is.1 h2).1
  have oa := (fine_is.1 h1).2.2.2
  have ob := (fine_is.1 h2).2.2.2
  have s0 := mul_spec h3
  have lo : ∀ p ∈ allP a b, ((p.1 * p.2 : Int) : Rat) ≤ (v * 16777216) * (w * 16777216) → ((mulX p.1 p.2 1).1 : Rat) ≤ v * w * 16777216 := fun p hp hle => by
    have k := (mul_spec (h4 p hp).1).2.2.1 rfl
    have k' : ((mulX p.1 p.2 1).1 : Rat) * 16777216 ≤ ((p.1 * p.2 : Int) : Rat) := by
      have := Rat.intCast_le_intCast.2 k
      rw [Rat.intCast_mul] at this
      exact this
    grind
  have hi : ∀ p ∈ allP a b, (v * 16777216) * (w * 16777216) ≤ ((p.1 * p.2 : Int) : Rat) → v * w * 16777216 ≤ ((mulX p.1 p.2 2).1 : Rat) := fun p hp hle => by
    have k := (mul_spec (h4 p hp).2).2.2.2 rfl
    have k' : ((p.1 * p.2 : Int) : Rat) ≤ ((mulX p.1 p.2 2).1 : Rat) * 16777216 := by
      have := Rat.intCast_le_intCast.2 k
      rw [Rat.intCast_mul (mulX p.1 p.2 2).1 16777216] at this
      exact this
    grind
  have lv : ∀ p ∈ allP a b, p.1 * p.2 ≤ a.v * b.v → (mulX p.1 p.2 1).1 ≤ (mulX a.v b.v 0).1 := fun p hp hle => by
    have k := (mul_spec (h4 p hp).1).2.2.1 rfl
    omega
  have vh : ∀ p ∈ allP a b, a.v * b.v ≤ p.1 * p.2 → (mulX a.v b.v 0).1 ≤ (mulX p.1 p.2 2).1 := fun p hp hle => by
    have k := (mul_spec (h4 p hp).2).2.2.2 rfl
    omega
  have m1 : (a.lo, b.lo) ∈ allP a b := by simp [allP]
  have m2 : (a.lo, b.hi) ∈ allP a b := by simp [allP]
  have m3 : (a.hi, b.lo) ∈ allP a b := by simp [allP]
  have m4 : (a.hi, b.hi) ∈ allP a b := by simp [allP]
  refine made_enc h (fun x y m hxy => (mul_told hxy).2.2) ?_ ?_ ?_ ?_
  · have := corner_lo la ua lb ub
    simp only [← Rat.intCast_mul] at this
    rcases this with k | k | k | k
    · exact ⟨_, m1, lo _ m1 k⟩
    · exact ⟨_, m2, lo _ m2 k⟩
    · exact ⟨_, m3, lo _ m3 k⟩
    · exact ⟨_, m4, lo _ m4 k⟩
  · have := corner_hi la ua lb ub
    simp only [← Rat.intCast_mul] at this
    rcases this with k | k | k | k
    · exact ⟨_, m1, hi _ m1 k⟩
    · exact ⟨_, m2, hi _ m2 k⟩
    · exact ⟨_, m3, hi _ m3 k⟩
    · exact ⟨_, m4, hi _ m4 k⟩
  · rcases corner_loI oa.1 oa.2 ob.1 ob.2 with k | k | k | k
    · exact ⟨_, m1, lv _ m1 k⟩
    · exact ⟨_, m2, lv _ m2 k⟩
    · exact ⟨_, m3, lv _ m3 k⟩
    · exact ⟨_, m4, lv _ m4 k⟩
  · rcases corner_hiI oa.1 oa.2 ob.1 ob.2 with k | k | k | k
    · exact ⟨_, m1, vh _ m1 k⟩
    · exact ⟨_, m2, vh _ m2 k⟩
    · exact ⟨_, m3, vh _ m3 k⟩
    · exact ⟨_, m4, vh _ m4 k⟩

theorem whole_enc {n : Int} (h : few n) : Enc (newF n 1) (n : Rat) := by
  rw [newF_whole h]
  refine ⟨fine_whole h, ?_, ?_⟩
  · show ((n * 16777216 : Int) : Rat) ≤ _
    rw [Rat.intCast_mul]
    exact Rat.le_refl
  · show _ ≤ ((n * 16777216 : Int) : Rat)
    rw [Rat.intCast_mul]
    exact Rat.le_refl
end Go.Proofs.YtambpjbpdackfaaGreat.A.E


set_option linter.unusedVariables false
set_option linter.unusedSimpArgs false
set_option maxRecDepth 100000
namespace Go.Proofs.YtambpjbpdackfaaGreat.A.E
open Go Go.RowKit Go.Shelf

/-! ### Enclosed numbers beside fractions: whatever both tell, the one encloses the other -/
def Rl (x : Fr) (y : A.Fr) : Prop := x.fine = true → y.fine = true → Enc x y.val
theorem made_fine {F : Int → Int → Int → Int × Bool} {a b : Fr} {ps : List (Int × Int)} (h : (madeE F a b ps).fine = true) : a.fine = true ∧ b.fine = true :=
  ⟨(made_is (fine_is.1 h).1).1, (made_is (fine_is.1 h).1).2.1⟩
theorem Rl.add {a b : Fr} {a' b' : A.Fr} (ha : Rl a a') (hb : Rl b b') : Rl (addF a b) (A.addF a' b') := fun hx hy => by
  obtain ⟨h1, h2⟩ := made_fine hx
  obtain ⟨k1, k2, k3⟩ := A.addF_is (fine_bad hy)
  rw [k3.2]
  exact addF_enc (fun _ => ha h1 k1) (fun _ => hb h2 k2) (fine_is.1 hx).1
theorem Rl.sub {a b : Fr} {a' b' : A.Fr} (ha : Rl a a') (hb : Rl b b') : Rl (subF a b) (A.subF a' b') := fun hx hy => by
  obtain ⟨h1, h2⟩ := made_fine hx
  obtain ⟨k1, k2, k3⟩ := A.subF_is (fine_bad hy)
  rw [k3.2]
  exact subF_enc (fun _ => ha h1 k1) (fun _ => hb h2 k2) (fine_is.1 hx).1
theorem Rl.mul {a b : Fr} {a' b' : A.Fr} (ha : Rl a a') (hb : Rl b b') : Rl (mulF a b) (A.mulF a' b') := fun hx hy => by
  obtain ⟨h1, h2⟩ := made_fine hx
  obtain ⟨k1, k2, k3⟩ := A.mulF_is (fine_bad hy)
  rw [k3.2]
  exact mulF_enc (fun _ => ha h1 k1) (fun _ => hb h2 k2) (fine_is.1 hx).1
theorem Rl.whole {n : Int} (h : few n) : Rl (newF n 1) (A.newF n 1) := fun hx hy => by
  have hf : A.few n := by unfold A.few; unfold few at h; omega
  rw [(A.whole_is hf).2]
  exact whole_enc h
theorem Rl.dz : Rl ⟨0, 0, 0, false⟩ ⟨0, 0, false⟩ := fun _ hy => absurd hy (by decide)

def RL (l : List Fr) (l' : List A.Fr) : Prop := l.length = l'.length ∧ ∀ k, Rl (l.getD k ⟨0, 0, 0, false⟩) (l'.getD k ⟨0, 0, false⟩)
theorem RL.nil : RL [] [] := ⟨rfl, fun k => Rl.dz⟩
theorem RL.cons {x : Fr} {y : A.Fr} {l : List Fr} {l' : List A.Fr} (h : Rl x y) (hl : RL l l') : RL (x :: l) (y :: l') := ⟨by simp [hl.1], fun k => by
  cases k with
  | zero => exact h
  | succ k => exact hl.2 k⟩
theorem RL.uncons {x : Fr} {y : A.Fr} {l : List Fr} {l' : List A.Fr} (h : RL (x :: l) (y :: l')) : Rl x y ∧ RL l l' := ⟨h.2 0, by simpa using h.1, fun k => h.2 (k + 1)⟩
theorem RL.induct {P : List Fr → List A.Fr → Prop} (h0 : P [] []) (hs : ∀ x y l l', Rl x y → RL l l' → P l l' → P (x :: l) (y :: l')) : ∀ {l : List Fr} {l' : List A.Fr}, RL l l' → P l l'
  | [], [], _ => h0
  | [], _ :: _, h => absurd h.1 (by simp)
  | _ :: _, [], h => absurd h.1 (by simp)
  | x :: l, y :: l', h => hs x y l l' h.uncons.1 h.uncons.2 (RL.induct h0 hs h.uncons.2)
theorem RL.map {f : Fr → Fr} {f' : A.Fr → A.Fr} (hf : ∀ x y, Rl x y → Rl (f x) (f' y)) {l : List Fr} {l' : List A.Fr} (h : RL l l') : RL (l.map f) (l'.map f') :=
  RL.induct (P := fun l l' => RL (l.map f) (l'.map f')) RL.nil (fun x y l l' h1 _ ih => RL.cons (hf x y h1) ih) h
theorem RL.zip {f : Fr → Fr → Fr} {f' : A.Fr → A.Fr → A.Fr} (hf : ∀ x y u v, Rl x y → Rl u v → Rl (f x u) (f' y v)) {l : List Fr} {l' : List A.Fr} (h : RL l l') : ∀ {m : List Fr} {m' : List A.Fr}, RL m m' → RL (List.zipWith f l m) (List.zipWith f' l' m') := by
  refine RL.induct (P := fun l l' => ∀ {m : List Fr} {m' : List A.Fr}, RL m m' → RL (List.zipWith f l m) (List.zipWith f' l' m')) (fun _ => by simpa using RL.nil) (fun x y l l' h1 _ ih m m' hm => ?_) h
  cases m with
  | nil =>
    cases m' with
    | nil => exact RL.nil
    | cons _ _ => exact absurd hm.1 (by simp)
  | cons u m =>
    cases m' with
    | nil => exact absurd hm.1 (by simp)
    | cons v m' => exact RL.cons (hf x y u v h1 hm.uncons.1) (ih hm.uncons.2)
theorem RL.range {g : Nat → Fr} {g' : Nat → A.Fr} (hg : ∀ i, Rl (g i) (g' i)) (l : List Nat) : RL (l.map g) (l.map g') := by
  induction l with
  | nil => exact RL.nil
  | cons x l ih => exact RL.cons (hg x) ih
theorem RL.append {l m : List Fr} {l' m' : List A.Fr} (h : RL l l') (hm : RL m m') : RL (l ++ m) (l' ++ m') :=
  RL.induct (P := fun l l' => RL (l ++ m) (l' ++ m')) hm (fun x y l l' h1 _ ih => RL.cons h1 ih) h
theorem RL.flatMap {g : Nat → List Fr} {g' : Nat → List A.Fr} (hg : ∀ i, RL (g i) (g' i)) (l : List Nat) : RL (l.flatMap g) (l.flatMap g') := by
  induction l with
  | nil => exact RL.nil
  | cons x l ih =>
    rw [List.flatMap_cons, List.flatMap_cons]
    exact RL.append (hg x) ih
theorem RL.take {l : List Fr} {l' : List A.Fr} (h : RL l l') : ∀ n, RL (l.take n) (l'.take n) := by
  refine RL.induct (P := fun l l' => ∀ n, RL (l.take n) (l'.take n)) (fun n => by simpa using RL.nil) (fun x y l l' h1 _ ih n => ?_) h
  cases n with
  | zero => exact RL.nil
  | succ n => exact RL.cons h1 (ih n)
theorem RL.drop {l : List Fr} {l' : List A.Fr} (h : RL l l') : ∀ n, RL (l.drop n) (l'.drop n) := by
  refine RL.induct (P := fun l l' => ∀ n, RL (l.drop n) (l'.drop n)) (fun n => by simpa using RL.nil) (fun x y l l' h1 h2 ih n => ?_) h
  cases n with
  | zero => exact RL.cons h1 h2
  | succ n => exact ih n
section
variable {n : Nat} {x p h : List Fr} {x' p' h' : List A.Fr} {r z : Fr} {r' z' : A.Fr}
end
end Go.Proofs.YtambpjbpdackfaaGreat.A.E



set_option linter.unusedVariables false
set_option linter.unusedSimpArgs false
set_option maxRecDepth 100000
namespace Go.Proofs.YtambpjbpdackfaaGreat.A.E
open Go Go.RowKit Go.Shelf

/-! ### Is a fraction enclosed? -/
/-! ### Products of whole numbers -/
theorem sumF_whole (f : Nat → Int) (s : Nat → Int) (h0 : s 0 = 0) (hs : ∀ j, s (j + 1) = s j + f j) (N : Nat) (hf : ∀ j, j < N → few (f j)) (hb : ∀ j, j ≤ N → few (s j)) : ∀ n, n ≤ N → sumF ((List.range n).map fun j => whole (f j)) = whole (s n)
  | 0, _ => by
    have := newF_whole (n := 0) (by unfold few; omega)
    simp [sumF, this, h0]
  | n + 1, hn => by
    have ih := sumF_whole f s h0 hs N hf hb n (by omega)
    have : sumF ((List.range (n + 1)).map fun j => whole (f j)) = addF (sumF ((List.range n).map fun j => whole (f j))) (whole (f n)) := by
      unfold sumF
      rw [List.range_succ, List.map_append, List.foldl_append]
      rfl
    rw [this, ih, addF_whole (hb n (by omega)) (hf n (by omega)) (by rw [← hs]; exact hb _ hn), ← hs]
theorem few_small {x : Int} (h : -100 ≤ x ∧ x ≤ 100) : few x := by unfold few; omega
end Go.Proofs.YtambpjbpdackfaaGreat.A.E



set_option linter.unusedVariables false
set_option linter.unusedSimpArgs false
set_option maxRecDepth 100000
namespace Go.Proofs.YtambpjbpdackfaaGreat.A.E
open Go Go.RowKit Go.Shelf

/-! ### What is not Bad is fine -/
/-! ### Enclosed numbers that enclose -/
end Go.Proofs.YtambpjbpdackfaaGreat.A.E


set_option linter.unusedVariables false
set_option linter.unusedSimpArgs false
set_option maxRecDepth 100000
namespace Go.Proofs.YtambpjbpdackfaaGreat.A
open Go Go.RowKit Go.Shelf

/-! ### One column folded, in numbers -/
section
variable {m : Nat} {A : Nat → Nat → Rat} {k : Nat} {p : Rat}
end
theorem abs_mul {a b x y : Rat} (h1 : -a ≤ x ∧ x ≤ a) (h2 : -b ≤ y ∧ y ≤ b) : -(a * b) ≤ x * y ∧ x * y ≤ a * b := by
  have k1 : 0 ≤ (a - x) * (b + y) := Rat.mul_nonneg (by grind) (by grind)
  have k2 : 0 ≤ (a + x) * (b - y) := Rat.mul_nonneg (by grind) (by grind)
  have k3 : 0 ≤ (a - x) * (b - y) := Rat.mul_nonneg (by grind) (by grind)
  have k4 : 0 ≤ (a + x) * (b + y) := Rat.mul_nonneg (by grind) (by grind)
  constructor <;> grind
end Go.Proofs.YtambpjbpdackfaaGreat.A


set_option linter.unusedVariables false
set_option linter.unusedSimpArgs false
set_option maxRecDepth 100000
namespace Go.Proofs.YtambpjbpdackfaaGreat.A
open Go Go.RowKit Go.Shelf

/-! ### Numbers that tend to one -/
def Tends (s : Nat → Rat) (v : Rat) : Prop := ∀ e : Rat, 0 < e → ∃ N : Nat, ∀ m, N ≤ m → -e < s m - v ∧ s m - v < e
theorem Tends.const (v : Rat) : Tends (fun _ => v) v := fun e he => ⟨0, fun m _ => by grind⟩
theorem Tends.add {s t : Nat → Rat} {v w : Rat} (h : Tends s v) (k : Tends t w) : Tends (fun m => s m + t m) (v + w) := fun e he => by
  obtain ⟨N, hN⟩ := h (e / 2) (by grind)
  obtain ⟨M, hM⟩ := k (e / 2) (by grind)
  refine ⟨max N M, fun m hm => ?_⟩
  have h1 := hN m (by omega)
  have h2 := hM m (by omega)
  grind
theorem Tends.neg {s : Nat → Rat} {v : Rat} (h : Tends s v) : Tends (fun m => - s m) (-v) := fun e he => by
  obtain ⟨N, hN⟩ := h e he
  exact ⟨N, fun m hm => by have := hN m hm; grind⟩
theorem Tends.sub {s t : Nat → Rat} {v w : Rat} (h : Tends s v) (k : Tends t w) : Tends (fun m => s m - t m) (v - w) := by
  have := h.add k.neg
  have e : (fun m => s m + - t m) = fun m => s m - t m := by funext m; grind
  rw [e] at this
  have e2 : v + -w = v - w := by grind
  rwa [e2] at this
/-- Bounded, and behind some number. -/
def BndS (s : Nat → Rat) : Prop := ∃ B : Rat, 0 < B ∧ ∃ N : Nat, ∀ m, N ≤ m → -B ≤ s m ∧ s m ≤ B
theorem rat_abs (v : Rat) : ∃ B : Rat, 0 < B ∧ -B ≤ v ∧ v ≤ B := by
  by_cases h : 0 ≤ v
  · exact ⟨v + 1, by grind, by grind, by grind⟩
  · exact ⟨-v + 1, by grind, by grind, by grind⟩
theorem Tends.bnd {s : Nat → Rat} {v : Rat} (h : Tends s v) : BndS s := by
  obtain ⟨B, hB, h1, h2⟩ := rat_abs v
  obtain ⟨N, hN⟩ := h 1 (by decide)
  exact ⟨B + 1, by grind, N, fun m hm => by have := hN m hm; grind⟩
theorem mul_small {x y e B : Rat} (hB : 0 < B) (hx : -B ≤ x ∧ x ≤ B) (hy : -(e / B) < y ∧ y < e / B) (he : 0 < e) : -e ≤ x * y ∧ x * y ≤ e := by
  have h1 := abs_mul hx (b := e / B) ⟨Rat.le_of_lt hy.1, Rat.le_of_lt hy.2⟩
  have e1 : B * (e / B) = e := by grind
  rwa [e1] at h1
theorem div_pos' {e B : Rat} (he : 0 < e) (hB : 0 < B) : 0 < e / B := by
  rw [Rat.div_def]
  exact Rat.mul_pos he (Rat.inv_pos.2 hB)
theorem Tends.null_mul {s t : Nat → Rat} (h : BndS s) (k : Tends t 0) : Tends (fun m => s m * t m) 0 := fun e he => by
  obtain ⟨B, hB, N, hN⟩ := h
  obtain ⟨M, hM⟩ := k (e / 2 / B) (div_pos' (by grind) hB)
  refine ⟨max N M, fun m hm => ?_⟩
  have h1 := hN m (by omega)
  have h2 := hM m (by omega)
  have h3 := mul_small (x := s m) (y := t m) hB h1 (by grind) (by grind : 0 < e / 2)
  grind
theorem Tends.zero_iff {s : Nat → Rat} {v : Rat} : Tends s v ↔ Tends (fun m => s m - v) 0 := by
  unfold Tends
  constructor
  · intro h e he
    obtain ⟨N, hN⟩ := h e he
    exact ⟨N, fun m hm => by have := hN m hm; grind⟩
  · intro h e he
    obtain ⟨N, hN⟩ := h e he
    exact ⟨N, fun m hm => by have := hN m hm; grind⟩
theorem Tends.mul {s t : Nat → Rat} {v w : Rat} (h : Tends s v) (k : Tends t w) : Tends (fun m => s m * t m) (v * w) := by
  rw [Tends.zero_iff]
  have h1 := Tends.null_mul h.bnd (Tends.zero_iff.1 k)
  have h2 := Tends.null_mul (Tends.const w).bnd (Tends.zero_iff.1 h)
  have h3 := h1.add h2
  have e : (fun m => s m * (t m - w) + w * (s m - v)) = fun m => s m * t m - v * w := by funext m; grind
  rw [e] at h3
  have e2 : (0 : Rat) + 0 = 0 := by grind
  rwa [e2] at h3
theorem Tends.inv {s : Nat → Rat} {v : Rat} (h : Tends s v) (hv : v ≠ 0) : Tends (fun m => (s m)⁻¹) v⁻¹ := by
  -- away from 0
  have hb : ∃ c : Rat, 0 < c ∧ ∃ N : Nat, ∀ m, N ≤ m → s m ≠ 0 ∧ -c ≤ (s m)⁻¹ ∧ (s m)⁻¹ ≤ c := by
    by_cases hp : 0 < v
    · obtain ⟨N, hN⟩ := h (v / 2) (by grind)
      refine ⟨(v / 2)⁻¹, Rat.inv_pos.2 (by grind), N, fun m hm => ?_⟩
      have h1 := hN m hm
      have h2 : 0 < s m := by grind
      have h3 : 0 < (s m)⁻¹ := Rat.inv_pos.2 h2
      have h4 : 0 < (v / 2)⁻¹ := Rat.inv_pos.2 (by grind)
      refine ⟨by grind, by grind, ?_⟩
      have h5 : 0 ≤ (s m - v / 2) * ((s m)⁻¹ * (v / 2)⁻¹) := Rat.mul_nonneg (by grind) (Rat.le_of_lt (Rat.mul_pos h3 h4))
      have e1 : (s m - v / 2) * ((s m)⁻¹ * (v / 2)⁻¹) = (v / 2)⁻¹ - (s m)⁻¹ := by
        have a1 : s m * (s m)⁻¹ = 1 := Rat.mul_inv_cancel _ (by grind)
        have a2 : (v / 2) * (v / 2)⁻¹ = 1 := Rat.mul_inv_cancel _ (by grind)
        generalize (s m)⁻¹ = a at *
        generalize (v / 2)⁻¹ = b at *
        grind
      grind
    · have hn : v < 0 := by grind
      obtain ⟨N, hN⟩ := h (-v / 2) (by grind)
      refine ⟨(-v / 2)⁻¹, Rat.inv_pos.2 (by grind), N, fun m hm => ?_⟩
      have h1 := hN m hm
      have h2 : 0 < - s m := by grind
      have h3 : 0 < (- s m)⁻¹ := Rat.inv_pos.2 h2
      have h4 : 0 < (-v / 2)⁻¹ := Rat.inv_pos.2 (by grind)
      have h6 : (s m)⁻¹ = -(- s m)⁻¹ := by
        have a1 : s m * (s m)⁻¹ = 1 := Rat.mul_inv_cancel _ (by grind)
        have a2 : (- s m) * (- s m)⁻¹ = 1 := Rat.mul_inv_cancel _ (by grind)
        generalize (s m)⁻¹ = a at *
        generalize (- s m)⁻¹ = b at *
        have : s m * a = s m * (-b) := by grind
        have h0 : s m ≠ 0 := by grind
        grind
      have h5 : 0 ≤ (- s m - -v / 2) * ((- s m)⁻¹ * (-v / 2)⁻¹) := Rat.mul_nonneg (by grind) (Rat.le_of_lt (Rat.mul_pos h3 h4))
      have e1 : (- s m - -v / 2) * ((- s m)⁻¹ * (-v / 2)⁻¹) = (-v / 2)⁻¹ - (- s m)⁻¹ := by
        have a1 : - s m * (- s m)⁻¹ = 1 := Rat.mul_inv_cancel _ (by grind)
        have a2 : (-v / 2) * (-v / 2)⁻¹ = 1 := Rat.mul_inv_cancel _ (by grind)
        generalize (- s m)⁻¹ = a at *
        generalize (-v / 2)⁻¹ = b at *
        grind
      refine ⟨by grind, by grind, by grind⟩
  obtain ⟨c, hc, N, hN⟩ := hb
  rw [Tends.zero_iff]
  have h2 : Tends (fun m => (s m)⁻¹ * (v⁻¹ * (v - s m))) 0 := by
    refine Tends.null_mul ⟨c, hc, N, fun m hm => (hN m hm).2⟩ ?_
    refine Tends.null_mul (Tends.const v⁻¹).bnd ?_
    have := (Tends.const v).sub h
    have e2 : v - v = 0 := by grind
    rwa [e2] at this
  intro e he
  obtain ⟨M, hM⟩ := h2 e he
  refine ⟨max N M, fun m hm => ?_⟩
  have h3 : -e < (s m)⁻¹ * (v⁻¹ * (v - s m)) - 0 ∧ (s m)⁻¹ * (v⁻¹ * (v - s m)) - 0 < e := hM m (by omega)
  have h4 := (hN m (by omega)).1
  have e1 : (s m)⁻¹ * (v⁻¹ * (v - s m)) = (s m)⁻¹ - v⁻¹ := by
    have a1 : s m * (s m)⁻¹ = 1 := Rat.mul_inv_cancel _ h4
    have a2 : v * v⁻¹ = 1 := Rat.mul_inv_cancel _ hv
    generalize (s m)⁻¹ = a at *
    generalize v⁻¹ = b at *
    grind
  rw [e1] at h3
  exact ⟨by grind, by grind⟩
theorem Tends.sum {s : Nat → Nat → Rat} {v : Nat → Rat} (h : ∀ j, Tends (fun m => s m j) (v j)) : ∀ n, Tends (fun m => sumR n (s m)) (sumR n v)
  | 0 => Tends.const 0
  | n + 1 => (Tends.sum h n).add (h n)
/-- What stays below a bound has its limit there. -/
theorem Tends.le {s : Nat → Rat} {v b : Rat} (h : Tends s v) (hb : ∀ m, s m ≤ b) : v ≤ b := by
  by_cases hv : v ≤ b
  · exact hv
  · obtain ⟨N, hN⟩ := h (v - b) (by grind)
    have h1 := hN N (Nat.le_refl _)
    have h2 := hb N
    grind
theorem Tends.congr {s t : Nat → Rat} {v : Rat} (h : Tends s v) (k : ∀ m, s m = t m) : Tends t v := by
  have : s = t := funext k
  rwa [← this]
/-- What is within e / (m + 1) of one tends to it. -/
theorem Tends.near {s t : Nat → Rat} {v c : Rat} (h : Tends t v) (hc : 0 ≤ c) (k : ∀ m : Nat, -(c / ((m : Rat) + 1)) ≤ s m - t m ∧ s m - t m ≤ c / ((m : Rat) + 1)) : Tends s v := by
  have h0 : Tends (fun m => s m - t m) 0 := fun e he => by
    obtain ⟨N, hN⟩ : ∃ N : Nat, c / e < (N : Rat) := by
      refine ⟨((c / e).floor + 1).toNat, ?_⟩
      have h1 : c / e < ((c / e).floor + 1 : Int) := Rat.lt_floor_add_one _
      have h2 : ((c / e).floor + 1 : Int) ≤ (((c / e).floor + 1).toNat : Int) := Int.self_le_toNat _
      have h3 := Rat.intCast_le_intCast.2 h2
      rw [Rat.intCast_natCast] at h3
      grind
    refine ⟨N, fun m hm => ?_⟩
    have h1 := k m
    have hm' : (N : Rat) ≤ (m : Rat) := by exact_mod_cast hm
    have h2 : c < e * ((m : Rat) + 1) := by
      have h3 : c = e * (c / e) := by grind
      have h4 : 0 ≤ e * ((m : Rat) - c / e) := Rat.mul_nonneg (Rat.le_of_lt he) (by grind)
      grind
    have hm0 : 0 < (m : Rat) + 1 := by
      have : (0 : Rat) ≤ (N : Rat) := by exact_mod_cast Nat.zero_le N
      grind
    have h5 : c / ((m : Rat) + 1) < e := by
      have h6 : 0 < (e * ((m : Rat) + 1) - c) * ((m : Rat) + 1)⁻¹ := Rat.mul_pos (by grind) (Rat.inv_pos.2 hm0)
      have h7 : ((m : Rat) + 1) * ((m : Rat) + 1)⁻¹ = 1 := Rat.mul_inv_cancel _ (by grind)
      rw [Rat.div_def]
      generalize ((m : Rat) + 1)⁻¹ = a at *
      have h8 : (e * ((m : Rat) + 1) - c) * a = e * (((m : Rat) + 1) * a) - c * a := by grind
      rw [h8, h7] at h6
      grind
    constructor <;> grind
  have := h0.add h
  have e1 : (fun m => s m - t m + t m) = s := by funext m; grind
  have e2 : (0 : Rat) + v = v := by grind
  rwa [e1, e2] at this
/-! ### Roots, as near as is asked -/
end Go.Proofs.YtambpjbpdackfaaGreat.A


set_option linter.unusedVariables false
set_option linter.unusedSimpArgs false
set_option maxRecDepth 100000
namespace Go.Proofs.YtambpjbpdackfaaGreat.A.E
open Go Go.RowKit Go.Shelf

/-! ### Enclosed numbers beside numbers: where it is fine, it encloses -/
def Rq (x : Fr) (v : Rat) : Prop := x.fine = true → Enc x v
theorem Rq.add {a b : Fr} {v w : Rat} (ha : Rq a v) (hb : Rq b w) : Rq (addF a b) (v + w) := fun hx =>
  addF_enc (fun _ => ha (made_fine hx).1) (fun _ => hb (made_fine hx).2) (fine_is.1 hx).1
theorem Rq.sub {a b : Fr} {v w : Rat} (ha : Rq a v) (hb : Rq b w) : Rq (subF a b) (v - w) := fun hx =>
  subF_enc (fun _ => ha (made_fine hx).1) (fun _ => hb (made_fine hx).2) (fine_is.1 hx).1
theorem Rq.mul {a b : Fr} {v w : Rat} (ha : Rq a v) (hb : Rq b w) : Rq (mulF a b) (v * w) := fun hx =>
  mulF_enc (fun _ => ha (made_fine hx).1) (fun _ => hb (made_fine hx).2) (fine_is.1 hx).1
theorem Rq.whole {n : Int} (h : few n) : Rq (newF n 1) (n : Rat) := fun _ => whole_enc h
theorem Rq.zero : Rq (newF 0 1) 0 := by
  have := Rq.whole (n := 0) (by unfold few; omega)
  simpa using this
theorem Enc.ne {b : Fr} {w : Rat} (h : Enc b w) (hb : ¬ (b.lo ≤ 0 ∧ b.hi ≥ 0)) : w ≠ 0 := fun e => by
  subst e
  obtain ⟨_, h1, h2⟩ := h
  have e0 : (0 : Rat) * 16777216 = ((0 : Int) : Rat) := by simp
  rw [e0] at h1 h2
  exact hb ⟨Rat.intCast_le_intCast.1 h1, Rat.intCast_le_intCast.1 h2⟩
theorem rightX_le {n : Int} (h : rightX n = true) : -1125899906842624 ≤ n ∧ n ≤ 1125899906842624 := by
  unfold rightX at h
  exact of_decide_eq_true h
/-- What is enclosed is not great. -/
theorem Enc.bnd {x : Fr} {v : Rat} (h : Enc x v) : -67108864 ≤ v ∧ v ≤ 67108864 := by
  obtain ⟨hf, h1, h2⟩ := h
  obtain ⟨_, k1, k2, _, _⟩ := fine_is.1 hf
  have a1 := Rat.intCast_le_intCast.2 (rightX_le k1).1
  have a2 := Rat.intCast_le_intCast.2 (rightX_le k2).2
  have e1 : ((-1125899906842624 : Int) : Rat) = -1125899906842624 := by decide +kernel
  have e2 : ((1125899906842624 : Int) : Rat) = 1125899906842624 := by decide +kernel
  rw [e1] at a1
  rw [e2] at a2
  grind
theorem sumF_succ (f : Nat → Fr) (n : Nat) : sumF ((List.range (n + 1)).map f) = addF (sumF ((List.range n).map f)) (f n) := by
  unfold sumF
  rw [List.range_succ, List.map_append, List.foldl_append]
  rfl
theorem Rq.sum {f : Nat → Fr} {v : Nat → Rat} : ∀ {n : Nat}, (∀ j, j < n → Rq (f j) (v j)) → Rq (sumF ((List.range n).map f)) (sumR n v)
  | 0, _ => Rq.zero
  | n + 1, h => by
    rw [sumF_succ]
    exact Rq.add (Rq.sum fun j hj => h j (by omega)) (h n (by omega))
theorem dotF_range (f g : Nat → Fr) (n : Nat) : dotF ((List.range n).map f) ((List.range n).map g) = sumF ((List.range n).map fun j => mulF (f j) (g j)) := by
  unfold dotF
  rw [List.zipWith_map, List.zipWith_self]
theorem Rq.dot {f g : Nat → Fr} {v w : Nat → Rat} {n : Nat} (hf : ∀ j, j < n → Rq (f j) (v j)) (hg : ∀ j, j < n → Rq (g j) (w j)) : Rq (dotF ((List.range n).map f) ((List.range n).map g)) (sumR n fun j => v j * w j) := by
  rw [dotF_range]
  exact Rq.sum fun j hj => (hf j hj).mul (hg j hj)
end Go.Proofs.YtambpjbpdackfaaGreat.A.E


set_option linter.unusedVariables false
set_option linter.unusedSimpArgs false
set_option maxRecDepth 100000
namespace Go.Proofs.YtambpjbpdackfaaGreat.A.E
open Go Go.RowKit Go.Shelf

/-! ### Roots of enclosed numbers enclose -/
/-- What a rounded root is: r the root from below, R what is told. -/
theorem rt_spec {x m : Int} (h : (rtX x m).2 = true) : ∃ r R : Nat, (rtX x m).1 = (R : Int) ∧ 0 ≤ x ∧ rightX (R : Int) = true ∧ (r : Int) * r ≤ x * 16777216 ∧ x * 16777216 < ((r : Int) + 1) * ((r : Int) + 1) ∧
    (R = r ∨ (R = r + 1 ∧ (r : Int) * r < x * 16777216)) ∧ (m = 1 → R = r) ∧ (m = 2 → x * 16777216 ≤ (R : Int) * R) := by
  unfold rtX at h ⊢
  obtain ⟨h1, h2, h3⟩ := told_is h
  cases hok : wRootOk x 16777216 m with
  | false => rw [wRoot_no hok] at h1; cases h1
  | true =>
    rw [h2] at *
    rw [wRoot_yes hok] at *
    simp only at *
    have h0 : 0 ≤ x ∧ rightW x = true := by
      unfold wRootOk at hok
      simp only [Bool.and_eq_true, Bool.not_eq_true', Bool.and_eq_false_iff, decide_eq_false_iff_not, decide_eq_true_eq, bne_eq_false_iff_eq, decide_eq_decide] at hok
      refine ⟨?_, hok.1⟩
      obtain ⟨_, _, _, hh⟩ := hok
      rcases hh with (hh | hh) | hh
      · omega
      · omega
      · omega
    have hp : x.natAbs * (16777216 : Int).natAbs ≤ 4611686018427387903 * 4611686018427387903 := Nat.mul_le_mul (abs_right h0.2) (by decide)
    obtain ⟨s1, s2, s3⟩ := rtW_spec hp
    have ep : ((x.natAbs * (16777216 : Int).natAbs : Nat) : Int) = x * 16777216 := by
      have : (16777216 : Int).natAbs = 16777216 := rfl
      rw [this]
      omega
    generalize x.natAbs * (16777216 : Int).natAbs = p at *
    have i1 : ((rtW p : Nat) : Int) * (rtW p : Nat) ≤ x * 16777216 := by rw [← ep, ← Int.natCast_mul]; omega
    have i2 : x * 16777216 < (((rtW p : Nat) : Int) + 1) * (((rtW p : Nat) : Int) + 1) := by
      rw [← ep]
      have : (((rtW p : Nat) : Int) + 1) = ((rtW p + 1 : Nat) : Int) := by simp
      rw [this, ← Int.natCast_mul]
      omega
    refine ⟨rtW p, wRootN p m, rfl, h0.1, h3, i1, i2, ?_, ?_, ?_⟩
    · unfold wRootN
      split
      · rename_i hu
        refine .inr ⟨rfl, ?_⟩
        unfold upW at hu
        rw [Bool.and_eq_true, decide_eq_true_eq] at hu
        rw [← ep, ← Int.natCast_mul]
        have := hu.1
        omega
      · exact .inl rfl
    · rintro rfl
      unfold wRootN upW
      simp
    · rintro rfl
      unfold wRootN upW
      by_cases he : rtW p * rtW p = p
      · simp only [he, ne_eq, not_true_eq_false, decide_false, Bool.false_and, Bool.false_eq_true, if_false]
        rw [← ep, ← Int.natCast_mul]
        omega
      · simp only [he, ne_eq, not_false_eq_true, decide_true, Bool.true_and, Bool.true_or, if_true]
        have : ((rtW p + 1 : Nat) : Int) = ((rtW p : Nat) : Int) + 1 := by simp
        rw [this]
        exact Int.le_of_lt i2
theorem sqr_le {a b : Nat} (h : (a : Int) * a < ((b : Int) + 1) * ((b : Int) + 1)) : a ≤ b := by
  rcases Nat.lt_or_ge b a with h1 | h1
  · exfalso
    have h2 : ((b : Int) + 1) ≤ (a : Int) := by omega
    have h3 := Int.mul_le_mul h2 h2 (by omega) (by omega)
    omega
  · exact h1
theorem rt_lohi {x y : Int} (hx : (rtX x 1).2 = true) (hy : (rtX y 0).2 = true) (h : x ≤ y) : (rtX x 1).1 ≤ (rtX y 0).1 := by
  obtain ⟨r, R, e1, _, _, a1, a2, a3, a4, _⟩ := rt_spec hx
  obtain ⟨s, S, f1, _, _, b1, b2, b3, _, _⟩ := rt_spec hy
  rw [e1, f1, a4 rfl]
  have : r ≤ s := sqr_le (by omega)
  omega
theorem rt_hilo {x y : Int} (hx : (rtX x 0).2 = true) (hy : (rtX y 2).2 = true) (h : x ≤ y) : (rtX x 0).1 ≤ (rtX y 2).1 := by
  obtain ⟨r, R, e1, _, _, a1, a2, a3, _, _⟩ := rt_spec hx
  obtain ⟨s, S, f1, _, _, b1, b2, b3, _, b5⟩ := rt_spec hy
  rw [e1, f1]
  have h1 : r ≤ s := sqr_le (by omega)
  have h2 := b5 rfl
  rcases b3 with rfl | ⟨rfl, _⟩
  · rcases a3 with rfl | ⟨rfl, h3⟩
    · omega
    · have : (r : Int) * r < (S : Int) * S := by omega
      have hne : r ≠ S := fun e => by subst e; omega
      omega
  · rcases a3 with rfl | ⟨rfl, h3⟩ <;> omega
/-- Whatever lies between both roots told is enclosed. -/
theorem root_between {a : Fr} (h : (rootF a).fine = true) {w : Rat} (h1 : ((rtX a.lo 1).1 : Rat) ≤ w * 16777216) (h2 : w * 16777216 ≤ ((rtX a.hi 2).1 : Rat)) : Enc (rootF a) w := by
  have hb := (fine_is.1 h).1
  unfold rootF at hb h ⊢
  obtain ⟨k1, k2, k3, k4, k5⟩ := made_is hb
  obtain ⟨_, _, _, q1, q2⟩ := fine_is.1 k1
  have p1 := k4 (a.lo, a.lo) (by simp)
  have p2 := k4 (a.hi, a.hi) (by simp)
  refine made_enc hb (fun x y m hh => (by obtain ⟨r, R, e1, _, e3, _⟩ := rt_spec hh; rw [e1]; exact e3)) ⟨(a.lo, a.lo), by simp, h1⟩ ⟨(a.hi, a.hi), by simp, h2⟩
    ⟨(a.lo, a.lo), by simp, rt_lohi p1.1 k3 q1⟩ ⟨(a.hi, a.hi), by simp, rt_hilo k3 p2.2 q2⟩
theorem root_ends {a : Fr} {v : Rat} (h : (rootF a).fine = true) (ha : Enc a v) : ∃ L H : Nat, (rtX a.lo 1).1 = (L : Int) ∧ (rtX a.hi 2).1 = (H : Int) ∧ L ≤ H ∧ (L : Rat) * L ≤ v * 16777216 * 16777216 ∧ v * 16777216 * 16777216 ≤ (H : Rat) * H := by
  have hb := (fine_is.1 h).1
  unfold rootF at hb
  obtain ⟨k1, k2, k3, k4, k5⟩ := made_is hb
  obtain ⟨_, _, _, q1, q2⟩ := fine_is.1 k1
  have p1 := k4 (a.lo, a.lo) (by simp)
  have p2 := k4 (a.hi, a.hi) (by simp)
  have g1 := rt_lohi p1.1 k3 q1
  have g2 := rt_hilo k3 p2.2 q2
  obtain ⟨r, R, e1, _, _, a1, a2, a3, a4, _⟩ := rt_spec p1.1
  obtain ⟨s, S, f1, _, _, b1, b2, b3, _, b5⟩ := rt_spec p2.2
  obtain ⟨_, h1, h2⟩ := ha
  have c1 : ((r : Int) * r : Int) ≤ a.lo * 16777216 := a1
  have c2 := b5 rfl
  have c1' := Rat.intCast_le_intCast.2 c1
  have c2' := Rat.intCast_le_intCast.2 c2
  simp only [Rat.intCast_mul, Rat.intCast_natCast, Rat.intCast_ofNat] at c1' c2'
  refine ⟨R, S, e1, f1, by simp only at g1 g2 e1 f1; omega, ?_, ?_⟩
  · rw [a4 rfl]
    have : (a.lo : Rat) * 16777216 ≤ v * 16777216 * 16777216 := by
      have := Rat.mul_le_mul_of_nonneg_right h1 (show (0 : Rat) ≤ 16777216 by decide)
      exact this
    grind
  · have : v * 16777216 * 16777216 ≤ (a.hi : Rat) * 16777216 := Rat.mul_le_mul_of_nonneg_right h2 (show (0 : Rat) ≤ 16777216 by decide)
    grind
theorem nn_nat (n : Nat) : (0 : Rat) ≤ (n : Rat) := by exact_mod_cast Nat.zero_le n
theorem le_of_sq {a b : Rat} (ha : 0 ≤ a) (hb : 0 ≤ b) (h : a * a ≤ b * b) : a ≤ b := by
  by_cases h1 : a ≤ b
  · exact h1
  · have h2 : 0 < (a - b) * (a + b) := Rat.mul_pos (by grind) (by grind)
    grind
/-- The root of what is enclosed is enclosed. -/
theorem Rq.root {a : Fr} {v r : Rat} (ha : Rq a v) (hr : 0 ≤ r) (h : r * r = v) : Rq (rootF a) r := fun hf => by
  have hfa : a.fine = true := by
    have hb := (fine_is.1 hf).1
    unfold rootF at hb
    exact (made_is hb).1
  obtain ⟨L, H, e1, e2, _, h1, h2⟩ := root_ends hf (ha hfa)
  have hw : 0 ≤ r * 16777216 := Rat.mul_nonneg hr (by decide)
  have e : v * 16777216 * 16777216 = (r * 16777216) * (r * 16777216) := by rw [← h]; grind
  rw [e] at h1 h2
  refine root_between hf ?_ ?_
  · rw [e1, Rat.intCast_natCast]
    exact le_of_sq (nn_nat L) hw h1
  · rw [e2, Rat.intCast_natCast]
    exact le_of_sq hw (nn_nat H) h2
theorem Rq.neg {a : Fr} {v : Rat} (ha : Rq a v) : Rq (negF a) (-v) := by
  have h0 : Rq (point 0) 0 := fun _ => by
    have e : point 0 = newF 0 1 := by decide +kernel
    rw [e]
    exact Rq.zero (by decide +kernel)
  have := h0.sub ha
  have e : (0 : Rat) - v = -v := by grind
  rw [e] at this
  exact this
end Go.Proofs.YtambpjbpdackfaaGreat.A.E


set_option linter.unusedVariables false
set_option linter.unusedSimpArgs false
set_option maxRecDepth 100000
namespace Go.Proofs.YtambpjbpdackfaaGreat.A
open Go Go.RowKit Go.Shelf

/-! ### The document's answers, of whole numbers -/
/-! ### What the document fixes of a root -/
end Go.Proofs.YtambpjbpdackfaaGreat.A


set_option linter.unusedVariables false
set_option linter.unusedSimpArgs false
set_option maxRecDepth 100000
namespace Go.Proofs.YtambpjbpdackfaaGreat.A
open Go Go.RowKit Go.Shelf

/-! ### Plain laws of clearing -/
/-! ### The function TriClears -/
end Go.Proofs.YtambpjbpdackfaaGreat.A


set_option linter.unusedVariables false
set_option linter.unusedSimpArgs false
set_option maxRecDepth 100000
namespace Go.Proofs.YtambpjbpdackfaaGreat.A
open Go Go.RowKit Go.Shelf

/-! ### Plain laws of squares -/
end Go.Proofs.YtambpjbpdackfaaGreat.A


set_option linter.unusedVariables false
set_option linter.unusedSimpArgs false
set_option maxRecDepth 100000
namespace Go.Proofs.YtambpjbpdackfaaGreat.A
open Go Go.RowKit Go.Shelf

/-! ### What a root is, entry by entry -/
theorem take_rowM (n : Nat) (M : Nat → Nat → Fr) (i k : Nat) (hk : k ≤ n) : (rowM n M i).take k = (List.range k).map (M i) := by
  rw [rowM, ← List.map_take, List.take_range, Nat.min_eq_left hk]
theorem leftM_congr {n : Nat} {p : List Fr} {M N : Nat → Nat → Fr} {i k : Nat} (hk : k ≤ n) (h : ∀ j, j < k → M i j = N i j ∧ M k j = N k j) : leftM n p M i k = leftM n p N i k := by
  unfold leftM
  rw [take_rowM n M i k hk, take_rowM n M k k hk, take_rowM n N i k hk, take_rowM n N k k hk]
  congr 2
  · exact List.map_congr_left fun j hj => (h j (List.mem_range.1 hj)).1
  · exact List.map_congr_left fun j hj => (h j (List.mem_range.1 hj)).2
theorem colS_other (n : Nat) (p : List Fr) (k : Nat) (M : Nat → Nat → Fr) : ∀ (j a b : Nat), b ≠ k ∨ a < k → colS n p k M j a b = M a b
  | 0, a, b, h => by
    simp only [colS, stepD, setM]
    rw [if_neg (by omega)]
  | j + 1, a, b, h => by
    simp only [colS, setM]
    rw [if_neg (by omega)]
    exact colS_other n p k M j a b h
theorem colS_diag (n : Nat) (p : List Fr) (k : Nat) (M : Nat → Nat → Fr) : ∀ j, colS n p k M j k k = rootF (leftM n p M k k)
  | 0 => by
    simp only [colS, stepD, setM]
    rw [if_pos (by simp)]
  | j + 1 => by
    simp only [colS, setM]
    rw [if_neg (by rintro ⟨h, _⟩; omega)]
    exact colS_diag n p k M j
theorem colS_low (n : Nat) (p : List Fr) (k : Nat) (M : Nat → Nat → Fr) (hk : k ≤ n) : ∀ (j t : Nat), t < j → colS n p k M j (k + 1 + t) k = divF (leftM n p M (k + 1 + t) k) (rootF (leftM n p M k k))
  | 0, t, h => by omega
  | j + 1, t, h => by
    simp only [colS, setM]
    by_cases e : t = j
    · subst e
      rw [if_pos (by simp), colS_diag]
      congr 1
      exact leftM_congr hk fun q hq => ⟨colS_other n p k M t _ _ (.inl (by omega)), colS_other n p k M t _ _ (.inl (by omega))⟩
    · rw [if_neg (by omega)]
      exact colS_low n p k M hk j t (by omega)
theorem rootS_out (n : Nat) (p : List Fr) : ∀ (k a b : Nat), k ≤ b → rootS n p k a b = newF 0 1
  | 0, a, b, h => rfl
  | k + 1, a, b, h => by
    rw [rootS, colS_other n p k _ _ _ _ (.inl (by omega))]
    exact rootS_out n p k a b (by omega)
theorem rootS_keep (n : Nat) (p : List Fr) : ∀ (k a b : Nat), b < k → rootS n p k a b = rootS n p (b + 1) a b
  | 0, a, b, h => by omega
  | k + 1, a, b, h => by
    by_cases e : b = k
    · rw [e]
    · rw [rootS, colS_other n p k _ _ _ _ (.inl (by omega))]
      exact rootS_keep n p k a b (by omega)
theorem rootS_left {n : Nat} {p : List Fr} {i k : Nat} (hk : k ≤ n) : leftM n p (rootS n p k) i k = leftM n p (rootS n p n) i k :=
  leftM_congr hk fun j hj => ⟨(rootS_keep n p k i j hj).trans (rootS_keep n p n i j (by omega)).symm, (rootS_keep n p k k j hj).trans (rootS_keep n p n k j (by omega)).symm⟩
theorem root_up {n : Nat} {p : List Fr} {i k : Nat} (h : i < k) (hk : k < n) : rootS n p n i k = newF 0 1 := by
  rw [rootS_keep n p n i k hk, rootS, colS_other n p k _ _ _ _ (.inr h)]
  exact rootS_out n p k i k (Nat.le_refl _)
theorem root_diag {n : Nat} {p : List Fr} {k : Nat} (hk : k < n) : rootS n p n k k = rootF (leftM n p (rootS n p n) k k) := by
  rw [rootS_keep n p n k k hk, rootS, colS_diag, rootS_left (by omega)]
theorem root_low {n : Nat} {p : List Fr} {i k : Nat} (h : k < i) (hi : i < n) : rootS n p n i k = divF (leftM n p (rootS n p n) i k) (rootS n p n k k) := by
  rw [rootS_keep n p n i k (by omega), rootS]
  have := colS_low n p k (rootS n p k) (by omega) (n - (k + 1)) (i - (k + 1)) (by omega)
  rw [show k + 1 + (i - (k + 1)) = i by omega] at this
  rw [this, rootS_left (by omega), rootS_left (by omega), ← root_diag (by omega)]

end Go.Proofs.YtambpjbpdackfaaGreat.A


set_option linter.unusedVariables false
set_option linter.unusedSimpArgs false
set_option maxRecDepth 100000
namespace Go.Proofs.YtambpjbpdackfaaGreat.A.E
open Go Go.RowKit Go.Shelf

theorem take_rowM (n : Nat) (M : Nat → Nat → Fr) (i k : Nat) (hk : k ≤ n) : (rowM n M i).take k = (List.range k).map (M i) := by
  rw [rowM, ← List.map_take, List.take_range, Nat.min_eq_left hk]
theorem leftM_congr {n : Nat} {p : List Fr} {M N : Nat → Nat → Fr} {i k : Nat} (hk : k ≤ n) (h : ∀ j, j < k → M i j = N i j ∧ M k j = N k j) : leftM n p M i k = leftM n p N i k := by
  unfold leftM
  rw [take_rowM n M i k hk, take_rowM n M k k hk, take_rowM n N i k hk, take_rowM n N k k hk]
  congr 2
  · exact List.map_congr_left fun j hj => (h j (List.mem_range.1 hj)).1
  · exact List.map_congr_left fun j hj => (h j (List.mem_range.1 hj)).2
theorem colS_other (n : Nat) (p : List Fr) (k : Nat) (M : Nat → Nat → Fr) : ∀ (j a b : Nat), b ≠ k ∨ a < k → colS n p k M j a b = M a b
  | 0, a, b, h => by
    simp only [colS, stepD, setM]
    rw [if_neg (by omega)]
  | j + 1, a, b, h => by
    simp only [colS, setM]
    rw [if_neg (by omega)]
    exact colS_other n p k M j a b h
theorem colS_diag (n : Nat) (p : List Fr) (k : Nat) (M : Nat → Nat → Fr) : ∀ j, colS n p k M j k k = rootF (leftM n p M k k)
  | 0 => by
    simp only [colS, stepD, setM]
    rw [if_pos (by simp)]
  | j + 1 => by
    simp only [colS, setM]
    rw [if_neg (by rintro ⟨h, _⟩; omega)]
    exact colS_diag n p k M j
theorem colS_low (n : Nat) (p : List Fr) (k : Nat) (M : Nat → Nat → Fr) (hk : k ≤ n) : ∀ (j t : Nat), t < j → colS n p k M j (k + 1 + t) k = divF (leftM n p M (k + 1 + t) k) (rootF (leftM n p M k k))
  | 0, t, h => by omega
  | j + 1, t, h => by
    simp only [colS, setM]
    by_cases e : t = j
    · subst e
      rw [if_pos (by simp), colS_diag]
      congr 1
      exact leftM_congr hk fun q hq => ⟨colS_other n p k M t _ _ (.inl (by omega)), colS_other n p k M t _ _ (.inl (by omega))⟩
    · rw [if_neg (by omega)]
      exact colS_low n p k M hk j t (by omega)
theorem rootS_out (n : Nat) (p : List Fr) : ∀ (k a b : Nat), k ≤ b → rootS n p k a b = newF 0 1
  | 0, a, b, h => rfl
  | k + 1, a, b, h => by
    rw [rootS, colS_other n p k _ _ _ _ (.inl (by omega))]
    exact rootS_out n p k a b (by omega)
theorem rootS_keep (n : Nat) (p : List Fr) : ∀ (k a b : Nat), b < k → rootS n p k a b = rootS n p (b + 1) a b
  | 0, a, b, h => by omega
  | k + 1, a, b, h => by
    by_cases e : b = k
    · rw [e]
    · rw [rootS, colS_other n p k _ _ _ _ (.inl (by omega))]
      exact rootS_keep n p k a b (by omega)
theorem rootS_left {n : Nat} {p : List Fr} {i k : Nat} (hk : k ≤ n) : leftM n p (rootS n p k) i k = leftM n p (rootS n p n) i k :=
  leftM_congr hk fun j hj => ⟨(rootS_keep n p k i j hj).trans (rootS_keep n p n i j (by omega)).symm, (rootS_keep n p k k j hj).trans (rootS_keep n p n k j (by omega)).symm⟩
theorem root_up {n : Nat} {p : List Fr} {i k : Nat} (h : i < k) (hk : k < n) : rootS n p n i k = newF 0 1 := by
  rw [rootS_keep n p n i k hk, rootS, colS_other n p k _ _ _ _ (.inr h)]
  exact rootS_out n p k i k (Nat.le_refl _)
theorem root_diag {n : Nat} {p : List Fr} {k : Nat} (hk : k < n) : rootS n p n k k = rootF (leftM n p (rootS n p n) k k) := by
  rw [rootS_keep n p n k k hk, rootS, colS_diag, rootS_left (by omega)]
theorem root_low {n : Nat} {p : List Fr} {i k : Nat} (h : k < i) (hi : i < n) : rootS n p n i k = divF (leftM n p (rootS n p n) i k) (rootS n p n k k) := by
  rw [rootS_keep n p n i k (by omega), rootS]
  have := colS_low n p k (rootS n p k) (by omega) (n - (k + 1)) (i - (k + 1)) (by omega)
  rw [show k + 1 + (i - (k + 1)) = i by omega] at this
  rw [this, rootS_left (by omega), rootS_left (by omega), ← root_diag (by omega)]

end Go.Proofs.YtambpjbpdackfaaGreat.A.E



set_option linter.unusedVariables false
set_option linter.unusedSimpArgs false
set_option maxRecDepth 100000
namespace Go.Proofs.YtambpjbpdackfaaGreat.A
open Go Go.RowKit Go.Shelf

/-! ### Nothing's triangles -/
/-! ### Plain laws of clearing, of whole numbers -/
/-! ### The function TriTells -/
end Go.Proofs.YtambpjbpdackfaaGreat.A


set_option linter.unusedVariables false
set_option linter.unusedSimpArgs false
set_option maxRecDepth 100000
namespace Go.Proofs.YtambpjbpdackfaaGreat.A
open Go Go.RowKit Go.Shelf

/-! ### Sums of whole numbers -/
def sumZ : Nat → (Nat → Int) → Int
  | 0, _ => 0
  | n + 1, f => sumZ n f + f n
theorem sumZ_tail {f : Nat → Int} {k n : Nat} (hk : k ≤ n) (h : ∀ j, k ≤ j → j < n → f j = 0) : sumZ n f = sumZ k f := by
  induction n with
  | zero => rw [show k = 0 by omega]
  | succ n ih =>
    by_cases e : k = n + 1
    · rw [e]
    · rw [sumZ, ih (by omega) (fun j h1 h2 => h j h1 (by omega)), h n (by omega) (by omega), Int.add_zero]
theorem sumZ_bnd {f : Nat → Int} {B : Int} (hB : 0 ≤ B) (hf : ∀ j, -B ≤ f j ∧ f j ≤ B) : ∀ n : Nat, -((n : Int) * B) ≤ sumZ n f ∧ sumZ n f ≤ (n : Int) * B
  | 0 => by simp [sumZ]
  | n + 1 => by
    have h := sumZ_bnd hB hf n
    have h2 := hf n
    have e : ((n + 1 : Nat) : Int) * B = (n : Int) * B + B := by rw [Int.natCast_add, Int.add_mul]; simp
    rw [sumZ, e]
    omega
/-- The dot of whole numbers. -/
theorem dot_whole {f g : Nat → Int} (hf : ∀ j, -100 ≤ f j ∧ f j ≤ 100) (hg : ∀ j, -100 ≤ g j ∧ g j ≤ 100) {n : Nat} (hn : n ≤ 16) :
    dotF ((List.range n).map fun j => newF (f j) 1) ((List.range n).map fun j => newF (g j) 1) = newF (sumZ n fun j => f j * g j) 1 := by
  have hb : ∀ j, -10000 ≤ f j * g j ∧ f j * g j ≤ 10000 := fun j => prod_small (hf j) (hg j)
  have hs : ∀ j, j ≤ 16 → few (sumZ j fun j => f j * g j) := fun j hj => by
    have := sumZ_bnd (B := 10000) (by omega) hb j
    unfold few
    omega
  unfold dotF
  rw [newF_whole (hs n hn), List.zipWith_map, List.zipWith_self]
  have e : ∀ j, mulF (newF (f j) 1) (newF (g j) 1) = whole (f j * g j) := fun j => by
    have h3 := hb j
    rw [newF_whole (few_small (hf j)), newF_whole (few_small (hg j)), mulF_whole (few_small (hf j)) (few_small (hg j)) (by unfold few; omega)]
  simp only [e]
  exact sumF_whole (fun j => f j * g j) (fun j => sumZ j fun j => f j * g j) rfl (fun j => rfl) n (fun j _ => by have := hb j; unfold few; omega) (fun j hj => hs j (by omega)) n (Nat.le_refl _)

/-! ### Roots of squares of whole triangles -/
theorem rootI_sq {s : Int} (h : 0 ≤ s ∧ s ≤ 100) : rootI (s * s) = s := by
  obtain ⟨S, rfl⟩ : ∃ S : Nat, s = S := ⟨s.toNat, by omega⟩
  have e : ((S : Int) * S).toNat = S * S := by rw [← Int.natCast_mul, Int.toNat_natCast]
  have hs : S < 2 ^ 16 := by omega
  unfold rootI
  rw [e, rtB_sq hs, if_pos rfl]
theorem root_whole {s : Int} (h : 0 ≤ s ∧ s ≤ 100) : rootF (newF (s * s) 1) = newF s 1 := by
  have hb : 0 ≤ s * s ∧ s * s ≤ 10000 := ⟨Int.mul_nonneg h.1 h.1, (prod_small ⟨by omega, h.2⟩ ⟨by omega, h.2⟩).2⟩
  have hf : few (s * s) := by unfold few; omega
  rw [newF_whole hf]
  unfold rootF
  have r1 := rootI_sq h
  have r2 : rootI 1 = 1 := by decide +kernel
  simp only [fine_whole hf]
  show (if true = false ∨ s * s < 0 ∨ rootI (s * s) < 0 ∨ rootI 1 < 0 then Fr.wrong else newF (rootI (s * s)) (rootI 1)) = _
  rw [r1, r2, if_neg (by rintro (h1 | h1 | h1 | h1) <;> first | cases h1 | omega)]
theorem div_whole {a b : Int} (ha : -100 ≤ a ∧ a ≤ 100) (hb : 1 ≤ b ∧ b ≤ 100) : divF (newF (a * b) 1) (newF b 1) = newF a 1 := by
  have hp := prod_small (x := a) (y := b) ha ⟨by omega, hb.2⟩
  have f1 : few (a * b) := by unfold few; omega
  have f2 : few b := by unfold few; omega
  have f3 : few a := by unfold few; omega
  rw [newF_whole f1, newF_whole f2]
  unfold divF
  rw [fine_whole f1, fine_whole f2, if_neg (by simp)]
  simp only [whole]
  rw [Int.mul_one, Int.one_mul]
  have h1 : newF (a * b) b = newF a 1 := by
    have hb0 : b ≠ 0 := by omega
    have i1 : Is (newF (a * b) b) (a : Rat) := by
      have hg : Int.gcd (a * b) b = b.natAbs := by
        show Nat.gcd (a * b).natAbs b.natAbs = _
        rw [Int.natAbs_mul]
        exact Nat.gcd_eq_right (Nat.dvd_mul_left _ _)
      have hq : (newF (a * b) b).bad = false := by
        unfold newF
        rw [if_neg (by omega)]
        simp only [show ¬ b < 0 by omega, if_false, hg]
        have e1 : ((b.natAbs : Nat) : Int) = b := by omega
        rw [e1, Int.mul_tdiv_cancel _ hb0, Int.tdiv_self hb0, if_neg (by omega)]
      obtain ⟨g1, g2, g3⟩ := newF_fine hq
      refine ⟨g1, g2.trans ?_⟩
      have := cast_ne hb0
      rw [Rat.intCast_mul]
      grind
    exact i1.inj (whole_is f3)
  exact h1
section
variable {n : Nat} {L : Nat → Nat → Int}
/-- A lower triangle of small whole numbers, its diagonal above 0. -/
structure LowTri (n : Nat) (L : Nat → Nat → Int) : Prop where
  small : ∀ i k, -100 ≤ L i k ∧ L i k ≤ 100
  zero : ∀ i k, i < k → k < n → L i k = 0
  diag : ∀ k, k < n → 1 ≤ L k k
theorem LowTri.sum (h : LowTri n L) {i k : Nat} (hk : k < n) (hki : k ≤ i) : sumZ n (fun j => L i j * L k j) = sumZ k (fun j => L i j * L k j) + L i k * L k k := by
  have : sumZ n (fun j => L i j * L k j) = sumZ (k + 1) (fun j => L i j * L k j) := sumZ_tail (by omega) fun j h1 h2 => by rw [h.zero k j (by omega) h2, Int.mul_zero]
  rw [this, sumZ]
theorem LowTri.left (hn : 1 ≤ n ∧ n ≤ 16) (h : LowTri n L) {p : List Fr} (hp : ∀ i k, i < n → k < n → atF n n p i k = newF (sumZ n fun j => L i j * L k j) 1) {S : Nat → Nat → Fr} {i k : Nat} (hk : k < n) (hki : k ≤ i) (hi : i < n)
    (hS : ∀ j, j < k → S i j = newF (L i j) 1 ∧ S k j = newF (L k j) 1) : leftM n p S i k = newF (L i k * L k k) 1 := by
  unfold leftM
  rw [take_rowM n S i k (by omega), take_rowM n S k k (by omega), hp i k hi hk, h.sum hk hki]
  have e1 : (List.range k).map (S i) = (List.range k).map fun j => newF (L i j) 1 := List.map_congr_left fun j hj => (hS j (List.mem_range.1 hj)).1
  have e2 : (List.range k).map (S k) = (List.range k).map fun j => newF (L k j) 1 := List.map_congr_left fun j hj => (hS j (List.mem_range.1 hj)).2
  rw [e1, e2, dot_whole (h.small i) (h.small k) (by omega)]
  have hb : ∀ j, -10000 ≤ L i j * L k j ∧ L i j * L k j ≤ 10000 := fun j => prod_small (h.small i j) (h.small k j)
  have hs := sumZ_bnd (B := 10000) (by omega) hb k
  have hk' := hb k
  generalize sumZ k (fun j => L i j * L k j) = s at *
  rw [newF_whole (n := s + L i k * L k k) (by unfold few; omega), newF_whole (n := s) (by unfold few; omega), subF_whole (by unfold few; omega) (by unfold few; omega) (by unfold few; omega), newF_whole (by unfold few; omega)]
  congr 1
  omega
theorem LowTri.root (hn : 1 ≤ n ∧ n ≤ 16) (h : LowTri n L) {p : List Fr} (hp : ∀ i k, i < n → k < n → atF n n p i k = newF (sumZ n fun j => L i j * L k j) 1) : ∀ k i, k < n → i < n → rootS n p n i k = newF (L i k) 1 := by
  intro k
  induction k using Nat.strongRecOn with
  | ind k ih =>
    intro i hk hi
    have hdiag : rootS n p n k k = newF (L k k) 1 := by
      rw [root_diag hk, LowTri.left hn h hp hk (Nat.le_refl _) hk (fun j hj => ⟨ih j hj k (by omega) hk, ih j hj k (by omega) hk⟩)]
      exact root_whole ⟨by have := h.diag k hk; omega, (h.small k k).2⟩
    rcases Nat.lt_trichotomy i k with h1 | h1 | h1
    · rw [root_up h1 hk, h.zero i k h1 hk]
    · rw [h1]; exact hdiag
    · rw [root_low h1 hi, hdiag, LowTri.left hn h hp hk (by omega) hi (fun j hj => ⟨ih j hj i (by omega) hi, ih j hj k (by omega) hk⟩)]
      exact div_whole (h.small i k) ⟨h.diag k hk, (h.small k k).2⟩
end
end Go.Proofs.YtambpjbpdackfaaGreat.A


set_option linter.unusedVariables false
set_option linter.unusedSimpArgs false
set_option maxRecDepth 100000
namespace Go.Proofs.YtambpjbpdackfaaGreat.A.E
open Go Go.RowKit Go.Shelf

/-! ### Roots of squares of whole triangles, enclosed -/
section
variable {n : Nat} {L : Nat → Nat → Int}
end
end Go.Proofs.YtambpjbpdackfaaGreat.A.E


set_option linter.unusedVariables false
set_option linter.unusedSimpArgs false
set_option maxRecDepth 100000
namespace Go.Proofs.YtambpjbpdackfaaGreat.A.E
open Go Go.RowKit Go.Shelf

/-! ### Folding enclosed numbers, beside numbers -/
section
variable {n w k : Nat} {M : Nat → Nat → Fr} {A : Nat → Nat → Rat} {p : Rat}
end
end Go.Proofs.YtambpjbpdackfaaGreat.A.E


set_option linter.unusedVariables false
set_option linter.unusedSimpArgs false
set_option maxRecDepth 100000
namespace Go.Proofs.YtambpjbpdackfaaGreat.A
open Go Go.RowKit Go.Shelf

/-! ### What a triangle times it is a row -/
end Go.Proofs.YtambpjbpdackfaaGreat.A


set_option linter.unusedVariables false
set_option linter.unusedSimpArgs false
set_option maxRecDepth 100000
namespace Go.Proofs.YtambpjbpdackfaaGreat.A
open Go Go.RowKit Go.Shelf

/-! ### What is solved, times the cleared triangle, is what was asked -/
end Go.Proofs.YtambpjbpdackfaaGreat.A


set_option linter.unusedVariables false
set_option linter.unusedSimpArgs false
set_option maxRecDepth 100000
namespace Go.Proofs.YtambpjbpdackfaaGreat.A.E
open Go Go.RowKit Go.Shelf

/-! ### The triangle's square encloses the square of what was folded -/
theorem Enc.near {x : Fr} {v : Rat} (h : ∀ e : Rat, 0 < e → ∃ g, Enc x g ∧ -e ≤ g - v ∧ g - v ≤ e) : Enc x v := by
  have hf : x.fine = true := by
    obtain ⟨g, hg, _⟩ := h 1 (by decide)
    exact hg.1
  refine ⟨hf, ?_, ?_⟩
  · by_cases hc : (x.lo : Rat) ≤ v * 16777216
    · exact hc
    · obtain ⟨g, ⟨_, g1, _⟩, g3, g4⟩ := h (((x.lo : Rat) - v * 16777216) / 33554432) (by grind)
      grind
  · by_cases hc : v * 16777216 ≤ (x.hi : Rat)
    · exact hc
    · obtain ⟨g, ⟨_, _, g2⟩, g3, g4⟩ := h ((v * 16777216 - (x.hi : Rat)) / 33554432) (by grind)
      grind
section
variable {n w : Nat} {l : List Fr}
theorem tri_at (hn : 1 ≤ n ∧ n ≤ 16) {i k : Nat} (hi : i < n) (hk : k < n) : (triF n w l).getD (i * n + k) dz = if i < k then newF 0 1 else
    if signF (foldsF w n (startF n w l) n k k) < 0 then negF (foldsF w n (startF n w l) n i k) else foldsF w n (startF n w l) n i k := by
  have lG : (gridP (foldsF w n (startF n w l) n) n n 0).length = n * n := by rw [gridP_length, Nat.add_zero]
  have lS : (signsF n (gridP (foldsF w n (startF n w l) n) n n 0)).length = n * n := by rw [signsF, gridP_length, Nat.add_zero]
  have aG : ∀ i k : Nat, i < n → k < n → atF n n (gridP (foldsF w n (startF n w l) n) n n 0) i k = foldsF w n (startF n w l) n i k := fun i k hi hk => by
    rw [atF_eq (right_sq hn lG) (by simpa using hi) (by simpa using hk), Int.toNat_natCast]
    exact grid_at hi hk
  unfold triF clearF
  rw [grid_at hi hk]
  unfold clearG
  by_cases h : i < k
  · rw [if_pos h, if_pos h]
  · rw [if_neg h, if_neg h, atF_eq (right_sq hn lS) (by simpa using hi) (by simpa using hk), Int.toNat_natCast]
    unfold signsF
    have e : (gridP (signG n (gridP (foldsF w n (startF n w l) n) n n 0)) n n 0).getD (i * n + k) ⟨0, 0, 0, false⟩ = signG n (gridP (foldsF w n (startF n w l) n) n n 0) i k := grid_at hi hk
    rw [e]
    unfold signG
    rw [aG k k hk hk, aG i k hi hk]
    by_cases hs : signF (foldsF w n (startF n w l) n k k) < 0
    · rw [if_pos ⟨by omega, hs⟩, if_pos hs]
    · rw [if_neg (fun h => hs h.2), if_neg hs]
theorem tri_len : (triF n w l).length = n * n := by rw [triF, clearF, gridP_length, Nat.add_zero]
end
end Go.Proofs.YtambpjbpdackfaaGreat.A.E



set_option linter.unusedVariables false
set_option linter.unusedSimpArgs false
set_option maxRecDepth 100000
namespace Go.Proofs.YtambpjbpdackfaaGreat.A.E
open Go Go.RowKit Go.Shelf

/-! ### What the reference folds is what the program folds, on and below the diagonal -/
section
variable {w n t : Nat} {A B : Nat → Nat → Fr}
theorem rowM_congr {i : Nat} (h : ∀ c, c < w → A i c = B i c) : rowM w A i = rowM w B i := by
  unfold rowM
  exact List.map_congr_left fun c hc => h c (by simpa using hc)
theorem normF_congr (htw : t < w) (h : ∀ c, c < w → A t c = B t c) : normF w A t = normF w B t := by
  unfold normF xF
  rw [rowM_congr h, h t htw]
theorem vA_congr (htw : t < w) (h : ∀ c, c < w → A t c = B t c) {c : Nat} (hc : c < w) : vA w A t c = vA w B t c := by
  unfold vA
  rw [normF_congr htw h, h t htw, h c hc]
theorem vF_congr (htw : t < w) (h : ∀ c, c < w → A t c = B t c) : vF w A t = vF w B t := by
  unfold vF
  have : (List.range w).map (vA w A t) = (List.range w).map (vA w B t) := List.map_congr_left fun c hc => vA_congr htw h (by simpa using hc)
  rw [this]
theorem tF_congr (htw : t < w) (h : ∀ c, c < w → A t c = B t c) {i : Nat} (hi : ∀ c, c < w → A i c = B i c) : tF w A t i = tF w B t i := by
  unfold tF
  rw [rowM_congr hi, vF_congr htw h]
end
theorem refs_agree {w n : Nat} (hnw : n ≤ w) (M : Nat → Nat → Fr) : ∀ t, t ≤ n → ∀ i c, i < n → c < w → ¬ (i < t ∧ i < c) → refsF w n M t i c = foldsF w n M t i c
  | 0, _, _, _, _, _, _ => rfl
  | t + 1, ht, i, c, hi, hc, hn => by
    have ih := refs_agree hnw M t (by omega)
    rw [refsF, foldsF]
    generalize refsF w n M t = A at *
    generalize foldsF w n M t = B at *
    have hrow : ∀ i, t ≤ i → i < n → ∀ c, c < w → A i c = B i c := fun i h1 h2 c hc => ih i c h2 hc (fun h => by omega)
    have htw : t < w := by omega
    unfold refF setM foldF
    by_cases e : i = t
    · subst e
      by_cases ec : c = i
      · subst ec
        rw [if_pos ⟨rfl, rfl⟩, if_pos rfl, if_neg (by omega), if_pos rfl, normF_congr htw (hrow c (Nat.le_refl _) hi)]
      · rw [if_neg (fun h => ec h.2), if_pos rfl, if_pos (by omega)]
        unfold foldTo
        rw [if_neg (by omega), hrow i (Nat.le_refl _) hi c hc]
    · rw [if_neg (fun h => e h.1), if_neg e]
      unfold foldTo
      by_cases h : t < i ∧ i < n ∧ t ≤ c
      · rw [if_pos h, if_pos h, hrow i (by omega) hi c hc, vA_congr htw (hrow t (Nat.le_refl _) (by omega)) hc, tF_congr htw (hrow t (Nat.le_refl _) (by omega)) (hrow i (by omega) hi)]
      · rw [if_neg h, if_neg h, ih i c hi hc (fun hh => hn ⟨by omega, hh.2⟩)]
theorem sign_negR (x : Fr) : signF x < 0 ↔ (x.bad = false ∧ x.v < 0) := by
  unfold signF
  cases hb : x.bad
  · by_cases h0 : x.v = 0
    · simp [h0]
    · by_cases h1 : x.v < 0
      · simp [h0, h1]
      · simp [h0, h1]
  · simp
theorem out_tri {n w : Nat} (hn : 1 ≤ n ∧ n ≤ 16) (hnw : n ≤ w) (l : List Fr) : gridP (outG (refsF w n (startF n w l) n)) n n 0 = triF n w l := by
  refine (grid_of (by rw [tri_len]) fun i k hi hk => ?_).symm
  have hb := at_table (i := i) (j := k) (n := n) (m := n) hi hk
  have ht := tri_at (l := l) (w := w) hn hi hk
  rw [List.getD_eq_getElem?_getD] at ht
  have hlt : i * n + k < (triF n w l).length := by rw [tri_len]; omega
  rw [List.getElem?_eq_getElem hlt, Option.getD_some] at ht
  rw [List.getElem?_eq_getElem hlt, ht]
  congr 1
  have hag := refs_agree hnw (startF n w l) n (Nat.le_refl _)
  unfold outG
  by_cases h : i < k
  · rw [if_pos h, if_pos h]
    decide +kernel
  · rw [if_neg h, if_neg h, hag i k hi (by omega) (by omega), hag k k hk (by omega) (by omega)]
    by_cases hs : signF (foldsF w n (startF n w l) n k k) < 0
    · rw [if_pos hs, if_pos ((sign_negR _).1 hs)]
    · rw [if_neg hs, if_neg (fun hh => hs ((sign_negR _).2 hh))]
theorem ok21' (n w : Nat) (hn : 1 ≤ n) (hnw : n ≤ w) (hw : w ≤ 16) (l : List Fr) (hl : l.length = n * w) :
    Ok Tryz.prog 21 [.sl false (frs l), num n, num w] (.sl false (frs (triF n w l))) := by
  have := ok21 n w hn hnw hw l hl
  rwa [out_tri ⟨hn, by omega⟩ hnw] at this
end Go.Proofs.YtambpjbpdackfaaGreat.A.E


set_option linter.unusedVariables false
set_option linter.unusedSimpArgs false
set_option maxRecDepth 100000
namespace Go.Proofs.YtambpjbpdackfaaGreat.A
open Go Go.RowKit Go.Shelf

/-! ### What the document fixes of one row -/
theorem ok18 : Ok Tryz.prog 18 [] (tru true) := by
  refine ok_fn mixed Tryz.func18 (code := ?_) (h := h18) ?_ k18 ?_
  rotate_left
  · exact rfl
  unfold h18 initS
  simp -implicitDefEqProofs only [rkA, rkB, stepA, valA, simprocAttr, Tryz.ntmps18, Tryz.results18]
  have h1 := ok26 1 2 true [3, 4] (by simp)
  rw [if_pos (by decide)] at h1
  refine call_fn rfl rfl rfl (h1) ?_
  have u1 : triF 1 2 ([3, 4].map (newF · 1)) = [5].map (newF · 1) := by decide +kernel
  generalize hR : [3, 4].map (newF · 1) = R at *
  have lR : R.length = 2 := by subst hR; rfl
  simp -implicitDefEqProofs only [rkA, rkB, stepA, valA, simprocAttr]
  have h2 := ok73 1 2 (by omega) (by omega) (by omega) false R lR
  rw [u1] at h2
  refine call_fn rfl rfl rfl (h2) ?_
  simp -implicitDefEqProofs only [rkA, rkB, stepA, valA, simprocAttr]
  refine call_fn rfl rfl rfl (ok74 false 1 1 0 0 ([5].map (newF · 1))) ?_
  simp -implicitDefEqProofs only [rkA, rkB, stepA, valA, simprocAttr]
  refine call_fn rfl rfl rfl (ok31 5 1) ?_
  have e1 : atF 1 1 [newF 5 1] 0 0 = newF 5 1 := by decide +kernel
  simp -implicitDefEqProofs only [e1, eq_fr, rkA, rkB, stepA, valA, simprocAttr]
end Go.Proofs.YtambpjbpdackfaaGreat.A


set_option linter.unusedVariables false
set_option linter.unusedSimpArgs false
set_option maxRecDepth 100000
namespace Go.Proofs.YtambpjbpdackfaaGreat.A.E
open Go Go.RowKit Go.Shelf

end Go.Proofs.YtambpjbpdackfaaGreat.A.E


set_option linter.unusedVariables false
set_option linter.unusedSimpArgs false
set_option maxRecDepth 100000
namespace Go.Proofs.YtambpjbpdackfaaGreat.A.E
open Go Go.RowKit Go.Shelf

/-! ### What is solved: enclosed beside fractions -/
end Go.Proofs.YtambpjbpdackfaaGreat.A.E


/- A slice that comes in, and how long it may be. -/
set_option linter.unusedVariables false
namespace Go.Proofs.YtambpjbpdackfaaGreat.A
open Go Go.RowKit Go.Shelf Go.ChangeShapes Go.WideShapes Go.ChangeAt

theorem C.len {I : Imm} {ex : Bool} {els : List PV} {a : Option Addr} {len cap : Nat} (h : C I (.sl ex els) (.slice a len cap)) : els.length = len := by
  cases h <;> simp_all
section
variable {H : Type} {enc : TypeId × Value → H} {P : Program} {W : World} {base : Nat} {held : Bool}
theorem row_sliceN {t e : TypeId} {c : CSh} {v : Value} {d : DataW H} {ps : List MemPlace} {r : Reach} {b0 : Nat} {ts : List TypeId} {ds : List (DataW H)} (j B : Nat)
    (m : Nat) (ht : P.underlying t = some (.slice e)) (hs : shape P m t = some [c]) (hv : Value.okWide P W r b0 t v)
    (hz : (DataW.weightsEach P ts ds).all (· ≤ reachBytes) = true) (hj : ts[j]? = some t) (hd : ds[j]? = some d) (hB : P.bytesOf e = B) (h : DataW.Trod enc P W base (fun _ => true) held t v d ps) :
    ∃ x, FitC c x ∧ C (allI W) x v ∧ ∀ ex els, x = .sl ex els → els.length * B ≤ 140737488351232 := by
  subst hB
  obtain ⟨x, h1, h2⟩ := row_slice m ht hs hv h
  refine ⟨x, h1, h2, ?_⟩
  rintro ex els rfl
  obtain ⟨a, len, cap, rfl⟩ := okWide_slice ht hv
  have hl := h2.len
  obtain ⟨fuel, hf⟩ := h
  rcases DataW.trod_slice ht hf with ⟨hcs, _⟩ | ⟨y, l, k, elems, rest, n, _, hcs, hx, _, _, _, hlen, _⟩
  · simp [Value.cells] at hcs
    obtain ⟨rfl, rfl, rfl⟩ := hcs
    rw [hl, Nat.zero_mul]
    exact Nat.zero_le _
  · simp [Value.cells] at hcs
    obtain ⟨rfl, rfl, rfl⟩ := hcs
    injection hx with hx1 hx2
    subst hx1
    have := sized_slice hz hj hd ht
    rw [List.length_map, List.length_map, hlen] at this
    rw [hl]
    exact Nat.le_trans (Nat.mul_le_mul_right _ (Nat.le_add_right _ _)) this
end
/-- Structs of three numbers and a truth. -/
abbrev numSh : CSh := .sl true [.int .i64, .int .i64, .int .i64, .bool]
theorem FitC.num4 {x : PV} (h : FitC numSh x) : ∃ zs : List (Int × Int × Int × Bool), x = .sl false (zs.map fun z => .agg [.s (.int .i64 z.1), .s (.int .i64 z.2.1), .s (.int .i64 z.2.2.1), .s (.bool z.2.2.2)]) := by
  simp only [FitC, FitL] at h
  obtain ⟨els, rfl, h⟩ := h
  obtain ⟨zs, rfl, _⟩ := map_of_all (f := fun (z : Int × Int × Int × Bool) => PV.agg [.s (.int .i64 z.1), .s (.int .i64 z.2.1), .s (.int .i64 z.2.2.1), .s (.bool z.2.2.2)]) (p := fun _ => True) (l := els) (fun e he => by
    obtain ⟨cs, rfl, y1, ys, rfl, ⟨n1, rfl, _⟩, y2, ys, rfl, ⟨n2, rfl, _⟩, y3, ys, rfl, ⟨n3, rfl, _⟩, y4, ys, rfl, ⟨b, rfl⟩, rfl⟩ := h e he
    exact ⟨(n1, n2, n3, b), rfl, trivial⟩)
  exact ⟨zs, rfl⟩
end Go.Proofs.YtambpjbpdackfaaGreat.A



set_option linter.unusedVariables false
set_option linter.unusedSimpArgs false
set_option maxRecDepth 100000
namespace Go.Proofs.YtambpjbpdackfaaGreat.A.E
open Go Go.RowKit Go.Shelf

/-! ### The function HouseSigns -/
theorem nums_of {x : PV} (h : FitC numSh x) (hb : ∀ ex els, x = .sl ex els → els.length * 32 ≤ 140737488351232) : ∃ l : List Fr, x = .sl false (frs l) ∧ l.length ≤ 4398046511104 := by
  obtain ⟨zs, rfl⟩ := FitC.num4 h
  have e : (zs.map fun z => PV.agg [.s (.int .i64 z.1), .s (.int .i64 z.2.1), .s (.int .i64 z.2.2.1), .s (.bool z.2.2.2)]) = frs (zs.map fun z => ⟨z.1, z.2.1, z.2.2.1, z.2.2.2⟩) := by
    rw [frs, List.map_map]
    rfl
  refine ⟨zs.map fun z => ⟨z.1, z.2.1, z.2.2.1, z.2.2.2⟩, by rw [e], ?_⟩
  have := hb _ _ rfl
  rw [List.length_map] at this ⊢
  omega
end Go.Proofs.YtambpjbpdackfaaGreat.A.E



set_option linter.unusedVariables false
set_option linter.unusedSimpArgs false
set_option maxRecDepth 100000
namespace Go.Proofs.YtambpjbpdackfaaGreat.A.E
open Go Go.RowKit Go.Shelf

/-! ### The function HouseFolds -/
theorem ok19_nil : Ok Tryz.prog 19 [matNil] (.tup [matNil, tru false]) := (ok19n false 0 0 [] (by decide)).args fun I vs h => Cs.mat_nil h fun us h => h
set_option maxHeartbeats 4000000 in
theorem ok3 (e : Bool) (l : List Fr) (r c : Int) (hlen : l.length ≤ 4398046511104) : Ok Tryz.prog 3 [.sl e (frs l), num r, num c] (tru true) := by
  have h44 := ok17 r c e l hlen
  refine ok_fn mixed Tryz.func3 (code := ?_) (h := h3) ?_ k3 ?_
  rotate_left
  · exact rfl
  unfold h3 initS
  simp -implicitDefEqProofs (maxSteps := 10000000) only [rkA, rkB, stepA, valA, simprocAttr, Tryz.ntmps3, Tryz.results3]
  by_cases hr : right r c l.length = true
  · rw [if_pos hr] at h44
    obtain ⟨r1, r16, c1, c16, hn0⟩ := right_spec hr
    obtain ⟨n, rfl⟩ := Int.eq_ofNat_of_zero_le (show 0 ≤ r by omega)
    obtain ⟨w, rfl⟩ := Int.eq_ofNat_of_zero_le (show 0 ≤ c by omega)
    have hl : l.length = n * w := by
      rw [← Int.natCast_mul] at hn0
      omega
    have hnw : n * w ≤ 16 * 16 := Nat.mul_le_mul (by omega) (by omega)
    refine call_fn rfl rfl rfl (h44) ?_
    simp -implicitDefEqProofs (maxSteps := 10000000) only [rkA, rkB, stepA, valA, simprocAttr]
    refine gB_dec ?_ ?_ <;> intro h4 <;> simp -implicitDefEqProofs (maxSteps := 10000000) only [h4, rkA, rkB, stepA, valA, simprocAttr]
    · refine call_fn rfl rfl rfl (ok18) ?_
      simp -implicitDefEqProofs (maxSteps := 10000000) only [rkA, rkB, stepA, valA, simprocAttr]
    refine gB_dec ?_ ?_ <;> intro h10 <;> simp -implicitDefEqProofs (maxSteps := 10000000) only [h10, rkA, rkB, stepA, valA, simprocAttr]
    · refine call_fn rfl rfl rfl (ok18) ?_
      simp -implicitDefEqProofs (maxSteps := 10000000) only [rkA, rkB, stepA, valA, simprocAttr]
    by_cases hrc : (n : Int) > (w : Int)
    · refine call_fn rfl rfl rfl (ok19n false n w l (by rw [hr, decide_eq_false (by omega)]; rfl)) ?_
      simp -implicitDefEqProofs (maxSteps := 10000000) only [hrc, beq_self_eq_true, rkA, rkB, stepA, valA, simprocAttr]
      refine call_fn rfl rfl rfl (ok18) ?_
      simp -implicitDefEqProofs (maxSteps := 10000000) only [rkA, rkB, stepA, valA, simprocAttr]
    · refine call_fn rfl rfl rfl (ok19 n w (by omega) (by omega) (by omega) false l hl) ?_
      have hb0 : ∀ z : Int, ((z : Int) == z) = true := fun z => by simp
      simp -implicitDefEqProofs (maxSteps := 10000000) only [hrc, hb0, rkA, rkB, stepA, valA, simprocAttr]
      refine call_fn rfl rfl rfl (ok22 false n w l (by omega)) ?_
      simp -implicitDefEqProofs (maxSteps := 10000000) only [rkA, rkB, stepA, valA, simprocAttr]
      refine call_fn rfl rfl rfl (ok21' n w (by omega) (by omega) (by omega) l hl) ?_
      simp -implicitDefEqProofs (maxSteps := 10000000) only [rkA, rkB, stepA, valA, simprocAttr]
      have hnn : n * n ≤ 4 * 4 := Nat.mul_le_mul (by omega) (by omega)
      refine call_fn rfl rfl rfl (ok20 false false n n (triF n w l) (by rw [tri_len]; omega)) ?_
      simp -implicitDefEqProofs (maxSteps := 10000000) only [rkA, rkB, stepA, valA, simprocAttr]
      refine call_fn rfl rfl rfl (ok18) ?_
      simp -implicitDefEqProofs (maxSteps := 10000000) only [rkA, rkB, stepA, valA, simprocAttr]
  · rw [if_neg hr] at h44
    refine call_fn rfl rfl rfl (h44) ?_
    simp -implicitDefEqProofs (maxSteps := 10000000) only [rkA, rkB, stepA, valA, simprocAttr]
    refine call_fn rfl rfl rfl (ok19_nil) ?_
    simp -implicitDefEqProofs (maxSteps := 10000000) only [beq_self_eq_true, rkA, rkB, stepA, valA, simprocAttr]
    refine call_fn rfl rfl rfl (ok18) ?_
    simp -implicitDefEqProofs (maxSteps := 10000000) only [rkA, rkB, stepA, valA, simprocAttr]
theorem HouseFolds_ok {x : PV} (h : FitC numSh x) (hb : ∀ ex els, x = .sl ex els → els.length * 32 ≤ 140737488351232) (r c : Int) : Ok Tryz.prog 3 [x, num r, num c] (tru true) := by
  obtain ⟨l, rfl, hl⟩ := nums_of h hb
  exact ok3 false l r c (by omega)
end Go.Proofs.YtambpjbpdackfaaGreat.A.E


