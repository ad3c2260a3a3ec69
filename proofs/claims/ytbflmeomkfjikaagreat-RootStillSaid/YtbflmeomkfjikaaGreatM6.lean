import Derived.Test.YtbflmeomkfjikaaGreatM5
import Derived.Test.YtbflmeomkfjikaaGreatM4
import Derived.Shelf.Spec.SlicesGrow
import Derived.Test.YtbflmeomkfjikaaGreatM3
import Derived.SizedLaws
set_option linter.unusedVariables false
set_option linter.unusedSimpArgs false
set_option maxRecDepth 100000
namespace Go.Proofs.YtbflmeomkfjikaaGreat.A.E
open Go Go.RowKit Go.Shelf

/-- The rows, as far as row t; what was gathered. -/
def colM (M : Nat → Nat → Fr) (E : Nat → Fr) (j : Nat) (d c : Fr) (t : Nat) : Nat → Nat → Fr := fun i k => if k = j ∧ j ≤ i ∧ i < t then subF (mulF (M i j) d) (mulF (E i) c) else M i k
def colE (M : Nat → Nat → Fr) (E : Nat → Fr) (j : Nat) (w : Fr) (t : Nat) : Nat → Fr := fun i => if j ≤ i ∧ i < t then addF (E i) (mulF (M i j) w) else E i
def rootD (a b : Fr) : Fr := rootF (divF a b)
def rootC (w a b : Fr) : Fr := divF w (rootF (mulF a b))
theorem colM_first (M : Nat → Nat → Fr) (E : Nat → Fr) (j : Nat) (d c : Fr) : colM M E j d c j = M := by
  funext i k
  unfold colM
  rw [if_neg (by omega)]
theorem colE_first (M : Nat → Nat → Fr) (E : Nat → Fr) (j : Nat) (w : Fr) : colE M E j w j = E := by
  funext i
  unfold colE
  rw [if_neg (by omega)]
theorem colM_step (M : Nat → Nat → Fr) (E : Nat → Fr) (j : Nat) (d c : Fr) {t : Nat} (h : j ≤ t) : setM (colM M E j d c t) t j (subF (mulF (M t j) d) (mulF (E t) c)) = colM M E j d c (t + 1) := by
  funext i k
  unfold setM colM
  by_cases e : i = t ∧ k = j
  · obtain ⟨rfl, rfl⟩ := e
    rw [if_pos ⟨rfl, rfl⟩, if_pos ⟨rfl, h, by omega⟩]
  · rw [if_neg e]
    by_cases h1 : k = j ∧ j ≤ i ∧ i < t
    · rw [if_pos h1, if_pos (by omega)]
    · rw [if_neg h1, if_neg (by omega)]
theorem colE_step (M : Nat → Nat → Fr) (E : Nat → Fr) (j : Nat) (w : Fr) {t n : Nat} (h : j ≤ t) (ht : t < n) : ((List.range n).map (colE M E j w t)).set t (addF (E t) (mulF (M t j) w)) = (List.range n).map (colE M E j w (t + 1)) := by
  apply List.ext_getElem?
  intro i
  rw [List.getElem?_set]
  by_cases hi : i < n
  · rw [List.getElem?_map, List.getElem?_map, List.getElem?_range hi]
    by_cases e : t = i
    · subst e
      rw [if_pos rfl, if_pos (by simpa using ht)]
      simp only [Option.map_some]
      unfold colE
      rw [if_pos ⟨h, by omega⟩]
    · rw [if_neg e]
      simp only [Option.map_some]
      unfold colE
      by_cases h1 : j ≤ i ∧ i < t
      · rw [if_pos h1, if_pos (by omega)]
      · rw [if_neg h1, if_neg (by omega)]
  · rw [List.getElem?_eq_none (by simp; omega), List.getElem?_eq_none (by simp; omega), if_neg (by omega)]
/-- Rows lie as they lay, whatever is written elsewhere. -/
theorem RowsC.other {mm : Mem} {c q : Nat → Nat} {n w b : Nat} {M : Nat → Nat → Fr} {x : List PV} (h : RowsC mm c q n w M) (hb : ∀ i, i < n → c i ≠ b) : RowsC (mm.put b x) c q n w M :=
  ⟨fun i hi => by rw [Mem.put_other _ _ (hb i hi)]; exact h.row i hi, h.inj⟩
set_option maxHeartbeats 4000000 in
theorem okm113 (ex : Bool) (n j : Nat) (hj : j < n) (hn : n ≤ 16) (M : Nat → Nat → Fr) (E : Nat → Fr) (w a b : Fr) (c cap q : Nat → Nat) (hcap : ∀ i, i < n → n ≤ cap i) (eb : Nat) (m : Mem) (hm : RowsC m c q n n M) (he : m eb = some (flat (frs ((List.range n).map E)))) (hce : ∀ i, i < n → c i ≠ eb) :
    OkM Tryz.prog 113 [.sl ex ((List.range n).map (rawC c cap n)), num j, frV w, frV a, frV b, .s (.slice (some ⟨eb, 0, none⟩) n n)] m
      (fun _ m' => RowsC m' c q n n (colM M E j (rootD a b) (rootC w a b) n) ∧ m' eb = some (flat (frs ((List.range n).map (colE M E j w n))))) := by
  refine okm_fn mixed Tryz.func113 (code := ?_) (h := h113) ?_ k113 ?_
  rotate_left
  · exact rfl
  unfold h113 initS
  simp -implicitDefEqProofs (maxSteps := 10000000) only [rkA, rkB, stepA, valA, simprocAttr, Tryz.ntmps113, Tryz.results113]
  refine call_meth rfl rfl methDiv (ok228 _ _) ?_
  simp -implicitDefEqProofs (maxSteps := 10000000) only [rkA, rkB, stepA, valA, simprocAttr]
  refine call_meth rfl rfl methRoot (ok229 _) ?_
  simp -implicitDefEqProofs (maxSteps := 10000000) only [rkA, rkB, stepA, valA, simprocAttr]
  refine call_meth rfl rfl methMul (ok45 _ _) ?_
  simp -implicitDefEqProofs (maxSteps := 10000000) only [rkA, rkB, stepA, valA, simprocAttr]
  refine call_meth rfl rfl methRoot (ok229 _) ?_
  simp -implicitDefEqProofs (maxSteps := 10000000) only [rkA, rkB, stepA, valA, simprocAttr]
  refine call_meth rfl rfl methDiv (ok228 _ _) ?_
  simp -implicitDefEqProofs (maxSteps := 10000000) only [rkA, rkB, stepA, valA, simprocAttr]
  have eD : rootF (divF a b) = rootD a b := rfl
  have eC : divF w (rootF (mulF a b)) = rootC w a b := rfl
  simp only [eD, eC]
  refine wp_loop (fun z s => ∃ (t : Nat) (mm : Mem), j ≤ t ∧ t + z = n ∧ RowsC mm c q n n (colM M E j (rootD a b) (rootC w a b) t) ∧ mm eb = some (flat (frs ((List.range n).map (colE M E j w t)))) ∧
    s = ⟨[.v (.sl ex ((List.range n).map (rawC c cap n))), .v (num j), jk, jk, jk, .v (.s (.slice (some ⟨eb, 0, none⟩) n n)), jk, jk, .ptr 8 0, jk, jk, jk, .ptr 12 0, .ptr 13 0, nt t, jk, jk, jk, jk, jk, jk, jk, jk, jk, jk, jk, jk, jk, jk, jk, jk, jk, jk, jk, jk, jk, jk, jk, jk, jk, jk, jk, jk, jk, jk, jk, jk, jk, jk, jk, jk, jk, jk, jk, jk, jk, jk, jk, jk, jk, jk, jk, jk, jk, jk, jk, jk, jk, jk, jk, jk, jk, jk, jk, jk, jk, jk],
      [(8, [.v (num w.v), .v (num w.lo), .v (num w.hi), .v (tru w.bad)]), (9, [.v (num a.v), .v (num a.lo), .v (num a.hi), .v (tru a.bad)]), (10, [.v (num b.v), .v (num b.lo), .v (num b.hi), .v (tru b.bad)]), (12, [.v (num (rootD a b).v), .v (num (rootD a b).lo), .v (num (rootD a b).hi), .v (tru (rootD a b).bad)]), (13, [.v (num (rootC w a b).v), .v (num (rootC w a b).lo), .v (num (rootC w a b).hi), .v (tru (rootC w a b).bad)])], [], [], [], 0, mm⟩) (n - j) ?_ ?_
  · simp -implicitDefEqProofs (maxSteps := 10000000) only [rkA, rkB, stepA, valA, simprocAttr]
    exact ⟨j, m, by omega, by omega, by rw [colM_first]; exact hm, by rw [colE_first]; exact he, rfl⟩
  clear hm he m
  rintro z s ⟨t, mm, hjt, htz, hM, hE, rfl⟩
  have li : ((List.range n).map (rawC c cap n)).length = n := by simp
  simp -implicitDefEqProofs (maxSteps := 10000000) only [li, rkA, rkB, stepA, valA, simprocAttr]
  refine gB_dec ?_ ?_ <;> intro hc <;> simp -implicitDefEqProofs (maxSteps := 10000000) only [hc, rkA, rkB, stepA, valA, simprocAttr]
  · have hi : t < n := by omega
    have h0t : (0 : Int) ≤ (t : Int) := by omega
    have h0j : (0 : Int) ≤ (j : Int) := by omega
    have hjn : (j : Int) < (n : Int) := by omega
    have gi : ((List.range n).map (rawC c cap n))[t]? = some (rawC c cap n t) := by simp [hi]
    have hrow := hM.row t hi
    have gM : colM M E j (rootD a b) (rootC w a b) t t j = M t j := by unfold colM; rw [if_neg (by omega)]
    have gE : colE M E j w t t = E t := by unfold colE; rw [if_neg (by omega)]
    have hld := ldM_frj (post := jnk (q t)) (rowM_get (n := n) (M := colM M E j (rootD a b) (rootC w a b) t) (i := t) (k := j) hj)
    have hle : ((List.range n).map (colE M E j w t))[t]? = some (E t) := by simp [hi, gE]
    have hlde := ldM_fr hle
    rw [gM] at hld
    simp -implicitDefEqProofs (maxSteps := 10000000) only [h0t, h0j, hjn, Int.toNat_natCast, gi, addr_add, Nat.zero_add, hrow, hld, rkA, rkB, stepA, valA, simprocAttr]
    refine call_meth rfl rfl methMul (ok45 _ _) ?_
    have hte : (t : Int) < (n : Int) := by omega
    simp -implicitDefEqProofs (maxSteps := 10000000) only [h0t, hte, Int.toNat_natCast, addr_add, Nat.zero_add, hE, hlde, rkA, rkB, stepA, valA, simprocAttr]
    refine call_meth rfl rfl methMul (ok45 _ _) ?_
    simp -implicitDefEqProofs (maxSteps := 10000000) only [rkA, rkB, stepA, valA, simprocAttr]
    refine call_meth rfl rfl methSub (ok97 _ _) ?_
    have hst := stM_frj (l := rowM n (colM M E j (rootD a b) (rootC w a b) t) t) (k := j) (x := subF (mulF (M t j) (rootD a b)) (mulF (E t) (rootC w a b))) (post := jnk (q t)) (by rw [rowM_length]; exact hj)
    simp -implicitDefEqProofs (maxSteps := 10000000) only [h0j, hjn, Int.toNat_natCast, addr_add, Nat.zero_add, hrow, hst, rkA, rkB, stepA, valA, simprocAttr]
    have hM2 := hM.store hi hj (subF (mulF (M t j) (rootD a b)) (mulF (E t) (rootC w a b)))
    rw [colM_step M E j (rootD a b) (rootC w a b) hjt] at hM2
    have hE2 : (mm.put (c t) (flat (frs ((rowM n (colM M E j (rootD a b) (rootC w a b) t) t).set j (subF (mulF (M t j) (rootD a b)) (mulF (E t) (rootC w a b))))) ++ jnk (q t))) eb = some (flat (frs ((List.range n).map (colE M E j w t)))) := by
      rw [Mem.put_other _ _ (fun e => hce t hi e.symm)]
      exact hE
    generalize mm.put (c t) _ = mm2 at hM2 hE2 ⊢
    simp -implicitDefEqProofs (maxSteps := 10000000) only [h0t, hte, Int.toNat_natCast, addr_add, Nat.zero_add, hE2, hlde, rkA, rkB, stepA, valA, simprocAttr]
    refine call_meth rfl rfl methMul (ok45 _ _) ?_
    simp -implicitDefEqProofs (maxSteps := 10000000) only [rkA, rkB, stepA, valA, simprocAttr]
    refine call_meth rfl rfl methAdd (ok227 _ _) ?_
    have hse := stM_frj (l := (List.range n).map (colE M E j w t)) (k := t) (x := addF (E t) (mulF (M t j) w)) (post := []) (by simp; exact hi)
    rw [List.append_nil, List.append_nil, colE_step M E j w hjt hi] at hse
    have hw' := wrapped (x := (t : Int) + 1) (by omega) (by omega)
    simp -implicitDefEqProofs (maxSteps := 10000000) only [h0t, hte, Int.toNat_natCast, addr_add, Nat.zero_add, hE2, hse, hw', rkA, rkB, stepA, valA, simprocAttr]
    refine loopK_of (m' := z - 1) (by omega) ?_
    simp -implicitDefEqProofs (maxSteps := 10000000) only [rkA, rkB, stepA, valA, simprocAttr]
    refine ⟨t + 1, mm2.put eb (flat (frs ((List.range n).map (colE M E j w (t + 1))))), by omega, by omega, ?_, Mem.put_same _ _ _, by simp only [Int.natCast_add, Int.natCast_one]⟩
    exact hM2.other (fun i hi' => hce i hi')
  · have e : t = n := by omega
    subst e
    exact ⟨_, rfl, hM, hE⟩
end Go.Proofs.YtbflmeomkfjikaaGreat.A.E


/- slices.Grow of a row that is nil, off the library's shelf. -/
set_option linter.unusedVariables false
set_option maxRecDepth 100000
namespace Go.Proofs.YtbflmeomkfjikaaGreat.A
open Go Go.RowKit Go.Shelf
theorem isAgg_no' {P : Program} {t : TypeId} (h : tAgg P t = some false) (w : World) : (isAgg t).run P w = .ok false w := run_isAgg_of h w
theorem sizeOf_one' {P : Program} {t : TypeId} {n : Nat} (h : tSize P t = some n) (w : World) : (Go.sizeOf t).run P w = .ok n w := run_sizeOf_of h w
theorem zero_is' {P : Program} {t : TypeId} {v : Value} (h : tZero P t = some v) (w : World) : (zeroValue t).run P w = .ok v w := run_zero_of h w
/-- New memory with room for n elements of sz cells each. -/
def GrownR (n sz : Nat) (r : PV) (m : Mem) : Prop := ∃ c cap, n ≤ cap ∧ r = .s (.slice (some ⟨c, 0, none⟩) 0 cap) ∧ m = nomem.put c (List.replicate (cap * sz) .junk)
theorem grown_rf {n sz : Nat} : ∀ r m', GrownR n sz r m' → RF r = true ∧ ∀ c cells, m' c = some cells → RFs cells = true := by
  rintro r m' ⟨c, cap, _, rfl, rfl⟩
  refine ⟨rfl, fun d cells hd => ?_⟩
  by_cases e : d = c
  · subst e
    rw [Mem.put_same] at hd
    cases hd
    have : ∀ k, RFs (List.replicate k PV.junk) = true := fun k => by
      induction k with
      | zero => rfl
      | succ k ih => rw [List.replicate_succ]; exact ih
    exact this _
  · rw [Mem.put_other _ _ e] at hd
    cases hd
theorem grown_of {P : Program} {ρ : Ren} (L : Lays8.n4 P ρ) {i0 : TypeInfo} {z : Value} {S B : Nat} (hi : P.info? (ρ.t 25) = some i0) (hz : i0.zero = some z) (hS : i0.size = S) (hB : i0.bytes = B) (hzs : z.cells.size = S) (h0 : 0 < S) (hen : Enters P (ρ.f 4)) (n : Nat) (h1 : 1 ≤ n) (h2 : n * B ≤ 140737488355328) (h3 : n ≤ 4611686018427387904) :
    OkM P (ρ.f 4) [.s (.slice none 0 0), num n] nomem (GrownR n S) := by
  refine ⟨hen, fun I w vs hg hm hc => ?_⟩
  cases hc with
  | cons c1 c2 =>
    cases c2 with
    | cons c3 c4 =>
      cases c4
      cases c1
      cases c3
      subst hS hB
      refine (Any8.slices_Grow_grow L i0 z hi hz h0 none 0 0 n [] w (by omega) (by omega) (by simpa using h2) (by omega) (by simp) (fun _ => rfl) (fun a h => by cases h)).mono ?_
      rintro e w' ⟨rfl, rfl⟩
      have hge := grownCap_ge w (0 + n) 0 (ρ.t 25)
      generalize grownCap w (0 + n) 0 (ρ.t 25) = cap at hge ⊢
      have hnone : I w.heap.size = none := by
        cases h : I w.heap.size with
        | none => rfl
        | some arr => exact absurd (hg.lt h) (by omega)
      refine ⟨_, I, _, nomem.put w.heap.size (List.replicate (cap * i0.size) .junk), rfl, ⟨w.heap.size, cap, by omega, rfl, rfl⟩, ?_, Imm.le_refl _, ?_, fun _ _ => rfl, ?_, ?_, .s _⟩
      · have hb : Below w.heap.size w (w.drew.alloc (.cells (([] : List Value).toArray ++ Builtin.zeroCells z.cells (0 + n - 0) ++ Builtin.zeroCells z.cells (cap - (0 + n))) (ρ.t 25))) := ((Below.refl _ w).drew).alloc (Nat.le_refl _) _
        exact ⟨hb.os, hb.tape, hb.output, hb.size, fun k hk _ => hb.block k hk⟩
      · exact hg.below (((Below.refl _ w).drew).alloc (Nat.le_refl _) _)
      · intro c cells hcc
        by_cases e : c = w.heap.size
        · subst e
          rw [Mem.put_same] at hcc
          cases hcc
          refine ⟨hnone, _, ρ.t 25, (by show (w.heap.push _)[w.heap.size]? = _; exact Array.getElem?_push_size), ?_⟩
          have hsz : ∀ k : Nat, (Builtin.zeroCells z.cells k).size = k * i0.size := fun k => by rw [size_zeroCells, hzs]
          have hl : (([] : List Value).toArray ++ Builtin.zeroCells z.cells (0 + n - 0) ++ Builtin.zeroCells z.cells (cap - (0 + n))).toList.length = cap * i0.size := by
            rw [Array.length_toList, Array.size_append, Array.size_append, hsz, hsz]
            rw [show (([] : List Value).toArray).size = 0 from rfl, Nat.zero_add, ← Nat.add_mul]
            congr 1
            omega
          rw [← hl]
          exact cs_rest I _
        · rw [Mem.put_other _ _ e] at hcc
          cases hcc
      · intro c hlt _
        exact Mem.put_other _ _ (by omega)
def reng160 : Ren := { f := fun | 4 => 160 | x => x, t := fun | 0 => 0 | 3 => 3 | 4 => 4 | 9 => 9 | 20 => 20 | 22 => 26 | 25 => 32 | x => x, g := fun x => x }
theorem laysg160 : Lays8.n4 Tryz.prog reng160 where
  mixed := by kernel_rfl
  f4 := ⟨"slices.Grow[[]couplet/frac.Frac,couplet/frac.Frac]", by decide, Tryz.func160⟩
  t0 := by kernel_rfl
  a0 := isAgg_no' (by kernel_rfl)
  z0 := sizeOf_one' (by kernel_rfl)
  v0 := zero_is' (by kernel_rfl)
  t3 := by kernel_rfl
  a3 := isAgg_no' (by kernel_rfl)
  z3 := sizeOf_one' (by kernel_rfl)
  v3 := zero_is' (by kernel_rfl)
  t4 := by kernel_rfl
  a4 := isAgg_no' (by kernel_rfl)
  z4 := sizeOf_one' (by kernel_rfl)
  v4 := zero_is' (by kernel_rfl)
  t9 := by kernel_rfl
  a9 := isAgg_no' (by kernel_rfl)
  z9 := sizeOf_one' (by kernel_rfl)
  v9 := zero_is' (by kernel_rfl)
  t20 := by kernel_rfl
  a20 := isAgg_no' (by kernel_rfl)
  z20 := sizeOf_one' (by kernel_rfl)
  v20 := zero_is' (by kernel_rfl)
  t22 := by kernel_rfl
  a22 := isAgg_no' (by kernel_rfl)
  z22 := sizeOf_one' (by kernel_rfl)
  v22 := zero_is' (by kernel_rfl)
theorem okg160 (n : Nat) (h1 : 1 ≤ n) (h2 : n * 24 ≤ 140737488355328) : OkM Tryz.prog 160 [.s (.slice none 0 0), num n] nomem (GrownR n 3) :=
  grown_of laysg160 (i0 := Tryz.t32) (z := (Tryz.t32).zero.getD .nilIface) (S := 3) (B := 24) (by kernel_rfl) (by kernel_rfl) (by kernel_rfl) (by kernel_rfl) (by kernel_rfl) (by decide) (enters_of Tryz.func160 (by kernel_rfl) rfl) n h1 h2 (by omega)
def reng158 : Ren := { f := fun | 4 => 158 | x => x, t := fun | 0 => 0 | 3 => 3 | 4 => 4 | 9 => 9 | 20 => 20 | 22 => 34 | 25 => 40 | x => x, g := fun x => x }
theorem laysg158 : Lays8.n4 Tryz.prog reng158 where
  mixed := by kernel_rfl
  f4 := ⟨"slices.Grow[[]couplet/env.Num,couplet/env.Num]", by decide, Tryz.func158⟩
  t0 := by kernel_rfl
  a0 := isAgg_no' (by kernel_rfl)
  z0 := sizeOf_one' (by kernel_rfl)
  v0 := zero_is' (by kernel_rfl)
  t3 := by kernel_rfl
  a3 := isAgg_no' (by kernel_rfl)
  z3 := sizeOf_one' (by kernel_rfl)
  v3 := zero_is' (by kernel_rfl)
  t4 := by kernel_rfl
  a4 := isAgg_no' (by kernel_rfl)
  z4 := sizeOf_one' (by kernel_rfl)
  v4 := zero_is' (by kernel_rfl)
  t9 := by kernel_rfl
  a9 := isAgg_no' (by kernel_rfl)
  z9 := sizeOf_one' (by kernel_rfl)
  v9 := zero_is' (by kernel_rfl)
  t20 := by kernel_rfl
  a20 := isAgg_no' (by kernel_rfl)
  z20 := sizeOf_one' (by kernel_rfl)
  v20 := zero_is' (by kernel_rfl)
  t22 := by kernel_rfl
  a22 := isAgg_no' (by kernel_rfl)
  z22 := sizeOf_one' (by kernel_rfl)
  v22 := zero_is' (by kernel_rfl)
theorem okg158 (n : Nat) (h1 : 1 ≤ n) (h2 : n * 32 ≤ 140737488355328) : OkM Tryz.prog 158 [.s (.slice none 0 0), num n] nomem (GrownR n 4) :=
  grown_of laysg158 (i0 := Tryz.t40) (z := (Tryz.t40).zero.getD .nilIface) (S := 4) (B := 32) (by kernel_rfl) (by kernel_rfl) (by kernel_rfl) (by kernel_rfl) (by kernel_rfl) (by decide) (enters_of Tryz.func158 (by kernel_rfl) rfl) n h1 h2 (by omega)
end Go.Proofs.YtbflmeomkfjikaaGreat.A


set_option linter.unusedVariables false
namespace Go.Proofs.YtbflmeomkfjikaaGreat.A
open Go Go.RowKit Go.Shelf
/- slices.Concat(()couplet/frac.Frac,couplet/frac.Frac) -/
def hN121 : Hint := .s (.r [(0, { acc := [(0, 2)] })]) (.s (.o) (.s (.s (.o) (.b (.l [.junk [1, 2, 4, 5, 6, 7, 8, 12, 13, 14, 15, 16, 17, 18, 19, 20, 21, 22, 23, 24, 25, 26, 27, 28, 29, 30, 31, 32, 33, 34, 35]] (.s (.o) (.s (.s (.o) (.o)) (.s (.b (.s (.r [(0, { n := 1 }), (1, { n := 1, agg := false })]) (.s (.o) (.s (.o) (.s (.no) (.o)))))) (.o))))))) (.s (.r [(1, { mc := 6 })]) (.s (.s (.o) (.b (.l [.junk [0, 1, 2, 3, 4, 5, 7, 8, 9, 10, 11, 12, 13, 14, 15, 16, 17, 18, 19, 20, 21, 22, 23, 24, 28, 29, 30, 31, 32, 33, 34, 35]] (.s (.o) (.s (.s (.o) (.o)) (.s (.b (.s (.r [(0, { n := 1 }), (1, { n := 1, agg := false })]) (.r [(2, { n := 3, t := 24, mc := 7 })]))) (.o))))))) (.s (.o) (.o))))))
theorem kN121 : okF Tryz.prog Tryz.f121 hN121 [(false, 0)] = true := by kernel_rfl

/- slices.Concat(()couplet/env.Num,couplet/env.Num) -/
def hN114 : Hint := .s (.r [(0, { acc := [(0, 2)] })]) (.s (.o) (.s (.s (.o) (.b (.l [.junk [1, 2, 4, 5, 6, 7, 8, 12, 13, 14, 15, 16, 17, 18, 19, 20, 21, 22, 23, 24, 25, 26, 27, 28, 29, 30, 31, 32, 33, 34, 35]] (.s (.o) (.s (.s (.o) (.o)) (.s (.b (.s (.r [(0, { n := 1 }), (1, { n := 1, agg := false })]) (.s (.o) (.s (.o) (.s (.no) (.o)))))) (.o))))))) (.s (.r [(1, { mc := 6 })]) (.s (.s (.o) (.b (.l [.junk [0, 1, 2, 3, 4, 5, 7, 8, 9, 10, 11, 12, 13, 14, 15, 16, 17, 18, 19, 20, 21, 22, 23, 24, 28, 29, 30, 31, 32, 33, 34, 35]] (.s (.o) (.s (.s (.o) (.o)) (.s (.b (.s (.r [(0, { n := 1 }), (1, { n := 1, agg := false })]) (.r [(2, { n := 4, t := 32, mc := 7 })]))) (.o))))))) (.s (.o) (.o))))))
theorem kN114 : okF Tryz.prog Tryz.f114 hN114 [(false, 0)] = true := by kernel_rfl

end Go.Proofs.YtbflmeomkfjikaaGreat.A



set_option linter.unusedVariables false
set_option linter.unusedSimpArgs false
set_option maxRecDepth 100000
namespace Go.Proofs.YtbflmeomkfjikaaGreat.A
open Go Go.RowKit Go.Shelf

/-! ### slices.Concat -/
abbrev catV (rows : List (List Fr)) : List PV := rows.map fun r => .sl false (frs r)
theorem flatten_take_succ {α : Type} {l : List (List α)} {i : Nat} (h : i < l.length) : (l.take (i + 1)).flatten = (l.take i).flatten ++ l[i] := by
  rw [List.take_succ_eq_append_getElem h, List.flatten_append, List.flatten_singleton]
theorem flatten_take_le {α : Type} (l : List (List α)) (i : Nat) : (l.take i).flatten.length ≤ l.flatten.length := by
  conv => rhs; rw [← List.take_append_drop i l, List.flatten_append, List.length_append]
  omega
theorem RFs_replicate : ∀ k, RFs (List.replicate k PV.junk) = true
  | 0 => rfl
  | k + 1 => by rw [List.replicate_succ]; exact RFs_replicate k
theorem cells_put (L M : List PV) (K : Nat) : (L ++ List.replicate K PV.junk).take L.length ++ M ++ (L ++ List.replicate K PV.junk).drop (L.length + M.length) = (L ++ M) ++ List.replicate (K - M.length) PV.junk := by
  rw [List.take_append_of_le_length (Nat.le_refl _), List.take_length, List.drop_append, List.drop_of_length_le (by omega), List.nil_append, List.drop_replicate]
  congr 3
  omega
theorem cells_putF (A B : List Fr) {C : List Fr} (h : C = A ++ B) (K : Nat) : (flat (frs A) ++ List.replicate (K - (flat (frs A)).length) PV.junk).take (flat (frs A)).length ++ flat (frs B) ++ (flat (frs A) ++ List.replicate (K - (flat (frs A)).length) PV.junk).drop ((flat (frs A)).length + (flat (frs B)).length) = flat (frs C) ++ List.replicate (K - (flat (frs C)).length) PV.junk := by
  have e : flat (frs C) = flat (frs A) ++ flat (frs B) := by rw [h, frs, List.map_append, flat_append]
  rw [cells_put, e, List.length_append, Nat.sub_sub]
set_option maxHeartbeats 2000000 in
theorem okn121 (ex : Bool) (rows : List (List Fr)) (h0 : rows.flatten ≠ []) (h1 : rows.flatten.length ≤ 1000000) (h2 : rows.length ≤ 1000000) : OkN Tryz.prog 121 [.sl ex (catV rows)] (frs rows.flatten) := by
  have hlr : (catV rows).length = rows.length := by simp
  have hpos : 0 < rows.flatten.length := List.length_pos_iff.2 h0
  refine okn_fn mixed Tryz.func121 (code := ?_) (h := hN121) ?_ kN121 rfl (RFs_frs _) ?_
  rotate_left
  · exact rfl
  unfold hN121 initS
  simp -implicitDefEqProofs (maxSteps := 10000000) only [rkA, rkB, stepA, valA, simprocAttr, Tryz.ntmps121, Tryz.results121]
  refine wp_loop (fun m s => ∃ i, i + m = rows.length ∧ s = ⟨[.v (.sl ex (catV rows)), jk, jk, nt ((rows.take i).flatten.length : Nat), jk, jk, jk, jk, jk, .v (.sl ex (catV rows)), nt rows.length, nt i, jk, jk, jk, jk, jk, jk, jk, jk, jk, jk, jk, jk, jk, jk, jk, jk, jk, jk, jk, jk, jk, jk, jk, jk], [], [], [(2, 0)], [], 0, nomem⟩) rows.length ?_ ?_
  · simp -implicitDefEqProofs (maxSteps := 10000000) only [hlr, rkA, rkB, stepA, valA, simprocAttr]
    exact ⟨0, by simp, rfl⟩
  rintro m s ⟨i, hi, rfl⟩
  simp -implicitDefEqProofs (maxSteps := 10000000) only [rkA, rkB, stepA, valA, simprocAttr]
  refine gB_dec ?_ ?_ <;> intro hc <;> simp -implicitDefEqProofs (maxSteps := 10000000) only [hc, rkA, rkB, stepA, valA, simprocAttr]
  · have hlt : i < rows.length := by omega
    have h0i : (0 : Int) ≤ (i : Int) := by omega
    have hg : (catV rows)[i]? = some (.sl false (frs rows[i])) := by simp [hlt]
    have e1 := flatten_take_succ hlt
    have e2 := flatten_take_le rows (i + 1)
    have e3 : (rows.take (i + 1)).flatten.length = (rows.take i).flatten.length + rows[i].length := by rw [e1, List.length_append]
    have e4 : (frs rows[i]).length = rows[i].length := by simp
    have w1 : IntKind.wrap .i64 (((rows.take i).flatten.length : Nat) + (rows[i].length : Nat) : Int) = ((rows.take (i + 1)).flatten.length : Nat) := by rw [wrapped (by omega) (by omega)]; omega
    have w2 := wrapped (x := (i : Int) + 1) (by omega) (by omega)
    have g0 : ¬ (((rows.take (i + 1)).flatten.length : Nat) : Int) < 0 := by omega
    simp -implicitDefEqProofs (maxSteps := 10000000) only [h0i, Int.toNat_natCast, hg, e4, w1, w2, g0, rkA, rkB, stepA, valA, simprocAttr]
    refine loopK_of (m' := m - 1) (by omega) ?_
    simp -implicitDefEqProofs (maxSteps := 10000000) only [rkA, rkB, stepA, valA, simprocAttr]
    exact ⟨i + 1, by omega, by simp only [Int.natCast_add, Int.natCast_one]⟩
  · have ei : rows.take i = rows := List.take_of_length_le (by omega)
    simp only [ei]
    clear ei hc hi m
    refine lendNew_fn rfl rfl (Tells.same _ _) (okg160 rows.flatten.length (by omega) (by omega)) grown_rf ?_
    rintro r m' ⟨c, cap, hcap, rfl, rfl⟩ hfree
    simp -implicitDefEqProofs (maxSteps := 10000000) only [rkA, rkB, stepA, valA, simprocAttr]
    refine wp_loop (fun m s => ∃ (i : Nat) (mm : Mem), i + m = rows.length ∧ mm = nomem.put c (flat (frs (rows.take i).flatten) ++ List.replicate (cap * 3 - (flat (frs (rows.take i).flatten)).length) .junk) ∧
      s = ⟨[jk, jk, jk, jk, jk, jk, .v (.s (.slice (some ⟨c, 0, none⟩) (rows.take i).flatten.length cap)), jk, jk, jk, jk, jk, jk, jk, jk, jk, jk, jk, jk, jk, jk, jk, jk, jk, jk, .v (.sl ex (catV rows)), nt rows.length, nt i, jk, jk, jk, jk, jk, jk, jk, jk], [], [], [(2, 0)], [], 0, mm⟩) rows.length ?_ ?_
    · simp -implicitDefEqProofs (maxSteps := 10000000) only [hlr, rkA, rkB, stepA, valA, simprocAttr]
      exact ⟨0, _, by simp, rfl, rfl⟩
    rintro m s ⟨i, mm, hi, rfl, rfl⟩
    simp -implicitDefEqProofs (maxSteps := 10000000) only [rkA, rkB, stepA, valA, simprocAttr]
    refine gB_dec ?_ ?_ <;> intro hc <;> simp -implicitDefEqProofs (maxSteps := 10000000) only [hc, rkA, rkB, stepA, valA, simprocAttr]
    · have hlt : i < rows.length := by omega
      have h0i : (0 : Int) ≤ (i : Int) := by omega
      have hg : (catV rows)[i]? = some (.sl false (frs rows[i])) := by simp [hlt]
      have e1 := flatten_take_succ hlt
      have e2 := flatten_take_le rows (i + 1)
      have e3 : (rows.take (i + 1)).flatten.length = (rows.take i).flatten.length + rows[i].length := by rw [e1, List.length_append]
      have e4 : (frs rows[i]).length = rows[i].length := by simp
      have l1 : (flat (frs (rows.take i).flatten)).length = (rows.take i).flatten.length * 3 := by rw [flat_length (frs_cells _), List.length_map]
      have l2 : (flat (frs rows[i])).length = rows[i].length * 3 := by rw [flat_length (frs_cells _), List.length_map]
      have w2 := wrapped (x := (i : Int) + 1) (by omega) (by omega)
      have hmul : rows.flatten.length * 3 ≤ cap * 3 := Nat.mul_le_mul_right _ hcap
      have hput := cells_putF (rows.take i).flatten rows[i] e1 (cap * 3)
      simp -implicitDefEqProofs (maxSteps := 10000000) only [h0i, Int.toNat_natCast, hg, rkA, rkB, stepA, valA, simprocAttr]
      refine appIn_of rfl rfl (.same _) (RFs_frs _) (Mem.put_same _ _ _) (by rw [List.all_eq_true]; intro e he; obtain ⟨x, _, rfl⟩ := List.mem_map.1 he; rfl) (by rw [e4]; omega) (by simp only [List.length_append, List.length_replicate, l1, l2, Nat.zero_add]; omega) ?_
      rw [Nat.zero_add, ← l1, hput, e4, ← e3]
      simp -implicitDefEqProofs (maxSteps := 10000000) only [w2, rkA, rkB, stepA, valA, simprocAttr]
      refine loopK_of (m' := m - 1) (by omega) ?_
      simp -implicitDefEqProofs (maxSteps := 10000000) only [rkA, rkB, stepA, valA, simprocAttr]
      refine ⟨i + 1, _, by omega, rfl, ?_⟩
      simp only [Int.natCast_add, Int.natCast_one]
      congr 1
      funext d
      unfold Mem.put
      split <;> rfl
    · have ei : rows.take i = rows := List.take_of_length_le (by omega)
      rw [ei]
      refine .inr ⟨_, rfl, .inr ⟨by simpa using h0, c, cap, _, by rw [List.length_map]; exact hcap, by rw [List.length_map], rfl⟩⟩
end Go.Proofs.YtbflmeomkfjikaaGreat.A



set_option linter.unusedVariables false
set_option linter.unusedSimpArgs false
set_option maxRecDepth 100000
namespace Go.Proofs.YtbflmeomkfjikaaGreat.A.E
open Go Go.RowKit Go.Shelf

abbrev catV (rows : List (List Fr)) : List PV := rows.map fun r => .sl false (frs r)
theorem cells_putF (A B : List Fr) {C : List Fr} (h : C = A ++ B) (K : Nat) : (flat (frs A) ++ List.replicate (K - (flat (frs A)).length) PV.junk).take (flat (frs A)).length ++ flat (frs B) ++ (flat (frs A) ++ List.replicate (K - (flat (frs A)).length) PV.junk).drop ((flat (frs A)).length + (flat (frs B)).length) = flat (frs C) ++ List.replicate (K - (flat (frs C)).length) PV.junk := by
  have e : flat (frs C) = flat (frs A) ++ flat (frs B) := by rw [h, frs, List.map_append, flat_append]
  rw [cells_put, e, List.length_append, Nat.sub_sub]
set_option maxHeartbeats 2000000 in
theorem okn114 (ex : Bool) (rows : List (List Fr)) (h0 : rows.flatten ≠ []) (h1 : rows.flatten.length ≤ 1000000) (h2 : rows.length ≤ 1000000) : OkN Tryz.prog 114 [.sl ex (catV rows)] (frs rows.flatten) := by
  have hlr : (catV rows).length = rows.length := by simp
  have hpos : 0 < rows.flatten.length := List.length_pos_iff.2 h0
  refine okn_fn mixed Tryz.func114 (code := ?_) (h := hN114) ?_ kN114 rfl (RFs_frs _) ?_
  rotate_left
  · exact rfl
  unfold hN114 initS
  simp -implicitDefEqProofs (maxSteps := 10000000) only [rkA, rkB, stepA, valA, simprocAttr, Tryz.ntmps114, Tryz.results114]
  refine wp_loop (fun m s => ∃ i, i + m = rows.length ∧ s = ⟨[.v (.sl ex (catV rows)), jk, jk, nt ((rows.take i).flatten.length : Nat), jk, jk, jk, jk, jk, .v (.sl ex (catV rows)), nt rows.length, nt i, jk, jk, jk, jk, jk, jk, jk, jk, jk, jk, jk, jk, jk, jk, jk, jk, jk, jk, jk, jk, jk, jk, jk, jk], [], [], [(2, 0)], [], 0, nomem⟩) rows.length ?_ ?_
  · simp -implicitDefEqProofs (maxSteps := 10000000) only [hlr, rkA, rkB, stepA, valA, simprocAttr]
    exact ⟨0, by simp, rfl⟩
  rintro m s ⟨i, hi, rfl⟩
  simp -implicitDefEqProofs (maxSteps := 10000000) only [rkA, rkB, stepA, valA, simprocAttr]
  refine gB_dec ?_ ?_ <;> intro hc <;> simp -implicitDefEqProofs (maxSteps := 10000000) only [hc, rkA, rkB, stepA, valA, simprocAttr]
  · have hlt : i < rows.length := by omega
    have h0i : (0 : Int) ≤ (i : Int) := by omega
    have hg : (catV rows)[i]? = some (.sl false (frs rows[i])) := by simp [hlt]
    have e1 := flatten_take_succ hlt
    have e2 := flatten_take_le rows (i + 1)
    have e3 : (rows.take (i + 1)).flatten.length = (rows.take i).flatten.length + rows[i].length := by rw [e1, List.length_append]
    have e4 : (frs rows[i]).length = rows[i].length := by simp
    have w1 : IntKind.wrap .i64 (((rows.take i).flatten.length : Nat) + (rows[i].length : Nat) : Int) = ((rows.take (i + 1)).flatten.length : Nat) := by rw [wrapped (by omega) (by omega)]; omega
    have w2 := wrapped (x := (i : Int) + 1) (by omega) (by omega)
    have g0 : ¬ (((rows.take (i + 1)).flatten.length : Nat) : Int) < 0 := by omega
    simp -implicitDefEqProofs (maxSteps := 10000000) only [h0i, Int.toNat_natCast, hg, e4, w1, w2, g0, rkA, rkB, stepA, valA, simprocAttr]
    refine loopK_of (m' := m - 1) (by omega) ?_
    simp -implicitDefEqProofs (maxSteps := 10000000) only [rkA, rkB, stepA, valA, simprocAttr]
    exact ⟨i + 1, by omega, by simp only [Int.natCast_add, Int.natCast_one]⟩
  · have ei : rows.take i = rows := List.take_of_length_le (by omega)
    simp only [ei]
    clear ei hc hi m
    refine lendNew_fn rfl rfl (Tells.same _ _) (okg158 rows.flatten.length (by omega) (by omega)) grown_rf ?_
    rintro r m' ⟨c, cap, hcap, rfl, rfl⟩ hfree
    simp -implicitDefEqProofs (maxSteps := 10000000) only [rkA, rkB, stepA, valA, simprocAttr]
    refine wp_loop (fun m s => ∃ (i : Nat) (mm : Mem), i + m = rows.length ∧ mm = nomem.put c (flat (frs (rows.take i).flatten) ++ List.replicate (cap * 4 - (flat (frs (rows.take i).flatten)).length) .junk) ∧
      s = ⟨[jk, jk, jk, jk, jk, jk, .v (.s (.slice (some ⟨c, 0, none⟩) (rows.take i).flatten.length cap)), jk, jk, jk, jk, jk, jk, jk, jk, jk, jk, jk, jk, jk, jk, jk, jk, jk, jk, .v (.sl ex (catV rows)), nt rows.length, nt i, jk, jk, jk, jk, jk, jk, jk, jk], [], [], [(2, 0)], [], 0, mm⟩) rows.length ?_ ?_
    · simp -implicitDefEqProofs (maxSteps := 10000000) only [hlr, rkA, rkB, stepA, valA, simprocAttr]
      exact ⟨0, _, by simp, rfl, rfl⟩
    rintro m s ⟨i, mm, hi, rfl, rfl⟩
    simp -implicitDefEqProofs (maxSteps := 10000000) only [rkA, rkB, stepA, valA, simprocAttr]
    refine gB_dec ?_ ?_ <;> intro hc <;> simp -implicitDefEqProofs (maxSteps := 10000000) only [hc, rkA, rkB, stepA, valA, simprocAttr]
    · have hlt : i < rows.length := by omega
      have h0i : (0 : Int) ≤ (i : Int) := by omega
      have hg : (catV rows)[i]? = some (.sl false (frs rows[i])) := by simp [hlt]
      have e1 := flatten_take_succ hlt
      have e2 := flatten_take_le rows (i + 1)
      have e3 : (rows.take (i + 1)).flatten.length = (rows.take i).flatten.length + rows[i].length := by rw [e1, List.length_append]
      have e4 : (frs rows[i]).length = rows[i].length := by simp
      have l1 : (flat (frs (rows.take i).flatten)).length = (rows.take i).flatten.length * 4 := by rw [flat_length (frs_cells _), List.length_map]
      have l2 : (flat (frs rows[i])).length = rows[i].length * 4 := by rw [flat_length (frs_cells _), List.length_map]
      have w2 := wrapped (x := (i : Int) + 1) (by omega) (by omega)
      have hmul : rows.flatten.length * 4 ≤ cap * 4 := Nat.mul_le_mul_right _ hcap
      have hput := cells_putF (rows.take i).flatten rows[i] e1 (cap * 4)
      simp -implicitDefEqProofs (maxSteps := 10000000) only [h0i, Int.toNat_natCast, hg, rkA, rkB, stepA, valA, simprocAttr]
      refine appIn_of rfl rfl (.same _) (RFs_frs _) (Mem.put_same _ _ _) (by rw [List.all_eq_true]; intro e he; obtain ⟨x, _, rfl⟩ := List.mem_map.1 he; rfl) (by rw [e4]; omega) (by simp only [List.length_append, List.length_replicate, l1, l2, Nat.zero_add]; omega) ?_
      rw [Nat.zero_add, ← l1, hput, e4, ← e3]
      simp -implicitDefEqProofs (maxSteps := 10000000) only [w2, rkA, rkB, stepA, valA, simprocAttr]
      refine loopK_of (m' := m - 1) (by omega) ?_
      simp -implicitDefEqProofs (maxSteps := 10000000) only [rkA, rkB, stepA, valA, simprocAttr]
      refine ⟨i + 1, _, by omega, rfl, ?_⟩
      simp only [Int.natCast_add, Int.natCast_one]
      congr 1
      funext d
      unfold Mem.put
      split <;> rfl
    · have ei : rows.take i = rows := List.take_of_length_le (by omega)
      rw [ei]
      refine .inr ⟨_, rfl, .inr ⟨by simpa using h0, c, cap, _, by rw [List.length_map]; exact hcap, by rw [List.length_map], rfl⟩⟩
end Go.Proofs.YtbflmeomkfjikaaGreat.A.E



set_option linter.unusedVariables false
set_option linter.unusedSimpArgs false
set_option maxRecDepth 100000
namespace Go.Proofs.YtbflmeomkfjikaaGreat.A
open Go Go.RowKit Go.Shelf

/-! ### States -/
abbrev stV (ex ep : Bool) (x : List PV) (r c : Int) (l : List PV) : PV := .agg [.sl ex x, num r, num c, .sl ep l]
abbrev stNil : PV := .agg [.s (.slice none 0 0), num 0, num 0, .s (.slice none 0 0)]
def stRight (k : Nat) (r c : Int) (n : Nat) : Bool := decide (1 ≤ k ∧ k ≤ 4) && (right r c n && (r == k && c == k))
theorem stRight_nat {k n : Nat} {m : Nat} (h : m = n * n) : stRight k n n m = decide (1 ≤ k ∧ k ≤ 4 ∧ k = n) := by
  by_cases hk : 1 ≤ k ∧ k ≤ 4
  · by_cases e : k = n
    · subst e
      have := right_nat (R := k) (K := k) (n := m) (by omega) (by omega) h
      simp [stRight, hk, this]
    · have e2 : ((n : Int) == (k : Int)) = false := by simp; omega
      simp [stRight, e2, e]
  · have : ¬ (1 ≤ k ∧ k ≤ 4 ∧ k = n) := by omega
    simp [stRight, hk, this]

/-! ### A new state -/
/-! ### Turned -/
def turnedF (n : Nat) (m p q : List Fr) : List Fr := mirF n (List.zipWith addF (prodF n n n (prodF n n n m p) (turnF n n m)) q)
end Go.Proofs.YtbflmeomkfjikaaGreat.A



set_option linter.unusedVariables false
set_option linter.unusedSimpArgs false
set_option maxRecDepth 100000
namespace Go.Proofs.YtbflmeomkfjikaaGreat.A.E
open Go Go.RowKit Go.Shelf

abbrev stV (ex ep : Bool) (x : List PV) (r c : Int) (l : List PV) : PV := .agg [.sl ex x, num r, num c, .sl ep l]
def turnedF (n : Nat) (m p q : List Fr) : List Fr := mirF n (List.zipWith addF (prodF n n n (prodF n n n m p) (turnF n n m)) q)
end Go.Proofs.YtbflmeomkfjikaaGreat.A.E



set_option linter.unusedVariables false
set_option linter.unusedSimpArgs false
set_option maxRecDepth 100000
namespace Go.Proofs.YtbflmeomkfjikaaGreat.A
open Go Go.RowKit Go.Shelf

/-! ### root: may a state be? -/
theorem ok50 (ex ep : Bool) (x l : List Fr) (r c : Int) : Ok Tryz.prog 50 [stV ex ep (frs x) r c (frs l)] (tru (stRight x.length r c l.length)) := by
  refine ok_fn mixed Tryz.func50 (code := ?_) (h := h50) ?_ k50 ?_
  rotate_left
  · exact rfl
  unfold h50 initS
  simp -implicitDefEqProofs (maxSteps := 10000000) only [rkA, rkB, stepA, valA, simprocAttr, Tryz.ntmps50, Tryz.results50]
  have e : (frs x).length = x.length := by simp
  have e' : (frs l).length = l.length := by simp
  by_cases hx : 1 ≤ x.length ∧ x.length ≤ 4
  · have h1 : (1 : Int) ≤ (x.length : Int) := by omega
    have h2 : (x.length : Int) ≤ 4 := by omega
    simp -implicitDefEqProofs (maxSteps := 10000000) only [e, h1, h2, rkA, rkB, stepA, valA, simprocAttr]
    refine call_fn rfl rfl rfl (ok100 ep r c (frs l)) ?_
    rw [e']
    cases hr : right r c l.length with
    | false => simp -implicitDefEqProofs (maxSteps := 10000000) only [stRight, hx, hr, rkA, rkB, stepA, valA, simprocAttr]
    | true =>
      simp -implicitDefEqProofs (maxSteps := 10000000) only [rkA, rkB, stepA, valA, simprocAttr]
      cases h3 : (r == (x.length : Int)) with
      | false => simp -implicitDefEqProofs (maxSteps := 10000000) only [stRight, hx, hr, h3, rkA, rkB, stepA, valA, simprocAttr]
      | true => simp -implicitDefEqProofs (maxSteps := 10000000) only [stRight, hx, hr, h3, rkA, rkB, stepA, valA, simprocAttr]
  · have hs : stRight x.length r c l.length = false := by simp -implicitDefEqProofs (maxSteps := 10000000) only [stRight, hx, rkA, rkB, stepA, valA, simprocAttr]
    rw [hs]
    by_cases h1 : 1 ≤ x.length
    · have h1' : (1 : Int) ≤ (x.length : Int) := by omega
      have h2 : ¬ (x.length : Int) ≤ 4 := by omega
      simp -implicitDefEqProofs (maxSteps := 10000000) only [e, h1', h2, rkA, rkB, stepA, valA, simprocAttr]
    · have h1' : ¬ (1 : Int) ≤ (x.length : Int) := by omega
      simp -implicitDefEqProofs (maxSteps := 10000000) only [e, h1', rkA, rkB, stepA, valA, simprocAttr]

/-! ### Update -/
abbrev newsV' (e a : Fr) : PV := .agg [num e.n, num e.d, tru e.bad, num a.n, num a.d, tru a.bad]
/-- Behind t columns: the rows, what was gathered, and the spread. -/
def upK (n : Nat) (M : Nat → Nat → Fr) (W : Nat → Fr) (r : Fr) : Nat → (Nat → Nat → Fr) × (Nat → Fr) × Fr
  | 0 => (M, fun _ => newF 0 1, r)
  | t + 1 =>
    let p := upK n M W r t
    let j := n - 1 - t
    let b := addF p.2.2 (mulF (W j) (W j))
    (colM p.1 p.2.1 j (rootD p.2.2 b) (rootC (W j) p.2.2 b) n, colE p.1 p.2.1 j (W j) n, b)
theorem upK_succ {n j : Nat} (M : Nat → Nat → Fr) (W : Nat → Fr) (r : Fr) {t : Nat} (h : n - 1 - t = j) : upK n M W r (t + 1) =
    (colM (upK n M W r t).1 (upK n M W r t).2.1 j (rootD (upK n M W r t).2.2 (addF (upK n M W r t).2.2 (mulF (W j) (W j)))) (rootC (W j) (upK n M W r t).2.2 (addF (upK n M W r t).2.2 (mulF (W j) (W j)))) n,
      colE (upK n M W r t).1 (upK n M W r t).2.1 j (W j) n, addF (upK n M W r t).2.2 (mulF (W j) (W j))) := by
  subst h
  rfl
def dotsR (n : Nat) (l h : List Fr) (j : Nat) : Fr := dotF (rowF n n (turnF n n l) j) h
def upR (n : Nat) (l h : List Fr) (r : Fr) : (Nat → Nat → Fr) × (Nat → Fr) × Fr := upK n (startF n n l) (dotsR n l h) r n
def upRS (n : Nat) (l h : List Fr) (r : Fr) : List Fr := ((List.range n).map (rowM n (upR n l h r).1)).flatten
def upRK (n : Nat) (l h : List Fr) (r : Fr) : List Fr := (List.range n).map fun i => divF ((upR n l h r).2.1 i) (upR n l h r).2.2
def upRX (n : Nat) (x l h : List Fr) (r z : Fr) : List Fr := List.zipWith addF x ((upRK n l h r).map (mulF · (subF z (dotF h x))))
theorem upRS_len (n : Nat) (l h : List Fr) (r : Fr) : (upRS n l h r).length = n * n := by
  unfold upRS
  rw [List.length_flatten, List.map_map]
  have e : ∀ k : List Nat, (k.map (List.length ∘ rowM n (upR n l h r).1)).sum = k.length * n := fun k => by
    induction k with
    | nil => simp
    | cons x k ih => rw [List.map_cons, List.sum_cons, ih, List.length_cons, Nat.succ_mul, Nat.add_comm]; show k.length * n + (rowM n (upR n l h r).1 x).length = _; rw [rowM_length]
  rw [e, List.length_range]
/-- Rows in memory, told as values. -/
theorem tells_rows {m : Mem} {c cap q : Nat → Nat} {n w : Nat} {M : Nat → Nat → Fr} (ex : Bool) (h : RowsC m c q n w M) (hcap : ∀ i, i < n → w ≤ cap i) : Tell m (.sl ex ((List.range n).map (rawC c cap w))) (.sl ex (catV ((List.range n).map (rowM w M)))) := by
  have h1 : ∀ l : List Nat, ∀ x ∈ l.map (rawC c cap w), x.cells = [x] := fun l x hx => by
    obtain ⟨i, _, rfl⟩ := List.mem_map.1 hx
    rfl
  have h2 : ∀ l : List (List Fr), ∀ x ∈ catV l, x.cells = [x] := fun l x hx => by
    obtain ⟨i, _, rfl⟩ := List.mem_map.1 hx
    rfl
  refine .slIn (sz := 1) (fun x hx => by rw [h1 _ x hx]; rfl) (fun x hx => by rw [h2 _ x hx]; rfl) (by simp) ?_
  rw [flat_one (h1 _), flat_one (h2 _), catV, List.map_map]
  refine tells_map fun i hi => ?_
  have hi' := List.mem_range.1 hi
  have := tell_row (m := m) (b := c i) (cap := cap i) (q := q i) (l := rowM w M i) (h.row i hi') (by rw [List.length_map, rowM_length]; exact hcap i hi')
  rw [List.length_map, rowM_length] at this
  exact this
theorem newMat_rf {r c : Int} {l : List PV} (hl : RFs (flat l) = true) : ∀ x m', NewMat r c l x m' → RF x = true ∧ ∀ b cells, m' b = some cells → RFs cells = true := by
  rintro x m' ⟨b, cap, q, _, rfl, rfl⟩
  refine ⟨rfl, fun d cells hd => ?_⟩
  by_cases e : d = b
  · subst e
    rw [Mem.put_same] at hd
    cases hd
    exact RFs_append hl (RFs_replicate q)
  · rw [Mem.put_other _ _ e] at hd
    cases hd
set_option maxHeartbeats 4000000 in
theorem ok59 (ex ep eh : Bool) (n : Nat) (x l h : List Fr) (r z : Fr) (hn : 1 ≤ n ∧ n ≤ 4) (hx : x.length = n) (hl : l.length = n * n) (hh : h.length = n) :
    Ok Tryz.prog 59 [stV ex ep (frs x) n n (frs l), .sl eh (frs h), frV r, frV z] (.tup [stV false false (frs (upRX n x l h r z)) n n (frs (upRS n l h r)), newsV' (subF z (dotF h x)) (upR n l h r).2.2, tru true]) := by
  have hn' : 1 ≤ n ∧ n ≤ 16 := by omega
  have hr : right (n : Int) (n : Int) l.length = true := right_sq hn' hl
  refine okt_fn mixed Tryz.func59 (code := ?_) (h := h59) ?_ k59 ?_
  rotate_left
  · exact rfl
  unfold h59 initS
  simp -implicitDefEqProofs (maxSteps := 10000000) only [rkA, rkB, stepA, valA, simprocAttr, Tryz.ntmps59, Tryz.results59]
  have h6 := ok50 ex ep x l n n
  rw [stRight_nat hl, decide_eq_true (show 1 ≤ x.length ∧ x.length ≤ 4 ∧ x.length = n by omega)] at h6
  refine call_fn rfl rfl rfl (h6) ?_
  have lx : (frs x).length = n := by simp [hx]
  have lh : (frs h).length = n := by simp [hh]
  simp -implicitDefEqProofs (maxSteps := 10000000) only [lx, lh, bne_self_eq_false, rkA, rkB, stepA, valA, simprocAttr]
  refine call_fn rfl rfl rfl (ok98 ep n n l) ?_
  simp -implicitDefEqProofs (maxSteps := 10000000) only [rkA, rkB, stepA, valA, simprocAttr]
  refine wp_rfM' (items := rowItems n n l) rfl (itm150 ep n n l hr) (fun sv i s => i ≤ n ∧ ∃ mm c cap q, RowsC mm c q i n (startF n n l) ∧ (∀ a, a < i → n ≤ cap a) ∧ s = ⟨[], [(4, [.v (.sl ex (frs x)), nt n, nt n, .v (.sl ep (frs l))]), (5, [.v (.sl eh (frs h))]), (6, [nt r.n, nt r.d, .v (tru r.bad)]), (7, [nt z.n, nt z.d, .v (tru z.bad)]), (8, [.acc 1008 [], nt 0, nt 0, .acc 4008 []]), (9, [nt 0, nt 0, .v (tru false), nt 0, nt 0, .v (tru false)]), (12, [.acc 1012 ((List.range i).map (rawC c cap n))]), (13, [.acc 1013 []])], [], [(1008, 0), (1012, i), (1013, 0), (4008, 0)], sv, 0, mm⟩) ?_ ?_ ?_
  · simp -implicitDefEqProofs (maxSteps := 10000000) only [rkA, rkB, stepA, valA, simprocAttr]
    exact ⟨Nat.zero_le _, nomem, fun _ => 0, fun _ => 0, fun _ => 0, ⟨fun i h => by omega, fun i j h => by omega⟩, fun a h => by omega, rfl⟩
  · rintro i x' p m s' R hx' ⟨hi, mm, c, cap, q, hM, hcap, rfl⟩ hxm hfr hR
    have hlt : i < n := by
      have := (List.getElem?_eq_some_iff.1 hx').1
      simpa [rowItems] using this
    have hxe : x' = rowItem n n l i := by
      rw [rowItems, List.getElem?_map, List.getElem?_range (by simpa using hlt), Option.map_some] at hx'
      exact (Option.some.inj hx').symm
    subst hxe
    obtain ⟨b, cp, z', h1, rfl, rfl⟩ := hxm
    have hb : mm b = none := hfr b (by rw [Mem.put_same]; rfl)
    have lr : (frs (rowF n n l i)).length = n := by rw [List.length_map, row_start hr hlt, rowM_length]
    rw [lr] at h1
    rw [lr, row_start hr hlt]
    refine ⟨rfl, ?_⟩
    have hfit := fits_raw c cap n i (.s (.slice (some ⟨b, 0, none⟩) n cp)) ⟨_, _, _, rfl⟩ (by omega)
    have hll : ((List.range i).map (rawC c cap n)).length = i := by simp
    simp -implicitDefEqProofs (maxSteps := 10000000) only [hfit, hll, raw_grow, rkA, rkB, stepA, valA, simprocAttr]
    refine hR _ ⟨by omega, _, _, _, _, hM.grow (z := z') hb, fun a ha => ?_, rfl⟩
    by_cases e : a = i
    · simp only [e, if_true]; exact h1
    · simp only [e, if_false]; exact hcap a (by omega)
  rintro s' ⟨hi, mm, c, cap, q, hM, hcap, rfl⟩
  have li : (rowItems n n l).length = n := by simp [rowItems]
  rw [li] at hM hcap ⊢
  clear hi
  simp -implicitDefEqProofs (maxSteps := 10000000) only [rkA, rkB, stepA, valA, simprocAttr]
  have h25 := ok119 ep n n l
  rw [if_pos hr] at h25
  refine call_fn rfl rfl rfl (h25) ?_
  simp -implicitDefEqProofs (maxSteps := 10000000) only [rkA, rkB, stepA, valA, simprocAttr]
  have hrt := right_turn hr
  refine call_fn rfl rfl rfl (ok98 false n n (turnF n n l)) ?_
  simp -implicitDefEqProofs (maxSteps := 10000000) only [rkA, rkB, stepA, valA, simprocAttr]
  have lt : (rowsF n n (turnF n n l)).length = n := by rw [rowsF_length hrt, Int.toNat_natCast]
  refine wp_rf' (items := rowsF n n (turnF n n l)) rfl (it150 false n n (turnF n n l)) (fun sv i s => i ≤ n ∧ s = ⟨[], [(4, [.v (.sl ex (frs x)), nt n, nt n, .v (.sl ep (frs l))]), (5, [.v (.sl eh (frs h))]), (6, [nt r.n, nt r.d, .v (tru r.bad)]), (7, [nt z.n, nt z.d, .v (tru z.bad)]), (8, [.acc 1008 [], nt 0, nt 0, .acc 4008 []]), (9, [nt 0, nt 0, .v (tru false), nt 0, nt 0, .v (tru false)]), (12, [.acc 1012 ((List.range n).map (rawC c cap n))]), (13, [.acc 1013 (frs ((List.range i).map (dotsR n l h)))])], [], [(1008, 0), (1012, n), (1013, i), (4008, 0)], sv, 0, mm⟩) ?_ ?_ ?_
  · simp -implicitDefEqProofs (maxSteps := 10000000) only [rkA, rkB, stepA, valA, simprocAttr]
    exact Nat.zero_le _
  · rintro i x' s' R hx' ⟨hi, rfl⟩ hR
    obtain ⟨hlt, rfl, hxa⟩ := rowsF_all hrt hx'
    rw [Int.toNat_natCast] at hlt
    have hrl := rowF_len hrt (i := i) (by simpa using hlt)
    rw [Int.toNat_natCast] at hrl
    refine ⟨rfl, ?_⟩
    simp -implicitDefEqProofs (maxSteps := 10000000) only [rkA, rkB, stepA, valA, simprocAttr]
    refine call_fn rfl rfl rfl (ok76 false eh (rowF n n (turnF n n l) i) h (by omega) (by omega)) ?_
    have hd : dotF (rowF n n (turnF n n l) i) h = dotsR n l h i := rfl
    have hfit : fits 3 24 (frs ((List.range i).map (dotsR n l h))) [frV (dotsR n l h i)] = true := fits_frs (l := [dotsR n l h i]) (by simp; omega)
    have hll : (frs ((List.range i).map (dotsR n l h))).length = i := by simp
    simp -implicitDefEqProofs (maxSteps := 10000000) only [hd, hfit, hll, rkA, rkB, stepA, valA, simprocAttr]
    refine hR _ ⟨by omega, ?_⟩
    rw [List.range_succ, List.map_append]
    simp only [frs, List.map_append, List.map_cons, List.map_nil]
  rintro s' ⟨hi, rfl⟩
  rw [lt]
  clear hi
  simp -implicitDefEqProofs (maxSteps := 10000000) only [rkA, rkB, stepA, valA, simprocAttr]
  refine new_make (T := 24) (N := 3) rfl rfl rfl rfl rfl (by omega) (by omega) (by omega) ?_
  intro b hb
  have hb' : mm b = none := hb
  have hcb : ∀ i, i < n → c i ≠ b := fun i hi e => by have := hM.row i hi; rw [e, hb'] at this; cases this
  have n0 : (0 : Int) ≤ (n : Int) := by omega
  have n1 : (n : Int) * 8 ≤ 140737488355328 := by omega
  have n2 : (n : Int) ≤ 16777216 := by omega
  simp -implicitDefEqProofs (maxSteps := 10000000) only [Int.toNat_natCast, flat_zeros, n0, n1, n2, rkA, rkB, stepA, valA, simprocAttr]
  have h35 := ok39 true (List.replicate n 0) (by simp; omega)
  rw [List.map_replicate, List.map_replicate] at h35
  refine call_fn rfl rfl rfl (h35) ?_
  simp -implicitDefEqProofs (maxSteps := 10000000) only [rkA, rkB, stepA, valA, simprocAttr]
  have lz : (flat (frs (List.replicate n (⟨0, 0, false⟩ : Fr)))).length = n * 3 := by rw [flat_length (frs_cells _)]; simp
  have lf : (flat (frs (List.replicate n (newF 0 1)))).length = n * 3 := by rw [flat_length (frs_cells _)]; simp
  refine copy_of (ys := frs (List.replicate n (newF 0 1))) rfl rfl (.same _) (RFs_frs _) (Mem.put_same _ _ _) (frs_ok _) (by simp) (by rw [lz, lf]; omega) ?_
  have hdr : (flat (frs (List.replicate n (⟨0, 0, false⟩ : Fr)))).drop (flat (frs (List.replicate n (newF 0 1)))).length = [] := List.drop_of_length_le (by rw [lz, lf]; omega)
  have hM2 : RowsC ((mm.put b (flat (frs (List.replicate n (⟨0, 0, false⟩ : Fr))))).put b (flat (frs (List.replicate n (newF 0 1))))) c q n n (startF n n l) := (hM.other hcb).other hcb
  have hrep : List.replicate n (newF 0 1) = (List.range n).map (fun _ => newF 0 1) := by
    apply List.ext_getElem?
    intro i
    by_cases hi : i < n
    · simp [hi]
    · rw [List.getElem?_eq_none (by simp; omega), List.getElem?_eq_none (by simp; omega)]
  have hE2 : ((mm.put b (flat (frs (List.replicate n (⟨0, 0, false⟩ : Fr))))).put b (flat (frs (List.replicate n (newF 0 1))))) b = some (flat (frs ((List.range n).map (upK n (startF n n l) (dotsR n l h) r 0).2.1))) := by
    rw [Mem.put_same, hrep]
    rfl
  generalize hmm : (mm.put b (flat (frs (List.replicate n (⟨0, 0, false⟩ : Fr))))).put b (flat (frs (List.replicate n (newF 0 1)))) = mm1 at hM2 hE2
  have w1 := wrapped (x := (n : Int) - 1) (by omega) (by omega)
  simp -implicitDefEqProofs (maxSteps := 10000000) only [Nat.zero_add, hdr, List.append_nil, hmm, w1, rkA, rkB, stepA, valA, simprocAttr]
  clear hmm hb hb' hM hrep hdr lz lf
  refine wp_loop (fun m s => ∃ (t : Nat) (mm : Mem) (A : Fr), t + m = n ∧ A = (upK n (startF n n l) (dotsR n l h) r t).2.2 ∧ RowsC mm c q n n (upK n (startF n n l) (dotsR n l h) r t).1 ∧ mm b = some (flat (frs ((List.range n).map (upK n (startF n n l) (dotsR n l h) r t).2.1))) ∧
    s = ⟨[jk, jk, jk, jk, .ptr 4 0, .ptr 5 0, jk, .ptr 7 0, .ptr 8 0, .ptr 9 0, jk, nt n, .ptr 12 0, .ptr 13 0, jk, jk, jk, jk, .v (.s (.slice (some ⟨b, 0, none⟩) n n)), .ptr 19 0, nt ((m : Int) - 1), jk, jk, jk, jk, jk, jk, jk, jk, jk, jk, jk, jk, jk, jk, jk, jk, jk, jk, jk, jk, jk, jk, jk, jk, jk, jk, jk, jk, jk, jk, jk, jk, jk, jk, jk, jk, jk, jk, jk, jk, jk, jk, jk, jk, jk, jk, jk, jk, jk, jk, jk, jk, jk, jk, jk, jk, jk, jk, jk, jk, jk, jk, jk, jk, jk, jk, jk, jk, jk, jk, jk, jk, jk, jk, jk, jk, jk, jk, jk, jk, jk, jk, jk, jk, jk, jk, jk, jk, jk, jk, jk, jk, jk, jk, jk, jk, jk, jk, jk, jk, jk, jk, jk, jk, jk, jk, jk, jk, jk, jk, jk, jk, jk, jk, jk, jk, jk, jk, jk, jk, jk],
      [(4, [.v (.sl ex (frs x)), nt n, nt n, .v (.sl ep (frs l))]), (5, [.v (.sl eh (frs h))]), (6, [nt r.n, nt r.d, .v (tru r.bad)]), (7, [nt z.n, nt z.d, .v (tru z.bad)]), (8, [.acc 1008 [], nt 0, nt 0, .acc 4008 []]), (9, [nt 0, nt 0, .v (tru false), nt 0, nt 0, .v (tru false)]), (12, [.acc 1012 ((List.range n).map (rawC c cap n))]), (13, [.acc 1013 (frs ((List.range n).map (dotsR n l h)))]), (19, [nt A.n, nt A.d, .v (tru A.bad)])], [], [(1008, 0), (1012, n), (1013, n), (4008, 0)], [], 0, mm⟩) n ?_ ?_
  · simp -implicitDefEqProofs (maxSteps := 10000000) only [rkA, rkB, stepA, valA, simprocAttr]
    exact ⟨0, mm1, r, by omega, rfl, hM2, hE2, rfl⟩
  clear hM2 hE2 mm1
  rintro m s ⟨t, mm, A, htm, hA, hM, hE, rfl⟩
  simp -implicitDefEqProofs (maxSteps := 10000000) only [rkA, rkB, stepA, valA, simprocAttr]
  refine gB_dec ?_ ?_ <;> intro hc <;> simp -implicitDefEqProofs (maxSteps := 10000000) only [hc, rkA, rkB, stepA, valA, simprocAttr]
  · obtain ⟨j, rfl⟩ : ∃ j, m = j + 1 := ⟨m - 1, by omega⟩
    have hj : j < n := by omega
    have ej : ((j + 1 : Nat) : Int) - 1 = (j : Int) := by omega
    have h0j : (0 : Int) ≤ (j : Int) := by omega
    have gw : (frs ((List.range n).map (dotsR n l h)))[j]? = some (frV (dotsR n l h j)) := by simp [hj]
    simp -implicitDefEqProofs (maxSteps := 10000000) only [ej, h0j, Int.toNat_natCast, gw, rkA, rkB, stepA, valA, simprocAttr]
    refine call_meth rfl rfl methMul (ok213 _ _) ?_
    simp -implicitDefEqProofs (maxSteps := 10000000) only [rkA, rkB, stepA, valA, simprocAttr]
    refine call_meth rfl rfl methAdd (ok210 _ _) ?_
    simp -implicitDefEqProofs (maxSteps := 10000000) only [h0j, Int.toNat_natCast, gw, rkA, rkB, stepA, valA, simprocAttr]
    generalize hB : addF A (mulF (dotsR n l h j) (dotsR n l h j)) = B
    refine mem_fn rfl rfl rfl (okm120 false n j hj (by omega) _ _ (dotsR n l h j) A B c cap q hcap b mm hM hE hcb) ?_
    rintro r' m' ⟨hM', hE'⟩
    have w2 := wrapped (x := (j : Int) - 1) (by omega) (by omega)
    simp -implicitDefEqProofs (maxSteps := 10000000) only [w2, rkA, rkB, stepA, valA, simprocAttr]
    refine loopK_of (m' := j) (by omega) ?_
    simp -implicitDefEqProofs (maxSteps := 10000000) only [rkA, rkB, stepA, valA, simprocAttr]
    have hup := upK_succ (startF n n l) (dotsR n l h) r (show n - 1 - t = j by omega)
    rw [← hA, hB] at hup
    exact ⟨t + 1, m', B, by omega, by rw [hup], by rw [hup]; exact hM', by rw [hup]; exact hE', rfl⟩
  · have ht : t = n := by omega
    rw [ht] at hA hM hE
    refine call_fn rfl rfl rfl (ok76 eh ex h x (by omega) (by omega)) ?_
    simp -implicitDefEqProofs (maxSteps := 10000000) only [rkA, rkB, stepA, valA, simprocAttr]
    refine call_meth rfl rfl methSub (ok218 _ _) ?_
    generalize hz : subF z (dotF h x) = Z
    generalize hU : upK n (startF n n l) (dotsR n l h) r n = U at hA hM hE
    have hUR : upR n l h r = U := hU
    simp -implicitDefEqProofs (maxSteps := 10000000) only [rkA, rkB, stepA, valA, simprocAttr]
    have hkl : ((List.range n).map fun i => divF (U.2.1 i) A).length = n := by simp
    refine wp_loop (fun m s => ∃ (i : Nat), i + m = n ∧
      s = ⟨[jk, jk, jk, jk, .ptr 4 0, jk, jk, jk, .ptr 8 0, .ptr 9 0, jk, nt n, .ptr 12 0, jk, jk, jk, jk, jk, jk, .ptr 19 0, jk, jk, .ptr 22 0, .acc 23 (frs ((List.range i).map fun i => divF (U.2.1 i) A)), jk, jk, jk, jk, jk, jk, jk, jk, jk, jk, jk, jk, jk, jk, jk, jk, jk, jk, jk, jk, jk, jk, jk, jk, jk, jk, jk, jk, jk, jk, jk, jk, jk, jk, jk, jk, jk, jk, jk, jk, jk, jk, jk, jk, jk, jk, jk, jk, jk, jk, jk, jk, jk, jk, jk, jk, jk, jk, jk, jk, jk, jk, jk, jk, jk, jk, jk, jk, jk, jk, jk, jk, jk, jk, jk, jk, jk, jk, jk, jk, jk, jk, jk, jk, jk, jk, .v (.s (.slice (some ⟨b, 0, none⟩) n n)), nt n, nt i, jk, jk, jk, jk, jk, jk, jk, jk, jk, jk, jk, jk, jk, jk, jk, jk, jk, jk, jk, jk, jk, jk, jk, jk, jk, jk, jk, jk, jk],
        [(4, [.v (.sl ex (frs x)), nt n, nt n, .v (.sl ep (frs l))]), (5, [.v (.sl eh (frs h))]), (6, [nt r.n, nt r.d, .v (tru r.bad)]), (7, [nt z.n, nt z.d, .v (tru z.bad)]), (8, [.acc 1008 [], nt 0, nt 0, .acc 4008 []]), (9, [nt 0, nt 0, .v (tru false), nt 0, nt 0, .v (tru false)]), (12, [.acc 1012 ((List.range n).map (rawC c cap n))]), (13, [.acc 1013 (frs ((List.range n).map (dotsR n l h)))]), (19, [nt A.n, nt A.d, .v (tru A.bad)]), (22, [nt Z.n, nt Z.d, .v (tru Z.bad), nt A.n, nt A.d, .v (tru A.bad)])], [], [(23, i), (1008, 0), (1012, n), (1013, n), (4008, 0)], [], 0, mm⟩) n ?_ ?_
    · simp -implicitDefEqProofs (maxSteps := 10000000) only [rkA, rkB, stepA, valA, simprocAttr]
      exact ⟨0, by omega, rfl⟩
    rintro m s ⟨i, him, rfl⟩
    simp -implicitDefEqProofs (maxSteps := 10000000) only [rkA, rkB, stepA, valA, simprocAttr]
    refine gB_dec ?_ ?_ <;> intro hc <;> simp -implicitDefEqProofs (maxSteps := 10000000) only [hc, rkA, rkB, stepA, valA, simprocAttr]
    · have hi : i < n := by omega
      have h0i : (0 : Int) ≤ (i : Int) := by omega
      have hin : (i : Int) < (n : Int) := by omega
      have hle : ((List.range n).map U.2.1)[i]? = some (U.2.1 i) := by simp [hi]
      have hlde := ldM_fr hle
      simp -implicitDefEqProofs (maxSteps := 10000000) only [h0i, hin, Int.toNat_natCast, addr_add, Nat.zero_add, hE, hlde, rkA, rkB, stepA, valA, simprocAttr]
      refine call_meth rfl rfl methDiv (ok211 _ _) ?_
      have hfit : fits 3 24 (frs ((List.range i).map fun i => divF (U.2.1 i) A)) [frV (divF (U.2.1 i) A)] = true := fits_frs (l := [divF (U.2.1 i) A]) (by simp; omega)
      have hll : (frs ((List.range i).map fun i => divF (U.2.1 i) A)).length = i := by simp
      have hw := wrapped (x := (i : Int) + 1) (by omega) (by omega)
      simp -implicitDefEqProofs (maxSteps := 10000000) only [hfit, hll, hw, rkA, rkB, stepA, valA, simprocAttr]
      refine loopK_of (m' := m - 1) (by omega) ?_
      simp -implicitDefEqProofs (maxSteps := 10000000) only [rkA, rkB, stepA, valA, simprocAttr]
      refine ⟨i + 1, by omega, ?_⟩
      rw [List.range_succ, List.map_append]
      simp only [frs, List.map_append, List.map_cons, List.map_nil, Int.natCast_add, Int.natCast_one]
    · have hin : i = n := by omega
      rw [hin]
      have hcat : ((List.range n).map (rowM n U.1)).flatten = upRS n l h r := by rw [upRS, hUR]
      have hcl := upRS_len n l h r
      have hsq := side16 (n := n) (m := n) (by omega) (by omega)
      have hpos : 0 < n * n := Nat.mul_pos (by omega) (by omega)
      have hne : upRS n l h r ≠ [] := fun e => by rw [e] at hcl; simp at hcl; omega
      have hcc := okn121 false ((List.range n).map (rowM n U.1)) (by rw [hcat]; exact hne) (by rw [hcat, hcl]; omega) (by simp; omega)
      rw [hcat] at hcc
      refine newRow_fn rfl rfl (.cons (tells_rows false hM hcap) .nil) hcc (RFs_frs _) (by simpa using hne) ?_
      intro c2 cap2 q2 hc2 hcap2
      simp -implicitDefEqProofs (maxSteps := 10000000) only [rkA, rkB, stepA, valA, simprocAttr]
      have hrs : right (n : Int) (n : Int) (upRS n l h r).length = true := right_sq hn' hcl
      refine lendNew_fn rfl rfl (.cons (.same _) (.cons (.same _) (.cons (tell_row (Mem.put_same _ _ _) hcap2) .nil))) (okm71 n n false (upRS n l h r) hrs) (newMat_rf (RFs_frs _)) ?_
      rintro y m' ⟨b3, cap3, q3, hcap3, rfl, rfl⟩ hfr
      simp -implicitDefEqProofs (maxSteps := 10000000) only [rkA, rkB, stepA, valA, simprocAttr]
      have hk : ((List.range n).map fun i => divF (U.2.1 i) A) = upRK n l h r := by rw [upRK, hUR, ← hA]
      have hkl : (upRK n l h r).length = n := by simp [upRK]
      rw [hk]
      refine call_fn rfl rfl rfl (ok123 false (upRK n l h r) Z (by omega)) ?_
      simp -implicitDefEqProofs (maxSteps := 10000000) only [rkA, rkB, stepA, valA, simprocAttr]
      refine call_fn rfl rfl rfl (ok122 ex false x ((upRK n l h r).map (mulF · Z)) (by omega) (by simp; omega)) ?_
      simp -implicitDefEqProofs (maxSteps := 10000000) only [rkA, rkB, stepA, valA, simprocAttr]
      refine ⟨_, rfl, ?_⟩
      rw [upRX, hz, hUR, ← hA]
      exact .tup (.cons (.agg (.cons (.same _) (.cons (.same _) (.cons (.same _) (.cons (tell_row (Mem.put_same _ _ _) hcap3) .nil))))) (.cons (.same _) (.cons (.same _) .nil)))
end Go.Proofs.YtbflmeomkfjikaaGreat.A



set_option linter.unusedVariables false
set_option linter.unusedSimpArgs false
set_option maxRecDepth 100000
namespace Go.Proofs.YtbflmeomkfjikaaGreat.A.E
open Go Go.RowKit Go.Shelf

theorem ok62 (ex ep : Bool) (x l : List Fr) (r c : Int) : Ok Tryz.prog 62 [stV ex ep (frs x) r c (frs l)] (tru (stRight x.length r c l.length)) := by
  refine ok_fn mixed Tryz.func62 (code := ?_) (h := h62) ?_ k62 ?_
  rotate_left
  · exact rfl
  unfold h62 initS
  simp -implicitDefEqProofs (maxSteps := 10000000) only [rkA, rkB, stepA, valA, simprocAttr, Tryz.ntmps62, Tryz.results62]
  have e : (frs x).length = x.length := by simp
  have e' : (frs l).length = l.length := by simp
  by_cases hx : 1 ≤ x.length ∧ x.length ≤ 4
  · have h1 : (1 : Int) ≤ (x.length : Int) := by omega
    have h2 : (x.length : Int) ≤ 4 := by omega
    simp -implicitDefEqProofs (maxSteps := 10000000) only [e, h1, h2, rkA, rkB, stepA, valA, simprocAttr]
    refine call_fn rfl rfl rfl (ok88 ep r c (frs l)) ?_
    rw [e']
    cases hr : right r c l.length with
    | false => simp -implicitDefEqProofs (maxSteps := 10000000) only [stRight, hx, hr, rkA, rkB, stepA, valA, simprocAttr]
    | true =>
      simp -implicitDefEqProofs (maxSteps := 10000000) only [rkA, rkB, stepA, valA, simprocAttr]
      cases h3 : (r == (x.length : Int)) with
      | false => simp -implicitDefEqProofs (maxSteps := 10000000) only [stRight, hx, hr, h3, rkA, rkB, stepA, valA, simprocAttr]
      | true => simp -implicitDefEqProofs (maxSteps := 10000000) only [stRight, hx, hr, h3, rkA, rkB, stepA, valA, simprocAttr]
  · have hs : stRight x.length r c l.length = false := by simp -implicitDefEqProofs (maxSteps := 10000000) only [stRight, hx, rkA, rkB, stepA, valA, simprocAttr]
    rw [hs]
    by_cases h1 : 1 ≤ x.length
    · have h1' : (1 : Int) ≤ (x.length : Int) := by omega
      have h2 : ¬ (x.length : Int) ≤ 4 := by omega
      simp -implicitDefEqProofs (maxSteps := 10000000) only [e, h1', h2, rkA, rkB, stepA, valA, simprocAttr]
    · have h1' : ¬ (1 : Int) ≤ (x.length : Int) := by omega
      simp -implicitDefEqProofs (maxSteps := 10000000) only [e, h1', rkA, rkB, stepA, valA, simprocAttr]

abbrev newsV' (e a : Fr) : PV := .agg [num e.v, num e.lo, num e.hi, tru e.bad, num a.v, num a.lo, num a.hi, tru a.bad]
/-- Behind t columns: the rows, what was gathered, and the spread. -/
def upK (n : Nat) (M : Nat → Nat → Fr) (W : Nat → Fr) (r : Fr) : Nat → (Nat → Nat → Fr) × (Nat → Fr) × Fr
  | 0 => (M, fun _ => newF 0 1, r)
  | t + 1 =>
    let p := upK n M W r t
    let j := n - 1 - t
    let b := addF p.2.2 (mulF (W j) (W j))
    (colM p.1 p.2.1 j (rootD p.2.2 b) (rootC (W j) p.2.2 b) n, colE p.1 p.2.1 j (W j) n, b)
theorem upK_succ {n j : Nat} (M : Nat → Nat → Fr) (W : Nat → Fr) (r : Fr) {t : Nat} (h : n - 1 - t = j) : upK n M W r (t + 1) =
    (colM (upK n M W r t).1 (upK n M W r t).2.1 j (rootD (upK n M W r t).2.2 (addF (upK n M W r t).2.2 (mulF (W j) (W j)))) (rootC (W j) (upK n M W r t).2.2 (addF (upK n M W r t).2.2 (mulF (W j) (W j)))) n,
      colE (upK n M W r t).1 (upK n M W r t).2.1 j (W j) n, addF (upK n M W r t).2.2 (mulF (W j) (W j))) := by
  subst h
  rfl
def dotsR (n : Nat) (l h : List Fr) (j : Nat) : Fr := dotF (rowF n n (turnF n n l) j) h
def upR (n : Nat) (l h : List Fr) (r : Fr) : (Nat → Nat → Fr) × (Nat → Fr) × Fr := upK n (startF n n l) (dotsR n l h) r n
def upRS (n : Nat) (l h : List Fr) (r : Fr) : List Fr := ((List.range n).map (rowM n (upR n l h r).1)).flatten
def upRK (n : Nat) (l h : List Fr) (r : Fr) : List Fr := (List.range n).map fun i => divF ((upR n l h r).2.1 i) (upR n l h r).2.2
def upRX (n : Nat) (x l h : List Fr) (r z : Fr) : List Fr := List.zipWith addF x ((upRK n l h r).map (mulF · (subF z (dotF h x))))
theorem upRS_len (n : Nat) (l h : List Fr) (r : Fr) : (upRS n l h r).length = n * n := by
  unfold upRS
  rw [List.length_flatten, List.map_map]
  have e : ∀ k : List Nat, (k.map (List.length ∘ rowM n (upR n l h r).1)).sum = k.length * n := fun k => by
    induction k with
    | nil => simp
    | cons x k ih => rw [List.map_cons, List.sum_cons, ih, List.length_cons, Nat.succ_mul, Nat.add_comm]; show k.length * n + (rowM n (upR n l h r).1 x).length = _; rw [rowM_length]
  rw [e, List.length_range]
/-- Rows in memory, told as values. -/
theorem tells_rows {m : Mem} {c cap q : Nat → Nat} {n w : Nat} {M : Nat → Nat → Fr} (ex : Bool) (h : RowsC m c q n w M) (hcap : ∀ i, i < n → w ≤ cap i) : Tell m (.sl ex ((List.range n).map (rawC c cap w))) (.sl ex (catV ((List.range n).map (rowM w M)))) := by
  have h1 : ∀ l : List Nat, ∀ x ∈ l.map (rawC c cap w), x.cells = [x] := fun l x hx => by
    obtain ⟨i, _, rfl⟩ := List.mem_map.1 hx
    rfl
  have h2 : ∀ l : List (List Fr), ∀ x ∈ catV l, x.cells = [x] := fun l x hx => by
    obtain ⟨i, _, rfl⟩ := List.mem_map.1 hx
    rfl
  refine .slIn (sz := 1) (fun x hx => by rw [h1 _ x hx]; rfl) (fun x hx => by rw [h2 _ x hx]; rfl) (by simp) ?_
  rw [flat_one (h1 _), flat_one (h2 _), catV, List.map_map]
  refine tells_map fun i hi => ?_
  have hi' := List.mem_range.1 hi
  have := tell_row (m := m) (b := c i) (cap := cap i) (q := q i) (l := rowM w M i) (h.row i hi') (by rw [List.length_map, rowM_length]; exact hcap i hi')
  rw [List.length_map, rowM_length] at this
  exact this
set_option maxHeartbeats 4000000 in
theorem ok55 (ex ep eh : Bool) (n : Nat) (x l h : List Fr) (r z : Fr) (hn : 1 ≤ n ∧ n ≤ 4) (hx : x.length = n) (hl : l.length = n * n) (hh : h.length = n) :
    Ok Tryz.prog 55 [stV ex ep (frs x) n n (frs l), .sl eh (frs h), frV r, frV z] (.tup [stV false false (frs (upRX n x l h r z)) n n (frs (upRS n l h r)), newsV' (subF z (dotF h x)) (upR n l h r).2.2, tru true]) := by
  have hn' : 1 ≤ n ∧ n ≤ 16 := by omega
  have hr : right (n : Int) (n : Int) l.length = true := right_sq hn' hl
  refine okt_fn mixed Tryz.func55 (code := ?_) (h := h55) ?_ k55 ?_
  rotate_left
  · exact rfl
  unfold h55 initS
  simp -implicitDefEqProofs (maxSteps := 10000000) only [rkA, rkB, stepA, valA, simprocAttr, Tryz.ntmps55, Tryz.results55]
  have h6 := ok62 ex ep x l n n
  rw [stRight_nat hl, decide_eq_true (show 1 ≤ x.length ∧ x.length ≤ 4 ∧ x.length = n by omega)] at h6
  refine call_fn rfl rfl rfl (h6) ?_
  have lx : (frs x).length = n := by simp [hx]
  have lh : (frs h).length = n := by simp [hh]
  simp -implicitDefEqProofs (maxSteps := 10000000) only [lx, lh, bne_self_eq_false, rkA, rkB, stepA, valA, simprocAttr]
  refine call_fn rfl rfl rfl (ok90 ep n n l) ?_
  simp -implicitDefEqProofs (maxSteps := 10000000) only [rkA, rkB, stepA, valA, simprocAttr]
  refine wp_rfM' (items := rowItems n n l) rfl (itm142 ep n n l hr) (fun sv i s => i ≤ n ∧ ∃ mm c cap q, RowsC mm c q i n (startF n n l) ∧ (∀ a, a < i → n ≤ cap a) ∧ s = ⟨[], [(4, [.v (.sl ex (frs x)), nt n, nt n, .v (.sl ep (frs l))]), (5, [.v (.sl eh (frs h))]), (6, [nt r.v, nt r.lo, nt r.hi, .v (tru r.bad)]), (7, [nt z.v, nt z.lo, nt z.hi, .v (tru z.bad)]), (8, [.acc 1008 [], nt 0, nt 0, .acc 4008 []]), (9, [nt 0, nt 0, nt 0, .v (tru false), nt 0, nt 0, nt 0, .v (tru false)]), (12, [.acc 1012 ((List.range i).map (rawC c cap n))]), (13, [.acc 1013 []])], [], [(1008, 0), (1012, i), (1013, 0), (4008, 0)], sv, 0, mm⟩) ?_ ?_ ?_
  · simp -implicitDefEqProofs (maxSteps := 10000000) only [rkA, rkB, stepA, valA, simprocAttr]
    exact ⟨Nat.zero_le _, nomem, fun _ => 0, fun _ => 0, fun _ => 0, ⟨fun i h => by omega, fun i j h => by omega⟩, fun a h => by omega, rfl⟩
  · rintro i x' p m s' R hx' ⟨hi, mm, c, cap, q, hM, hcap, rfl⟩ hxm hfr hR
    have hlt : i < n := by
      have := (List.getElem?_eq_some_iff.1 hx').1
      simpa [rowItems] using this
    have hxe : x' = rowItem n n l i := by
      rw [rowItems, List.getElem?_map, List.getElem?_range (by simpa using hlt), Option.map_some] at hx'
      exact (Option.some.inj hx').symm
    subst hxe
    obtain ⟨b, cp, z', h1, rfl, rfl⟩ := hxm
    have hb : mm b = none := hfr b (by rw [Mem.put_same]; rfl)
    have lr : (frs (rowF n n l i)).length = n := by rw [List.length_map, row_start hr hlt, rowM_length]
    rw [lr] at h1
    rw [lr, row_start hr hlt]
    refine ⟨rfl, ?_⟩
    have hfit := fits_raw c cap n i (.s (.slice (some ⟨b, 0, none⟩) n cp)) ⟨_, _, _, rfl⟩ (by omega)
    have hll : ((List.range i).map (rawC c cap n)).length = i := by simp
    simp -implicitDefEqProofs (maxSteps := 10000000) only [hfit, hll, raw_grow, rkA, rkB, stepA, valA, simprocAttr]
    refine hR _ ⟨by omega, _, _, _, _, hM.grow (z := z') hb, fun a ha => ?_, rfl⟩
    by_cases e : a = i
    · simp only [e, if_true]; exact h1
    · simp only [e, if_false]; exact hcap a (by omega)
  rintro s' ⟨hi, mm, c, cap, q, hM, hcap, rfl⟩
  have li : (rowItems n n l).length = n := by simp [rowItems]
  rw [li] at hM hcap ⊢
  clear hi
  simp -implicitDefEqProofs (maxSteps := 10000000) only [rkA, rkB, stepA, valA, simprocAttr]
  have h25 := ok107 ep n n l
  rw [if_pos hr] at h25
  refine call_fn rfl rfl rfl (h25) ?_
  simp -implicitDefEqProofs (maxSteps := 10000000) only [rkA, rkB, stepA, valA, simprocAttr]
  have hrt := right_turn hr
  refine call_fn rfl rfl rfl (ok90 false n n (turnF n n l)) ?_
  simp -implicitDefEqProofs (maxSteps := 10000000) only [rkA, rkB, stepA, valA, simprocAttr]
  have lt : (rowsF n n (turnF n n l)).length = n := by rw [rowsF_length hrt, Int.toNat_natCast]
  refine wp_rf' (items := rowsF n n (turnF n n l)) rfl (it142 false n n (turnF n n l)) (fun sv i s => i ≤ n ∧ s = ⟨[], [(4, [.v (.sl ex (frs x)), nt n, nt n, .v (.sl ep (frs l))]), (5, [.v (.sl eh (frs h))]), (6, [nt r.v, nt r.lo, nt r.hi, .v (tru r.bad)]), (7, [nt z.v, nt z.lo, nt z.hi, .v (tru z.bad)]), (8, [.acc 1008 [], nt 0, nt 0, .acc 4008 []]), (9, [nt 0, nt 0, nt 0, .v (tru false), nt 0, nt 0, nt 0, .v (tru false)]), (12, [.acc 1012 ((List.range n).map (rawC c cap n))]), (13, [.acc 1013 (frs ((List.range i).map (dotsR n l h)))])], [], [(1008, 0), (1012, n), (1013, i), (4008, 0)], sv, 0, mm⟩) ?_ ?_ ?_
  · simp -implicitDefEqProofs (maxSteps := 10000000) only [rkA, rkB, stepA, valA, simprocAttr]
    exact Nat.zero_le _
  · rintro i x' s' R hx' ⟨hi, rfl⟩ hR
    obtain ⟨hlt, rfl, hxa⟩ := rowsF_all hrt hx'
    rw [Int.toNat_natCast] at hlt
    have hrl := rowF_len hrt (i := i) (by simpa using hlt)
    rw [Int.toNat_natCast] at hrl
    refine ⟨rfl, ?_⟩
    simp -implicitDefEqProofs (maxSteps := 10000000) only [rkA, rkB, stepA, valA, simprocAttr]
    refine call_fn rfl rfl rfl (ok81 false eh (rowF n n (turnF n n l) i) h (by omega) (by omega)) ?_
    have hd : dotF (rowF n n (turnF n n l) i) h = dotsR n l h i := rfl
    have hfit : fits 4 32 (frs ((List.range i).map (dotsR n l h))) [frV (dotsR n l h i)] = true := fits_frs (l := [dotsR n l h i]) (by simp; omega)
    have hll : (frs ((List.range i).map (dotsR n l h))).length = i := by simp
    simp -implicitDefEqProofs (maxSteps := 10000000) only [hd, hfit, hll, rkA, rkB, stepA, valA, simprocAttr]
    refine hR _ ⟨by omega, ?_⟩
    rw [List.range_succ, List.map_append]
    simp only [frs, List.map_append, List.map_cons, List.map_nil]
  rintro s' ⟨hi, rfl⟩
  rw [lt]
  clear hi
  simp -implicitDefEqProofs (maxSteps := 10000000) only [rkA, rkB, stepA, valA, simprocAttr]
  refine new_make (T := 32) (N := 4) rfl rfl rfl rfl rfl (by omega) (by omega) (by omega) ?_
  intro b hb
  have hb' : mm b = none := hb
  have hcb : ∀ i, i < n → c i ≠ b := fun i hi e => by have := hM.row i hi; rw [e, hb'] at this; cases this
  have n0 : (0 : Int) ≤ (n : Int) := by omega
  have n1 : (n : Int) * 8 ≤ 140737488355328 := by omega
  have n2 : (n : Int) ≤ 16777216 := by omega
  simp -implicitDefEqProofs (maxSteps := 10000000) only [Int.toNat_natCast, flat_zeros, n0, n1, n2, rkA, rkB, stepA, valA, simprocAttr]
  have h35 := ok43 true (List.replicate n 0) (by simp; omega)
  rw [List.map_replicate, List.map_replicate] at h35
  refine call_fn rfl rfl rfl (h35) ?_
  simp -implicitDefEqProofs (maxSteps := 10000000) only [rkA, rkB, stepA, valA, simprocAttr]
  have lz : (flat (frs (List.replicate n (⟨0, 0, 0, false⟩ : Fr)))).length = n * 4 := by rw [flat_length (frs_cells _)]; simp
  have lf : (flat (frs (List.replicate n (newF 0 1)))).length = n * 4 := by rw [flat_length (frs_cells _)]; simp
  refine copy_of (ys := frs (List.replicate n (newF 0 1))) rfl rfl (.same _) (RFs_frs _) (Mem.put_same _ _ _) (frs_ok _) (by simp) (by rw [lz, lf]; omega) ?_
  have hdr : (flat (frs (List.replicate n (⟨0, 0, 0, false⟩ : Fr)))).drop (flat (frs (List.replicate n (newF 0 1)))).length = [] := List.drop_of_length_le (by rw [lz, lf]; omega)
  have hM2 : RowsC ((mm.put b (flat (frs (List.replicate n (⟨0, 0, 0, false⟩ : Fr))))).put b (flat (frs (List.replicate n (newF 0 1))))) c q n n (startF n n l) := (hM.other hcb).other hcb
  have hrep : List.replicate n (newF 0 1) = (List.range n).map (fun _ => newF 0 1) := by
    apply List.ext_getElem?
    intro i
    by_cases hi : i < n
    · simp [hi]
    · rw [List.getElem?_eq_none (by simp; omega), List.getElem?_eq_none (by simp; omega)]
  have hE2 : ((mm.put b (flat (frs (List.replicate n (⟨0, 0, 0, false⟩ : Fr))))).put b (flat (frs (List.replicate n (newF 0 1))))) b = some (flat (frs ((List.range n).map (upK n (startF n n l) (dotsR n l h) r 0).2.1))) := by
    rw [Mem.put_same, hrep]
    rfl
  generalize hmm : (mm.put b (flat (frs (List.replicate n (⟨0, 0, 0, false⟩ : Fr))))).put b (flat (frs (List.replicate n (newF 0 1)))) = mm1 at hM2 hE2
  have w1 := wrapped (x := (n : Int) - 1) (by omega) (by omega)
  simp -implicitDefEqProofs (maxSteps := 10000000) only [Nat.zero_add, hdr, List.append_nil, hmm, w1, rkA, rkB, stepA, valA, simprocAttr]
  clear hmm hb hb' hM hrep hdr lz lf
  refine wp_loop (fun m s => ∃ (t : Nat) (mm : Mem) (A : Fr), t + m = n ∧ A = (upK n (startF n n l) (dotsR n l h) r t).2.2 ∧ RowsC mm c q n n (upK n (startF n n l) (dotsR n l h) r t).1 ∧ mm b = some (flat (frs ((List.range n).map (upK n (startF n n l) (dotsR n l h) r t).2.1))) ∧
    s = ⟨[jk, jk, jk, jk, .ptr 4 0, .ptr 5 0, jk, .ptr 7 0, .ptr 8 0, .ptr 9 0, jk, nt n, .ptr 12 0, .ptr 13 0, jk, jk, jk, jk, .v (.s (.slice (some ⟨b, 0, none⟩) n n)), .ptr 19 0, nt ((m : Int) - 1), jk, jk, jk, jk, jk, jk, jk, jk, jk, jk, jk, jk, jk, jk, jk, jk, jk, jk, jk, jk, jk, jk, jk, jk, jk, jk, jk, jk, jk, jk, jk, jk, jk, jk, jk, jk, jk, jk, jk, jk, jk, jk, jk, jk, jk, jk, jk, jk, jk, jk, jk, jk, jk, jk, jk, jk, jk, jk, jk, jk, jk, jk, jk, jk, jk, jk, jk, jk, jk, jk, jk, jk, jk, jk, jk, jk, jk, jk, jk, jk, jk, jk, jk, jk, jk, jk, jk, jk, jk, jk, jk, jk, jk, jk, jk, jk, jk, jk, jk, jk, jk, jk, jk, jk, jk, jk, jk, jk, jk, jk, jk, jk, jk, jk, jk, jk, jk, jk, jk, jk, jk],
      [(4, [.v (.sl ex (frs x)), nt n, nt n, .v (.sl ep (frs l))]), (5, [.v (.sl eh (frs h))]), (6, [nt r.v, nt r.lo, nt r.hi, .v (tru r.bad)]), (7, [nt z.v, nt z.lo, nt z.hi, .v (tru z.bad)]), (8, [.acc 1008 [], nt 0, nt 0, .acc 4008 []]), (9, [nt 0, nt 0, nt 0, .v (tru false), nt 0, nt 0, nt 0, .v (tru false)]), (12, [.acc 1012 ((List.range n).map (rawC c cap n))]), (13, [.acc 1013 (frs ((List.range n).map (dotsR n l h)))]), (19, [nt A.v, nt A.lo, nt A.hi, .v (tru A.bad)])], [], [(1008, 0), (1012, n), (1013, n), (4008, 0)], [], 0, mm⟩) n ?_ ?_
  · simp -implicitDefEqProofs (maxSteps := 10000000) only [rkA, rkB, stepA, valA, simprocAttr]
    exact ⟨0, mm1, r, by omega, rfl, hM2, hE2, rfl⟩
  clear hM2 hE2 mm1
  rintro m s ⟨t, mm, A, htm, hA, hM, hE, rfl⟩
  simp -implicitDefEqProofs (maxSteps := 10000000) only [rkA, rkB, stepA, valA, simprocAttr]
  refine gB_dec ?_ ?_ <;> intro hc <;> simp -implicitDefEqProofs (maxSteps := 10000000) only [hc, rkA, rkB, stepA, valA, simprocAttr]
  · obtain ⟨j, rfl⟩ : ∃ j, m = j + 1 := ⟨m - 1, by omega⟩
    have hj : j < n := by omega
    have ej : ((j + 1 : Nat) : Int) - 1 = (j : Int) := by omega
    have h0j : (0 : Int) ≤ (j : Int) := by omega
    have gw : (frs ((List.range n).map (dotsR n l h)))[j]? = some (frV (dotsR n l h j)) := by simp [hj]
    simp -implicitDefEqProofs (maxSteps := 10000000) only [ej, h0j, Int.toNat_natCast, gw, rkA, rkB, stepA, valA, simprocAttr]
    refine call_meth rfl rfl methMul (ok45 _ _) ?_
    simp -implicitDefEqProofs (maxSteps := 10000000) only [rkA, rkB, stepA, valA, simprocAttr]
    refine call_meth rfl rfl methAdd (ok227 _ _) ?_
    simp -implicitDefEqProofs (maxSteps := 10000000) only [h0j, Int.toNat_natCast, gw, rkA, rkB, stepA, valA, simprocAttr]
    generalize hB : addF A (mulF (dotsR n l h j) (dotsR n l h j)) = B
    refine mem_fn rfl rfl rfl (okm113 false n j hj (by omega) _ _ (dotsR n l h j) A B c cap q hcap b mm hM hE hcb) ?_
    rintro r' m' ⟨hM', hE'⟩
    have w2 := wrapped (x := (j : Int) - 1) (by omega) (by omega)
    simp -implicitDefEqProofs (maxSteps := 10000000) only [w2, rkA, rkB, stepA, valA, simprocAttr]
    refine loopK_of (m' := j) (by omega) ?_
    simp -implicitDefEqProofs (maxSteps := 10000000) only [rkA, rkB, stepA, valA, simprocAttr]
    have hup := upK_succ (startF n n l) (dotsR n l h) r (show n - 1 - t = j by omega)
    rw [← hA, hB] at hup
    exact ⟨t + 1, m', B, by omega, by rw [hup], by rw [hup]; exact hM', by rw [hup]; exact hE', rfl⟩
  · have ht : t = n := by omega
    rw [ht] at hA hM hE
    refine call_fn rfl rfl rfl (ok81 eh ex h x (by omega) (by omega)) ?_
    simp -implicitDefEqProofs (maxSteps := 10000000) only [rkA, rkB, stepA, valA, simprocAttr]
    refine call_meth rfl rfl methSub (ok97 _ _) ?_
    generalize hz : subF z (dotF h x) = Z
    generalize hU : upK n (startF n n l) (dotsR n l h) r n = U at hA hM hE
    have hUR : upR n l h r = U := hU
    simp -implicitDefEqProofs (maxSteps := 10000000) only [rkA, rkB, stepA, valA, simprocAttr]
    have hkl : ((List.range n).map fun i => divF (U.2.1 i) A).length = n := by simp
    refine wp_loop (fun m s => ∃ (i : Nat), i + m = n ∧
      s = ⟨[jk, jk, jk, jk, .ptr 4 0, jk, jk, jk, .ptr 8 0, .ptr 9 0, jk, nt n, .ptr 12 0, jk, jk, jk, jk, jk, jk, .ptr 19 0, jk, jk, .ptr 22 0, .acc 23 (frs ((List.range i).map fun i => divF (U.2.1 i) A)), jk, jk, jk, jk, jk, jk, jk, jk, jk, jk, jk, jk, jk, jk, jk, jk, jk, jk, jk, jk, jk, jk, jk, jk, jk, jk, jk, jk, jk, jk, jk, jk, jk, jk, jk, jk, jk, jk, jk, jk, jk, jk, jk, jk, jk, jk, jk, jk, jk, jk, jk, jk, jk, jk, jk, jk, jk, jk, jk, jk, jk, jk, jk, jk, jk, jk, jk, jk, jk, jk, jk, jk, jk, jk, jk, jk, jk, jk, jk, jk, jk, jk, jk, jk, jk, jk, .v (.s (.slice (some ⟨b, 0, none⟩) n n)), nt n, nt i, jk, jk, jk, jk, jk, jk, jk, jk, jk, jk, jk, jk, jk, jk, jk, jk, jk, jk, jk, jk, jk, jk, jk, jk, jk, jk, jk, jk, jk],
        [(4, [.v (.sl ex (frs x)), nt n, nt n, .v (.sl ep (frs l))]), (5, [.v (.sl eh (frs h))]), (6, [nt r.v, nt r.lo, nt r.hi, .v (tru r.bad)]), (7, [nt z.v, nt z.lo, nt z.hi, .v (tru z.bad)]), (8, [.acc 1008 [], nt 0, nt 0, .acc 4008 []]), (9, [nt 0, nt 0, nt 0, .v (tru false), nt 0, nt 0, nt 0, .v (tru false)]), (12, [.acc 1012 ((List.range n).map (rawC c cap n))]), (13, [.acc 1013 (frs ((List.range n).map (dotsR n l h)))]), (19, [nt A.v, nt A.lo, nt A.hi, .v (tru A.bad)]), (22, [nt Z.v, nt Z.lo, nt Z.hi, .v (tru Z.bad), nt A.v, nt A.lo, nt A.hi, .v (tru A.bad)])], [], [(23, i), (1008, 0), (1012, n), (1013, n), (4008, 0)], [], 0, mm⟩) n ?_ ?_
    · simp -implicitDefEqProofs (maxSteps := 10000000) only [rkA, rkB, stepA, valA, simprocAttr]
      exact ⟨0, by omega, rfl⟩
    rintro m s ⟨i, him, rfl⟩
    simp -implicitDefEqProofs (maxSteps := 10000000) only [rkA, rkB, stepA, valA, simprocAttr]
    refine gB_dec ?_ ?_ <;> intro hc <;> simp -implicitDefEqProofs (maxSteps := 10000000) only [hc, rkA, rkB, stepA, valA, simprocAttr]
    · have hi : i < n := by omega
      have h0i : (0 : Int) ≤ (i : Int) := by omega
      have hin : (i : Int) < (n : Int) := by omega
      have hle : ((List.range n).map U.2.1)[i]? = some (U.2.1 i) := by simp [hi]
      have hlde := ldM_fr hle
      simp -implicitDefEqProofs (maxSteps := 10000000) only [h0i, hin, Int.toNat_natCast, addr_add, Nat.zero_add, hE, hlde, rkA, rkB, stepA, valA, simprocAttr]
      refine call_meth rfl rfl methDiv (ok228 _ _) ?_
      have hfit : fits 4 32 (frs ((List.range i).map fun i => divF (U.2.1 i) A)) [frV (divF (U.2.1 i) A)] = true := fits_frs (l := [divF (U.2.1 i) A]) (by simp; omega)
      have hll : (frs ((List.range i).map fun i => divF (U.2.1 i) A)).length = i := by simp
      have hw := wrapped (x := (i : Int) + 1) (by omega) (by omega)
      simp -implicitDefEqProofs (maxSteps := 10000000) only [hfit, hll, hw, rkA, rkB, stepA, valA, simprocAttr]
      refine loopK_of (m' := m - 1) (by omega) ?_
      simp -implicitDefEqProofs (maxSteps := 10000000) only [rkA, rkB, stepA, valA, simprocAttr]
      refine ⟨i + 1, by omega, ?_⟩
      rw [List.range_succ, List.map_append]
      simp only [frs, List.map_append, List.map_cons, List.map_nil, Int.natCast_add, Int.natCast_one]
    · have hin : i = n := by omega
      rw [hin]
      have hcat : ((List.range n).map (rowM n U.1)).flatten = upRS n l h r := by rw [upRS, hUR]
      have hcl := upRS_len n l h r
      have hsq := side16 (n := n) (m := n) (by omega) (by omega)
      have hpos : 0 < n * n := Nat.mul_pos (by omega) (by omega)
      have hne : upRS n l h r ≠ [] := fun e => by rw [e] at hcl; simp at hcl; omega
      have hcc := okn114 false ((List.range n).map (rowM n U.1)) (by rw [hcat]; exact hne) (by rw [hcat, hcl]; omega) (by simp; omega)
      rw [hcat] at hcc
      refine newRow_fn rfl rfl (.cons (tells_rows false hM hcap) .nil) hcc (RFs_frs _) (by simpa using hne) ?_
      intro c2 cap2 q2 hc2 hcap2
      simp -implicitDefEqProofs (maxSteps := 10000000) only [rkA, rkB, stepA, valA, simprocAttr]
      have hrs : right (n : Int) (n : Int) (upRS n l h r).length = true := right_sq hn' hcl
      refine lendNew_fn rfl rfl (.cons (.same _) (.cons (.same _) (.cons (tell_row (Mem.put_same _ _ _) hcap2) .nil))) (okm26 n n false (upRS n l h r) hrs) (newMat_rf (RFs_frs _)) ?_
      rintro y m' ⟨b3, cap3, q3, hcap3, rfl, rfl⟩ hfr
      simp -implicitDefEqProofs (maxSteps := 10000000) only [rkA, rkB, stepA, valA, simprocAttr]
      have hk : ((List.range n).map fun i => divF (U.2.1 i) A) = upRK n l h r := by rw [upRK, hUR, ← hA]
      have hkl : (upRK n l h r).length = n := by simp [upRK]
      rw [hk]
      refine call_fn rfl rfl rfl (ok116 false (upRK n l h r) Z (by omega)) ?_
      simp -implicitDefEqProofs (maxSteps := 10000000) only [rkA, rkB, stepA, valA, simprocAttr]
      refine call_fn rfl rfl rfl (ok115 ex false x ((upRK n l h r).map (mulF · Z)) (by omega) (by simp; omega)) ?_
      simp -implicitDefEqProofs (maxSteps := 10000000) only [rkA, rkB, stepA, valA, simprocAttr]
      refine ⟨_, rfl, ?_⟩
      rw [upRX, hz, hUR, ← hA]
      exact .tup (.cons (.agg (.cons (.same _) (.cons (.same _) (.cons (.same _) (.cons (tell_row (Mem.put_same _ _ _) hcap3) .nil))))) (.cons (.same _) (.cons (.same _) .nil)))
end Go.Proofs.YtbflmeomkfjikaaGreat.A.E


set_option linter.unusedVariables false
set_option linter.unusedSimpArgs false
set_option maxRecDepth 100000
namespace Go.Proofs.YtbflmeomkfjikaaGreat.A
open Go Go.RowKit Go.Shelf

/-! ### The document's answers, of whole numbers -/
/-! ### What the document fixes of a root -/
end Go.Proofs.YtbflmeomkfjikaaGreat.A



set_option linter.unusedVariables false
set_option linter.unusedSimpArgs false
set_option maxRecDepth 100000
namespace Go.Proofs.YtbflmeomkfjikaaGreat.A
open Go Go.RowKit Go.Shelf

/-! ### Predict -/
end Go.Proofs.YtbflmeomkfjikaaGreat.A



set_option linter.unusedVariables false
set_option linter.unusedSimpArgs false
set_option maxRecDepth 100000
namespace Go.Proofs.YtbflmeomkfjikaaGreat.A
open Go Go.RowKit Go.Shelf

/-! ### Update -/
section
variable (n : Nat) (x p h : List Fr) (r z : Fr)
def uF : List Fr := applyF n n p h
def spreadF : Fr := addF (dotF h (uF n p h)) r
def surpriseF : Fr := subF z (dotF h x)
def kF : List Fr := (uF n p h).map (divF · (spreadF n p h r))
def unitF : List Fr := (unitP n n).map (newF · 1)
def mF : List Fr := List.zipWith subF (unitF n) (prodF n 1 n (kF n p h r) h)
def krkF : List Fr := prodF n 1 n ((kF n p h r).map (mulF · r)) (turnF n 1 (kF n p h r))
def upP : List Fr := turnedF n (mF n p h r) p (krkF n p h r)
def upX : List Fr := List.zipWith addF x ((kF n p h r).map (mulF · (surpriseF x h z)))
end
end Go.Proofs.YtbflmeomkfjikaaGreat.A


set_option linter.unusedVariables false
set_option linter.unusedSimpArgs false
set_option maxRecDepth 100000
namespace Go.Proofs.YtbflmeomkfjikaaGreat.A
open Go Go.RowKit Go.Shelf

/-! ### Fractions as numbers -/
def Fr.val (x : Fr) : Rat := (x.n : Rat) / (x.d : Rat)
theorem cast_ne {d : Int} (h : d ≠ 0) : (d : Rat) ≠ 0 := by
  intro e
  exact h (Rat.intCast_inj.1 (by simpa using e))
theorem val_div {n d m e k : Int} (hd : d ≠ 0) (he : e ≠ 0) (h : n * e = m * d) : (n : Rat) / d = (m : Rat) / e := by
  have h1 := cast_ne hd
  have h2 := cast_ne he
  have h3 : (n : Rat) * e = (m : Rat) * d := by
    rw [← Rat.intCast_mul, ← Rat.intCast_mul, h]
  grind
theorem div_val {n d m e : Int} (hd : d ≠ 0) (he : e ≠ 0) (h : (n : Rat) / d = (m : Rat) / e) : n * e = m * d := by
  have h1 := cast_ne hd
  have h2 := cast_ne he
  have h3 : (n : Rat) * e = (m : Rat) * d := by grind
  rw [← Rat.intCast_mul, ← Rat.intCast_mul] at h3
  exact Rat.intCast_inj.1 h3

/-- What New tells, where it is not Bad. -/
theorem newF_spec {n d : Int} (h : (newF n d).bad = false) : d ≠ 0 ∧ 0 < (newF n d).d ∧ (newF n d).n * d = n * (newF n d).d ∧ Int.gcd (newF n d).n (newF n d).d = 1 ∧ (newF n d).d ≤ 1073741824 ∧ (newF n d).n ≤ 1073741824 ∧ -1073741824 ≤ (newF n d).n := by
  unfold newF at h ⊢
  by_cases h1 : n > 1152921504606846976 ∨ n < -1152921504606846976 ∨ d > 1152921504606846976 ∨ d < -1152921504606846976 ∨ d = 0
  · rw [if_pos h1] at h; cases h
  rw [if_neg h1] at h ⊢
  simp only at h ⊢
  have hd : d ≠ 0 := by omega
  have key : ∀ m e : Int, 0 < e → m * d = n * e → ∀ x : Fr, x = (if m.tdiv (Int.gcd m e : Int) > 1073741824 ∨ m.tdiv (Int.gcd m e : Int) < -1073741824 ∨ e.tdiv (Int.gcd m e : Int) > 1073741824 then Fr.wrong else ⟨m.tdiv (Int.gcd m e : Int), e.tdiv (Int.gcd m e : Int), false⟩) → x.bad = false →
      d ≠ 0 ∧ 0 < x.d ∧ x.n * d = n * x.d ∧ Int.gcd x.n x.d = 1 ∧ x.d ≤ 1073741824 ∧ x.n ≤ 1073741824 ∧ -1073741824 ≤ x.n := by
    intro m e he hme x hx hb
    have hg : 0 < Int.gcd m e := Int.gcd_pos_of_ne_zero_right m (by omega)
    obtain ⟨m', hm'⟩ := Int.gcd_dvd_left m e
    obtain ⟨e', he'⟩ := Int.gcd_dvd_right m e
    generalize hk : Int.gcd m e = k at *
    have hk0 : (k : Int) ≠ 0 := by omega
    have q1 : m.tdiv (k : Int) = m' := by rw [hm', Int.mul_tdiv_cancel_left _ hk0]
    have q2 : e.tdiv (k : Int) = e' := by rw [he', Int.mul_tdiv_cancel_left _ hk0]
    rw [q1, q2] at hx
    have hcop : Int.gcd m' e' = 1 := by
      have h3 : Int.gcd ((k : Int) * m') ((k : Int) * e') = k * Int.gcd m' e' := by
        rw [Int.gcd_mul_left]; simp
      rw [← hm', ← he', hk] at h3
      have : k * 1 = k * Int.gcd m' e' := by omega
      exact (Nat.eq_of_mul_eq_mul_left hg this).symm
    have he0 : 0 < e' := by
      have h4 : 0 < (k : Int) * e' := by rw [← he']; exact he
      exact Int.pos_of_mul_pos_right h4 (by omega)
    split at hx
    · rw [hx] at hb; cases hb
    · rename_i hns
      subst hx
      refine ⟨hd, he0, ?_, hcop, by simp only; omega, by simp only; omega, by simp only; omega⟩
      simp only
      rw [hm', he'] at hme
      have : (k : Int) * (m' * d) = (k : Int) * (n * e') := by
        rw [← Int.mul_assoc, hme, ← Int.mul_assoc, ← Int.mul_assoc, Int.mul_comm (k : Int) n]
      exact Int.eq_of_mul_eq_mul_left hk0 this
  by_cases hneg : d < 0
  · simp only [hneg, if_true] at h ⊢
    exact key (-n) (-d) (by omega) (by rw [Int.neg_mul, Int.mul_neg]) _ rfl h
  · simp only [hneg, if_false] at h ⊢
    exact key n d (by omega) rfl _ rfl h

theorem newF_low {n d : Int} (hd : 0 < d) (hg : Int.gcd n d = 1) (h1 : n ≤ 1073741824) (h2 : -1073741824 ≤ n) (h3 : d ≤ 1073741824) : newF n d = ⟨n, d, false⟩ := by
  unfold newF
  rw [if_neg (by omega)]
  simp only [show ¬ d < 0 by omega, if_false, hg]
  rw [if_neg (by simp; omega)]
  simp
theorem fine_of {x : Fr} (hb : x.bad = false) (hd : 0 < x.d) (hg : Int.gcd x.n x.d = 1) (h1 : x.n ≤ 1073741824) (h2 : -1073741824 ≤ x.n) (h3 : x.d ≤ 1073741824) : x.fine = true := by
  unfold Fr.fine
  rw [newF_low hd hg h1 h2 h3]
  simp [hb]
  omega
theorem fine_low {x : Fr} (h : x.fine = true) : x.bad = false ∧ 0 < x.d ∧ Int.gcd x.n x.d = 1 := by
  obtain ⟨h1, h2, h3, h4, h5⟩ := Fr.fine_spec h
  refine ⟨h1, by omega, ?_⟩
  have hn : newF x.n x.d = x := by
    unfold Fr.fine at h
    simp only [Bool.and_eq_true, beq_iff_eq, decide_eq_true_eq] at h
    obtain ⟨n, d, b⟩ := x
    obtain ⟨_, k1, k2, k3, _⟩ := h
    generalize newF n d = y at *
    obtain ⟨n', d', b'⟩ := y
    simp only at k1 k2 k3
    rw [k1, k2, k3]
  have hb : (newF x.n x.d).bad = false := by rw [hn]; exact h1
  obtain ⟨_, _, _, g, _⟩ := newF_spec hb
  rw [hn] at g
  exact g
theorem newF_fine {n d : Int} (h : (newF n d).bad = false) : (newF n d).fine = true ∧ (newF n d).val = (n : Rat) / (d : Rat) ∧ d ≠ 0 := by
  obtain ⟨h1, h2, h3, h4, h5, h6, h7⟩ := newF_spec h
  exact ⟨fine_of h h2 h4 h6 h7 h5, val_div (k := 0) (by omega) h1 h3, h1⟩
theorem dvd_cop {a b c : Int} (h : a ∣ b * c) (g : Int.gcd b a = 1) : a ∣ c := by
  rw [← Int.natAbs_dvd_natAbs] at h ⊢
  rw [Int.natAbs_mul] at h
  refine Nat.Coprime.dvd_of_dvd_mul_left ?_ h
  rw [Int.gcd_comm] at g
  exact g
/-- What stands for the same number is the same. -/
theorem fine_inj {a b : Fr} (ha : a.fine = true) (hb : b.fine = true) (h : a.val = b.val) : a = b := by
  obtain ⟨a1, a2, a3⟩ := fine_low ha
  obtain ⟨b1, b2, b3⟩ := fine_low hb
  have e := div_val (by omega) (by omega) h
  have c1 : a.d ∣ b.d := by
    have : a.d ∣ a.n * b.d := ⟨b.n, by rw [e, Int.mul_comm]⟩
    exact dvd_cop this a3
  have c2 : b.d ∣ a.d := by
    have : b.d ∣ b.n * a.d := ⟨a.n, by rw [← e, Int.mul_comm]⟩
    exact dvd_cop this b3
  have hd : a.d = b.d := Int.dvd_antisymm (by omega) (by omega) c1 c2
  rw [hd] at e
  have hn : a.n = b.n := Int.eq_of_mul_eq_mul_right (by omega) e
  obtain ⟨n, d, x⟩ := a
  obtain ⟨n', d', x'⟩ := b
  simp only at hd hn a1 b1
  rw [hd, hn, a1, b1]
theorem fine_bad {a : Fr} (h : a.fine = true) : a.bad = false := (Fr.fine_spec h).1

/-- x stands for the number v. -/
def Is (x : Fr) (v : Rat) : Prop := x.fine = true ∧ x.val = v
theorem Is.inj {a b : Fr} {v : Rat} (ha : Is a v) (hb : Is b v) : a = b := fine_inj ha.1 hb.1 (ha.2.trans hb.2.symm)
theorem fine_ne {a : Fr} (h : a.fine = true) : (a.d : Rat) ≠ 0 := cast_ne (by have := (Fr.fine_spec h).2.1; omega)
theorem two_fine {a b : Fr} {x : Fr} (h : (if a.fine = false ∨ b.fine = false then Fr.wrong else x).bad = false) : a.fine = true ∧ b.fine = true ∧ x.bad = false := by
  by_cases h1 : a.fine = false ∨ b.fine = false
  · rw [if_pos h1] at h; cases h
  · rw [if_neg h1] at h
    simp only [not_or, Bool.not_eq_false] at h1
    exact ⟨h1.1, h1.2, h⟩
theorem mulF_is {a b : Fr} (h : (mulF a b).bad = false) : a.fine = true ∧ b.fine = true ∧ Is (mulF a b) (a.val * b.val) := by
  have h0 := h
  unfold mulF at h
  obtain ⟨ha, hb, hx⟩ := two_fine h
  obtain ⟨f1, f2, f3⟩ := newF_fine hx
  have e : mulF a b = newF (a.n * b.n) (a.d * b.d) := by unfold mulF; rw [if_neg (by simp [ha, hb])]
  refine ⟨ha, hb, by rw [e]; exact f1, ?_⟩
  rw [e, f2]
  have h1 := fine_ne ha
  have h2 := fine_ne hb
  simp only [Fr.val, Rat.intCast_mul]
  grind
theorem addF_is {a b : Fr} (h : (addF a b).bad = false) : a.fine = true ∧ b.fine = true ∧ Is (addF a b) (a.val + b.val) := by
  unfold addF at h
  obtain ⟨ha, hb, hx⟩ := two_fine h
  obtain ⟨f1, f2, f3⟩ := newF_fine hx
  have e : addF a b = newF ((a.n * b.d + b.n * a.d).tdiv (Int.gcd (a.n * b.d + b.n * a.d) (a.d * b.d))) ((a.d * b.d).tdiv (Int.gcd (a.n * b.d + b.n * a.d) (a.d * b.d))) := by
    unfold addF; rw [if_neg (by simp [ha, hb])]
  have h1 := fine_ne ha
  have h2 := fine_ne hb
  refine ⟨ha, hb, by rw [e]; exact f1, ?_⟩
  rw [e, f2]
  have hd1 := (Fr.fine_spec ha).2.1
  have hd2 := (Fr.fine_spec hb).2.1
  have hdd : 0 < a.d * b.d := Int.mul_pos (by omega) (by omega)
  generalize hD : a.d * b.d = D at *
  generalize hN : a.n * b.d + b.n * a.d = Nn at *
  have hg : 0 < Int.gcd Nn D := Int.gcd_pos_of_ne_zero_right _ (by omega)
  obtain ⟨m', hm'⟩ := Int.gcd_dvd_left Nn D
  obtain ⟨e', he'⟩ := Int.gcd_dvd_right Nn D
  have hk0 : ((Int.gcd Nn D : Nat) : Int) ≠ 0 := by omega
  generalize hk : ((Int.gcd Nn D : Nat) : Int) = k at *
  have q1 : Nn.tdiv k = m' := by rw [hm', Int.mul_tdiv_cancel_left _ hk0]
  have q2 : D.tdiv k = e' := by rw [he', Int.mul_tdiv_cancel_left _ hk0]
  rw [q1, q2]
  have he0 : e' ≠ 0 := fun e0 => by rw [e0, Int.mul_zero] at he'; omega
  have h3 : (m' : Rat) / (e' : Rat) = (Nn : Rat) / (D : Rat) := by
    refine val_div (k := 0) he0 (by omega) ?_
    rw [hm', he', Int.mul_comm k e', ← Int.mul_assoc, Int.mul_comm k m']
    rw [Int.mul_assoc, Int.mul_assoc, Int.mul_comm e' k, Int.mul_comm k e']
  rw [h3, ← hN, ← hD]
  simp only [Fr.val, Rat.intCast_mul, Rat.intCast_add]
  grind
theorem negF_is {a : Fr} (h : (negF a).bad = false) : a.fine = true ∧ Is (negF a) (-a.val) := by
  unfold negF at h
  by_cases ha : a.fine = false
  · rw [if_pos ha] at h; cases h
  · rw [if_neg ha] at h
    simp only [Bool.not_eq_false] at ha
    obtain ⟨f1, f2, f3⟩ := newF_fine h
    have e : negF a = newF (-a.n) a.d := by unfold negF; rw [if_neg (by simp [ha])]
    refine ⟨ha, by rw [e]; exact f1, ?_⟩
    rw [e, f2]
    simp only [Fr.val, Rat.intCast_neg]
    grind
theorem subF_is {a b : Fr} (h : (subF a b).bad = false) : a.fine = true ∧ b.fine = true ∧ Is (subF a b) (a.val - b.val) := by
  unfold subF at h
  obtain ⟨h1, h2, h3⟩ := addF_is h
  obtain ⟨h4, h5⟩ := negF_is (fine_bad h2)
  refine ⟨h1, h4, h3.1, ?_⟩
  have e : (subF a b).val = a.val + (negF b).val := h3.2
  rw [e, h5.2]
  grind
theorem whole_is {n : Int} (h : few n) : Is (newF n 1) (n : Rat) := by
  rw [newF_whole h]
  refine ⟨fine_whole h, ?_⟩
  simp only [Fr.val]
  have : ((1 : Int) : Rat) = 1 := rfl
  rw [this]
  grind
end Go.Proofs.YtbflmeomkfjikaaGreat.A


set_option linter.unusedVariables false
set_option linter.unusedSimpArgs false
set_option maxRecDepth 100000
namespace Go.Proofs.YtbflmeomkfjikaaGreat.A
open Go Go.RowKit Go.Shelf

/-! ### Sums of numbers -/
def sumR : Nat → (Nat → Rat) → Rat
  | 0, _ => 0
  | n + 1, f => sumR n f + f n
/-! ### Dots -/
abbrev dz : Fr := ⟨0, 0, false⟩
/-! ### Products, entry by entry -/
theorem grid_at {g : Nat → Nat → Fr} {n N i k : Nat} (hi : i < N) (hk : k < n) : (gridP g n N 0).getD (i * n + k) dz = g i k := by
  rw [List.getD_eq_getElem?_getD, gridP_get _ _ _ _ _ hi hk, Option.getD_some]
end Go.Proofs.YtbflmeomkfjikaaGreat.A


set_option linter.unusedVariables false
set_option linter.unusedSimpArgs false
set_option maxRecDepth 100000
namespace Go.Proofs.YtbflmeomkfjikaaGreat.A
open Go Go.RowKit Go.Shelf

/-! ### Plain laws of clearing -/
/-! ### The function TriClears -/
end Go.Proofs.YtbflmeomkfjikaaGreat.A


set_option linter.unusedVariables false
set_option linter.unusedSimpArgs false
set_option maxRecDepth 100000
namespace Go.Proofs.YtbflmeomkfjikaaGreat.A
open Go Go.RowKit Go.Shelf

/-! ### Plain laws of squares -/
end Go.Proofs.YtbflmeomkfjikaaGreat.A



set_option linter.unusedVariables false
set_option linter.unusedSimpArgs false
set_option maxRecDepth 100000
namespace Go.Proofs.YtbflmeomkfjikaaGreat.A
open Go Go.RowKit Go.Shelf

/-! ### Nothing's triangles -/
/-! ### Plain laws of clearing, of whole numbers -/
/-! ### The function TriTells -/
end Go.Proofs.YtbflmeomkfjikaaGreat.A



set_option linter.unusedVariables false
set_option linter.unusedSimpArgs false
set_option maxRecDepth 100000
namespace Go.Proofs.YtbflmeomkfjikaaGreat.A
open Go Go.RowKit Go.Shelf

/-! ### root: new states, and what they stand for -/
theorem clearF_len (n : Nat) (l : List Fr) : (clearF n l).length = n * n := by rw [clearF, gridP_length, Nat.add_zero]
theorem ok49 (ex er : Bool) (x l : List Fr) (n : Nat) (hn : 1 ≤ n ∧ n ≤ 16) (hl : l.length = n * n) (hx : x.length ≤ 5864062014805) :
    Ok Tryz.prog 49 [.sl ex (frs x), matV er n n (frs l)] (if 1 ≤ x.length ∧ x.length ≤ 4 ∧ x.length = n then .tup [stV false false (frs x) n n (frs (clearF n l)), tru true] else .tup [stNil, tru false]) := by
  refine ok_fn mixed Tryz.func49 (code := ?_) (h := h49) ?_ k49 ?_
  rotate_left
  · exact rfl
  unfold h49 initS
  simp -implicitDefEqProofs (maxSteps := 10000000) only [rkA, rkB, stepA, valA, simprocAttr, Tryz.ntmps49, Tryz.results49]
  refine call_fn rfl rfl rfl (ok40 n hn er l hl) ?_
  simp -implicitDefEqProofs (maxSteps := 10000000) only [rkA, rkB, stepA, valA, simprocAttr]
  refine call_fn rfl rfl rfl (ok109 ex x hx) ?_
  simp -implicitDefEqProofs (maxSteps := 10000000) only [rkA, rkB, stepA, valA, simprocAttr]
  refine call_fn rfl rfl rfl (ok50 false false x (clearF n l) n n) ?_
  rw [stRight_nat (clearF_len n l)]
  by_cases h : 1 ≤ x.length ∧ x.length ≤ 4 ∧ x.length = n
  · rw [if_pos h, decide_eq_true h]
    simp -implicitDefEqProofs (maxSteps := 10000000) only [rkA, rkB, stepA, valA, simprocAttr]
  · rw [if_neg h, decide_eq_false h]
    simp -implicitDefEqProofs (maxSteps := 10000000) only [rkA, rkB, stepA, valA, simprocAttr]
end Go.Proofs.YtbflmeomkfjikaaGreat.A



set_option linter.unusedVariables false
set_option linter.unusedSimpArgs false
set_option maxRecDepth 100000
namespace Go.Proofs.YtbflmeomkfjikaaGreat.A.E
open Go Go.RowKit Go.Shelf

theorem clearF_len (n : Nat) (l : List Fr) : (clearF n l).length = n * n := by rw [clearF, gridP_length, Nat.add_zero]
theorem ok54 (ex er : Bool) (x l : List Fr) (n : Nat) (hn : 1 ≤ n ∧ n ≤ 16) (hl : l.length = n * n) (hx : x.length ≤ 4398046511104) :
    Ok Tryz.prog 54 [.sl ex (frs x), matV er n n (frs l)] (if 1 ≤ x.length ∧ x.length ≤ 4 ∧ x.length = n then .tup [stV false false (frs x) n n (frs (clearF n l)), tru true] else .tup [stNil, tru false]) := by
  refine ok_fn mixed Tryz.func54 (code := ?_) (h := h54) ?_ k54 ?_
  rotate_left
  · exact rfl
  unfold h54 initS
  simp -implicitDefEqProofs (maxSteps := 10000000) only [rkA, rkB, stepA, valA, simprocAttr, Tryz.ntmps54, Tryz.results54]
  refine call_fn rfl rfl rfl (ok92 n hn er l hl) ?_
  simp -implicitDefEqProofs (maxSteps := 10000000) only [rkA, rkB, stepA, valA, simprocAttr]
  refine call_fn rfl rfl rfl (ok87 ex x hx) ?_
  simp -implicitDefEqProofs (maxSteps := 10000000) only [rkA, rkB, stepA, valA, simprocAttr]
  refine call_fn rfl rfl rfl (ok62 false false x (clearF n l) n n) ?_
  rw [stRight_nat (clearF_len n l)]
  by_cases h : 1 ≤ x.length ∧ x.length ≤ 4 ∧ x.length = n
  · rw [if_pos h, decide_eq_true h]
    simp -implicitDefEqProofs (maxSteps := 10000000) only [rkA, rkB, stepA, valA, simprocAttr]
  · rw [if_neg h, decide_eq_false h]
    simp -implicitDefEqProofs (maxSteps := 10000000) only [rkA, rkB, stepA, valA, simprocAttr]
theorem ok57 (ex ep : Bool) (x l : List Fr) (n : Nat) (hl : l.length = n * n) :
    Ok Tryz.prog 57 [stV ex ep (frs x) n n (frs l)] (if 1 ≤ x.length ∧ x.length ≤ 4 ∧ x.length = n then matV false n n (frs (sqF n l)) else matNil) := by
  refine ok_fn mixed Tryz.func57 (code := ?_) (h := h57) ?_ k57 ?_
  rotate_left
  · exact rfl
  unfold h57 initS
  simp -implicitDefEqProofs (maxSteps := 10000000) only [rkA, rkB, stepA, valA, simprocAttr, Tryz.ntmps57, Tryz.results57]
  refine call_fn rfl rfl rfl (ok62 ex ep x l n n) ?_
  rw [stRight_nat hl]
  by_cases h : 1 ≤ x.length ∧ x.length ≤ 4 ∧ x.length = n
  · rw [if_pos h, decide_eq_true h]
    simp -implicitDefEqProofs (maxSteps := 10000000) only [rkA, rkB, stepA, valA, simprocAttr]
    refine call_fn rfl rfl rfl (ok46 n (by omega) ep l hl) ?_
    simp -implicitDefEqProofs (maxSteps := 10000000) only [rkA, rkB, stepA, valA, simprocAttr]
  · rw [if_neg h, decide_eq_false h]
    simp -implicitDefEqProofs (maxSteps := 10000000) only [rkA, rkB, stepA, valA, simprocAttr]
end Go.Proofs.YtbflmeomkfjikaaGreat.A.E


set_option linter.unusedVariables false
set_option linter.unusedSimpArgs false
set_option maxRecDepth 100000
namespace Go.Proofs.YtbflmeomkfjikaaGreat.A.E
open Go Go.RowKit Go.Shelf

/-! ### Whole numbers, enclosed: points -/
abbrev whole (n : Int) : Fr := ⟨n * 16777216, n * 16777216, n * 16777216, false⟩
def few (n : Int) : Prop := -67108864 ≤ n ∧ n ≤ 67108864
theorem natAbs_U (a : Int) : (a * 16777216).natAbs = a.natAbs * 16777216 := by rw [Int.natAbs_mul]; rfl
theorem signed_abs {x : Int} {b : Bool} (h : x = 0 ∨ b = decide (x < 0)) : (if b = true then -((x.natAbs : Nat) : Int) else ((x.natAbs : Nat) : Int)) = x := by
  rcases h with rfl | rfl
  · simp
  · by_cases h : x < 0
    · simp only [h, decide_true, if_true]
      omega
    · simp only [h, decide_false, Bool.false_eq_true, if_false]
      omega
theorem minus_mul (a b : Int) : a * b = 0 ∨ (decide (a < 0) != decide (b < 0)) = decide (a * b < 0) := by
  rcases Int.lt_trichotomy a 0 with ha | rfl | ha
  · rcases Int.lt_trichotomy b 0 with hb | rfl | hb
    · right
      have := Int.mul_pos_of_neg_of_neg ha hb
      rw [decide_eq_true ha, decide_eq_true hb, decide_eq_false (by omega)]; rfl
    · left; simp
    · right
      have := Int.mul_neg_of_neg_of_pos ha hb
      rw [decide_eq_true ha, decide_eq_false (by omega), decide_eq_true this]; rfl
  · left; simp
  · rcases Int.lt_trichotomy b 0 with hb | rfl | hb
    · right
      have := Int.mul_neg_of_pos_of_neg ha hb
      rw [decide_eq_false (by omega), decide_eq_true hb, decide_eq_true this]; rfl
    · left; simp
    · right
      have := Int.mul_pos ha hb
      rw [decide_eq_false (by omega), decide_eq_false (by omega), decide_eq_false (by omega)]; rfl
theorem U_lt (a : Int) : (a * 16777216 < 0) = (a < 0) := by apply propext; omega
theorem md_exact {a b mode : Int} (ha : few a) (hb : few b) (hab : few (a * b)) (hm : 0 ≤ mode ∧ mode ≤ 2) : mdF (a * 16777216) (b * 16777216) 16777216 mode = (a * b * 16777216, true) := by
  have e : (a * 16777216).natAbs * (b * 16777216).natAbs = ((a * b).natAbs * 16777216) * 16777216 := by
    rw [natAbs_U, natAbs_U, Int.natAbs_mul, Nat.mul_assoc, Nat.mul_assoc, Nat.mul_assoc]
    congr 1
    rw [← Nat.mul_assoc, Nat.mul_comm 16777216 b.natAbs, Nat.mul_assoc]
  have hU : (16777216 : Int).natAbs = 16777216 := rfl
  have hN : mdN (a * 16777216) (b * 16777216) 16777216 mode = (a * b).natAbs * 16777216 := by
    unfold mdN
    rw [hU, e, Nat.mul_div_cancel _ (by omega), Nat.mul_mod_left]
    simp [moreF]
  unfold few at ha hb hab
  have hok : mdOk (a * 16777216) (b * 16777216) 16777216 mode = true := by
    unfold mdOk rightW
    rw [hN]
    simp only [Bool.and_eq_true, decide_eq_true_eq]
    refine ⟨by omega, by omega, by omega, by omega, hm, ?_⟩
    omega
  unfold mdF
  rw [hok, if_pos rfl, hN]
  congr 1
  have hs : minus3 (a * 16777216) (b * 16777216) 16777216 = (decide (a < 0) != decide (b < 0)) := by
    unfold minus3
    simp only [U_lt]
    simp
  rw [hs]
  have h1 := signed_abs (x := a * b * 16777216) (b := decide (a < 0) != decide (b < 0)) (by
    rcases minus_mul a b with h | h
    · left; rw [h]; rfl
    · right; rw [h]; congr 1; exact (U_lt _).symm)
  rw [natAbs_U] at h1
  exact h1
theorem of_exact {n : Int} (h : few n) : mdF n 16777216 1 0 = (n * 16777216, true) := by
  have h1U : (1 : Int).natAbs = 1 := rfl
  have hU : (16777216 : Int).natAbs = 16777216 := rfl
  have hN : mdN n 16777216 1 0 = n.natAbs * 16777216 := by
    unfold mdN
    rw [h1U, hU, Nat.div_one, Nat.mod_one]
    simp [moreF]
  unfold few at h
  have hok : mdOk n 16777216 1 0 = true := by
    unfold mdOk rightW
    rw [hN]
    simp only [Bool.and_eq_true, decide_eq_true_eq]
    refine ⟨by omega, by omega, by omega, by omega, by omega, ?_⟩
    omega
  unfold mdF
  rw [hok, if_pos rfl, hN]
  congr 1
  have hs : minus3 n 16777216 1 = decide (n * 16777216 < 0) := by
    unfold minus3
    simp [U_lt]
  rw [hs]
  have h1 := signed_abs (x := n * 16777216) (b := decide (n * 16777216 < 0)) (.inr rfl)
  rw [natAbs_U] at h1
  exact h1
theorem rightX_U {n : Int} (h : few n) : rightX (n * 16777216) = true := by
  unfold few at h
  unfold rightX
  rw [decide_eq_true_eq]
  omega
theorem newF_whole {n : Int} (h : few n) : newF n 1 = whole n := by
  have e : ofX n = (n * 16777216, true) := by
    unfold ofX toldF
    rw [of_exact h]
    simp [rightX_U h]
  unfold newF point
  rw [e]
  simp [rightX_U h]
theorem fine_whole {n : Int} (h : few n) : (whole n).fine = true := by
  unfold Fr.fine
  simp [rightX_U h]
theorem addF_whole {a b : Int} (ha : few a) (hb : few b) (hs : few (a + b)) : addF (whole a) (whole b) = whole (a + b) := by
  have e : addX (a * 16777216) (b * 16777216) = ((a + b) * 16777216, true) := by
    unfold addX toldF
    rw [← Int.add_mul]
    simp [rightX_U ha, rightX_U hb, rightX_U hs]
  unfold addF madeE
  simp [okP, e, fine_whole ha, fine_whole hb, minL, maxL]
theorem mulF_whole {a b : Int} (ha : few a) (hb : few b) (hs : few (a * b)) : mulF (whole a) (whole b) = whole (a * b) := by
  have e : ∀ mode : Int, 0 ≤ mode ∧ mode ≤ 2 → mulX (a * 16777216) (b * 16777216) mode = (a * b * 16777216, true) := fun mode hm => by
    unfold mulX toldF
    rw [md_exact ha hb hs hm]
    simp [rightX_U ha, rightX_U hb, rightX_U hs]
  unfold mulF madeE
  simp [okP, allP, e, fine_whole ha, fine_whole hb, minL, maxL]
end Go.Proofs.YtbflmeomkfjikaaGreat.A.E



set_option linter.unusedVariables false
set_option linter.unusedSimpArgs false
set_option maxRecDepth 100000
namespace Go.Proofs.YtbflmeomkfjikaaGreat.A.E
open Go Go.RowKit Go.Shelf

/-! ### Is a fraction enclosed? -/
def enclB (x : Fr) (n d : Int) : Bool := x.fine && (decide (1 ≤ d) && (rightW n && (rightW d && (decide (cmpF x.lo d n 16777216 ≤ 0) && decide (cmpF n 16777216 x.hi d ≤ 0)))))
theorem rightXW {n : Int} (h : rightX n = true) : rightW n = true := by
  unfold rightX at h
  unfold rightW
  rw [decide_eq_true_eq] at h ⊢
  omega
theorem fine_lohi {x : Fr} (h : x.fine = true) : rightX x.lo = true ∧ rightX x.hi = true := by
  unfold Fr.fine at h
  simp only [Bool.and_eq_true] at h
  exact ⟨h.2.1, h.2.2.1⟩
theorem ok25 (x : Fr) (n d : Int) : Ok Tryz.prog 25 [frV x, num n, num d] (tru (enclB x n d)) := by
  refine ok_fn mixed Tryz.func25 (code := ?_) (h := h25) ?_ k25 ?_
  rotate_left
  · exact rfl
  unfold h25 initS
  simp -implicitDefEqProofs (maxSteps := 10000000) only [rkA, rkB, stepA, valA, simprocAttr, Tryz.ntmps25, Tryz.results25]
  refine call_fn rfl rfl rfl (ok84 x) ?_
  unfold enclB
  cases hf : x.fine with
  | false => simp -implicitDefEqProofs (maxSteps := 10000000) only [rkA, rkB, stepA, valA, simprocAttr]
  | true =>
    obtain ⟨hlo, hhi⟩ := fine_lohi hf
    simp -implicitDefEqProofs (maxSteps := 10000000) only [rkA, rkB, stepA, valA, simprocAttr]
    refine gB_dec ?_ ?_ <;> intro h1
    · have : ¬ 1 ≤ d := by omega
      simp -implicitDefEqProofs (maxSteps := 10000000) only [h1, this, rkA, rkB, stepA, valA, simprocAttr]
    · have h1' : 1 ≤ d := by omega
      simp -implicitDefEqProofs (maxSteps := 10000000) only [h1, h1', rkA, rkB, stepA, valA, simprocAttr]
      refine call_fn rfl rfl rfl (ok85' n) ?_
      cases hn : rightW n with
      | false => simp -implicitDefEqProofs (maxSteps := 10000000) only [rkA, rkB, stepA, valA, simprocAttr]
      | true =>
        simp -implicitDefEqProofs (maxSteps := 10000000) only [rkA, rkB, stepA, valA, simprocAttr]
        refine call_fn rfl rfl rfl (ok85' d) ?_
        cases hd : rightW d with
        | false => simp -implicitDefEqProofs (maxSteps := 10000000) only [rkA, rkB, stepA, valA, simprocAttr]
        | true =>
          simp -implicitDefEqProofs (maxSteps := 10000000) only [rkA, rkB, stepA, valA, simprocAttr]
          refine call_fn rfl rfl rfl (ok86 x.lo d n 16777216 (rightXW hlo) hd hn (by decide)) ?_
          simp -implicitDefEqProofs (maxSteps := 10000000) only [rkA, rkB, stepA, valA, simprocAttr]
          refine gB_dec ?_ ?_ <;> intro h2 <;> simp -implicitDefEqProofs (maxSteps := 10000000) only [h2, rkA, rkB, stepA, valA, simprocAttr]
          refine call_fn rfl rfl rfl (ok86 n 16777216 x.hi d hn (by decide) (rightXW hhi) hd) ?_
          simp -implicitDefEqProofs (maxSteps := 10000000) only [rkA, rkB, stepA, valA, simprocAttr]
/-! ### Products of whole numbers -/
theorem getD_newF {a : List Int} {i : Nat} (h : i < a.length) (d : Fr) : (a.map (newF · 1)).getD i d = newF (a.getD i 0) 1 := by
  simp [h]
theorem sumF_whole (f : Nat → Int) (s : Nat → Int) (h0 : s 0 = 0) (hs : ∀ j, s (j + 1) = s j + f j) (N : Nat) (hf : ∀ j, j < N → few (f j)) (hb : ∀ j, j ≤ N → few (s j)) : ∀ n, n ≤ N → sumF ((List.range n).map fun j => whole (f j)) = whole (s n)
  | 0, _ => by
    have := newF_whole (n := 0) (by unfold few; omega)
    simp [sumF, this, h0]
  | n + 1, hn => by
    have ih := sumF_whole f s h0 hs N hf hb n (by omega)
    have : sumF ((List.range (n + 1)).map fun j => whole (f j)) = addF (sumF ((List.range n).map fun j => whole (f j))) (whole (f n)) := by
      unfold sumF
      rw [List.range_succ, List.map_append, List.foldl_append]
      rfl
    rw [this, ih, addF_whole (hb n (by omega)) (hf n (by omega)) (by rw [← hs]; exact hb _ hn), ← hs]
theorem few_small {x : Int} (h : -100 ≤ x ∧ x ≤ 100) : few x := by unfold few; omega
end Go.Proofs.YtbflmeomkfjikaaGreat.A.E



set_option linter.unusedVariables false
set_option linter.unusedSimpArgs false
set_option maxRecDepth 100000
namespace Go.Proofs.YtbflmeomkfjikaaGreat.A.E
open Go Go.RowKit Go.Shelf

/-! ### What the document fixes of one number, behind layer 10 -/
theorem ok48 : Ok Tryz.prog 48 [] (tru true) := by
  refine ok_fn mixed Tryz.func48 (code := ?_) (h := h48) ?_ k48 ?_
  rotate_left
  · exact rfl
  unfold h48 initS
  simp -implicitDefEqProofs (maxSteps := 10000000) only [rkA, rkB, stepA, valA, simprocAttr, Tryz.ntmps48, Tryz.results48]
  have h1 := ok19 1 1 true [1] (by simp)
  rw [if_pos (by decide)] at h1
  refine call_fn rfl rfl rfl (h1) ?_
  have h2 := ok39 true [0] (by simp)
  have h3 := ok39 true [1] (by simp)
  have u1 : A.upRX 1 ([0].map (A.newF · 1)) (A.clearF 1 ([1].map (A.newF · 1))) ([1].map (A.newF · 1)) (A.newF 3 1) (A.newF 4 1) = [A.newF 1 1] := by decide +kernel
  have u2 : (A.upR 1 (A.clearF 1 ([1].map (A.newF · 1))) ([1].map (A.newF · 1)) (A.newF 3 1)).2.2 = A.newF 4 1 := by decide +kernel
  generalize hR : [1].map (A.newF · 1) = R at *
  have lR : R.length = 1 := by subst hR; rfl
  simp -implicitDefEqProofs (maxSteps := 10000000) only [rkA, rkB, stepA, valA, simprocAttr]
  refine call_fn rfl rfl rfl (h2) ?_
  generalize hX : [0].map (A.newF · 1) = X at *
  have lX : X.length = 1 := by subst hX; rfl
  simp -implicitDefEqProofs (maxSteps := 10000000) only [rkA, rkB, stepA, valA, simprocAttr]
  have h4 := ok49 false false X R 1 (by omega) (by omega) (by omega)
  rw [if_pos (by omega)] at h4
  refine call_fn rfl rfl rfl (h4) ?_
  simp -implicitDefEqProofs (maxSteps := 10000000) only [rkA, rkB, stepA, valA, simprocAttr]
  refine call_fn rfl rfl rfl (h3) ?_
  simp -implicitDefEqProofs (maxSteps := 10000000) only [rkA, rkB, stepA, valA, simprocAttr]
  refine call_fn rfl rfl rfl (ok44 3 1) ?_
  simp -implicitDefEqProofs (maxSteps := 10000000) only [rkA, rkB, stepA, valA, simprocAttr]
  refine call_fn rfl rfl rfl (ok44 4 1) ?_
  simp -implicitDefEqProofs (maxSteps := 10000000) only [rkA, rkB, stepA, valA, simprocAttr]
  have h5 := ok59 false false false 1 X (A.clearF 1 R) R (A.newF 3 1) (A.newF 4 1) (by omega) lX (A.clearF_len 1 R) lR
  rw [u1, u2] at h5
  refine call_fn rfl rfl rfl (h5) ?_
  simp -implicitDefEqProofs (maxSteps := 10000000) only [A.frs, rkA, rkB, stepA, valA, simprocAttr]
  have e1 := ok22 1 1 true [1] (by simp)
  rw [if_pos (by decide)] at e1
  refine call_fn rfl rfl rfl (e1) ?_
  have e2 := ok43 true [0] (by simp)
  have e3 := ok43 true [1] (by simp)
  have v1 : enclB (atF 1 1 (sqF 1 (upRS 1 (clearF 1 ([1].map (newF · 1))) ([1].map (newF · 1)) (point 50331648))) 0 0) 3 4 = true := by decide +kernel
  generalize hQ : [1].map (newF · 1) = Q at *
  have lQ : Q.length = 1 := by subst hQ; rfl
  simp -implicitDefEqProofs (maxSteps := 10000000) only [rkA, rkB, stepA, valA, simprocAttr]
  refine call_fn rfl rfl rfl (e2) ?_
  generalize hY : [0].map (newF · 1) = Y at *
  have lY : Y.length = 1 := by subst hY; rfl
  simp -implicitDefEqProofs (maxSteps := 10000000) only [rkA, rkB, stepA, valA, simprocAttr]
  have e4 := ok54 false false Y Q 1 (by omega) (by omega) (by omega)
  rw [if_pos (by omega)] at e4
  refine call_fn rfl rfl rfl (e4) ?_
  simp -implicitDefEqProofs (maxSteps := 10000000) only [rkA, rkB, stepA, valA, simprocAttr]
  refine call_fn rfl rfl rfl (e3) ?_
  simp -implicitDefEqProofs (maxSteps := 10000000) only [rkA, rkB, stepA, valA, simprocAttr]
  refine call_fn rfl rfl rfl (ok53 50331648) ?_
  simp -implicitDefEqProofs (maxSteps := 10000000) only [rkA, rkB, stepA, valA, simprocAttr]
  refine call_fn rfl rfl rfl (ok53 67108864) ?_
  simp -implicitDefEqProofs (maxSteps := 10000000) only [rkA, rkB, stepA, valA, simprocAttr]
  have e5 := ok55 false false false 1 Y (clearF 1 Q) Q (point 50331648) (point 67108864) (by omega) lY (clearF_len 1 Q) lQ
  refine call_fn rfl rfl rfl (e5) ?_
  simp -implicitDefEqProofs (maxSteps := 10000000) only [rkA, rkB, stepA, valA, simprocAttr]
  refine call_fn rfl rfl rfl (ok44 4 1) ?_
  simp -implicitDefEqProofs (maxSteps := 10000000) only [A.eq_fr, rkA, rkB, stepA, valA, simprocAttr]
  refine call_fn rfl rfl rfl (ok44 1 1) ?_
  have lw : (frs (upRX 1 Y (clearF 1 Q) Q (point 50331648) (point 67108864))).length = 1 := by simp [upRX, upRK, lY]
  simp -implicitDefEqProofs (maxSteps := 10000000) only [A.eq_fr, lw, rkA, rkB, stepA, valA, simprocAttr]
  have e6 := ok57 false false (upRX 1 Y (clearF 1 Q) Q (point 50331648) (point 67108864)) (upRS 1 (clearF 1 Q) Q (point 50331648)) 1 (upRS_len _ _ _ _)
  have lw' : (upRX 1 Y (clearF 1 Q) Q (point 50331648) (point 67108864)).length = 1 := by simpa using lw
  rw [if_pos (by omega)] at e6
  refine call_fn rfl rfl rfl (e6) ?_
  simp -implicitDefEqProofs (maxSteps := 10000000) only [rkA, rkB, stepA, valA, simprocAttr]
  refine call_fn rfl rfl rfl (ok35 false 1 1 0 0 (sqF 1 (upRS 1 (clearF 1 Q) Q (point 50331648)))) ?_
  simp -implicitDefEqProofs (maxSteps := 10000000) only [rkA, rkB, stepA, valA, simprocAttr]
  refine call_fn rfl rfl rfl (ok25 (atF 1 1 (sqF 1 (upRS 1 (clearF 1 Q) Q (point 50331648))) 0 0) 3 4) ?_
  rw [v1]
  simp -implicitDefEqProofs (maxSteps := 10000000) only [rkA, rkB, stepA, valA, simprocAttr]
  have h7 := ok50 false false X (A.clearF 1 R) 1 1
  have hs : stRight X.length 1 1 (A.clearF 1 R).length = true := by rw [A.clearF_len, lX]; decide +kernel
  rw [hs] at h7
  refine call_fn rfl rfl rfl (h7) ?_
  simp -implicitDefEqProofs (maxSteps := 10000000) only [rkA, rkB, stepA, valA, simprocAttr]
end Go.Proofs.YtbflmeomkfjikaaGreat.A.E



set_option linter.unusedVariables false
set_option linter.unusedSimpArgs false
set_option maxRecDepth 100000
namespace Go.Proofs.YtbflmeomkfjikaaGreat.A.E
open Go Go.RowKit Go.Shelf

/-! ### The function RootNew -/
end Go.Proofs.YtbflmeomkfjikaaGreat.A.E



set_option linter.unusedVariables false
set_option linter.unusedSimpArgs false
set_option maxRecDepth 100000
namespace Go.Proofs.YtbflmeomkfjikaaGreat.A.E
open Go Go.RowKit Go.Shelf

/-! ### root: one tick on -/
end Go.Proofs.YtbflmeomkfjikaaGreat.A.E


set_option linter.unusedVariables false
set_option linter.unusedSimpArgs false
set_option maxRecDepth 100000
namespace Go.Proofs.YtbflmeomkfjikaaGreat.A.E
open Go Go.RowKit Go.Shelf

/-! ### Rounding: what is told of a product, divided -/
theorem minus3_of (a b c : Int) (hc : c ≠ 0) : a * b = 0 ∨ minus3 a b c = decide ((if c < 0 then -(a * b) else a * b) < 0) := by
  rcases minus_mul a b with h | h
  · exact .inl h
  · by_cases h0 : a * b = 0
    · exact .inl h0
    · right
      unfold minus3
      rw [h]
      by_cases hc0 : c < 0
      · rw [if_pos hc0, decide_eq_true hc0]
        by_cases hx : a * b < 0
        · rw [decide_eq_true hx, decide_eq_false (by omega)]; rfl
        · rw [decide_eq_false hx, decide_eq_true (by omega)]; rfl
      · rw [if_neg hc0, decide_eq_false hc0]
        by_cases hx : a * b < 0
        · rw [decide_eq_true hx]; rfl
        · rw [decide_eq_false hx]; rfl
theorem md_spec {a b c mode : Int} (h : (mdF a b c mode).2 = true) : ∃ Y C : Int, 0 < C ∧ ((c = C ∧ Y = a * b) ∨ (c = -C ∧ Y = -(a * b))) ∧
    (mdF a b c mode).1 * C < Y + C ∧ Y < (mdF a b c mode).1 * C + C ∧ (mode = 1 → (mdF a b c mode).1 * C ≤ Y) ∧ (mode = 2 → Y ≤ (mdF a b c mode).1 * C) := by
  unfold mdF at h ⊢
  split at h
  · rename_i hok
    rw [if_pos hok]
    have hc : c ≠ 0 := by
      unfold mdOk at hok
      simp only [Bool.and_eq_true, decide_eq_true_eq] at hok
      exact hok.2.2.2.1
    refine ⟨if c < 0 then -(a * b) else a * b, (c.natAbs : Int), by omega, by split <;> omega, ?_⟩
    have hm := minus3_of a b c hc
    have hP : (if c < 0 then -(a * b) else a * b).natAbs = a.natAbs * b.natAbs := by
      rw [← Int.natAbs_mul]
      split <;> omega
    have h0 : a * b = 0 → (if c < 0 then -(a * b) else a * b) = 0 := fun h => by rw [h]; split <;> rfl
    generalize (if c < 0 then -(a * b) else a * b) = Y at *
    unfold mdN
    have hCp : 0 < c.natAbs := by omega
    generalize c.natAbs = C at *
    generalize a.natAbs * b.natAbs = P at *
    have hd := Nat.div_add_mod P C
    have hr := Nat.mod_lt P hCp
    have hmo : moreF mode (P / C) (P % C) C (minus3 a b c) = true → P % C ≠ 0 := fun h h0 => by
      unfold moreF at h
      rw [if_pos h0] at h
      cases h
    have hm1 : mode = 1 → moreF mode (P / C) (P % C) C (minus3 a b c) = (decide (P % C ≠ 0) && minus3 a b c) := fun h => by
      unfold moreF
      subst h
      by_cases h0 : P % C = 0
      · simp [h0]
      · simp [h0]
    have hm2 : mode = 2 → moreF mode (P / C) (P % C) C (minus3 a b c) = (decide (P % C ≠ 0) && !minus3 a b c) := fun h => by
      unfold moreF
      subst h
      by_cases h0 : P % C = 0
      · simp [h0]
      · simp [h0]
    generalize moreF mode (P / C) (P % C) C (minus3 a b c) = mo at *
    generalize minus3 a b c = mi at *
    generalize P / C = D at *
    generalize P % C = r at *
    have hT : ((D : Int)) * (C : Int) = ((C * D : Nat) : Int) := by rw [Nat.mul_comm, Int.natCast_mul]
    have hT1 : ((D : Int) + 1) * (C : Int) = ((C * D : Nat) : Int) + C := by rw [Int.add_mul, hT, Int.one_mul]
    generalize C * D = T at *
    have hmi : P = 0 ∨ mi = decide (Y < 0) := by
      rcases hm with h | h
      · have := h0 h
        left; omega
      · exact .inr h
    clear hm h0 h hok
    have hm1' : mode = 1 → (mo = true ↔ r ≠ 0 ∧ mi = true) := fun h => by rw [hm1 h]; simp
    have hm2' : mode = 2 → (mo = true ↔ r ≠ 0 ∧ mi = false) := fun h => by rw [hm2 h]; simp
    clear hm1 hm2
    have hmi' : P = 0 ∨ (mi = true ↔ Y < 0) := by
      rcases hmi with h | h
      · exact .inl h
      · right; rw [h, decide_eq_true_eq]
    clear hmi
    cases mo <;> cases mi
    all_goals simp only [if_true, if_false, Bool.false_eq_true, Nat.add_zero, Int.natCast_add, Int.natCast_one, Int.neg_mul, hT, hT1, true_iff, false_iff, reduceCtorEq, and_true, and_false, iff_true, iff_false, not_true_eq_false, not_false_eq_true, Int.natCast_zero, Int.add_zero]
    all_goals simp only [Bool.false_eq_true, reduceCtorEq, false_implies, true_implies, forall_const, true_iff, false_iff, and_true, and_false, iff_true, iff_false, not_true_eq_false, not_false_eq_true, Int.not_lt, ne_eq, Decidable.not_not, false_and, not_and, true_and] at hmo hmi' hm1' hm2'
    all_goals refine ⟨by omega, by omega, fun h => ?_, fun h => ?_⟩
    all_goals first
      | omega
      | (have := hm1' h; omega)
      | (have := hm2' h; omega)
      | exact (hm1' h).elim
      | exact (hm2' h).elim
  · cases h

/-! ### What is made of values and of pairs of bounds -/
theorem minL_foldl : ∀ (l : List Int) (x : Int), l.foldl (fun m y => if y < m then y else m) x ≤ x ∧ (∀ y ∈ l, l.foldl (fun m y => if y < m then y else m) x ≤ y) ∧ (l.foldl (fun m y => if y < m then y else m) x = x ∨ l.foldl (fun m y => if y < m then y else m) x ∈ l)
  | [], x => ⟨Int.le_refl _, by simp, .inl rfl⟩
  | z :: l, x => by
    rw [List.foldl_cons]
    have ht : (if z < x then z else x) ≤ x ∧ (if z < x then z else x) ≤ z ∧ ((if z < x then z else x) = x ∨ (if z < x then z else x) = z) := by split <;> omega
    generalize (if z < x then z else x) = t at ht ⊢
    obtain ⟨h1, h2, h3⟩ := minL_foldl l t
    refine ⟨by omega, fun y hy => ?_, ?_⟩
    · rcases List.mem_cons.1 hy with rfl | hy
      · omega
      · exact h2 y hy
    · rcases h3 with h3 | h3
      · rw [h3]
        rcases ht.2.2 with e | e
        · exact .inl e
        · right; rw [e]; simp
      · right; exact List.mem_cons_of_mem _ h3
theorem maxL_foldl : ∀ (l : List Int) (x : Int), x ≤ l.foldl (fun m y => if m < y then y else m) x ∧ (∀ y ∈ l, y ≤ l.foldl (fun m y => if m < y then y else m) x) ∧ (l.foldl (fun m y => if m < y then y else m) x = x ∨ l.foldl (fun m y => if m < y then y else m) x ∈ l)
  | [], x => ⟨Int.le_refl _, by simp, .inl rfl⟩
  | z :: l, x => by
    rw [List.foldl_cons]
    have ht : x ≤ (if x < z then z else x) ∧ z ≤ (if x < z then z else x) ∧ ((if x < z then z else x) = x ∨ (if x < z then z else x) = z) := by split <;> omega
    generalize (if x < z then z else x) = t at ht ⊢
    obtain ⟨h1, h2, h3⟩ := maxL_foldl l t
    refine ⟨by omega, fun y hy => ?_, ?_⟩
    · rcases List.mem_cons.1 hy with rfl | hy
      · omega
      · exact h2 y hy
    · rcases h3 with h3 | h3
      · rw [h3]
        rcases ht.2.2 with e | e
        · exact .inl e
        · right; rw [e]; simp
      · right; exact List.mem_cons_of_mem _ h3
theorem minL_le {l : List Int} {y : Int} (h : y ∈ l) : minL l ≤ y := by
  cases l with
  | nil => cases h
  | cons x l =>
    rcases List.mem_cons.1 h with rfl | h
    · exact (minL_foldl l y).1
    · exact (minL_foldl l x).2.1 y h
theorem le_maxL {l : List Int} {y : Int} (h : y ∈ l) : y ≤ maxL l := by
  cases l with
  | nil => cases h
  | cons x l =>
    rcases List.mem_cons.1 h with rfl | h
    · exact (maxL_foldl l y).1
    · exact (maxL_foldl l x).2.1 y h
theorem minL_mem {l : List Int} (h : l ≠ []) : minL l ∈ l := by
  cases l with
  | nil => exact absurd rfl h
  | cons x l =>
    rcases (minL_foldl l x).2.2 with e | e
    · have e' : minL (x :: l) = x := e
      rw [e']; simp
    · exact List.mem_cons_of_mem _ e
theorem maxL_mem {l : List Int} (h : l ≠ []) : maxL l ∈ l := by
  cases l with
  | nil => exact absurd rfl h
  | cons x l =>
    rcases (maxL_foldl l x).2.2 with e | e
    · have e' : maxL (x :: l) = x := e
      rw [e']; simp
    · exact List.mem_cons_of_mem _ e
theorem made_is {F : Int → Int → Int → Int × Bool} {a b : Fr} {ps : List (Int × Int)} (h : (madeE F a b ps).bad = false) : a.fine = true ∧ b.fine = true ∧ (F a.v b.v 0).2 = true ∧ (∀ p ∈ ps, (F p.1 p.2 1).2 = true ∧ (F p.1 p.2 2).2 = true) ∧
    madeE F a b ps = ⟨(F a.v b.v 0).1, minL (ps.map fun p => (F p.1 p.2 1).1), maxL (ps.map fun p => (F p.1 p.2 2).1), false⟩ := by
  unfold madeE at h ⊢
  split at h
  · rename_i hc
    rw [if_pos hc]
    obtain ⟨h1, h2, h3⟩ := hc
    rw [Bool.and_eq_true] at h1
    refine ⟨h2, h3, h1.1, fun p hp => ?_, rfl⟩
    have := List.all_eq_true.1 h1.2 p hp
    unfold okP at this
    exact Bool.and_eq_true_iff.1 this
  · cases h
theorem told_is {n : Int} {is : Bool} {l : List Int} (h : (toldF n is l).2 = true) : is = true ∧ (toldF n is l).1 = n ∧ rightX n = true := by
  unfold toldF at h ⊢
  split at h
  · rename_i hc
    rw [if_pos hc]
    exact ⟨hc.1, rfl, List.all_eq_true.1 hc.2 n (by simp)⟩
  · cases h
theorem fine_is {x : Fr} : x.fine = true ↔ x.bad = false ∧ rightX x.lo = true ∧ rightX x.hi = true ∧ x.lo ≤ x.v ∧ x.v ≤ x.hi := by
  unfold Fr.fine
  simp only [Bool.and_eq_true, Bool.not_eq_true', decide_eq_true_eq]

/-! ### To enclose -/
def Enc (x : Fr) (v : Rat) : Prop := x.fine = true ∧ (x.lo : Rat) ≤ v * 16777216 ∧ v * 16777216 ≤ (x.hi : Rat)
/-- Of what is made: every bound told is rounded to its side. -/
theorem made_enc {F : Int → Int → Int → Int × Bool} {a b : Fr} {ps : List (Int × Int)} {w : Rat} (h : (madeE F a b ps).bad = false)
    (hr : ∀ x y m, (F x y m).2 = true → rightX (F x y m).1 = true)
    (hlo : ∃ p ∈ ps, ((F p.1 p.2 1).1 : Rat) ≤ w * 16777216) (hhi : ∃ p ∈ ps, w * 16777216 ≤ ((F p.1 p.2 2).1 : Rat))
    (hlv : ∃ p ∈ ps, (F p.1 p.2 1).1 ≤ (F a.v b.v 0).1) (hvh : ∃ p ∈ ps, (F a.v b.v 0).1 ≤ (F p.1 p.2 2).1) : Enc (madeE F a b ps) w := by
  obtain ⟨h1, h2, h3, h4, h5⟩ := made_is h
  rw [h5]
  have hne : ps ≠ [] := fun e => by obtain ⟨p, hp, _⟩ := hlo; rw [e] at hp; cases hp
  have hml := minL_mem (l := ps.map fun p => (F p.1 p.2 1).1) (by simpa using hne)
  have hmh := maxL_mem (l := ps.map fun p => (F p.1 p.2 2).1) (by simpa using hne)
  have lo_le : ∀ p ∈ ps, minL (ps.map fun p => (F p.1 p.2 1).1) ≤ (F p.1 p.2 1).1 := fun p hp => minL_le (List.mem_map.2 ⟨p, hp, rfl⟩)
  have le_hi : ∀ p ∈ ps, (F p.1 p.2 2).1 ≤ maxL (ps.map fun p => (F p.1 p.2 2).1) := fun p hp => le_maxL (List.mem_map.2 ⟨p, hp, rfl⟩)
  refine ⟨fine_is.2 ⟨rfl, ?_, ?_, ?_, ?_⟩, ?_, ?_⟩
  · obtain ⟨p, hp, e⟩ := List.mem_map.1 hml
    show rightX (minL _) = true
    rw [← e]; exact hr _ _ _ (h4 p hp).1
  · obtain ⟨p, hp, e⟩ := List.mem_map.1 hmh
    show rightX (maxL _) = true
    rw [← e]; exact hr _ _ _ (h4 p hp).2
  · obtain ⟨p, hp, e⟩ := hlv
    exact Int.le_trans (lo_le p hp) e
  · obtain ⟨p, hp, e⟩ := hvh
    exact Int.le_trans e (le_hi p hp)
  · obtain ⟨p, hp, e⟩ := hlo
    exact Rat.le_trans (Rat.intCast_le_intCast.2 (lo_le p hp)) e
  · obtain ⟨p, hp, e⟩ := hhi
    exact Rat.le_trans e (Rat.intCast_le_intCast.2 (le_hi p hp))

theorem add_spec {x y : Int} (h : (addX x y).2 = true) : (addX x y).1 = x + y ∧ rightX (x + y) = true := by
  unfold addX at h ⊢
  split at h
  · rename_i hc
    rw [if_pos hc]
    exact (told_is h).2
  · cases h
theorem sub_spec {x y : Int} (h : (subX x y).2 = true) : (subX x y).1 = x - y ∧ rightX (x - y) = true := by
  unfold subX at h ⊢
  split at h
  · rename_i hc
    rw [if_pos hc]
    exact (told_is h).2
  · cases h
theorem addF_enc {a b : Fr} {v w : Rat} (ha : a.bad = false → Enc a v) (hb : b.bad = false → Enc b w) (h : (addF a b).bad = false) : Enc (addF a b) (v + w) := by
  unfold addF at h ⊢
  obtain ⟨h1, h2, h3, h4, h5⟩ := made_is h
  obtain ⟨fa, la, ua⟩ := ha (fine_is.1 h1).1
  obtain ⟨fb, lb, ub⟩ := hb (fine_is.1 h2).1
  have p1 := h4 (a.lo, b.lo) (by simp)
  have p2 := h4 (a.hi, b.hi) (by simp)
  have s1 : (addX a.lo b.lo).1 = a.lo + b.lo := (add_spec p1.1).1
  have s2 : (addX a.hi b.hi).1 = a.hi + b.hi := (add_spec p2.1).1
  have s0 : (addX a.v b.v).1 = a.v + b.v := (add_spec h3).1
  have oa := (fine_is.1 h1).2.2.2
  have ob := (fine_is.1 h2).2.2.2
  refine made_enc h (fun x y m hxy => ?_) ⟨_, List.mem_cons_self .., ?_⟩ ⟨(a.hi, b.hi), by simp, ?_⟩ ⟨(a.lo, b.lo), by simp, ?_⟩ ⟨(a.hi, b.hi), by simp, ?_⟩
  · have := add_spec hxy
    show rightX (addX x y).1 = true
    rw [this.1]; exact this.2
  · show ((addX a.lo b.lo).1 : Rat) ≤ _
    rw [s1, Rat.intCast_add]
    grind
  · show _ ≤ ((addX a.hi b.hi).1 : Rat)
    rw [s2, Rat.intCast_add]
    grind
  · show (addX a.lo b.lo).1 ≤ (addX a.v b.v).1
    omega
  · show (addX a.v b.v).1 ≤ (addX a.hi b.hi).1
    omega
theorem subF_enc {a b : Fr} {v w : Rat} (ha : a.bad = false → Enc a v) (hb : b.bad = false → Enc b w) (h : (subF a b).bad = false) : Enc (subF a b) (v - w) := by
  unfold subF at h ⊢
  obtain ⟨h1, h2, h3, h4, h5⟩ := made_is h
  obtain ⟨fa, la, ua⟩ := ha (fine_is.1 h1).1
  obtain ⟨fb, lb, ub⟩ := hb (fine_is.1 h2).1
  have p1 := h4 (a.lo, b.hi) (by simp)
  have p2 := h4 (a.hi, b.lo) (by simp)
  have s1 : (subX a.lo b.hi).1 = a.lo - b.hi := (sub_spec p1.1).1
  have s2 : (subX a.hi b.lo).1 = a.hi - b.lo := (sub_spec p2.1).1
  have s0 : (subX a.v b.v).1 = a.v - b.v := (sub_spec h3).1
  have oa := (fine_is.1 h1).2.2.2
  have ob := (fine_is.1 h2).2.2.2
  refine made_enc h (fun x y m hxy => ?_) ⟨_, List.mem_cons_self .., ?_⟩ ⟨(a.hi, b.lo), by simp, ?_⟩ ⟨(a.lo, b.hi), by simp, ?_⟩ ⟨(a.hi, b.lo), by simp, ?_⟩
  · have := sub_spec hxy
    show rightX (subX x y).1 = true
    rw [this.1]; exact this.2
  · show ((subX a.lo b.hi).1 : Rat) ≤ _
    rw [s1, Rat.intCast_sub]
    grind
  · show _ ≤ ((subX a.hi b.lo).1 : Rat)
    rw [s2, Rat.intCast_sub]
    grind
  · show (subX a.lo b.hi).1 ≤ (subX a.v b.v).1
    omega
  · show (subX a.v b.v).1 ≤ (subX a.hi b.lo).1
    omega

/-! ### Corners -/
theorem corner_lo {l h m n x y : Rat} (h1 : l ≤ x) (h2 : x ≤ h) (h3 : m ≤ y) (h4 : y ≤ n) : l * m ≤ x * y ∨ l * n ≤ x * y ∨ h * m ≤ x * y ∨ h * n ≤ x * y := by
  rcases Rat.le_total (a := 0) (b := y) with hy | hy
  · have k1 := Rat.mul_nonneg (show 0 ≤ x - l by grind) hy
    rcases Rat.le_total (a := 0) (b := l) with hl | hl
    · have k2 := Rat.mul_nonneg hl (show 0 ≤ y - m by grind)
      left; grind
    · have k2 := Rat.mul_nonneg (show 0 ≤ -l by grind) (show 0 ≤ n - y by grind)
      right; left; grind
  · have k1 := Rat.mul_nonneg (show 0 ≤ h - x by grind) (show 0 ≤ -y by grind)
    rcases Rat.le_total (a := 0) (b := h) with hl | hl
    · have k2 := Rat.mul_nonneg hl (show 0 ≤ y - m by grind)
      right; right; left; grind
    · have k2 := Rat.mul_nonneg (show 0 ≤ -h by grind) (show 0 ≤ n - y by grind)
      right; right; right; grind
theorem corner_hi {l h m n x y : Rat} (h1 : l ≤ x) (h2 : x ≤ h) (h3 : m ≤ y) (h4 : y ≤ n) : x * y ≤ l * m ∨ x * y ≤ l * n ∨ x * y ≤ h * m ∨ x * y ≤ h * n := by
  have := corner_lo (l := -h) (h := -l) (m := m) (n := n) (x := -x) (y := y) (by grind) (by grind) h3 h4
  rcases this with h | h | h | h
  · right; right; left; grind
  · right; right; right; grind
  · left; grind
  · right; left; grind

/-! ### Products and quotients -/
theorem mul_told {x y m : Int} (h : (mulX x y m).2 = true) : (mdF x y 16777216 m).2 = true ∧ (mulX x y m).1 = (mdF x y 16777216 m).1 ∧ rightX (mulX x y m).1 = true := by
  unfold mulX at h ⊢
  obtain ⟨h1, h2, h3⟩ := told_is h
  exact ⟨h1, h2, by rw [h2]; exact h3⟩
theorem mul_spec {x y m : Int} (h : (mulX x y m).2 = true) : (mulX x y m).1 * 16777216 < x * y + 16777216 ∧ x * y < (mulX x y m).1 * 16777216 + 16777216 ∧ (m = 1 → (mulX x y m).1 * 16777216 ≤ x * y) ∧ (m = 2 → x * y ≤ (mulX x y m).1 * 16777216) := by
  obtain ⟨h1, h2, h3⟩ := mul_told h
  obtain ⟨Y, C, hC, hcY, k⟩ := md_spec h1
  have : C = 16777216 ∧ Y = x * y := by
    rcases hcY with ⟨e1, e2⟩ | ⟨e1, e2⟩
    · exact ⟨e1.symm, e2⟩
    · omega
  rw [this.1, this.2] at k
  rw [h2]
  exact k
theorem corner_loI {l h m n x y : Int} (h1 : l ≤ x) (h2 : x ≤ h) (h3 : m ≤ y) (h4 : y ≤ n) : l * m ≤ x * y ∨ l * n ≤ x * y ∨ h * m ≤ x * y ∨ h * n ≤ x * y := by
  have := corner_lo (Rat.intCast_le_intCast.2 h1) (Rat.intCast_le_intCast.2 h2) (Rat.intCast_le_intCast.2 h3) (Rat.intCast_le_intCast.2 h4)
  simpa only [← Rat.intCast_mul, Rat.intCast_le_intCast] using this
theorem corner_hiI {l h m n x y : Int} (h1 : l ≤ x) (h2 : x ≤ h) (h3 : m ≤ y) (h4 : y ≤ n) : x * y ≤ l * m ∨ x * y ≤ l * n ∨ x * y ≤ h * m ∨ x * y ≤ h * n := by
  have := corner_hi (Rat.intCast_le_intCast.2 h1) (Rat.intCast_le_intCast.2 h2) (Rat.intCast_le_intCast.2 h3) (Rat.intCast_le_intCast.2 h4)
  simpa only [← Rat.intCast_mul, Rat.intCast_le_intCast] using this
theorem mulF_enc {a b : Fr} {v w : Rat} (ha : a.bad = false → Enc a v) (hb : b.bad = false → Enc b w) (h : (mulF a b).bad = false) : Enc (mulF a b) (v * w) := by
  unfold mulF at h ⊢
  obtain ⟨h1, h2, h3, h4, h5⟩ := made_is h
  obtain ⟨fa, la, ua⟩ := ha (fine_is.1 h1).1
  obtain ⟨fb, lb, ub⟩ := hb (fine_is.1 h2).1
  have oa := (fine_is.1 h1).2.2.2
  have ob := (fine_is.1 h2).2.2.2
  have s0 := mul_spec h3
  have lo : ∀ p ∈ allP a b, ((p.1 * p.2 : Int) : Rat) ≤ (v * 16777216) * (w * 16777216) → ((mulX p.1 p.2 1).1 : Rat) ≤ v * w * 16777216 := fun p hp hle => by
    have k := (mul_spec (h4 p hp).1).2.2.1 rfl
    have k' : ((mulX p.1 p.2 1).1 : Rat) * 16777216 ≤ ((p.1 * p.2 : Int) : Rat) := by
      have := Rat.intCast_le_intCast.2 k
      rw [Rat.intCast_mul] at this
      exact this
    grind
  have hi : ∀ p ∈ allP a b, (v * 16777216) * (w * 16777216) ≤ ((p.1 * p.2 : Int) : Rat) → v * w * 16777216 ≤ ((mulX p.1 p.2 2).1 : Rat) := fun p hp hle => by
    have k := (mul_spec (h4 p hp).2).2.2.2 rfl
    have k' : ((p.1 * p.2 : Int) : Rat) ≤ ((mulX p.1 p.2 2).1 : Rat) * 16777216 := by
      have := Rat.intCast_le_intCast.2 k
      rw [Rat.intCast_mul (mulX p.1 p.2 2).1 16777216] at this
      exact this
    grind
  have lv : ∀ p ∈ allP a b, p.1 * p.2 ≤ a.v * b.v → (mulX p.1 p.2 1).1 ≤ (mulX a.v b.v 0).1 := fun p hp hle => by
    have k := (mul_spec (h4 p hp).1).2.2.1 rfl
    omega
  have vh : ∀ p ∈ allP a b, a.v * b.v ≤ p.1 * p.2 → (mulX a.v b.v 0).1 ≤ (mulX p.1 p.2 2).1 := fun p hp hle => by
    have k := (mul_spec (h4 p hp).2).2.2.2 rfl
    omega
  have m1 : (a.lo, b.lo) ∈ allP a b := by simp [allP]
  have m2 : (a.lo, b.hi) ∈ allP a b := by simp [allP]
  have m3 : (a.hi, b.lo) ∈ allP a b := by simp [allP]
  have m4 : (a.hi, b.hi) ∈ allP a b := by simp [allP]
  refine made_enc h (fun x y m hxy => (mul_told hxy).2.2) ?_ ?_ ?_ ?_
  · have := corner_lo la ua lb ub
    simp only [← Rat.intCast_mul] at this
    rcases this with k | k | k | k
    · exact ⟨_, m1, lo _ m1 k⟩
    · exact ⟨_, m2, lo _ m2 k⟩
    · exact ⟨_, m3, lo _ m3 k⟩
    · exact ⟨_, m4, lo _ m4 k⟩
  · have := corner_hi la ua lb ub
    simp only [← Rat.intCast_mul] at this
    rcases this with k | k | k | k
    · exact ⟨_, m1, hi _ m1 k⟩
    · exact ⟨_, m2, hi _ m2 k⟩
    · exact ⟨_, m3, hi _ m3 k⟩
    · exact ⟨_, m4, hi _ m4 k⟩
  · rcases corner_loI oa.1 oa.2 ob.1 ob.2 with k | k | k | k
    · exact ⟨_, m1, lv _ m1 k⟩
    · exact ⟨_, m2, lv _ m2 k⟩
    · exact ⟨_, m3, lv _ m3 k⟩
    · exact ⟨_, m4, lv _ m4 k⟩
  · rcases corner_hiI oa.1 oa.2 ob.1 ob.2 with k | k | k | k
    · exact ⟨_, m1, vh _ m1 k⟩
    · exact ⟨_, m2, vh _ m2 k⟩
    · exact ⟨_, m3, vh _ m3 k⟩
    · exact ⟨_, m4, vh _ m4 k⟩

theorem whole_enc {n : Int} (h : few n) : Enc (newF n 1) (n : Rat) := by
  rw [newF_whole h]
  refine ⟨fine_whole h, ?_, ?_⟩
  · show ((n * 16777216 : Int) : Rat) ≤ _
    rw [Rat.intCast_mul]
    exact Rat.le_refl
  · show _ ≤ ((n * 16777216 : Int) : Rat)
    rw [Rat.intCast_mul]
    exact Rat.le_refl
end Go.Proofs.YtbflmeomkfjikaaGreat.A.E



set_option linter.unusedVariables false
set_option linter.unusedSimpArgs false
set_option maxRecDepth 100000
namespace Go.Proofs.YtbflmeomkfjikaaGreat.A.E
open Go Go.RowKit Go.Shelf

end Go.Proofs.YtbflmeomkfjikaaGreat.A.E



set_option linter.unusedVariables false
set_option linter.unusedSimpArgs false
set_option maxRecDepth 100000
namespace Go.Proofs.YtbflmeomkfjikaaGreat.A.E
open Go Go.RowKit Go.Shelf

section
variable (n : Nat) (x p h : List Fr) (r z : Fr)
def uF : List Fr := applyF n n p h
def spreadF : Fr := addF (dotF h (uF n p h)) r
def surpriseF : Fr := subF z (dotF h x)
def kF : List Fr := (uF n p h).map (divF · (spreadF n p h r))
def unitF : List Fr := (unitP n n).map (newF · 1)
def mF : List Fr := List.zipWith subF (unitF n) (prodF n 1 n (kF n p h r) h)
def krkF : List Fr := prodF n 1 n ((kF n p h r).map (mulF · r)) (turnF n 1 (kF n p h r))
def upP : List Fr := turnedF n (mF n p h r) p (krkF n p h r)
def upX : List Fr := List.zipWith addF x ((kF n p h r).map (mulF · (surpriseF x h z)))
end
end Go.Proofs.YtbflmeomkfjikaaGreat.A.E


set_option linter.unusedVariables false
set_option linter.unusedSimpArgs false
set_option maxRecDepth 100000
namespace Go.Proofs.YtbflmeomkfjikaaGreat.A.E
open Go Go.RowKit Go.Shelf

/-! ### Enclosed numbers beside fractions: whatever both tell, the one encloses the other -/
def Rl (x : Fr) (y : A.Fr) : Prop := x.fine = true → y.fine = true → Enc x y.val
theorem made_fine {F : Int → Int → Int → Int × Bool} {a b : Fr} {ps : List (Int × Int)} (h : (madeE F a b ps).fine = true) : a.fine = true ∧ b.fine = true :=
  ⟨(made_is (fine_is.1 h).1).1, (made_is (fine_is.1 h).1).2.1⟩
theorem Rl.add {a b : Fr} {a' b' : A.Fr} (ha : Rl a a') (hb : Rl b b') : Rl (addF a b) (A.addF a' b') := fun hx hy => by
  obtain ⟨h1, h2⟩ := made_fine hx
  obtain ⟨k1, k2, k3⟩ := A.addF_is (fine_bad hy)
  rw [k3.2]
  exact addF_enc (fun _ => ha h1 k1) (fun _ => hb h2 k2) (fine_is.1 hx).1
theorem Rl.sub {a b : Fr} {a' b' : A.Fr} (ha : Rl a a') (hb : Rl b b') : Rl (subF a b) (A.subF a' b') := fun hx hy => by
  obtain ⟨h1, h2⟩ := made_fine hx
  obtain ⟨k1, k2, k3⟩ := A.subF_is (fine_bad hy)
  rw [k3.2]
  exact subF_enc (fun _ => ha h1 k1) (fun _ => hb h2 k2) (fine_is.1 hx).1
theorem Rl.mul {a b : Fr} {a' b' : A.Fr} (ha : Rl a a') (hb : Rl b b') : Rl (mulF a b) (A.mulF a' b') := fun hx hy => by
  obtain ⟨h1, h2⟩ := made_fine hx
  obtain ⟨k1, k2, k3⟩ := A.mulF_is (fine_bad hy)
  rw [k3.2]
  exact mulF_enc (fun _ => ha h1 k1) (fun _ => hb h2 k2) (fine_is.1 hx).1
theorem Rl.whole {n : Int} (h : few n) : Rl (newF n 1) (A.newF n 1) := fun hx hy => by
  have hf : A.few n := by unfold A.few; unfold few at h; omega
  rw [(A.whole_is hf).2]
  exact whole_enc h
theorem Rl.dz : Rl ⟨0, 0, 0, false⟩ ⟨0, 0, false⟩ := fun _ hy => absurd hy (by decide)

def RL (l : List Fr) (l' : List A.Fr) : Prop := l.length = l'.length ∧ ∀ k, Rl (l.getD k ⟨0, 0, 0, false⟩) (l'.getD k ⟨0, 0, false⟩)
theorem RL.nil : RL [] [] := ⟨rfl, fun k => Rl.dz⟩
theorem RL.cons {x : Fr} {y : A.Fr} {l : List Fr} {l' : List A.Fr} (h : Rl x y) (hl : RL l l') : RL (x :: l) (y :: l') := ⟨by simp [hl.1], fun k => by
  cases k with
  | zero => exact h
  | succ k => exact hl.2 k⟩
theorem RL.uncons {x : Fr} {y : A.Fr} {l : List Fr} {l' : List A.Fr} (h : RL (x :: l) (y :: l')) : Rl x y ∧ RL l l' := ⟨h.2 0, by simpa using h.1, fun k => h.2 (k + 1)⟩
theorem RL.induct {P : List Fr → List A.Fr → Prop} (h0 : P [] []) (hs : ∀ x y l l', Rl x y → RL l l' → P l l' → P (x :: l) (y :: l')) : ∀ {l : List Fr} {l' : List A.Fr}, RL l l' → P l l'
  | [], [], _ => h0
  | [], _ :: _, h => absurd h.1 (by simp)
  | _ :: _, [], h => absurd h.1 (by simp)
  | x :: l, y :: l', h => hs x y l l' h.uncons.1 h.uncons.2 (RL.induct h0 hs h.uncons.2)
theorem RL.map {f : Fr → Fr} {f' : A.Fr → A.Fr} (hf : ∀ x y, Rl x y → Rl (f x) (f' y)) {l : List Fr} {l' : List A.Fr} (h : RL l l') : RL (l.map f) (l'.map f') :=
  RL.induct (P := fun l l' => RL (l.map f) (l'.map f')) RL.nil (fun x y l l' h1 _ ih => RL.cons (hf x y h1) ih) h
theorem RL.zip {f : Fr → Fr → Fr} {f' : A.Fr → A.Fr → A.Fr} (hf : ∀ x y u v, Rl x y → Rl u v → Rl (f x u) (f' y v)) {l : List Fr} {l' : List A.Fr} (h : RL l l') : ∀ {m : List Fr} {m' : List A.Fr}, RL m m' → RL (List.zipWith f l m) (List.zipWith f' l' m') := by
  refine RL.induct (P := fun l l' => ∀ {m : List Fr} {m' : List A.Fr}, RL m m' → RL (List.zipWith f l m) (List.zipWith f' l' m')) (fun _ => by simpa using RL.nil) (fun x y l l' h1 _ ih m m' hm => ?_) h
  cases m with
  | nil =>
    cases m' with
    | nil => exact RL.nil
    | cons _ _ => exact absurd hm.1 (by simp)
  | cons u m =>
    cases m' with
    | nil => exact absurd hm.1 (by simp)
    | cons v m' => exact RL.cons (hf x y u v h1 hm.uncons.1) (ih hm.uncons.2)
theorem RL.range {g : Nat → Fr} {g' : Nat → A.Fr} (hg : ∀ i, Rl (g i) (g' i)) (l : List Nat) : RL (l.map g) (l.map g') := by
  induction l with
  | nil => exact RL.nil
  | cons x l ih => exact RL.cons (hg x) ih
theorem RL.append {l m : List Fr} {l' m' : List A.Fr} (h : RL l l') (hm : RL m m') : RL (l ++ m) (l' ++ m') :=
  RL.induct (P := fun l l' => RL (l ++ m) (l' ++ m')) hm (fun x y l l' h1 _ ih => RL.cons h1 ih) h
theorem RL.flatMap {g : Nat → List Fr} {g' : Nat → List A.Fr} (hg : ∀ i, RL (g i) (g' i)) (l : List Nat) : RL (l.flatMap g) (l.flatMap g') := by
  induction l with
  | nil => exact RL.nil
  | cons x l ih =>
    rw [List.flatMap_cons, List.flatMap_cons]
    exact RL.append (hg x) ih
theorem RL.take {l : List Fr} {l' : List A.Fr} (h : RL l l') : ∀ n, RL (l.take n) (l'.take n) := by
  refine RL.induct (P := fun l l' => ∀ n, RL (l.take n) (l'.take n)) (fun n => by simpa using RL.nil) (fun x y l l' h1 _ ih n => ?_) h
  cases n with
  | zero => exact RL.nil
  | succ n => exact RL.cons h1 (ih n)
theorem RL.drop {l : List Fr} {l' : List A.Fr} (h : RL l l') : ∀ n, RL (l.drop n) (l'.drop n) := by
  refine RL.induct (P := fun l l' => ∀ n, RL (l.drop n) (l'.drop n)) (fun n => by simpa using RL.nil) (fun x y l l' h1 h2 ih n => ?_) h
  cases n with
  | zero => exact RL.cons h1 h2
  | succ n => exact ih n
section
variable {n : Nat} {x p h : List Fr} {x' p' h' : List A.Fr} {r z : Fr} {r' z' : A.Fr}
end
end Go.Proofs.YtbflmeomkfjikaaGreat.A.E



set_option linter.unusedVariables false
set_option linter.unusedSimpArgs false
set_option maxRecDepth 100000
namespace Go.Proofs.YtbflmeomkfjikaaGreat.A.E
open Go Go.RowKit Go.Shelf

/-! ### What is not Bad is fine -/
/-! ### Enclosed numbers that enclose -/
end Go.Proofs.YtbflmeomkfjikaaGreat.A.E



set_option linter.unusedVariables false
set_option linter.unusedSimpArgs false
set_option maxRecDepth 100000
namespace Go.Proofs.YtbflmeomkfjikaaGreat.A
open Go Go.RowKit Go.Shelf

end Go.Proofs.YtbflmeomkfjikaaGreat.A



set_option linter.unusedVariables false
set_option linter.unusedSimpArgs false
set_option maxRecDepth 100000
namespace Go.Proofs.YtbflmeomkfjikaaGreat.A
open Go Go.RowKit Go.Shelf

/-! ### The function JosephWrong -/
end Go.Proofs.YtbflmeomkfjikaaGreat.A


set_option linter.unusedVariables false
set_option linter.unusedSimpArgs false
set_option maxRecDepth 100000
namespace Go.Proofs.YtbflmeomkfjikaaGreat.A
open Go Go.RowKit Go.Shelf

/-! ### Plain laws of what stays -/
theorem applyF_prod {n : Nat} (hn : 1 ≤ n ∧ n ≤ 16) {l v : List Fr} (hv : v.length = n) : applyF n n l v = prodF n n 1 l v := by
  have h : right (n : Int) 1 v.length = true := right_nat (R := n) (K := 1) hn (by omega) (by omega)
  have h0 := turn_col h
  have e : allF 1 n (turnF n 1 v) = [v] := by
    simp [allF, h0]
  unfold applyF prodF
  rw [e]
  simp only [List.map_cons, List.map_nil]
  induction allF n n l with
  | nil => rfl
  | cons x xs ih => rw [List.map_cons, List.flatMap_cons, ih]; rfl

theorem bnd_mono {B C : Nat} {l : List Int} (h : bnd B l) (hBC : B ≤ C) : bnd C l := fun x hx => Nat.le_trans (h x hx) hBC
theorem unit_mul {a : List Int} {N c : Nat} (ha : a.length = N * c) : mulI (unitP N N) a N N c = a := by
  refine (grid_of ha fun i k hi hk => ?_).symm
  have e : dotI (unitP N N) a N c i k N = a.getD (i * c + k) 0 := by
    rw [dotI_sum]
    have : ∀ j, j < N → (unitP N N).getD (i * N + j) 0 * a.getD (j * c + k) 0 = a.getD (j * c + k) 0 * (if j = i then 1 else 0) := fun j hj => by
      have hu : (unitP N N).getD (i * N + j) 0 = if i = j ∧ i < N then 1 else 0 := grid_getD hi hj
      rw [hu, Int.mul_comm]
      congr 1
      by_cases h : i = j
      · subst h; simp [hi]
      · simp [h, Ne.symm h]
    rw [sum_congr this, sum_one (fun j => a.getD (j * c + k) 0) N, if_pos hi]
  rw [e]
  have := at_table hi hk
  simp [this.1, ha]
theorem tur_unit (n : Nat) : turI (unitP n n) n n n 0 = unitP n n := by
  show gridP _ n n 0 = gridP _ n n 0
  refine gridP_congr fun k i hk hi => ?_
  have hu : (unitP n n).getD (i * n + k) 0 = if i = k ∧ i < n then 1 else 0 := grid_getD hi hk
  rw [hu]
  by_cases h : i = k
  · subst h; simp
  · simp [h, Ne.symm h]
theorem unit_bnd (n : Nat) : bnd 1 (unitP n n) := gridP_bnd fun i k => by split <;> simp
theorem zero_bnd (n : Nat) : bnd 0 (List.replicate n 0) := fun x hx => by rw [List.mem_replicate] at hx; simp [hx.2]
theorem sum_zero {p : List Int} {n : Nat} (hp : p.length = n * n) : sumI p (List.replicate (n * n) 0) n n 0 = p := by
  refine (grid_of hp fun i k hi hk => ?_).symm
  have := at_table hi hk
  have e : (List.replicate (n * n) (0 : Int)).getD (i * n + k) 0 = 0 := by
    rw [List.getD_eq_getElem?_getD, List.getElem?_replicate, if_pos this.1]; rfl
  rw [e]
  simp [this.1, hp]
theorem turnedF_unit {n : Nat} (hn : 1 ≤ n ∧ n ≤ 3) {p : List Int} (lp : p.length = n * n) (hp : bnd 75 p) (hm : mirI p n n n 0 = p) :
    turnedF n ((unitP n n).map (newF · 1)) (p.map (newF · 1)) ((List.replicate (n * n) 0).map (newF · 1)) = p.map (newF · 1) := by
  have hn' : 1 ≤ n ∧ n ≤ 16 := by omega
  have lu := unitP_length n n
  rw [turnedF, prodF_wholeB hn' hn' hn' lu lp (unit_bnd n) hp (by omega) (by omega) (by omega) (by omega), unit_mul lp, turI_eq hn' hn' lu, tur_unit,
    prodF_wholeB hn' hn' hn' lp lu hp (unit_bnd n) (by omega) (by omega) (by omega) (by omega), mul_unit lp, sumI_eqB lp (by simp) hp (zero_bnd _) (by omega), sum_zero lp, mirI_eq hn' hn' lp rfl, hm]
theorem applyF_zero {n : Nat} (hn : 1 ≤ n ∧ n ≤ 3) {p : List Int} (lp : p.length = n * n) (hp : bnd 75 p) : applyF n n (p.map (newF · 1)) ((List.replicate n 0).map (newF · 1)) = (List.replicate n 0).map (newF · 1) := by
  have hn' : 1 ≤ n ∧ n ≤ 16 := by omega
  have h := prodF_wholeB (K := 1) (b := List.replicate n 0) hn' hn' (by omega) lp (by simp) hp (zero_bnd n) (by omega) (by omega) (by omega) (by omega)
  rw [Int.natCast_one] at h
  rw [applyF_prod hn' (by simp), h]
  congr 1
  refine (grid_of (by simp) fun i k hi hk => ?_).symm
  have hk0 : k = 0 := by omega
  subst hk0
  have e : dotI p (List.replicate n 0) n 1 i 0 n = 0 := by
    rw [dotI_sum]
    have : ∀ j, j < n → p.getD (i * n + j) 0 * (List.replicate n (0 : Int)).getD (j * 1 + 0) 0 = 0 * 0 := fun j hj => by
      have e : (List.replicate n (0 : Int)).getD (j * 1 + 0) 0 = 0 := by
        rw [List.getD_eq_getElem?_getD, List.getElem?_replicate, if_pos (by omega)]; rfl
      rw [e]
      simp
    rw [sum_congr this, ← sum_mul]
    simp
  rw [e, List.getElem?_replicate, if_pos (by omega)]

theorem few5 {x : Int} (h : -5 ≤ x ∧ x ≤ 5) : few x := by unfold few; omega
theorem three {n : Nat} (hn : 1 ≤ n ∧ n ≤ 3) : n = 1 ∨ n = 2 ∨ n = 3 := by omega
theorem fiveJ {r : Int} (hr : 1 ≤ r ∧ r ≤ 5) : r = 1 ∨ r = 2 ∨ r = 3 ∨ r = 4 ∨ r = 5 := by omega
theorem still_k {n : Nat} {r : Int} (hr : 1 ≤ r ∧ r ≤ 5) : ((List.replicate n 0).map (newF · 1)).map (divF · (newF r 1)) = (List.replicate n 0).map (newF · 1) := by
  have e : divF (newF 0 1) (newF r 1) = newF 0 1 := by rcases fiveJ hr with rfl | rfl | rfl | rfl | rfl <;> decide +kernel
  rw [List.map_replicate, List.map_replicate, e]
theorem still_m {n : Nat} (hn : 1 ≤ n ∧ n ≤ 3) : List.zipWith subF (unitF n) (prodF n 1 n ((List.replicate n 0).map (newF · 1)) ((List.replicate n 0).map (newF · 1))) = unitF n := by
  rcases three hn with rfl | rfl | rfl <;> decide +kernel
theorem still_krk {n : Nat} {r : Int} (hn : 1 ≤ n ∧ n ≤ 3) (hr : 1 ≤ r ∧ r ≤ 5) :
    prodF n 1 n (((List.replicate n 0).map (newF · 1)).map (mulF · (newF r 1))) (turnF n 1 ((List.replicate n 0).map (newF · 1))) = (List.replicate (n * n) 0).map (newF · 1) := by
  have e : mulF (newF 0 1) (newF r 1) = newF 0 1 := by rcases fiveJ hr with rfl | rfl | rfl | rfl | rfl <;> decide +kernel
  rw [List.map_replicate, List.map_replicate, e]
  rcases three hn with rfl | rfl | rfl <;> decide +kernel
theorem still_dot {n : Nat} (hn : 1 ≤ n ∧ n ≤ 3) {x : List Int} (lx : x.length = n) (hx : bnd 5 x) : dotF ((List.replicate n 0).map (newF · 1)) (x.map (newF · 1)) = newF 0 1 := by
  have e : ∀ {x : List Int}, bnd 5 x → List.zipWith mulF ((List.replicate x.length 0).map (newF · 1)) (x.map (newF · 1)) = List.replicate x.length (newF 0 1) := by
    intro x
    induction x with
    | nil => intro _; rfl
    | cons y x ih =>
      intro h
      have hy : -5 ≤ y ∧ y ≤ 5 := by have := h y (by simp); omega
      have e : mulF (newF 0 1) (newF y 1) = newF 0 1 := by
        rw [newF_whole (few5 hy), newF_whole (few5 (by omega)), mulF_whole (few5 (by omega)) (few5 hy) (by rw [Int.zero_mul]; exact few5 (by omega)), Int.zero_mul]
      simp only [List.length_cons, List.replicate_succ, List.map_cons, List.zipWith_cons_cons, e]
      rw [ih fun z hz => h z (by simp [hz])]
  unfold dotF
  have := e hx
  rw [lx] at this
  rw [this]
  rcases three hn with rfl | rfl | rfl <;> decide +kernel
theorem still_x {n : Nat} {x : List Int} (lx : x.length = n) (hx : bnd 5 x) {z : Int} (hz : -5 ≤ z ∧ z ≤ 5) :
    List.zipWith addF (x.map (newF · 1)) (((List.replicate n 0).map (newF · 1)).map (mulF · (newF z 1))) = x.map (newF · 1) := by
  have e : mulF (newF 0 1) (newF z 1) = newF 0 1 := by
    rw [newF_whole (few5 hz), newF_whole (few5 (by omega)), mulF_whole (few5 (by omega)) (few5 hz) (by rw [Int.zero_mul]; exact few5 (by omega)), Int.zero_mul]
  rw [List.map_replicate, List.map_replicate, e]
  clear e
  subst lx
  induction x with
  | nil => rfl
  | cons y x ih =>
    have hy : -5 ≤ y ∧ y ≤ 5 := by have := hx y (by simp); omega
    have e : addF (newF y 1) (newF 0 1) = newF y 1 := by
      rw [newF_whole (few5 hy), newF_whole (few5 (by omega)), addF_whole (few5 hy) (few5 (by omega)) (by rw [Int.add_zero]; exact few5 hy), Int.add_zero]
    simp only [List.length_cons, List.replicate_succ, List.map_cons, List.zipWith_cons_cons, e]
    rw [ih fun z hz => hx z (by simp [hz])]

/-- An update by a measurement of nothing. -/
theorem still_up {n : Nat} (hn : 1 ≤ n ∧ n ≤ 3) {x p : List Int} {r z : Int} (lx : x.length = n) (hx : bnd 5 x) (lp : p.length = n * n) (hp : bnd 75 p) (hm : mirI p n n n 0 = p) (hr : 1 ≤ r ∧ r ≤ 5) (hz : -5 ≤ z ∧ z ≤ 5) :
    upX n (x.map (newF · 1)) (p.map (newF · 1)) ((List.replicate n 0).map (newF · 1)) (newF r 1) (newF z 1) = x.map (newF · 1) ∧
    upP n (p.map (newF · 1)) ((List.replicate n 0).map (newF · 1)) (newF r 1) = p.map (newF · 1) ∧
    spreadF n (p.map (newF · 1)) ((List.replicate n 0).map (newF · 1)) (newF r 1) = newF r 1 ∧
    surpriseF (x.map (newF · 1)) ((List.replicate n 0).map (newF · 1)) (newF z 1) = newF z 1 := by
  have u : uF n (p.map (newF · 1)) ((List.replicate n 0).map (newF · 1)) = (List.replicate n 0).map (newF · 1) := applyF_zero hn lp hp
  have a : spreadF n (p.map (newF · 1)) ((List.replicate n 0).map (newF · 1)) (newF r 1) = newF r 1 := by
    rw [spreadF, u, still_dot hn (x := List.replicate n 0) (by simp) (bnd_mono (zero_bnd n) (by omega)), newF_whole (few5 (show -5 ≤ r ∧ r ≤ 5 by omega)), newF_whole (few5 (by omega)), addF_whole (few5 (by omega)) (few5 (by omega)) (by rw [Int.zero_add]; exact few5 (by omega)), Int.zero_add]
  have s : surpriseF (x.map (newF · 1)) ((List.replicate n 0).map (newF · 1)) (newF z 1) = newF z 1 := by
    rw [surpriseF, still_dot hn lx hx, newF_whole (few5 hz), newF_whole (few5 (by omega)), subF_whole (few5 hz) (few5 (by omega)) (by rw [Int.sub_zero]; exact few5 hz), Int.sub_zero]
  have k : kF n (p.map (newF · 1)) ((List.replicate n 0).map (newF · 1)) (newF r 1) = (List.replicate n 0).map (newF · 1) := by
    rw [kF, u, a, still_k hr]
  refine ⟨?_, ?_, a, s⟩
  · rw [upX, k, s, still_x lx hx hz]
  · rw [upP, mF, krkF, k, still_m hn, still_krk hn hr, unitF, turnedF_unit hn lp hp hm]
end Go.Proofs.YtbflmeomkfjikaaGreat.A



set_option linter.unusedVariables false
set_option linter.unusedSimpArgs false
set_option maxRecDepth 100000
namespace Go.Proofs.YtbflmeomkfjikaaGreat.A
open Go Go.RowKit Go.Shelf

/-! ### Cases -/
abbrev caseV (e1 e2 e3 e4 e5 : Bool) (N : Int) (x root f g h : List Int) (r z : Int) : PV :=
  .agg [num N, .sl e1 (x.map num), .sl e2 (root.map num), .sl e3 (f.map num), .sl e4 (g.map num), .sl e5 (h.map num), num r, num z]
def in5 (l : List Int) : Bool := decide (∀ x ∈ l.take 10, -5 ≤ x ∧ x ≤ 5)
def sided (N : Int) (x h : List Int) (r z : Int) : Bool := decide (1 ≤ N ∧ N ≤ 3 ∧ (x.length : Int) = N ∧ (h.length : Int) = N ∧ 1 ≤ r ∧ r ≤ 5 ∧ -5 ≤ z ∧ z ≤ 5)
def few9 (N : Int) (x root f g h : List Int) (r z : Int) : Bool :=
  sided N x h r z && ([x, h, root, f, g].all in5 && decide ((root.length : Int) = N * N ∧ (f.length : Int) = N * N ∧ (g.length : Int) = N * N))
theorem few9_bad {N : Int} {x root f g h : List Int} {r z : Int} (hn : ¬ (1 ≤ N ∧ N ≤ 3 ∧ (x.length : Int) = N ∧ (h.length : Int) = N ∧ 1 ≤ r ∧ r ≤ 5 ∧ -5 ≤ z ∧ z ≤ 5)) : few9 N x root f g h r z = false := by
  rw [few9, sided, decide_eq_false hn]
  rfl

set_option maxHeartbeats 4000000 in
theorem ok52 (e1 e2 e3 e4 e5 : Bool) (N : Int) (x root f g h : List Int) (r z : Int) : Ok Tryz.prog 52 [caseV e1 e2 e3 e4 e5 N x root f g h r z] (tru (few9 N x root f g h r z)) := by
  refine ok_fn mixed Tryz.func52 (code := ?_) (h := h52) ?_ k52 ?_
  rotate_left
  · exact rfl
  unfold h52 initS
  simp -implicitDefEqProofs (maxSteps := 10000000) only [rkA, rkB, stepA, valA, simprocAttr, Tryz.ntmps52, Tryz.results52]
  have lx : (x.map num).length = x.length := by simp
  have lh : (h.map num).length = h.length := by simp
  have lr : (root.map num).length = root.length := by simp
  have lf : (f.map num).length = f.length := by simp
  have lg : (g.map num).length = g.length := by simp
  by_cases a1 : N < 1
  · rw [few9_bad (by omega)]
    simp -implicitDefEqProofs (maxSteps := 10000000) only [a1, rkA, rkB, stepA, valA, simprocAttr]
  by_cases a2 : N > 3
  · rw [few9_bad (by omega)]
    simp -implicitDefEqProofs (maxSteps := 10000000) only [a1, a2, rkA, rkB, stepA, valA, simprocAttr]
  by_cases a3 : (x.length : Int) = N
  · have a3' : ((x.length : Int) != N) = false := by simp [a3]
    by_cases a4 : (h.length : Int) = N
    · have a4' : ((h.length : Int) != N) = false := by simp [a4]
      by_cases a5 : r < 1
      · rw [few9_bad (by omega)]
        simp -implicitDefEqProofs (maxSteps := 10000000) only [a1, a2, lx, lh, a3', a4', a5, rkA, rkB, stepA, valA, simprocAttr]
      by_cases a6 : r > 5
      · rw [few9_bad (by omega)]
        simp -implicitDefEqProofs (maxSteps := 10000000) only [a1, a2, lx, lh, a3', a4', a5, a6, rkA, rkB, stepA, valA, simprocAttr]
      by_cases a7 : z < -5
      · rw [few9_bad (by omega)]
        simp -implicitDefEqProofs (maxSteps := 10000000) only [a1, a2, lx, lh, a3', a4', a5, a6, a7, rkA, rkB, stepA, valA, simprocAttr]
      by_cases a8 : z > 5
      · rw [few9_bad (by omega)]
        simp -implicitDefEqProofs (maxSteps := 10000000) only [a1, a2, lx, lh, a3', a4', a5, a6, a7, a8, rkA, rkB, stepA, valA, simprocAttr]
      have hs : sided N x h r z = true := by rw [sided, decide_eq_true_eq]; omega
      simp -implicitDefEqProofs (maxSteps := 10000000) only [a1, a2, lx, lh, a3', a4', a5, a6, a7, a8, rkA, rkB, stepA, valA, simprocAttr]
      have hN : N = 1 ∨ N = 2 ∨ N = 3 := by omega
      have hNN : 1 ≤ N * N ∧ N * N ≤ 9 := by rcases hN with rfl | rfl | rfl <;> decide
      have wN := wrapped (x := N * N) (by omega) (by omega)
      generalize hrows : [(e1, x), (e5, h), (e2, root), (e3, f), (e4, g)] = rows
      have hall : [x, h, root, f, g].all in5 = (rows.map (·.2)).all in5 := by subst hrows; rfl
      have hlen : rows.length = 5 := by subst hrows; rfl
      refine wp_loop (fun m s => ∃ i : Nat, i + m = 5 ∧ ((rows.map (·.2)).take i).all in5 = true ∧ s = ⟨[jk, .ptr 1 0, jk, jk, jk, jk, jk, jk, jk, jk, jk, jk, jk, jk, jk, jk, jk, jk, jk, jk, jk, jk, jk, jk, jk, jk, jk, jk, jk, jk, jk, jk, jk, jk, jk, jk, jk, jk, jk, jk, jk, jk, jk, jk, jk, jk, jk, jk, jk, jk, jk, jk, jk, jk, jk, jk, jk, jk, jk, jk, .v (.agg (rows.map fun p => .sl p.1 (p.2.map num))), nt i, jk, jk, jk, jk, jk, jk, jk, jk, jk, jk, jk, jk, jk, jk, jk, jk, jk, jk, jk, jk, jk, jk, jk, jk, jk, jk, jk, jk, jk, jk, jk, jk, jk, jk, jk, jk, jk, jk, jk, jk, jk, jk, jk, jk, jk, jk, jk, jk, jk, jk, jk, jk, jk, jk, jk, jk],
        [(1, [nt N, .v (.sl e1 (x.map num)), .v (.sl e2 (root.map num)), .v (.sl e3 (f.map num)), .v (.sl e4 (g.map num)), .v (.sl e5 (h.map num)), nt r, nt z])], [], [], [], 0, nomem⟩) 5 ?_ ?_
      · simp -implicitDefEqProofs (maxSteps := 10000000) only [rkA, rkB, stepA, valA, simprocAttr]
        exact ⟨0, rfl, rfl, by subst hrows; rfl⟩
      rintro m s ⟨i, him, hpre, rfl⟩
      simp -implicitDefEqProofs (maxSteps := 10000000) only [rkA, rkB, stepA, valA, simprocAttr]
      refine gB_dec ?_ ?_ <;> intro hc <;> simp -implicitDefEqProofs (maxSteps := 10000000) only [hc, rkA, rkB, stepA, valA, simprocAttr]
      · have hi5 : i < rows.length := by omega
        have h0 : (0 : Int) ≤ (i : Int) := by omega
        have hget : (rows.map fun p => PV.sl p.1 (p.2.map num))[i]? = some (.sl rows[i].1 (rows[i].2.map num)) := by simp [hi5]
        have hbad : in5 rows[i].2 = false → few9 N x root f g h r z = false := fun hb => by
          have : (rows.map (·.2)).all in5 = false := by
            rw [List.all_eq_false]
            exact ⟨rows[i].2, List.mem_map.2 ⟨rows[i], List.getElem_mem hi5, rfl⟩, by simp [hb]⟩
          rw [few9, hall, this, Bool.false_and, Bool.and_false]
        have hstep : in5 rows[i].2 = true → ((rows.map (·.2)).take (i + 1)).all in5 = true := fun hb => by
          rw [List.take_succ_eq_append_getElem (by simpa using hi5), List.all_append, hpre]
          simp [hb]
        generalize rows[i].1 = e at *
        generalize rows[i].2 = l at *
        have hc' : (i : Int) < ((5 : Nat) : Int) := by omega
        simp -implicitDefEqProofs (maxSteps := 10000000) only [h0, hc', Int.toNat_natCast, Nat.mul_one, fieldA, hget, rkA, rkB, stepA, valA, simprocAttr]
        refine wp_loop (fun m s => ∃ k : Nat, k + m = 10 ∧ (∀ y ∈ l.take k, -5 ≤ y ∧ y ≤ 5) ∧ s = ⟨[jk, .ptr 1 0, jk, jk, .v (.sl e (l.map num)), nt k, jk, jk, jk, jk, jk, jk, jk, jk, jk, jk, jk, jk, jk, jk, jk, jk, jk, jk, jk, jk, jk, jk, jk, jk, jk, jk, jk, jk, jk, jk, jk, jk, jk, jk, jk, jk, jk, jk, jk, jk, jk, jk, jk, jk, jk, jk, jk, jk, jk, jk, jk, jk, jk, jk, .v (.agg (rows.map fun p => .sl p.1 (p.2.map num))), nt i, jk, jk, jk, jk, jk, jk, jk, jk, jk, jk, jk, jk, jk, jk, jk, jk, jk, jk, jk, jk, jk, jk, jk, jk, jk, jk, jk, jk, jk, jk, jk, jk, jk, jk, jk, jk, jk, jk, jk, jk, jk, jk, jk, jk, jk, jk, jk, jk, jk, jk, jk, jk, jk, jk, jk, jk],
          [(1, [nt N, .v (.sl e1 (x.map num)), .v (.sl e2 (root.map num)), .v (.sl e3 (f.map num)), .v (.sl e4 (g.map num)), .v (.sl e5 (h.map num)), nt r, nt z])], [], [], [], 0, nomem⟩) 10 ?_ ?_
        · simp -implicitDefEqProofs (maxSteps := 10000000) only [rkA, rkB, stepA, valA, simprocAttr]
          exact ⟨0, rfl, by simp, rfl⟩
        rintro m' s ⟨k, hkm, hk, rfl⟩
        simp -implicitDefEqProofs (maxSteps := 10000000) only [rkA, rkB, stepA, valA, simprocAttr]
        have el : (l.map num).length = l.length := by simp
        have hout : ¬ ((k : Int) < (l.length : Int) ∧ (k : Int) ≤ 9) → in5 l = true := fun hn => by
          rw [in5, decide_eq_true_eq]
          by_cases h1 : (k : Int) < (l.length : Int)
          · have : k = 10 := by omega
            subst this
            exact hk
          · rw [List.take_of_length_le (by omega)] at hk
            exact fun y hy => hk y (List.mem_of_mem_take hy)
        have hw := wrapped (x := (i : Int) + 1) (by omega) (by omega)
        have hw2 := wrapped (x := (k : Int) + 1) (by omega) (by omega)
        refine gB_dec ?_ ?_ <;> intro hc2 <;> simp -implicitDefEqProofs (maxSteps := 10000000) only [hc2, rkA, rkB, stepA, valA, simprocAttr]
        · have hlt : k < l.length := by simpa using hc2
          refine gB_dec ?_ ?_ <;> intro hc3 <;> simp -implicitDefEqProofs (maxSteps := 10000000) only [hc3, rkA, rkB, stepA, valA, simprocAttr]
          · have hk0 : (0 : Int) ≤ (k : Int) := by omega
            have hg : (l.map num)[k]? = some (num l[k]) := by simp [hlt]
            have hno : ¬ (-5 ≤ l[k] ∧ l[k] ≤ 5) → in5 l = false := fun hn => by
              rw [in5, decide_eq_false_iff_not]
              exact fun ha => hn (ha _ (List.mem_take_iff_getElem.2 ⟨k, by omega, rfl⟩))
            simp -implicitDefEqProofs (maxSteps := 10000000) only [hk0, Int.toNat_natCast, hg, rkA, rkB, stepA, valA, simprocAttr]
            refine gB_dec ?_ ?_ <;> intro hc4 <;> simp -implicitDefEqProofs (maxSteps := 10000000) only [hc4, rkA, rkB, stepA, valA, simprocAttr]
            · rw [hbad (hno (by omega))]
            · simp -implicitDefEqProofs (maxSteps := 10000000) only [hk0, Int.toNat_natCast, hg, rkA, rkB, stepA, valA, simprocAttr]
              refine gB_dec ?_ ?_ <;> intro hc5 <;> simp -implicitDefEqProofs (maxSteps := 10000000) only [hc5, rkA, rkB, stepA, valA, simprocAttr]
              · rw [hbad (hno (by omega))]
              · simp -implicitDefEqProofs (maxSteps := 10000000) only [hw2, rkA, rkB, stepA, valA, simprocAttr]
                refine loopK_of (m' := m' - 1) (by omega) ?_
                simp -implicitDefEqProofs (maxSteps := 10000000) only [rkA, rkB, stepA, valA, simprocAttr]
                refine ⟨k + 1, by omega, ?_, by simp only [Int.natCast_add, Int.natCast_one]⟩
                rw [List.take_succ_eq_append_getElem hlt]
                intro y hy
                rcases List.mem_append.1 hy with hy | hy
                · exact hk y hy
                · simp at hy; omega
          · simp -implicitDefEqProofs (maxSteps := 10000000) only [hw, rkA, rkB, stepA, valA, simprocAttr]
            refine loopK_of (m' := m - 1) (by omega) ?_
            simp -implicitDefEqProofs (maxSteps := 10000000) only [rkA, rkB, stepA, valA, simprocAttr]
            exact ⟨i + 1, by omega, hstep (hout (by omega)), by simp only [Int.natCast_add, Int.natCast_one]⟩
        · simp -implicitDefEqProofs (maxSteps := 10000000) only [hw, rkA, rkB, stepA, valA, simprocAttr]
          refine loopK_of (m' := m - 1) (by omega) ?_
          simp -implicitDefEqProofs (maxSteps := 10000000) only [rkA, rkB, stepA, valA, simprocAttr]
          exact ⟨i + 1, by omega, hstep (hout (by rw [el] at hc2; omega)), by simp only [Int.natCast_add, Int.natCast_one]⟩
      · have hi5 : i = 5 := by omega
        have hin : (rows.map (·.2)).all in5 = true := by
          rw [← hpre, hi5, List.take_of_length_le (by simp [hlen])]
        have hfew : few9 N x root f g h r z = decide ((root.length : Int) = N * N ∧ (f.length : Int) = N * N ∧ (g.length : Int) = N * N) := by
          rw [few9, hs, hall, hin, Bool.true_and, Bool.true_and]
        rw [hfew]
        by_cases b1 : (root.length : Int) = N * N
        · have b1' : ((root.length : Int) == N * N) = true := by simp [b1]
          by_cases b2 : (f.length : Int) = N * N
          · have b2' : ((f.length : Int) == N * N) = true := by simp [b2]
            by_cases b3 : (g.length : Int) = N * N
            · have b3' : ((g.length : Int) == N * N) = true := by simp [b3]
              rw [decide_eq_true ⟨b1, b2, b3⟩]
              simp -implicitDefEqProofs (maxSteps := 10000000) only [lr, lf, lg, wN, b1', b2', b3', rkA, rkB, stepA, valA, simprocAttr]
            · have b3' : ((g.length : Int) == N * N) = false := by simp [b3]
              rw [decide_eq_false fun h => b3 h.2.2]
              simp -implicitDefEqProofs (maxSteps := 10000000) only [lr, lf, lg, wN, b1', b2', b3', rkA, rkB, stepA, valA, simprocAttr]
          · have b2' : ((f.length : Int) == N * N) = false := by simp [b2]
            rw [decide_eq_false fun h => b2 h.2.1]
            simp -implicitDefEqProofs (maxSteps := 10000000) only [lr, lf, lg, wN, b1', b2', rkA, rkB, stepA, valA, simprocAttr]
        · have b1' : ((root.length : Int) == N * N) = false := by simp [b1]
          rw [decide_eq_false fun h => b1 h.1]
          simp -implicitDefEqProofs (maxSteps := 10000000) only [lr, lf, lg, wN, b1', rkA, rkB, stepA, valA, simprocAttr]
    · have a4' : ((h.length : Int) != N) = true := by simp [a4]
      rw [few9_bad (by omega)]
      simp -implicitDefEqProofs (maxSteps := 10000000) only [a1, a2, lx, lh, a3', a4', rkA, rkB, stepA, valA, simprocAttr]
  · have a3' : ((x.length : Int) != N) = true := by simp [a3]
    rw [few9_bad (by omega)]
    simp -implicitDefEqProofs (maxSteps := 10000000) only [a1, a2, lx, lh, a3', rkA, rkB, stepA, valA, simprocAttr]
end Go.Proofs.YtbflmeomkfjikaaGreat.A



set_option linter.unusedVariables false
set_option linter.unusedSimpArgs false
set_option maxRecDepth 100000
namespace Go.Proofs.YtbflmeomkfjikaaGreat.A
open Go Go.RowKit Go.Shelf

/-- What Few tells. -/
theorem few9_spec {N : Int} {x root f g h : List Int} {r z : Int} (hf : few9 N x root f g h r z = true) :
    (1 ≤ N ∧ N ≤ 3 ∧ (x.length : Int) = N ∧ (h.length : Int) = N ∧ 1 ≤ r ∧ r ≤ 5 ∧ -5 ≤ z ∧ z ≤ 5) ∧ (bnd 5 x ∧ bnd 5 h ∧ bnd 5 root ∧ bnd 5 f ∧ bnd 5 g) ∧ (root.length : Int) = N * N ∧ (f.length : Int) = N * N ∧ (g.length : Int) = N * N := by
  simp only [few9, sided, Bool.and_eq_true, decide_eq_true_eq, List.all_cons, List.all_nil, Bool.and_true] at hf
  obtain ⟨h1, ⟨b1, b2, b3, b4, b5⟩, h3⟩ := hf
  have hN : N * N ≤ 9 := by
    have : N = 1 ∨ N = 2 ∨ N = 3 := by omega
    rcases this with h | h | h <;> rw [h] <;> decide
  have key : ∀ {l : List Int}, in5 l = true → (l.length : Int) ≤ 9 → bnd 5 l := fun hl hn y hy => by
    rw [in5, decide_eq_true_eq, List.take_of_length_le (by omega)] at hl
    have := hl y hy
    omega
  exact ⟨h1, ⟨key b1 (by omega), key b2 (by omega), key b3 (by omega), key b4 (by omega), key b5 (by omega)⟩, h3⟩

/-! ### The function JosephStill -/
/-- What comes in. -/
abbrev caseSh : List CSh := [.int .i64, .sl false [.int .i64], .sl false [.int .i64], .sl false [.int .i64], .sl false [.int .i64], .sl false [.int .i64], .int .i64, .int .i64]
theorem case_fit {xs : List PV} (h : FitL caseSh xs) : ∃ N x root f g h r z, PV.agg xs = caseV false false false false false N x root f g h r z := by
  simp only [caseSh, FitL] at h
  obtain ⟨y0, _, rfl, h0, y1, _, rfl, h1, y2, _, rfl, h2, y3, _, rfl, h3, y4, _, rfl, h4, y5, _, rfl, h5, y6, _, rfl, h6, y7, _, rfl, h7, rfl⟩ := h
  obtain ⟨n, rfl, _⟩ := h0
  obtain ⟨z1, rfl, _⟩ := FitC.ints h1
  obtain ⟨z2, rfl, _⟩ := FitC.ints h2
  obtain ⟨z3, rfl, _⟩ := FitC.ints h3
  obtain ⟨z4, rfl, _⟩ := FitC.ints h4
  obtain ⟨z5, rfl, _⟩ := FitC.ints h5
  obtain ⟨n6, rfl, _⟩ := h6
  obtain ⟨n7, rfl, _⟩ := h7
  exact ⟨n, z1, z2, z3, z4, z5, n6, n7, rfl⟩
end Go.Proofs.YtbflmeomkfjikaaGreat.A


set_option linter.unusedVariables false
set_option linter.unusedSimpArgs false
set_option maxRecDepth 100000
namespace Go.Proofs.YtbflmeomkfjikaaGreat.A.E
open Go Go.RowKit Go.Shelf

abbrev dz : Fr := ⟨0, 0, 0, false⟩
theorem grid_at {g : Nat → Nat → Fr} {n N i k : Nat} (hi : i < N) (hk : k < n) : (gridP g n N 0).getD (i * n + k) dz = g i k := by
  rw [List.getD_eq_getElem?_getD, gridP_get _ _ _ _ _ hi hk, Option.getD_some]
end Go.Proofs.YtbflmeomkfjikaaGreat.A.E



set_option linter.unusedVariables false
set_option linter.unusedSimpArgs false
set_option maxRecDepth 100000
namespace Go.Proofs.YtbflmeomkfjikaaGreat.A.E
open Go Go.RowKit Go.Shelf

/-! ### Behind an update: what stands above the diagonal -/
theorem upRS_grid (n : Nat) (l h : List Fr) (r : Fr) : upRS n l h r = gridP (upR n l h r).1 n n 0 := by
  rw [gridP_zero, upRS, List.flatMap_def]
  rfl
theorem grid_sqE {g : Nat → Nat → Fr} {n : Nat} (hn : 1 ≤ n ∧ n ≤ 16) : right (n : Int) (n : Int) (gridP g n n 0).length = true := right_sq hn (by rw [gridP_length, Nat.add_zero])
theorem atF_gridE {g : Nat → Nat → Fr} {n i k : Nat} (hn : 1 ≤ n ∧ n ≤ 16) (hi : i < n) (hk : k < n) : atF n n (gridP g n n 0) i k = g i k := by
  have h1 := atF_eq (grid_sqE (g := g) hn) (i := i) (k := k) (by simpa using hi) (by simpa using hk)
  rw [h1, Int.toNat_natCast]
  exact grid_at (g := g) hi hk
/-! ### Both steps of a problem -/
section
variable (n : Nat) (x root f g h : List Int) (r z : Int)
end
end Go.Proofs.YtbflmeomkfjikaaGreat.A.E



set_option linter.unusedVariables false
set_option linter.unusedSimpArgs false
set_option maxRecDepth 100000
namespace Go.Proofs.YtbflmeomkfjikaaGreat.A.E
open Go Go.RowKit Go.Shelf

theorem eq_frE (x y : Fr) : cellsEq [some .i64, some .i64, some .i64, none] [num x.v, num x.lo, num x.hi, tru x.bad] [num y.v, num y.lo, num y.hi, tru y.bad] = some (decide (x = y)) := by
  obtain ⟨n, d, e, b⟩ := x
  obtain ⟨n', d', e', b'⟩ := y
  simp only [cellsEq, Fr.mk.injEq]
  cases b <;> cases b' <;> simp <;> rfl

/-! ### The function RootStays -/
end Go.Proofs.YtbflmeomkfjikaaGreat.A.E


set_option linter.unusedVariables false
set_option linter.unusedSimpArgs false
set_option maxRecDepth 100000
namespace Go.Proofs.YtbflmeomkfjikaaGreat.A
open Go Go.RowKit Go.Shelf

/-! ### One column folded, in numbers -/
section
variable {m : Nat} {A : Nat → Nat → Rat} {k : Nat} {p : Rat}
end
theorem abs_mul {a b x y : Rat} (h1 : -a ≤ x ∧ x ≤ a) (h2 : -b ≤ y ∧ y ≤ b) : -(a * b) ≤ x * y ∧ x * y ≤ a * b := by
  have k1 : 0 ≤ (a - x) * (b + y) := Rat.mul_nonneg (by grind) (by grind)
  have k2 : 0 ≤ (a + x) * (b - y) := Rat.mul_nonneg (by grind) (by grind)
  have k3 : 0 ≤ (a - x) * (b - y) := Rat.mul_nonneg (by grind) (by grind)
  have k4 : 0 ≤ (a + x) * (b + y) := Rat.mul_nonneg (by grind) (by grind)
  constructor <;> grind
end Go.Proofs.YtbflmeomkfjikaaGreat.A


set_option linter.unusedVariables false
set_option linter.unusedSimpArgs false
set_option maxRecDepth 100000
namespace Go.Proofs.YtbflmeomkfjikaaGreat.A
open Go Go.RowKit Go.Shelf

/-! ### Numbers that tend to one -/
def Tends (s : Nat → Rat) (v : Rat) : Prop := ∀ e : Rat, 0 < e → ∃ N : Nat, ∀ m, N ≤ m → -e < s m - v ∧ s m - v < e
theorem Tends.const (v : Rat) : Tends (fun _ => v) v := fun e he => ⟨0, fun m _ => by grind⟩
theorem Tends.add {s t : Nat → Rat} {v w : Rat} (h : Tends s v) (k : Tends t w) : Tends (fun m => s m + t m) (v + w) := fun e he => by
  obtain ⟨N, hN⟩ := h (e / 2) (by grind)
  obtain ⟨M, hM⟩ := k (e / 2) (by grind)
  refine ⟨max N M, fun m hm => ?_⟩
  have h1 := hN m (by omega)
  have h2 := hM m (by omega)
  grind
theorem Tends.neg {s : Nat → Rat} {v : Rat} (h : Tends s v) : Tends (fun m => - s m) (-v) := fun e he => by
  obtain ⟨N, hN⟩ := h e he
  exact ⟨N, fun m hm => by have := hN m hm; grind⟩
theorem Tends.sub {s t : Nat → Rat} {v w : Rat} (h : Tends s v) (k : Tends t w) : Tends (fun m => s m - t m) (v - w) := by
  have := h.add k.neg
  have e : (fun m => s m + - t m) = fun m => s m - t m := by funext m; grind
  rw [e] at this
  have e2 : v + -w = v - w := by grind
  rwa [e2] at this
/-- Bounded, and behind some number. -/
def BndS (s : Nat → Rat) : Prop := ∃ B : Rat, 0 < B ∧ ∃ N : Nat, ∀ m, N ≤ m → -B ≤ s m ∧ s m ≤ B
theorem rat_abs (v : Rat) : ∃ B : Rat, 0 < B ∧ -B ≤ v ∧ v ≤ B := by
  by_cases h : 0 ≤ v
  · exact ⟨v + 1, by grind, by grind, by grind⟩
  · exact ⟨-v + 1, by grind, by grind, by grind⟩
theorem Tends.bnd {s : Nat → Rat} {v : Rat} (h : Tends s v) : BndS s := by
  obtain ⟨B, hB, h1, h2⟩ := rat_abs v
  obtain ⟨N, hN⟩ := h 1 (by decide)
  exact ⟨B + 1, by grind, N, fun m hm => by have := hN m hm; grind⟩
theorem mul_small {x y e B : Rat} (hB : 0 < B) (hx : -B ≤ x ∧ x ≤ B) (hy : -(e / B) < y ∧ y < e / B) (he : 0 < e) : -e ≤ x * y ∧ x * y ≤ e := by
  have h1 := abs_mul hx (b := e / B) ⟨Rat.le_of_lt hy.1, Rat.le_of_lt hy.2⟩
  have e1 : B * (e / B) = e := by grind
  rwa [e1] at h1
theorem div_pos' {e B : Rat} (he : 0 < e) (hB : 0 < B) : 0 < e / B := by
  rw [Rat.div_def]
  exact Rat.mul_pos he (Rat.inv_pos.2 hB)
theorem Tends.null_mul {s t : Nat → Rat} (h : BndS s) (k : Tends t 0) : Tends (fun m => s m * t m) 0 := fun e he => by
  obtain ⟨B, hB, N, hN⟩ := h
  obtain ⟨M, hM⟩ := k (e / 2 / B) (div_pos' (by grind) hB)
  refine ⟨max N M, fun m hm => ?_⟩
  have h1 := hN m (by omega)
  have h2 := hM m (by omega)
  have h3 := mul_small (x := s m) (y := t m) hB h1 (by grind) (by grind : 0 < e / 2)
  grind
theorem Tends.zero_iff {s : Nat → Rat} {v : Rat} : Tends s v ↔ Tends (fun m => s m - v) 0 := by
  unfold Tends
  constructor
  · intro h e he
    obtain ⟨N, hN⟩ := h e he
    exact ⟨N, fun m hm => by have := hN m hm; grind⟩
  · intro h e he
    obtain ⟨N, hN⟩ := h e he
    exact ⟨N, fun m hm => by have := hN m hm; grind⟩
theorem Tends.mul {s t : Nat → Rat} {v w : Rat} (h : Tends s v) (k : Tends t w) : Tends (fun m => s m * t m) (v * w) := by
  rw [Tends.zero_iff]
  have h1 := Tends.null_mul h.bnd (Tends.zero_iff.1 k)
  have h2 := Tends.null_mul (Tends.const w).bnd (Tends.zero_iff.1 h)
  have h3 := h1.add h2
  have e : (fun m => s m * (t m - w) + w * (s m - v)) = fun m => s m * t m - v * w := by funext m; grind
  rw [e] at h3
  have e2 : (0 : Rat) + 0 = 0 := by grind
  rwa [e2] at h3
theorem Tends.inv {s : Nat → Rat} {v : Rat} (h : Tends s v) (hv : v ≠ 0) : Tends (fun m => (s m)⁻¹) v⁻¹ := by
  -- away from 0
  have hb : ∃ c : Rat, 0 < c ∧ ∃ N : Nat, ∀ m, N ≤ m → s m ≠ 0 ∧ -c ≤ (s m)⁻¹ ∧ (s m)⁻¹ ≤ c := by
    by_cases hp : 0 < v
    · obtain ⟨N, hN⟩ := h (v / 2) (by grind)
      refine ⟨(v / 2)⁻¹, Rat.inv_pos.2 (by grind), N, fun m hm => ?_⟩
      have h1 := hN m hm
      have h2 : 0 < s m := by grind
      have h3 : 0 < (s m)⁻¹ := Rat.inv_pos.2 h2
      have h4 : 0 < (v / 2)⁻¹ := Rat.inv_pos.2 (by grind)
      refine ⟨by grind, by grind, ?_⟩
      have h5 : 0 ≤ (s m - v / 2) * ((s m)⁻¹ * (v / 2)⁻¹) := Rat.mul_nonneg (by grind) (Rat.le_of_lt (Rat.mul_pos h3 h4))
      have e1 : (s m - v / 2) * ((s m)⁻¹ * (v / 2)⁻¹) = (v / 2)⁻¹ - (s m)⁻¹ := by
        have a1 : s m * (s m)⁻¹ = 1 := Rat.mul_inv_cancel _ (by grind)
        have a2 : (v / 2) * (v / 2)⁻¹ = 1 := Rat.mul_inv_cancel _ (by grind)
        generalize (s m)⁻¹ = a at *
        generalize (v / 2)⁻¹ = b at *
        grind
      grind
    · have hn : v < 0 := by grind
      obtain ⟨N, hN⟩ := h (-v / 2) (by grind)
      refine ⟨(-v / 2)⁻¹, Rat.inv_pos.2 (by grind), N, fun m hm => ?_⟩
      have h1 := hN m hm
      have h2 : 0 < - s m := by grind
      have h3 : 0 < (- s m)⁻¹ := Rat.inv_pos.2 h2
      have h4 : 0 < (-v / 2)⁻¹ := Rat.inv_pos.2 (by grind)
      have h6 : (s m)⁻¹ = -(- s m)⁻¹ := by
        have a1 : s m * (s m)⁻¹ = 1 := Rat.mul_inv_cancel _ (by grind)
        have a2 : (- s m) * (- s m)⁻¹ = 1 := Rat.mul_inv_cancel _ (by grind)
        generalize (s m)⁻¹ = a at *
        generalize (- s m)⁻¹ = b at *
        have : s m * a = s m * (-b) := by grind
        have h0 : s m ≠ 0 := by grind
        grind
      have h5 : 0 ≤ (- s m - -v / 2) * ((- s m)⁻¹ * (-v / 2)⁻¹) := Rat.mul_nonneg (by grind) (Rat.le_of_lt (Rat.mul_pos h3 h4))
      have e1 : (- s m - -v / 2) * ((- s m)⁻¹ * (-v / 2)⁻¹) = (-v / 2)⁻¹ - (- s m)⁻¹ := by
        have a1 : - s m * (- s m)⁻¹ = 1 := Rat.mul_inv_cancel _ (by grind)
        have a2 : (-v / 2) * (-v / 2)⁻¹ = 1 := Rat.mul_inv_cancel _ (by grind)
        generalize (- s m)⁻¹ = a at *
        generalize (-v / 2)⁻¹ = b at *
        grind
      refine ⟨by grind, by grind, by grind⟩
  obtain ⟨c, hc, N, hN⟩ := hb
  rw [Tends.zero_iff]
  have h2 : Tends (fun m => (s m)⁻¹ * (v⁻¹ * (v - s m))) 0 := by
    refine Tends.null_mul ⟨c, hc, N, fun m hm => (hN m hm).2⟩ ?_
    refine Tends.null_mul (Tends.const v⁻¹).bnd ?_
    have := (Tends.const v).sub h
    have e2 : v - v = 0 := by grind
    rwa [e2] at this
  intro e he
  obtain ⟨M, hM⟩ := h2 e he
  refine ⟨max N M, fun m hm => ?_⟩
  have h3 : -e < (s m)⁻¹ * (v⁻¹ * (v - s m)) - 0 ∧ (s m)⁻¹ * (v⁻¹ * (v - s m)) - 0 < e := hM m (by omega)
  have h4 := (hN m (by omega)).1
  have e1 : (s m)⁻¹ * (v⁻¹ * (v - s m)) = (s m)⁻¹ - v⁻¹ := by
    have a1 : s m * (s m)⁻¹ = 1 := Rat.mul_inv_cancel _ h4
    have a2 : v * v⁻¹ = 1 := Rat.mul_inv_cancel _ hv
    generalize (s m)⁻¹ = a at *
    generalize v⁻¹ = b at *
    grind
  rw [e1] at h3
  exact ⟨by grind, by grind⟩
theorem Tends.sum {s : Nat → Nat → Rat} {v : Nat → Rat} (h : ∀ j, Tends (fun m => s m j) (v j)) : ∀ n, Tends (fun m => sumR n (s m)) (sumR n v)
  | 0 => Tends.const 0
  | n + 1 => (Tends.sum h n).add (h n)
/-- What stays below a bound has its limit there. -/
theorem Tends.le {s : Nat → Rat} {v b : Rat} (h : Tends s v) (hb : ∀ m, s m ≤ b) : v ≤ b := by
  by_cases hv : v ≤ b
  · exact hv
  · obtain ⟨N, hN⟩ := h (v - b) (by grind)
    have h1 := hN N (Nat.le_refl _)
    have h2 := hb N
    grind
theorem Tends.congr {s t : Nat → Rat} {v : Rat} (h : Tends s v) (k : ∀ m, s m = t m) : Tends t v := by
  have : s = t := funext k
  rwa [← this]
/-- What is within e / (m + 1) of one tends to it. -/
theorem Tends.near {s t : Nat → Rat} {v c : Rat} (h : Tends t v) (hc : 0 ≤ c) (k : ∀ m : Nat, -(c / ((m : Rat) + 1)) ≤ s m - t m ∧ s m - t m ≤ c / ((m : Rat) + 1)) : Tends s v := by
  have h0 : Tends (fun m => s m - t m) 0 := fun e he => by
    obtain ⟨N, hN⟩ : ∃ N : Nat, c / e < (N : Rat) := by
      refine ⟨((c / e).floor + 1).toNat, ?_⟩
      have h1 : c / e < ((c / e).floor + 1 : Int) := Rat.lt_floor_add_one _
      have h2 : ((c / e).floor + 1 : Int) ≤ (((c / e).floor + 1).toNat : Int) := Int.self_le_toNat _
      have h3 := Rat.intCast_le_intCast.2 h2
      rw [Rat.intCast_natCast] at h3
      grind
    refine ⟨N, fun m hm => ?_⟩
    have h1 := k m
    have hm' : (N : Rat) ≤ (m : Rat) := by exact_mod_cast hm
    have h2 : c < e * ((m : Rat) + 1) := by
      have h3 : c = e * (c / e) := by grind
      have h4 : 0 ≤ e * ((m : Rat) - c / e) := Rat.mul_nonneg (Rat.le_of_lt he) (by grind)
      grind
    have hm0 : 0 < (m : Rat) + 1 := by
      have : (0 : Rat) ≤ (N : Rat) := by exact_mod_cast Nat.zero_le N
      grind
    have h5 : c / ((m : Rat) + 1) < e := by
      have h6 : 0 < (e * ((m : Rat) + 1) - c) * ((m : Rat) + 1)⁻¹ := Rat.mul_pos (by grind) (Rat.inv_pos.2 hm0)
      have h7 : ((m : Rat) + 1) * ((m : Rat) + 1)⁻¹ = 1 := Rat.mul_inv_cancel _ (by grind)
      rw [Rat.div_def]
      generalize ((m : Rat) + 1)⁻¹ = a at *
      have h8 : (e * ((m : Rat) + 1) - c) * a = e * (((m : Rat) + 1) * a) - c * a := by grind
      rw [h8, h7] at h6
      grind
    constructor <;> grind
  have := h0.add h
  have e1 : (fun m => s m - t m + t m) = s := by funext m; grind
  have e2 : (0 : Rat) + v = v := by grind
  rwa [e1, e2] at this
/-! ### Roots, as near as is asked -/
end Go.Proofs.YtbflmeomkfjikaaGreat.A


set_option linter.unusedVariables false
set_option linter.unusedSimpArgs false
set_option maxRecDepth 100000
namespace Go.Proofs.YtbflmeomkfjikaaGreat.A.E
open Go Go.RowKit Go.Shelf

/-! ### Enclosed numbers beside numbers: where it is fine, it encloses -/
def Rq (x : Fr) (v : Rat) : Prop := x.fine = true → Enc x v
theorem Rq.add {a b : Fr} {v w : Rat} (ha : Rq a v) (hb : Rq b w) : Rq (addF a b) (v + w) := fun hx =>
  addF_enc (fun _ => ha (made_fine hx).1) (fun _ => hb (made_fine hx).2) (fine_is.1 hx).1
theorem Rq.sub {a b : Fr} {v w : Rat} (ha : Rq a v) (hb : Rq b w) : Rq (subF a b) (v - w) := fun hx =>
  subF_enc (fun _ => ha (made_fine hx).1) (fun _ => hb (made_fine hx).2) (fine_is.1 hx).1
theorem Rq.mul {a b : Fr} {v w : Rat} (ha : Rq a v) (hb : Rq b w) : Rq (mulF a b) (v * w) := fun hx =>
  mulF_enc (fun _ => ha (made_fine hx).1) (fun _ => hb (made_fine hx).2) (fine_is.1 hx).1
theorem Rq.whole {n : Int} (h : few n) : Rq (newF n 1) (n : Rat) := fun _ => whole_enc h
theorem Rq.zero : Rq (newF 0 1) 0 := by
  have := Rq.whole (n := 0) (by unfold few; omega)
  simpa using this
theorem Enc.ne {b : Fr} {w : Rat} (h : Enc b w) (hb : ¬ (b.lo ≤ 0 ∧ b.hi ≥ 0)) : w ≠ 0 := fun e => by
  subst e
  obtain ⟨_, h1, h2⟩ := h
  have e0 : (0 : Rat) * 16777216 = ((0 : Int) : Rat) := by simp
  rw [e0] at h1 h2
  exact hb ⟨Rat.intCast_le_intCast.1 h1, Rat.intCast_le_intCast.1 h2⟩
theorem rightX_le {n : Int} (h : rightX n = true) : -1125899906842624 ≤ n ∧ n ≤ 1125899906842624 := by
  unfold rightX at h
  exact of_decide_eq_true h
/-- What is enclosed is not great. -/
theorem Enc.bnd {x : Fr} {v : Rat} (h : Enc x v) : -67108864 ≤ v ∧ v ≤ 67108864 := by
  obtain ⟨hf, h1, h2⟩ := h
  obtain ⟨_, k1, k2, _, _⟩ := fine_is.1 hf
  have a1 := Rat.intCast_le_intCast.2 (rightX_le k1).1
  have a2 := Rat.intCast_le_intCast.2 (rightX_le k2).2
  have e1 : ((-1125899906842624 : Int) : Rat) = -1125899906842624 := by decide +kernel
  have e2 : ((1125899906842624 : Int) : Rat) = 1125899906842624 := by decide +kernel
  rw [e1] at a1
  rw [e2] at a2
  grind
theorem sumF_succ (f : Nat → Fr) (n : Nat) : sumF ((List.range (n + 1)).map f) = addF (sumF ((List.range n).map f)) (f n) := by
  unfold sumF
  rw [List.range_succ, List.map_append, List.foldl_append]
  rfl
theorem Rq.sum {f : Nat → Fr} {v : Nat → Rat} : ∀ {n : Nat}, (∀ j, j < n → Rq (f j) (v j)) → Rq (sumF ((List.range n).map f)) (sumR n v)
  | 0, _ => Rq.zero
  | n + 1, h => by
    rw [sumF_succ]
    exact Rq.add (Rq.sum fun j hj => h j (by omega)) (h n (by omega))
theorem dotF_range (f g : Nat → Fr) (n : Nat) : dotF ((List.range n).map f) ((List.range n).map g) = sumF ((List.range n).map fun j => mulF (f j) (g j)) := by
  unfold dotF
  rw [List.zipWith_map, List.zipWith_self]
theorem Rq.dot {f g : Nat → Fr} {v w : Nat → Rat} {n : Nat} (hf : ∀ j, j < n → Rq (f j) (v j)) (hg : ∀ j, j < n → Rq (g j) (w j)) : Rq (dotF ((List.range n).map f) ((List.range n).map g)) (sumR n fun j => v j * w j) := by
  rw [dotF_range]
  exact Rq.sum fun j hj => (hf j hj).mul (hg j hj)
end Go.Proofs.YtbflmeomkfjikaaGreat.A.E


set_option linter.unusedVariables false
set_option linter.unusedSimpArgs false
set_option maxRecDepth 100000
namespace Go.Proofs.YtbflmeomkfjikaaGreat.A.E
open Go Go.RowKit Go.Shelf

/-! ### Roots of enclosed numbers enclose -/
/-- What a rounded root is: r the root from below, R what is told. -/
theorem rt_spec {x m : Int} (h : (rtX x m).2 = true) : ∃ r R : Nat, (rtX x m).1 = (R : Int) ∧ 0 ≤ x ∧ rightX (R : Int) = true ∧ (r : Int) * r ≤ x * 16777216 ∧ x * 16777216 < ((r : Int) + 1) * ((r : Int) + 1) ∧
    (R = r ∨ (R = r + 1 ∧ (r : Int) * r < x * 16777216)) ∧ (m = 1 → R = r) ∧ (m = 2 → x * 16777216 ≤ (R : Int) * R) := by
  unfold rtX at h ⊢
  obtain ⟨h1, h2, h3⟩ := told_is h
  cases hok : wRootOk x 16777216 m with
  | false => rw [wRoot_no hok] at h1; cases h1
  | true =>
    rw [h2] at *
    rw [wRoot_yes hok] at *
    simp only at *
    have h0 : 0 ≤ x ∧ rightW x = true := by
      unfold wRootOk at hok
      simp only [Bool.and_eq_true, Bool.not_eq_true', Bool.and_eq_false_iff, decide_eq_false_iff_not, decide_eq_true_eq, bne_eq_false_iff_eq, decide_eq_decide] at hok
      refine ⟨?_, hok.1⟩
      obtain ⟨_, _, _, hh⟩ := hok
      rcases hh with (hh | hh) | hh
      · omega
      · omega
      · omega
    have hp : x.natAbs * (16777216 : Int).natAbs ≤ 4611686018427387903 * 4611686018427387903 := Nat.mul_le_mul (abs_right h0.2) (by decide)
    obtain ⟨s1, s2, s3⟩ := rtW_spec hp
    have ep : ((x.natAbs * (16777216 : Int).natAbs : Nat) : Int) = x * 16777216 := by
      have : (16777216 : Int).natAbs = 16777216 := rfl
      rw [this]
      omega
    generalize x.natAbs * (16777216 : Int).natAbs = p at *
    have i1 : ((rtW p : Nat) : Int) * (rtW p : Nat) ≤ x * 16777216 := by rw [← ep, ← Int.natCast_mul]; omega
    have i2 : x * 16777216 < (((rtW p : Nat) : Int) + 1) * (((rtW p : Nat) : Int) + 1) := by
      rw [← ep]
      have : (((rtW p : Nat) : Int) + 1) = ((rtW p + 1 : Nat) : Int) := by simp
      rw [this, ← Int.natCast_mul]
      omega
    refine ⟨rtW p, wRootN p m, rfl, h0.1, h3, i1, i2, ?_, ?_, ?_⟩
    · unfold wRootN
      split
      · rename_i hu
        refine .inr ⟨rfl, ?_⟩
        unfold upW at hu
        rw [Bool.and_eq_true, decide_eq_true_eq] at hu
        rw [← ep, ← Int.natCast_mul]
        have := hu.1
        omega
      · exact .inl rfl
    · rintro rfl
      unfold wRootN upW
      simp
    · rintro rfl
      unfold wRootN upW
      by_cases he : rtW p * rtW p = p
      · simp only [he, ne_eq, not_true_eq_false, decide_false, Bool.false_and, Bool.false_eq_true, if_false]
        rw [← ep, ← Int.natCast_mul]
        omega
      · simp only [he, ne_eq, not_false_eq_true, decide_true, Bool.true_and, Bool.true_or, if_true]
        have : ((rtW p + 1 : Nat) : Int) = ((rtW p : Nat) : Int) + 1 := by simp
        rw [this]
        exact Int.le_of_lt i2
theorem sqr_le {a b : Nat} (h : (a : Int) * a < ((b : Int) + 1) * ((b : Int) + 1)) : a ≤ b := by
  rcases Nat.lt_or_ge b a with h1 | h1
  · exfalso
    have h2 : ((b : Int) + 1) ≤ (a : Int) := by omega
    have h3 := Int.mul_le_mul h2 h2 (by omega) (by omega)
    omega
  · exact h1
theorem rt_lohi {x y : Int} (hx : (rtX x 1).2 = true) (hy : (rtX y 0).2 = true) (h : x ≤ y) : (rtX x 1).1 ≤ (rtX y 0).1 := by
  obtain ⟨r, R, e1, _, _, a1, a2, a3, a4, _⟩ := rt_spec hx
  obtain ⟨s, S, f1, _, _, b1, b2, b3, _, _⟩ := rt_spec hy
  rw [e1, f1, a4 rfl]
  have : r ≤ s := sqr_le (by omega)
  omega
theorem rt_hilo {x y : Int} (hx : (rtX x 0).2 = true) (hy : (rtX y 2).2 = true) (h : x ≤ y) : (rtX x 0).1 ≤ (rtX y 2).1 := by
  obtain ⟨r, R, e1, _, _, a1, a2, a3, _, _⟩ := rt_spec hx
  obtain ⟨s, S, f1, _, _, b1, b2, b3, _, b5⟩ := rt_spec hy
  rw [e1, f1]
  have h1 : r ≤ s := sqr_le (by omega)
  have h2 := b5 rfl
  rcases b3 with rfl | ⟨rfl, _⟩
  · rcases a3 with rfl | ⟨rfl, h3⟩
    · omega
    · have : (r : Int) * r < (S : Int) * S := by omega
      have hne : r ≠ S := fun e => by subst e; omega
      omega
  · rcases a3 with rfl | ⟨rfl, h3⟩ <;> omega
/-- Whatever lies between both roots told is enclosed. -/
theorem root_between {a : Fr} (h : (rootF a).fine = true) {w : Rat} (h1 : ((rtX a.lo 1).1 : Rat) ≤ w * 16777216) (h2 : w * 16777216 ≤ ((rtX a.hi 2).1 : Rat)) : Enc (rootF a) w := by
  have hb := (fine_is.1 h).1
  unfold rootF at hb h ⊢
  obtain ⟨k1, k2, k3, k4, k5⟩ := made_is hb
  obtain ⟨_, _, _, q1, q2⟩ := fine_is.1 k1
  have p1 := k4 (a.lo, a.lo) (by simp)
  have p2 := k4 (a.hi, a.hi) (by simp)
  refine made_enc hb (fun x y m hh => (by obtain ⟨r, R, e1, _, e3, _⟩ := rt_spec hh; rw [e1]; exact e3)) ⟨(a.lo, a.lo), by simp, h1⟩ ⟨(a.hi, a.hi), by simp, h2⟩
    ⟨(a.lo, a.lo), by simp, rt_lohi p1.1 k3 q1⟩ ⟨(a.hi, a.hi), by simp, rt_hilo k3 p2.2 q2⟩
theorem root_ends {a : Fr} {v : Rat} (h : (rootF a).fine = true) (ha : Enc a v) : ∃ L H : Nat, (rtX a.lo 1).1 = (L : Int) ∧ (rtX a.hi 2).1 = (H : Int) ∧ L ≤ H ∧ (L : Rat) * L ≤ v * 16777216 * 16777216 ∧ v * 16777216 * 16777216 ≤ (H : Rat) * H := by
  have hb := (fine_is.1 h).1
  unfold rootF at hb
  obtain ⟨k1, k2, k3, k4, k5⟩ := made_is hb
  obtain ⟨_, _, _, q1, q2⟩ := fine_is.1 k1
  have p1 := k4 (a.lo, a.lo) (by simp)
  have p2 := k4 (a.hi, a.hi) (by simp)
  have g1 := rt_lohi p1.1 k3 q1
  have g2 := rt_hilo k3 p2.2 q2
  obtain ⟨r, R, e1, _, _, a1, a2, a3, a4, _⟩ := rt_spec p1.1
  obtain ⟨s, S, f1, _, _, b1, b2, b3, _, b5⟩ := rt_spec p2.2
  obtain ⟨_, h1, h2⟩ := ha
  have c1 : ((r : Int) * r : Int) ≤ a.lo * 16777216 := a1
  have c2 := b5 rfl
  have c1' := Rat.intCast_le_intCast.2 c1
  have c2' := Rat.intCast_le_intCast.2 c2
  simp only [Rat.intCast_mul, Rat.intCast_natCast, Rat.intCast_ofNat] at c1' c2'
  refine ⟨R, S, e1, f1, by simp only at g1 g2 e1 f1; omega, ?_, ?_⟩
  · rw [a4 rfl]
    have : (a.lo : Rat) * 16777216 ≤ v * 16777216 * 16777216 := by
      have := Rat.mul_le_mul_of_nonneg_right h1 (show (0 : Rat) ≤ 16777216 by decide)
      exact this
    grind
  · have : v * 16777216 * 16777216 ≤ (a.hi : Rat) * 16777216 := Rat.mul_le_mul_of_nonneg_right h2 (show (0 : Rat) ≤ 16777216 by decide)
    grind
theorem nn_nat (n : Nat) : (0 : Rat) ≤ (n : Rat) := by exact_mod_cast Nat.zero_le n
theorem le_of_sq {a b : Rat} (ha : 0 ≤ a) (hb : 0 ≤ b) (h : a * a ≤ b * b) : a ≤ b := by
  by_cases h1 : a ≤ b
  · exact h1
  · have h2 : 0 < (a - b) * (a + b) := Rat.mul_pos (by grind) (by grind)
    grind
/-- The root of what is enclosed is enclosed. -/
theorem Rq.root {a : Fr} {v r : Rat} (ha : Rq a v) (hr : 0 ≤ r) (h : r * r = v) : Rq (rootF a) r := fun hf => by
  have hfa : a.fine = true := by
    have hb := (fine_is.1 hf).1
    unfold rootF at hb
    exact (made_is hb).1
  obtain ⟨L, H, e1, e2, _, h1, h2⟩ := root_ends hf (ha hfa)
  have hw : 0 ≤ r * 16777216 := Rat.mul_nonneg hr (by decide)
  have e : v * 16777216 * 16777216 = (r * 16777216) * (r * 16777216) := by rw [← h]; grind
  rw [e] at h1 h2
  refine root_between hf ?_ ?_
  · rw [e1, Rat.intCast_natCast]
    exact le_of_sq (nn_nat L) hw h1
  · rw [e2, Rat.intCast_natCast]
    exact le_of_sq hw (nn_nat H) h2
theorem Rq.neg {a : Fr} {v : Rat} (ha : Rq a v) : Rq (negF a) (-v) := by
  have h0 : Rq (point 0) 0 := fun _ => by
    have e : point 0 = newF 0 1 := by decide +kernel
    rw [e]
    exact Rq.zero (by decide +kernel)
  have := h0.sub ha
  have e : (0 : Rat) - v = -v := by grind
  rw [e] at this
  exact this
end Go.Proofs.YtbflmeomkfjikaaGreat.A.E


set_option linter.unusedVariables false
set_option linter.unusedSimpArgs false
set_option maxRecDepth 100000
namespace Go.Proofs.YtbflmeomkfjikaaGreat.A
open Go Go.RowKit Go.Shelf

/-! ### What a root is, entry by entry -/
theorem take_rowM (n : Nat) (M : Nat → Nat → Fr) (i k : Nat) (hk : k ≤ n) : (rowM n M i).take k = (List.range k).map (M i) := by
  rw [rowM, ← List.map_take, List.take_range, Nat.min_eq_left hk]
theorem leftM_congr {n : Nat} {p : List Fr} {M N : Nat → Nat → Fr} {i k : Nat} (hk : k ≤ n) (h : ∀ j, j < k → M i j = N i j ∧ M k j = N k j) : leftM n p M i k = leftM n p N i k := by
  unfold leftM
  rw [take_rowM n M i k hk, take_rowM n M k k hk, take_rowM n N i k hk, take_rowM n N k k hk]
  congr 2
  · exact List.map_congr_left fun j hj => (h j (List.mem_range.1 hj)).1
  · exact List.map_congr_left fun j hj => (h j (List.mem_range.1 hj)).2
theorem colS_other (n : Nat) (p : List Fr) (k : Nat) (M : Nat → Nat → Fr) : ∀ (j a b : Nat), b ≠ k ∨ a < k → colS n p k M j a b = M a b
  | 0, a, b, h => by
    simp only [colS, stepD, setM]
    rw [if_neg (by omega)]
  | j + 1, a, b, h => by
    simp only [colS, setM]
    rw [if_neg (by omega)]
    exact colS_other n p k M j a b h
theorem colS_diag (n : Nat) (p : List Fr) (k : Nat) (M : Nat → Nat → Fr) : ∀ j, colS n p k M j k k = rootF (leftM n p M k k)
  | 0 => by
    simp only [colS, stepD, setM]
    rw [if_pos (by simp)]
  | j + 1 => by
    simp only [colS, setM]
    rw [if_neg (by rintro ⟨h, _⟩; omega)]
    exact colS_diag n p k M j
theorem colS_low (n : Nat) (p : List Fr) (k : Nat) (M : Nat → Nat → Fr) (hk : k ≤ n) : ∀ (j t : Nat), t < j → colS n p k M j (k + 1 + t) k = divF (leftM n p M (k + 1 + t) k) (rootF (leftM n p M k k))
  | 0, t, h => by omega
  | j + 1, t, h => by
    simp only [colS, setM]
    by_cases e : t = j
    · subst e
      rw [if_pos (by simp), colS_diag]
      congr 1
      exact leftM_congr hk fun q hq => ⟨colS_other n p k M t _ _ (.inl (by omega)), colS_other n p k M t _ _ (.inl (by omega))⟩
    · rw [if_neg (by omega)]
      exact colS_low n p k M hk j t (by omega)
theorem rootS_out (n : Nat) (p : List Fr) : ∀ (k a b : Nat), k ≤ b → rootS n p k a b = newF 0 1
  | 0, a, b, h => rfl
  | k + 1, a, b, h => by
    rw [rootS, colS_other n p k _ _ _ _ (.inl (by omega))]
    exact rootS_out n p k a b (by omega)
theorem rootS_keep (n : Nat) (p : List Fr) : ∀ (k a b : Nat), b < k → rootS n p k a b = rootS n p (b + 1) a b
  | 0, a, b, h => by omega
  | k + 1, a, b, h => by
    by_cases e : b = k
    · rw [e]
    · rw [rootS, colS_other n p k _ _ _ _ (.inl (by omega))]
      exact rootS_keep n p k a b (by omega)
theorem rootS_left {n : Nat} {p : List Fr} {i k : Nat} (hk : k ≤ n) : leftM n p (rootS n p k) i k = leftM n p (rootS n p n) i k :=
  leftM_congr hk fun j hj => ⟨(rootS_keep n p k i j hj).trans (rootS_keep n p n i j (by omega)).symm, (rootS_keep n p k k j hj).trans (rootS_keep n p n k j (by omega)).symm⟩
theorem root_up {n : Nat} {p : List Fr} {i k : Nat} (h : i < k) (hk : k < n) : rootS n p n i k = newF 0 1 := by
  rw [rootS_keep n p n i k hk, rootS, colS_other n p k _ _ _ _ (.inr h)]
  exact rootS_out n p k i k (Nat.le_refl _)
theorem root_diag {n : Nat} {p : List Fr} {k : Nat} (hk : k < n) : rootS n p n k k = rootF (leftM n p (rootS n p n) k k) := by
  rw [rootS_keep n p n k k hk, rootS, colS_diag, rootS_left (by omega)]
theorem root_low {n : Nat} {p : List Fr} {i k : Nat} (h : k < i) (hi : i < n) : rootS n p n i k = divF (leftM n p (rootS n p n) i k) (rootS n p n k k) := by
  rw [rootS_keep n p n i k (by omega), rootS]
  have := colS_low n p k (rootS n p k) (by omega) (n - (k + 1)) (i - (k + 1)) (by omega)
  rw [show k + 1 + (i - (k + 1)) = i by omega] at this
  rw [this, rootS_left (by omega), rootS_left (by omega), ← root_diag (by omega)]

end Go.Proofs.YtbflmeomkfjikaaGreat.A


set_option linter.unusedVariables false
set_option linter.unusedSimpArgs false
set_option maxRecDepth 100000
namespace Go.Proofs.YtbflmeomkfjikaaGreat.A.E
open Go Go.RowKit Go.Shelf

theorem take_rowM (n : Nat) (M : Nat → Nat → Fr) (i k : Nat) (hk : k ≤ n) : (rowM n M i).take k = (List.range k).map (M i) := by
  rw [rowM, ← List.map_take, List.take_range, Nat.min_eq_left hk]
theorem leftM_congr {n : Nat} {p : List Fr} {M N : Nat → Nat → Fr} {i k : Nat} (hk : k ≤ n) (h : ∀ j, j < k → M i j = N i j ∧ M k j = N k j) : leftM n p M i k = leftM n p N i k := by
  unfold leftM
  rw [take_rowM n M i k hk, take_rowM n M k k hk, take_rowM n N i k hk, take_rowM n N k k hk]
  congr 2
  · exact List.map_congr_left fun j hj => (h j (List.mem_range.1 hj)).1
  · exact List.map_congr_left fun j hj => (h j (List.mem_range.1 hj)).2
theorem colS_other (n : Nat) (p : List Fr) (k : Nat) (M : Nat → Nat → Fr) : ∀ (j a b : Nat), b ≠ k ∨ a < k → colS n p k M j a b = M a b
  | 0, a, b, h => by
    simp only [colS, stepD, setM]
    rw [if_neg (by omega)]
  | j + 1, a, b, h => by
    simp only [colS, setM]
    rw [if_neg (by omega)]
    exact colS_other n p k M j a b h
theorem colS_diag (n : Nat) (p : List Fr) (k : Nat) (M : Nat → Nat → Fr) : ∀ j, colS n p k M j k k = rootF (leftM n p M k k)
  | 0 => by
    simp only [colS, stepD, setM]
    rw [if_pos (by simp)]
  | j + 1 => by
    simp only [colS, setM]
    rw [if_neg (by rintro ⟨h, _⟩; omega)]
    exact colS_diag n p k M j
theorem colS_low (n : Nat) (p : List Fr) (k : Nat) (M : Nat → Nat → Fr) (hk : k ≤ n) : ∀ (j t : Nat), t < j → colS n p k M j (k + 1 + t) k = divF (leftM n p M (k + 1 + t) k) (rootF (leftM n p M k k))
  | 0, t, h => by omega
  | j + 1, t, h => by
    simp only [colS, setM]
    by_cases e : t = j
    · subst e
      rw [if_pos (by simp), colS_diag]
      congr 1
      exact leftM_congr hk fun q hq => ⟨colS_other n p k M t _ _ (.inl (by omega)), colS_other n p k M t _ _ (.inl (by omega))⟩
    · rw [if_neg (by omega)]
      exact colS_low n p k M hk j t (by omega)
theorem rootS_out (n : Nat) (p : List Fr) : ∀ (k a b : Nat), k ≤ b → rootS n p k a b = newF 0 1
  | 0, a, b, h => rfl
  | k + 1, a, b, h => by
    rw [rootS, colS_other n p k _ _ _ _ (.inl (by omega))]
    exact rootS_out n p k a b (by omega)
theorem rootS_keep (n : Nat) (p : List Fr) : ∀ (k a b : Nat), b < k → rootS n p k a b = rootS n p (b + 1) a b
  | 0, a, b, h => by omega
  | k + 1, a, b, h => by
    by_cases e : b = k
    · rw [e]
    · rw [rootS, colS_other n p k _ _ _ _ (.inl (by omega))]
      exact rootS_keep n p k a b (by omega)
theorem rootS_left {n : Nat} {p : List Fr} {i k : Nat} (hk : k ≤ n) : leftM n p (rootS n p k) i k = leftM n p (rootS n p n) i k :=
  leftM_congr hk fun j hj => ⟨(rootS_keep n p k i j hj).trans (rootS_keep n p n i j (by omega)).symm, (rootS_keep n p k k j hj).trans (rootS_keep n p n k j (by omega)).symm⟩
theorem root_up {n : Nat} {p : List Fr} {i k : Nat} (h : i < k) (hk : k < n) : rootS n p n i k = newF 0 1 := by
  rw [rootS_keep n p n i k hk, rootS, colS_other n p k _ _ _ _ (.inr h)]
  exact rootS_out n p k i k (Nat.le_refl _)
theorem root_diag {n : Nat} {p : List Fr} {k : Nat} (hk : k < n) : rootS n p n k k = rootF (leftM n p (rootS n p n) k k) := by
  rw [rootS_keep n p n k k hk, rootS, colS_diag, rootS_left (by omega)]
theorem root_low {n : Nat} {p : List Fr} {i k : Nat} (h : k < i) (hi : i < n) : rootS n p n i k = divF (leftM n p (rootS n p n) i k) (rootS n p n k k) := by
  rw [rootS_keep n p n i k (by omega), rootS]
  have := colS_low n p k (rootS n p k) (by omega) (n - (k + 1)) (i - (k + 1)) (by omega)
  rw [show k + 1 + (i - (k + 1)) = i by omega] at this
  rw [this, rootS_left (by omega), rootS_left (by omega), ← root_diag (by omega)]

end Go.Proofs.YtbflmeomkfjikaaGreat.A.E


set_option linter.unusedVariables false
set_option linter.unusedSimpArgs false
set_option maxRecDepth 100000
namespace Go.Proofs.YtbflmeomkfjikaaGreat.A
open Go Go.RowKit Go.Shelf

/-! ### Sums of whole numbers -/
def sumZ : Nat → (Nat → Int) → Int
  | 0, _ => 0
  | n + 1, f => sumZ n f + f n
theorem sumZ_tail {f : Nat → Int} {k n : Nat} (hk : k ≤ n) (h : ∀ j, k ≤ j → j < n → f j = 0) : sumZ n f = sumZ k f := by
  induction n with
  | zero => rw [show k = 0 by omega]
  | succ n ih =>
    by_cases e : k = n + 1
    · rw [e]
    · rw [sumZ, ih (by omega) (fun j h1 h2 => h j h1 (by omega)), h n (by omega) (by omega), Int.add_zero]
theorem sumZ_bnd {f : Nat → Int} {B : Int} (hB : 0 ≤ B) (hf : ∀ j, -B ≤ f j ∧ f j ≤ B) : ∀ n : Nat, -((n : Int) * B) ≤ sumZ n f ∧ sumZ n f ≤ (n : Int) * B
  | 0 => by simp [sumZ]
  | n + 1 => by
    have h := sumZ_bnd hB hf n
    have h2 := hf n
    have e : ((n + 1 : Nat) : Int) * B = (n : Int) * B + B := by rw [Int.natCast_add, Int.add_mul]; simp
    rw [sumZ, e]
    omega
/-- The dot of whole numbers. -/
theorem dot_whole {f g : Nat → Int} (hf : ∀ j, -100 ≤ f j ∧ f j ≤ 100) (hg : ∀ j, -100 ≤ g j ∧ g j ≤ 100) {n : Nat} (hn : n ≤ 16) :
    dotF ((List.range n).map fun j => newF (f j) 1) ((List.range n).map fun j => newF (g j) 1) = newF (sumZ n fun j => f j * g j) 1 := by
  have hb : ∀ j, -10000 ≤ f j * g j ∧ f j * g j ≤ 10000 := fun j => prod_small (hf j) (hg j)
  have hs : ∀ j, j ≤ 16 → few (sumZ j fun j => f j * g j) := fun j hj => by
    have := sumZ_bnd (B := 10000) (by omega) hb j
    unfold few
    omega
  unfold dotF
  rw [newF_whole (hs n hn), List.zipWith_map, List.zipWith_self]
  have e : ∀ j, mulF (newF (f j) 1) (newF (g j) 1) = whole (f j * g j) := fun j => by
    have h3 := hb j
    rw [newF_whole (few_small (hf j)), newF_whole (few_small (hg j)), mulF_whole (few_small (hf j)) (few_small (hg j)) (by unfold few; omega)]
  simp only [e]
  exact sumF_whole (fun j => f j * g j) (fun j => sumZ j fun j => f j * g j) rfl (fun j => rfl) n (fun j _ => by have := hb j; unfold few; omega) (fun j hj => hs j (by omega)) n (Nat.le_refl _)

/-! ### Roots of squares of whole triangles -/
theorem rootI_sq {s : Int} (h : 0 ≤ s ∧ s ≤ 100) : rootI (s * s) = s := by
  obtain ⟨S, rfl⟩ : ∃ S : Nat, s = S := ⟨s.toNat, by omega⟩
  have e : ((S : Int) * S).toNat = S * S := by rw [← Int.natCast_mul, Int.toNat_natCast]
  have hs : S < 2 ^ 16 := by omega
  unfold rootI
  rw [e, rtB_sq hs, if_pos rfl]
theorem root_whole {s : Int} (h : 0 ≤ s ∧ s ≤ 100) : rootF (newF (s * s) 1) = newF s 1 := by
  have hb : 0 ≤ s * s ∧ s * s ≤ 10000 := ⟨Int.mul_nonneg h.1 h.1, (prod_small ⟨by omega, h.2⟩ ⟨by omega, h.2⟩).2⟩
  have hf : few (s * s) := by unfold few; omega
  rw [newF_whole hf]
  unfold rootF
  have r1 := rootI_sq h
  have r2 : rootI 1 = 1 := by decide +kernel
  simp only [fine_whole hf]
  show (if true = false ∨ s * s < 0 ∨ rootI (s * s) < 0 ∨ rootI 1 < 0 then Fr.wrong else newF (rootI (s * s)) (rootI 1)) = _
  rw [r1, r2, if_neg (by rintro (h1 | h1 | h1 | h1) <;> first | cases h1 | omega)]
theorem div_whole {a b : Int} (ha : -100 ≤ a ∧ a ≤ 100) (hb : 1 ≤ b ∧ b ≤ 100) : divF (newF (a * b) 1) (newF b 1) = newF a 1 := by
  have hp := prod_small (x := a) (y := b) ha ⟨by omega, hb.2⟩
  have f1 : few (a * b) := by unfold few; omega
  have f2 : few b := by unfold few; omega
  have f3 : few a := by unfold few; omega
  rw [newF_whole f1, newF_whole f2]
  unfold divF
  rw [fine_whole f1, fine_whole f2, if_neg (by simp)]
  simp only [whole]
  rw [Int.mul_one, Int.one_mul]
  have h1 : newF (a * b) b = newF a 1 := by
    have hb0 : b ≠ 0 := by omega
    have i1 : Is (newF (a * b) b) (a : Rat) := by
      have hg : Int.gcd (a * b) b = b.natAbs := by
        show Nat.gcd (a * b).natAbs b.natAbs = _
        rw [Int.natAbs_mul]
        exact Nat.gcd_eq_right (Nat.dvd_mul_left _ _)
      have hq : (newF (a * b) b).bad = false := by
        unfold newF
        rw [if_neg (by omega)]
        simp only [show ¬ b < 0 by omega, if_false, hg]
        have e1 : ((b.natAbs : Nat) : Int) = b := by omega
        rw [e1, Int.mul_tdiv_cancel _ hb0, Int.tdiv_self hb0, if_neg (by omega)]
      obtain ⟨g1, g2, g3⟩ := newF_fine hq
      refine ⟨g1, g2.trans ?_⟩
      have := cast_ne hb0
      rw [Rat.intCast_mul]
      grind
    exact i1.inj (whole_is f3)
  exact h1
section
variable {n : Nat} {L : Nat → Nat → Int}
/-- A lower triangle of small whole numbers, its diagonal above 0. -/
structure LowTri (n : Nat) (L : Nat → Nat → Int) : Prop where
  small : ∀ i k, -100 ≤ L i k ∧ L i k ≤ 100
  zero : ∀ i k, i < k → k < n → L i k = 0
  diag : ∀ k, k < n → 1 ≤ L k k
theorem LowTri.sum (h : LowTri n L) {i k : Nat} (hk : k < n) (hki : k ≤ i) : sumZ n (fun j => L i j * L k j) = sumZ k (fun j => L i j * L k j) + L i k * L k k := by
  have : sumZ n (fun j => L i j * L k j) = sumZ (k + 1) (fun j => L i j * L k j) := sumZ_tail (by omega) fun j h1 h2 => by rw [h.zero k j (by omega) h2, Int.mul_zero]
  rw [this, sumZ]
theorem LowTri.left (hn : 1 ≤ n ∧ n ≤ 16) (h : LowTri n L) {p : List Fr} (hp : ∀ i k, i < n → k < n → atF n n p i k = newF (sumZ n fun j => L i j * L k j) 1) {S : Nat → Nat → Fr} {i k : Nat} (hk : k < n) (hki : k ≤ i) (hi : i < n)
    (hS : ∀ j, j < k → S i j = newF (L i j) 1 ∧ S k j = newF (L k j) 1) : leftM n p S i k = newF (L i k * L k k) 1 := by
  unfold leftM
  rw [take_rowM n S i k (by omega), take_rowM n S k k (by omega), hp i k hi hk, h.sum hk hki]
  have e1 : (List.range k).map (S i) = (List.range k).map fun j => newF (L i j) 1 := List.map_congr_left fun j hj => (hS j (List.mem_range.1 hj)).1
  have e2 : (List.range k).map (S k) = (List.range k).map fun j => newF (L k j) 1 := List.map_congr_left fun j hj => (hS j (List.mem_range.1 hj)).2
  rw [e1, e2, dot_whole (h.small i) (h.small k) (by omega)]
  have hb : ∀ j, -10000 ≤ L i j * L k j ∧ L i j * L k j ≤ 10000 := fun j => prod_small (h.small i j) (h.small k j)
  have hs := sumZ_bnd (B := 10000) (by omega) hb k
  have hk' := hb k
  generalize sumZ k (fun j => L i j * L k j) = s at *
  rw [newF_whole (n := s + L i k * L k k) (by unfold few; omega), newF_whole (n := s) (by unfold few; omega), subF_whole (by unfold few; omega) (by unfold few; omega) (by unfold few; omega), newF_whole (by unfold few; omega)]
  congr 1
  omega
theorem LowTri.root (hn : 1 ≤ n ∧ n ≤ 16) (h : LowTri n L) {p : List Fr} (hp : ∀ i k, i < n → k < n → atF n n p i k = newF (sumZ n fun j => L i j * L k j) 1) : ∀ k i, k < n → i < n → rootS n p n i k = newF (L i k) 1 := by
  intro k
  induction k using Nat.strongRecOn with
  | ind k ih =>
    intro i hk hi
    have hdiag : rootS n p n k k = newF (L k k) 1 := by
      rw [root_diag hk, LowTri.left hn h hp hk (Nat.le_refl _) hk (fun j hj => ⟨ih j hj k (by omega) hk, ih j hj k (by omega) hk⟩)]
      exact root_whole ⟨by have := h.diag k hk; omega, (h.small k k).2⟩
    rcases Nat.lt_trichotomy i k with h1 | h1 | h1
    · rw [root_up h1 hk, h.zero i k h1 hk]
    · rw [h1]; exact hdiag
    · rw [root_low h1 hi, hdiag, LowTri.left hn h hp hk (by omega) hi (fun j hj => ⟨ih j hj i (by omega) hi, ih j hj k (by omega) hk⟩)]
      exact div_whole (h.small i k) ⟨h.diag k hk, (h.small k k).2⟩
end
end Go.Proofs.YtbflmeomkfjikaaGreat.A


set_option linter.unusedVariables false
set_option linter.unusedSimpArgs false
set_option maxRecDepth 100000
namespace Go.Proofs.YtbflmeomkfjikaaGreat.A.E
open Go Go.RowKit Go.Shelf

/-! ### Roots of squares of whole triangles, enclosed -/
section
variable {n : Nat} {L : Nat → Nat → Int}
end
end Go.Proofs.YtbflmeomkfjikaaGreat.A.E


set_option linter.unusedVariables false
set_option linter.unusedSimpArgs false
set_option maxRecDepth 100000
namespace Go.Proofs.YtbflmeomkfjikaaGreat.A.E
open Go Go.RowKit Go.Shelf

/-! ### Folding enclosed numbers, beside numbers -/
section
variable {n w k : Nat} {M : Nat → Nat → Fr} {A : Nat → Nat → Rat} {p : Rat}
end
end Go.Proofs.YtbflmeomkfjikaaGreat.A.E


set_option linter.unusedVariables false
set_option linter.unusedSimpArgs false
set_option maxRecDepth 100000
namespace Go.Proofs.YtbflmeomkfjikaaGreat.A
open Go Go.RowKit Go.Shelf

/-! ### What a triangle times it is a row -/
end Go.Proofs.YtbflmeomkfjikaaGreat.A


set_option linter.unusedVariables false
set_option linter.unusedSimpArgs false
set_option maxRecDepth 100000
namespace Go.Proofs.YtbflmeomkfjikaaGreat.A
open Go Go.RowKit Go.Shelf

/-! ### What is solved, times the cleared triangle, is what was asked -/
end Go.Proofs.YtbflmeomkfjikaaGreat.A


set_option linter.unusedVariables false
set_option linter.unusedSimpArgs false
set_option maxRecDepth 100000
namespace Go.Proofs.YtbflmeomkfjikaaGreat.A.E
open Go Go.RowKit Go.Shelf

/-! ### The triangle's square encloses the square of what was folded -/
theorem Enc.near {x : Fr} {v : Rat} (h : ∀ e : Rat, 0 < e → ∃ g, Enc x g ∧ -e ≤ g - v ∧ g - v ≤ e) : Enc x v := by
  have hf : x.fine = true := by
    obtain ⟨g, hg, _⟩ := h 1 (by decide)
    exact hg.1
  refine ⟨hf, ?_, ?_⟩
  · by_cases hc : (x.lo : Rat) ≤ v * 16777216
    · exact hc
    · obtain ⟨g, ⟨_, g1, _⟩, g3, g4⟩ := h (((x.lo : Rat) - v * 16777216) / 33554432) (by grind)
      grind
  · by_cases hc : v * 16777216 ≤ (x.hi : Rat)
    · exact hc
    · obtain ⟨g, ⟨_, _, g2⟩, g3, g4⟩ := h ((v * 16777216 - (x.hi : Rat)) / 33554432) (by grind)
      grind
section
variable {n w : Nat} {l : List Fr}
end
end Go.Proofs.YtbflmeomkfjikaaGreat.A.E


set_option linter.unusedVariables false
set_option linter.unusedSimpArgs false
set_option maxRecDepth 100000
namespace Go.Proofs.YtbflmeomkfjikaaGreat.A
open Go Go.RowKit Go.Shelf

/-! ### What the document fixes of one row -/
end Go.Proofs.YtbflmeomkfjikaaGreat.A


set_option linter.unusedVariables false
set_option linter.unusedSimpArgs false
set_option maxRecDepth 100000
namespace Go.Proofs.YtbflmeomkfjikaaGreat.A.E
open Go Go.RowKit Go.Shelf

end Go.Proofs.YtbflmeomkfjikaaGreat.A.E


set_option linter.unusedVariables false
set_option linter.unusedSimpArgs false
set_option maxRecDepth 100000
namespace Go.Proofs.YtbflmeomkfjikaaGreat.A.E
open Go Go.RowKit Go.Shelf

/-! ### What is solved: enclosed beside fractions -/
end Go.Proofs.YtbflmeomkfjikaaGreat.A.E


/- A slice that comes in, and how long it may be. -/
set_option linter.unusedVariables false
namespace Go.Proofs.YtbflmeomkfjikaaGreat.A
open Go Go.RowKit Go.Shelf Go.ChangeShapes Go.WideShapes Go.ChangeAt

theorem C.len {I : Imm} {ex : Bool} {els : List PV} {a : Option Addr} {len cap : Nat} (h : C I (.sl ex els) (.slice a len cap)) : els.length = len := by
  cases h <;> simp_all
section
variable {H : Type} {enc : TypeId × Value → H} {P : Program} {W : World} {base : Nat} {held : Bool}
end
end Go.Proofs.YtbflmeomkfjikaaGreat.A



set_option linter.unusedVariables false
set_option linter.unusedSimpArgs false
set_option maxRecDepth 100000
namespace Go.Proofs.YtbflmeomkfjikaaGreat.A.E
open Go Go.RowKit Go.Shelf

/-! ### The function HouseSigns -/
end Go.Proofs.YtbflmeomkfjikaaGreat.A.E


set_option linter.unusedVariables false
set_option linter.unusedSimpArgs false
set_option maxRecDepth 100000
namespace Go.Proofs.YtbflmeomkfjikaaGreat.A.E
open Go Go.RowKit Go.Shelf

/-! ### What is small is fine -/
def Sm (B : Int) (x : Fr) : Prop := x.fine = true ∧ -B ≤ x.lo ∧ x.hi ≤ B
theorem Sm.vb {B : Int} {x : Fr} (h : Sm B x) : -B ≤ x.v ∧ x.v ≤ B ∧ -B ≤ x.lo ∧ x.lo ≤ B ∧ -B ≤ x.hi ∧ x.hi ≤ B := by
  obtain ⟨hf, h1, h2⟩ := h
  obtain ⟨_, _, _, h3, h4⟩ := fine_is.1 hf
  omega
end Go.Proofs.YtbflmeomkfjikaaGreat.A.E



set_option linter.unusedVariables false
set_option linter.unusedSimpArgs false
set_option maxRecDepth 100000
namespace Go.Proofs.YtbflmeomkfjikaaGreat.A.E
open Go Go.RowKit Go.Shelf

/-! ### The function HouseSquares -/
end Go.Proofs.YtbflmeomkfjikaaGreat.A.E



set_option linter.unusedVariables false
set_option linter.unusedSimpArgs false
set_option maxRecDepth 100000
namespace Go.Proofs.YtbflmeomkfjikaaGreat.A.E
open Go Go.RowKit Go.Shelf

/-! ### One row's length -/
theorem dot_wholeE {f g : Nat → Int} (hf : ∀ j, -100 ≤ f j ∧ f j ≤ 100) (hg : ∀ j, -100 ≤ g j ∧ g j ≤ 100) {n : Nat} (hn : n ≤ 16) :
    dotF ((List.range n).map fun j => newF (f j) 1) ((List.range n).map fun j => newF (g j) 1) = whole (sumZ n fun j => f j * g j) := by
  have hb : ∀ j, -10000 ≤ f j * g j ∧ f j * g j ≤ 10000 := fun j => prod_small (hf j) (hg j)
  have hs : ∀ j, j ≤ 16 → few (sumZ j fun j => f j * g j) := fun j hj => by
    have := sumZ_bnd (B := 10000) (by omega) hb j
    unfold few
    omega
  unfold dotF
  rw [List.zipWith_map, List.zipWith_self]
  have e : ∀ j, mulF (newF (f j) 1) (newF (g j) 1) = whole (f j * g j) := fun j => by
    have h3 := hb j
    rw [newF_whole (few_small (hf j)), newF_whole (few_small (hg j)), mulF_whole (few_small (hf j)) (few_small (hg j)) (by unfold few; omega)]
  simp only [e]
  exact sumF_whole (fun j => f j * g j) (fun j => sumZ j fun j => f j * g j) rfl (fun j => rfl) n (fun j _ => by have := hb j; unfold few; omega) (fun j hj => hs j (by omega)) n (Nat.le_refl _)
section
variable {l : List Int} {w : Nat}
end
/-! ### The function HouseRow -/
end Go.Proofs.YtbflmeomkfjikaaGreat.A.E


set_option linter.unusedVariables false
set_option linter.unusedSimpArgs false
set_option maxRecDepth 100000
namespace Go.Proofs.YtbflmeomkfjikaaGreat.A.E
open Go Go.RowKit Go.Shelf

/-! ### A whole triangle, folded, is enclosed -/
/-- This whole number, if fine. -/
def Ex (x : Fr) (z : Int) : Prop := x.fine = true → x = whole z
theorem Ex.whole (z : Int) : Ex (whole z) z := fun _ => rfl
theorem subF_whole {a b : Int} (ha : few a) (hb : few b) (hs : few (a - b)) : subF (whole a) (whole b) = whole (a - b) := by
  have e : subX (a * 16777216) (b * 16777216) = ((a - b) * 16777216, true) := by
    unfold subX toldF
    rw [← Int.sub_mul]
    simp [rightX_U ha, rightX_U hb, rightX_U hs]
  unfold subF madeE
  simp [okP, e, fine_whole ha, fine_whole hb, minL, maxL]
theorem few0 : few 0 := by unfold few; omega
theorem md_zero {y m : Int} (h : (mulX 0 y m).2 = true) : (mulX 0 y m).1 = 0 := by
  have hs := mul_spec h
  rw [Int.zero_mul] at hs
  obtain ⟨h1, h2, _⟩ := hs
  omega
theorem Ex.mul0 {a b : Fr} (ha : Ex a 0) : Ex (mulF a b) 0 := fun h => by
  have e := ha (made_fine h).1
  subst e
  obtain ⟨_, _, hv, hp, _⟩ := made_is (fine_is.1 h).1
  have e0 : (0 : Int) * 16777216 = 0 := rfl
  simp only [allP, List.mem_cons, List.not_mem_nil, or_false, forall_eq_or_imp, forall_eq, e0] at hv hp
  obtain ⟨⟨a1, a2⟩, ⟨b1, b2⟩, _⟩ := hp
  unfold mulF madeE at h ⊢
  split at h
  · rename_i hc
    rw [if_pos hc]
    simp [allP, minL, maxL, md_zero hv, md_zero a1, md_zero a2, md_zero b1, md_zero b2]
  · cases h
theorem Ex.sq {a : Fr} {z : Int} (hz : few z) (hzz : few (z * z)) (h : Ex a z) : Ex (mulF a a) (z * z) := fun hf => by
  rw [h (made_fine hf).1, mulF_whole hz hz hzz]
theorem Ex.add {a b : Fr} {y z : Int} (hy : few y) (hz : few z) (hs : few (y + z)) (ha : Ex a y) (hb : Ex b z) : Ex (addF a b) (y + z) := fun h => by
  rw [ha (made_fine h).1, hb (made_fine h).2, addF_whole hy hz hs]
/-- A row of one number, and noughts behind it: its length, squared. -/
theorem Ex.dot {f : Nat → Fr} {z : Int} (hz : few z) (hzz : few (z * z)) (h0 : Ex (f 0) z) (hr : ∀ j, 0 < j → Ex (f j) 0) : ∀ {n : Nat}, 0 < n → Ex (dotF ((List.range n).map f) ((List.range n).map f)) (z * z)
  | n + 1, _ => by
    rw [dotF_range, sumF_succ]
    by_cases hn : n = 0
    · subst hn
      have e : sumF ((List.range 0).map fun j => mulF (f j) (f j)) = newF 0 1 := rfl
      rw [e, newF_whole few0]
      have := Ex.add few0 hzz (by rw [Int.zero_add]; exact hzz) (Ex.whole 0) (h0.sq hz hzz)
      rwa [Int.zero_add] at this
    · have ih := Ex.dot hz hzz h0 hr (show 0 < n by omega)
      rw [dotF_range] at ih
      have := Ex.add hzz few0 (by rw [Int.add_zero]; exact hzz) ih (Ex.mul0 (b := f n) (hr n (by omega)))
      rwa [Int.add_zero] at this

section
variable {n : Nat} {L : Nat → Nat → Int} {M : Nat → Nat → Fr}
end
end Go.Proofs.YtbflmeomkfjikaaGreat.A.E



set_option linter.unusedVariables false
set_option linter.unusedSimpArgs false
set_option maxRecDepth 100000
namespace Go.Proofs.YtbflmeomkfjikaaGreat.A.E
open Go Go.RowKit Go.Shelf

/-! ### A measurement of nothing -/
theorem rowF_turn {n : Nat} (hn : 1 ≤ n ∧ n ≤ 16) {l : List Fr} (hl : l.length = n * n) {j : Nat} (hj : j < n) : rowF n n (turnF n n l) j = (List.range n).map fun (i : Nat) => atF n n l i j := by
  have hr := right_sq hn hl
  have hrt := right_turn hr
  rw [rowF_eq dz hrt (i := j) (by simpa using hj), Int.toNat_natCast]
  refine List.map_congr_left fun i hi => ?_
  rw [turnF_eq hr, Int.toNat_natCast]
  exact grid_at (g := fun k i => atF n n l (i : Int) (k : Int)) hj (List.mem_range.1 hi)
theorem few5 {x : Int} (h : -5 ≤ x ∧ x ≤ 5) : few x := by unfold few; omega
theorem dots_zero {n : Nat} (hn : 1 ≤ n ∧ n ≤ 4) {l : List Fr} (hl : l.length = n * n) {L : Nat → Nat → Int} (hL : ∀ i k, -5 ≤ L i k ∧ L i k ≤ 5) (hM : ∀ i k : Nat, i < n → k < n → atF n n l i k = whole (L i k)) {j : Nat} (hj : j < n) :
    dotsR n l (List.replicate n (newF 0 1)) j = whole 0 := by
  have hrep : List.replicate n (newF 0 1) = (List.range n).map (fun _ => newF 0 1) := by
    apply List.ext_getElem?
    intro i
    by_cases hi : i < n
    · simp [hi]
    · rw [List.getElem?_eq_none (by simp; omega), List.getElem?_eq_none (by simp; omega)]
  rw [dotsR, rowF_turn (by omega) hl hj, hrep]
  have e : ((List.range n).map fun (i : Nat) => atF n n l i j) = (List.range n).map fun i => newF (L i j) 1 := List.map_congr_left fun i hi => by
    rw [hM i j (List.mem_range.1 hi) hj, newF_whole (few5 (hL i j))]
  rw [e, dot_wholeE (f := fun i => L i j) (g := fun _ => 0) (fun i => by have := hL i j; omega) (fun _ => by omega) (by omega)]
  have h0 : ∀ m, sumZ m (fun i => L i j * 0) = 0 := fun m => by
    induction m with
    | zero => rfl
    | succ m ih => show sumZ m _ + L m j * 0 = 0; rw [ih]; omega
  rw [h0]
theorem still_coeffs {r : Int} (hr : 1 ≤ r ∧ r ≤ 5) : rootD (whole r) (whole r) = whole 1 ∧ rootC (whole 0) (whole r) (whole r) = whole 0 ∧ addF (whole r) (mulF (whole 0) (whole 0)) = whole r ∧ divF (whole 0) (whole r) = whole 0 := by
  have : r = 1 ∨ r = 2 ∨ r = 3 ∨ r = 4 ∨ r = 5 := by omega
  rcases this with rfl | rfl | rfl | rfl | rfl <;> decide +kernel
theorem still_up {n : Nat} (hn : 1 ≤ n ∧ n ≤ 4) {M : Nat → Nat → Fr} {W : Nat → Fr} {L : Nat → Nat → Int} (hL : ∀ i k, -5 ≤ L i k ∧ L i k ≤ 5) (hM : ∀ i k : Nat, i < n → k < n → M i k = whole (L i k)) (hW : ∀ j, j < n → W j = whole 0) {r : Int} (hr : 1 ≤ r ∧ r ≤ 5) :
    ∀ t, t ≤ n → (∀ i k, i < n → k < n → (upK n M W (whole r) t).1 i k = whole (L i k)) ∧ (∀ i, i < n → (upK n M W (whole r) t).2.1 i = whole 0) ∧ (upK n M W (whole r) t).2.2 = whole r
  | 0, _ => ⟨hM, fun i _ => newF_whole few0, rfl⟩
  | t + 1, ht => by
    obtain ⟨h1, h2, h3⟩ := still_up hn hL hM hW hr t (by omega)
    obtain ⟨c1, c2, c3, _⟩ := still_coeffs hr
    have hj : n - 1 - t < n := by omega
    rw [upK_succ M W (whole r) (rfl : n - 1 - t = n - 1 - t), h3, hW _ hj, c3, c1, c2]
    refine ⟨fun i k hi hk => ?_, fun i hi => ?_, rfl⟩
    · show colM _ _ _ _ _ _ i k = _
      unfold colM
      split
      · rename_i hc
        have hli := hL i (n - 1 - t)
        rw [h1 i _ hi hj, h2 i hi, mulF_whole (few5 hli) (few5 (by omega)) (by rw [Int.mul_one]; exact few5 hli), mulF_whole few0 few0 few0, Int.mul_one, Int.zero_mul, subF_whole (few5 hli) few0 (by rw [Int.sub_zero]; exact few5 hli), Int.sub_zero, hc.1]
      · exact h1 i k hi hk
    · show colE _ _ _ _ _ i = _
      unfold colE
      split
      · have hli := hL i (n - 1 - t)
        rw [h1 i _ hi hj, h2 i hi, mulF_whole (few5 hli) few0 (by rw [Int.mul_zero]; exact few0), Int.mul_zero, addF_whole few0 few0 few0]
        rfl
      · exact h2 i hi
section
variable {n : Nat} {x root : List Int} {r z : Int}
theorem stillS (hn : 1 ≤ n ∧ n ≤ 4) (lr : root.length = n * n) (br : bnd 5 root) (hr : 1 ≤ r ∧ r ≤ 5) :
    upRS n (clearF n (root.map (newF · 1))) (List.replicate n (newF 0 1)) (newF r 1) = clearF n (root.map (newF · 1)) ∧
    (∀ i, i < n → (upR n (clearF n (root.map (newF · 1))) (List.replicate n (newF 0 1)) (newF r 1)).2.1 i = whole 0) ∧
    (upR n (clearF n (root.map (newF · 1))) (List.replicate n (newF 0 1)) (newF r 1)).2.2 = whole r := by
  have hn' : 1 ≤ n ∧ n ≤ 16 := by omega
  have lM : (root.map (newF · 1)).length = n * n := by rw [List.length_map, lr]
  have hL : ∀ i k : Nat, -5 ≤ (if i < k then 0 else root.getD (i * n + k) 0) ∧ (if i < k then 0 else root.getD (i * n + k) 0) ≤ 5 := fun i k => by
    split
    · omega
    · have : -5 ≤ root.getD (i * n + k) 0 ∧ root.getD (i * n + k) 0 ≤ 5 := by
        rw [List.getD_eq_getElem?_getD]
        cases h : root[i * n + k]? with
        | none => simp
        | some y =>
          have := br y (List.mem_of_getElem? h)
          simp only [Option.getD_some]
          omega
      exact this
  have hat : ∀ i k : Nat, i < n → k < n → clearG n (root.map (newF · 1)) i k = whole (if i < k then 0 else root.getD (i * n + k) 0) := fun i k hi hk => by
    unfold clearG
    split
    · exact newF_whole few0
    · rename_i hik
      have hh := hL i k
      rw [if_neg hik] at hh
      rw [atF_eq (right_sq hn' lM) (by simpa using hi) (by simpa using hk), Int.toNat_natCast, getD_newF (by
        rw [lr]
        exact (at_table (i := i) (j := k) (n := n) (m := n) hi hk).1), newF_whole (few5 hh)]
  have hcl : ∀ i k : Nat, i < n → k < n → atF n n (clearF n (root.map (newF · 1))) i k = whole (if i < k then 0 else root.getD (i * n + k) 0) := fun i k hi hk => by
    rw [clearF, atF_gridE hn' hi hk, hat i k hi hk]
  have hW := fun j (hj : j < n) => dots_zero hn (clearF_len n (root.map (newF · 1))) hL hcl hj
  have key := still_up (M := startF n n (clearF n (root.map (newF · 1)))) hn hL (fun i k hi hk => hcl i k hi hk) hW hr n (Nat.le_refl _)
  rw [← newF_whole (few5 (by omega))] at key
  obtain ⟨k1, k2, k3⟩ := key
  refine ⟨?_, k2, k3.trans (newF_whole (few5 (by omega)))⟩
  rw [upRS_grid, clearF]
  refine gridP_congr fun i k hi hk => ?_
  rw [hat i k hi hk]
  exact k1 i k hi hk
theorem stillX (hn : 1 ≤ n ∧ n ≤ 4) (lr : root.length = n * n) (br : bnd 5 root) (hr : 1 ≤ r ∧ r ≤ 5) (lx : x.length = n) (bx : bnd 5 x) (hz : -5 ≤ z ∧ z ≤ 5) :
    subF (newF z 1) (dotF (List.replicate n (newF 0 1)) (x.map (newF · 1))) = newF z 1 ∧
    upRX n (x.map (newF · 1)) (clearF n (root.map (newF · 1))) (List.replicate n (newF 0 1)) (newF r 1) (newF z 1) = x.map (newF · 1) := by
  obtain ⟨_, k2, k3⟩ := stillS (n := n) (root := root) (r := r) hn lr br hr
  have hx : ∀ i, -5 ≤ x.getD i 0 ∧ x.getD i 0 ≤ 5 := fun i => by
    rw [List.getD_eq_getElem?_getD]
    cases h : x[i]? with
    | none => simp
    | some y =>
      have := bx y (List.mem_of_getElem? h)
      simp only [Option.getD_some]
      omega
  have ex : x.map (newF · 1) = (List.range n).map fun i => newF (x.getD i 0) 1 := by
    apply List.ext_getElem?
    intro i
    by_cases hi : i < n
    · rw [List.getElem?_map, List.getElem?_map, List.getElem?_range hi, Option.map_some, List.getD_eq_getElem?_getD, List.getElem?_eq_getElem (by omega)]
      simp
    · rw [List.getElem?_eq_none (by simp; omega), List.getElem?_eq_none (by simp; omega)]
  have hrep : List.replicate n (newF 0 1) = (List.range n).map (fun _ => newF 0 1) := by
    apply List.ext_getElem?
    intro i
    by_cases hi : i < n
    · simp [hi]
    · rw [List.getElem?_eq_none (by simp; omega), List.getElem?_eq_none (by simp; omega)]
  have hd : dotF (List.replicate n (newF 0 1)) (x.map (newF · 1)) = whole 0 := by
    rw [hrep, ex, dot_wholeE (f := fun _ => 0) (g := fun i => x.getD i 0) (fun _ => by omega) (fun i => by have := hx i; omega) (by omega)]
    have h0 : ∀ m, sumZ m (fun i => 0 * x.getD i 0) = 0 := fun m => by
      induction m with
      | zero => rfl
      | succ m ih => show sumZ m _ + 0 * x.getD m 0 = 0; rw [ih]; omega
    rw [h0]
  have hz1 : subF (newF z 1) (dotF (List.replicate n (newF 0 1)) (x.map (newF · 1))) = newF z 1 := by
    rw [hd, newF_whole (few5 hz), subF_whole (few5 hz) few0 (by rw [Int.sub_zero]; exact few5 hz), Int.sub_zero]
  refine ⟨hz1, ?_⟩
  rw [upRX, hz1, upRK]
  have hk : ((List.range n).map fun i => divF ((upR n (clearF n (root.map (newF · 1))) (List.replicate n (newF 0 1)) (newF r 1)).2.1 i) (upR n (clearF n (root.map (newF · 1))) (List.replicate n (newF 0 1)) (newF r 1)).2.2) = (List.range n).map fun _ => whole 0 := List.map_congr_left fun i hi => by
    rw [k2 i (List.mem_range.1 hi), k3, (still_coeffs hr).2.2.2]
  rw [hk, ex, List.map_map, List.zipWith_map, List.zipWith_self]
  refine List.map_congr_left fun i _ => ?_
  have hxi := hx i
  show addF (newF (x.getD i 0) 1) (mulF (whole 0) (newF z 1)) = newF (x.getD i 0) 1
  rw [newF_whole (few5 hz), newF_whole (few5 hxi), mulF_whole few0 (few5 hz) (by rw [Int.zero_mul]; exact few0), Int.zero_mul, addF_whole (few5 hxi) few0 (by rw [Int.add_zero]; exact few5 hxi), Int.add_zero]
end
end Go.Proofs.YtbflmeomkfjikaaGreat.A.E


