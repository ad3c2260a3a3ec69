import Derived.Test.YtbflmeomkfjikaaGreatM4
import Derived.Shelf.Spec.SlicesGrow
import Derived.Lib.Mul64
import Derived.Test.YtbflmeomkfjikaaGreatM3
import Derived.Test.YtbflmeomkfjikaaGreatProg
import Derived.Shelf.Small.Bits
set_option linter.unusedVariables false
set_option linter.unusedSimpArgs false
set_option maxRecDepth 100000
namespace Go.Proofs.YtbflmeomkfjikaaGreat.A
open Go Go.RowKit Go.Shelf

/-! ### The unit -/
def unitP (n k : Nat) : List Int := gridP (fun i j => if i = j ∧ i < k then 1 else 0) n n 0
theorem unitP_length (n k : Nat) : (unitP n k).length = n * n := by rw [unitP, gridP_length, Nat.add_zero]
theorem unitP_zero (n : Nat) : unitP n 0 = List.replicate (n * n) 0 := by
  refine (grid_of (by simp) fun i k hi hk => ?_).symm
  have := at_table hi hk
  rw [List.getElem?_replicate, if_pos this.1]
  simp
theorem table_inj {n i j k : Nat} (hi : i < n) (hj : j < n) (h : i * n + j = k * n + k) (hk : k < n) : i = k ∧ j = k := by
  have h1 : (i * n + j) / n = i := by rw [Nat.mul_comm, Nat.mul_add_div (by omega), Nat.div_eq_of_lt hj, Nat.add_zero]
  have h2 : (k * n + k) / n = k := by rw [Nat.mul_comm, Nat.mul_add_div (by omega), Nat.div_eq_of_lt hk, Nat.add_zero]
  rw [h, h2] at h1
  subst h1
  exact ⟨rfl, by omega⟩
theorem unitP_succ {n k : Nat} (hk : k < n) : (unitP n k).set (k * n + k) 1 = unitP n (k + 1) := by
  refine grid_of (by rw [List.length_set, unitP_length]) fun i j hi hj => ?_
  have hg : (unitP n k)[i * n + j]? = some (if i = j ∧ i < k then 1 else 0) := gridP_get _ _ _ _ _ hi hj
  rw [List.getElem?_set]
  have ht := at_table hk hk
  by_cases h : k * n + k = i * n + j
  · obtain ⟨rfl, rfl⟩ := table_inj hi hj h.symm hk
    rw [if_pos rfl, if_pos (by rw [unitP_length]; exact ht.1)]
    simp
  · rw [if_neg h, hg]
    congr 1
    by_cases h2 : i = j
    · subst h2
      have : i ≠ k := fun e => h (by rw [e])
      by_cases h3 : i < k
      · simp [h3, show i < k + 1 by omega]
      · simp [h3, show ¬ i < k + 1 by omega]
    · simp [h2]
theorem tovs_nums : ∀ (l : List Int), tovs (l.map fun z => nt z) = some (l.map num)
  | [] => rfl
  | z :: l => by
    simp only [List.map_cons, tovs, tov, tovs_nums l]
theorem one_nums (l : List Int) : (l.map num).all PV.one = true := by
  simp [PV.one]
theorem set_nums {l : List Int} {i : Nat} (h : i < l.length) (x : Int) : (l.map fun z => nt z).take i ++ (nt x :: (l.map fun z => nt z).drop (i + 1)) = (l.set i x).map fun z => nt z := by
  rw [List.map_set, List.set_eq_take_append_cons_drop, if_pos (by simpa using h)]

theorem ok124 (n : Int) : Ok Tryz.prog 124 [num n] (if 1 ≤ n ∧ n ≤ 16 then .tup [matV false n n (frs ((unitP n.toNat n.toNat).map (newF · 1))), tru true] else .tup [matNil, tru false]) := by
  refine ok_fn mixed Tryz.func124 (code := ?_) (h := h124) ?_ k124 ?_
  rotate_left
  · exact rfl
  unfold h124 initS
  simp -implicitDefEqProofs only [rkA, rkB, stepA, valA, simprocAttr, Tryz.ntmps124, Tryz.results124]
  by_cases hn : 1 ≤ n ∧ n ≤ 16
  · rw [if_pos hn]
    obtain ⟨n1, n2⟩ := hn
    obtain ⟨N, rfl⟩ := Int.eq_ofNat_of_zero_le (show 0 ≤ n by omega)
    rw [Int.toNat_natCast]
    repeat' (refine gB_dec ?_ ?_ <;> intro hc <;> first | (exfalso; omega) | simp -implicitDefEqProofs only [hc, rkA, rkB, stepA, valA, simprocAttr])
    have s := side16 (n := N) (m := N) (by omega) (by omega)
    have cN : (N : Int) * (N : Int) = ((N * N : Nat) : Int) := by simp
    have wN := wrapped (x := ((N * N : Nat) : Int)) (by omega) (by omega)
    have hc1 : (0 : Int) ≤ ((N * N : Nat) : Int) := by omega
    have hc2 : ((N * N : Nat) : Int) * (8 : Int) ≤ 140737488355328 := by omega
    have hc3 : ((N * N : Nat) : Int) ≤ 16777216 := by omega
    have hk : (List.replicate (N * N) (nt 0)).map (TV.killPtr 16) = (unitP N 0).map fun z => nt z := by
      rw [List.map_replicate, unitP_zero, List.map_replicate]
      rfl
    simp -implicitDefEqProofs only [cN, wN, hc1, hc2, hc3, Int.toNat_natCast, hk, rkA, rkB, stepA, valA, simprocAttr]
    refine wp_loop (fun m s => ∃ k : Nat, k + m = N ∧ s = ⟨[nt N, jk, .ptr 2 0, jk, .own 16 (N * N), jk, jk, jk, jk, jk, jk, jk, jk, jk, jk, jk, jk, nt N, nt k, jk, jk, jk, jk, jk, jk, jk, jk, jk, jk, jk, jk, jk, jk, jk, jk], [(2, [nt 0, nt 0, .acc 3002 []]), (16, (unitP N k).map fun z => nt z)], [], [(3002, 0)], [], 0, nomem⟩) N ?_ ?_
    · simp -implicitDefEqProofs only [rkA, rkB, stepA, valA, simprocAttr]
      exact ⟨0, by simp, rfl⟩
    rintro m s' ⟨k, hkm, rfl⟩
    simp -implicitDefEqProofs only [rkA, rkB, stepA, valA, simprocAttr]
    refine gB_dec ?_ ?_ <;> intro hc <;> simp -implicitDefEqProofs only [hc, rkA, rkB, stepA, valA, simprocAttr]
    · have tt := at_table (i := k) (j := k) (n := N) (m := N) (by omega) (by omega)
      have c2 : (k : Int) * (N : Int) = ((k * N : Nat) : Int) := by simp
      have c3 : ((k * N : Nat) : Int) + (k : Int) = ((k * N + k : Nat) : Int) := by simp
      have w2 := wrapped (x := ((k * N : Nat) : Int)) (by omega) (by omega)
      have w3 := wrapped (x := ((k * N + k : Nat) : Int)) (by omega) (by omega)
      have w4 := wrapped (x := (k : Int) + 1) (by omega) (by omega)
      have n1 : (0 : Int) ≤ ((k * N + k : Nat) : Int) := by omega
      have n2 : ((k * N + k : Nat) : Int) < ((N * N : Nat) : Int) := by omega
      have hlen : k * N + k + 1 ≤ ((unitP N k).map fun z => nt z).length := by
        rw [List.length_map, unitP_length]
        omega
      have hset := set_nums (l := unitP N k) (i := k * N + k) (by rw [unitP_length]; exact tt.1) 1
      rw [unitP_succ (by omega)] at hset
      simp -implicitDefEqProofs only [c2, w2, c3, w3, n1, n2, Int.toNat_natCast, hlen, w4, hset, rkA, rkB, stepA, valA, simprocAttr]
      refine loopK_of (m' := m - 1) (by omega) ?_
      simp -implicitDefEqProofs only [rkA, rkB, stepA, valA, simprocAttr]
      exact ⟨k + 1, by omega, by simp only [Int.natCast_add, Int.natCast_one]⟩
    · have hkN : k = N := by omega
      subst hkN
      have hl : ((unitP k k).map num).length = k * k := by rw [List.length_map, unitP_length]
      simp -implicitDefEqProofs only [tovs_nums, one_nums, hl, rkA, rkB, stepA, valA, simprocAttr]
      have h12 := ok19 (k : Int) (k : Int) true (unitP k k) (by rw [unitP_length]; omega)
      rw [if_pos (right_nat (by omega) (by omega) (unitP_length k k))] at h12
      refine call_fn rfl rfl rfl (h12) ?_
      simp -implicitDefEqProofs only [rkA, rkB, stepA, valA, simprocAttr]
  · rw [if_neg hn]
    repeat' (refine gB_dec ?_ ?_ <;> intro hc <;> first | (exfalso; omega) | simp -implicitDefEqProofs only [hc, rkA, rkB, stepA, valA, simprocAttr])
end Go.Proofs.YtbflmeomkfjikaaGreat.A



set_option linter.unusedVariables false
set_option linter.unusedSimpArgs false
set_option maxRecDepth 100000
namespace Go.Proofs.YtbflmeomkfjikaaGreat.A
open Go Go.RowKit Go.Shelf

/-! ### Plain laws of products -/
theorem dotI_sum (a b : List Int) (many cols i k : Nat) : ∀ j, dotI a b many cols i k j = ((List.range j).map fun j => a.getD (i * many + j) 0 * b.getD (j * cols + k) 0).sum
  | 0 => rfl
  | j + 1 => by
    simp only [dotI, List.range_succ, List.map_append, List.sum_append, List.map_cons, List.map_nil, List.sum_cons, List.sum_nil]
    rw [dotI_sum a b many cols i k j]
    omega

theorem sum_congr {f g : Nat → Int} {n : Nat} (h : ∀ j, j < n → f j = g j) : ((List.range n).map f).sum = ((List.range n).map g).sum := by
  congr 1
  apply List.map_congr_left
  intro j hj
  exact h j (List.mem_range.1 hj)
theorem sum_mul (f : Nat → Int) (c : Int) : ∀ n, ((List.range n).map f).sum * c = ((List.range n).map fun j => f j * c).sum
  | 0 => by simp
  | n + 1 => by
    simp only [List.range_succ, List.map_append, List.sum_append, List.map_cons, List.map_nil, List.sum_cons, List.sum_nil, Int.add_mul]
    rw [sum_mul f c n]
    omega
theorem mul_sum' (f : Nat → Int) (c : Int) (n : Nat) : c * ((List.range n).map f).sum = ((List.range n).map fun j => c * f j).sum := by
  rw [Int.mul_comm, sum_mul]
  exact sum_congr fun j _ => Int.mul_comm _ _
theorem sum_add (f g : Nat → Int) : ∀ n, ((List.range n).map fun j => f j + g j).sum = ((List.range n).map f).sum + ((List.range n).map g).sum
  | 0 => rfl
  | n + 1 => by
    simp only [List.range_succ, List.map_append, List.sum_append, List.map_cons, List.map_nil, List.sum_cons, List.sum_nil]
    rw [sum_add f g n]
    omega
theorem sum_swap (f : Nat → Nat → Int) : ∀ n m, ((List.range n).map fun i => ((List.range m).map fun j => f i j).sum).sum = ((List.range m).map fun j => ((List.range n).map fun i => f i j).sum).sum
  | 0, m => by
    have : ∀ m : Nat, ((List.range m).map fun _ => (0 : Int)).sum = 0 := fun m => by
      induction m with
      | zero => rfl
      | succ m ih => simp [List.range_succ, ih]
    simp [this]
  | n + 1, m => by
    simp only [List.range_succ, List.map_append, List.sum_append, List.map_cons, List.map_nil, List.sum_cons, List.sum_nil, Int.add_zero]
    rw [sum_swap f n m, sum_add]

/-- Brackets do not matter. -/
theorem mul_assoc {a b c : List Int} {N : Nat} : mulI (mulI a b N N N) c N N N = mulI a (mulI b c N N N) N N N := by
  have hg : ∀ {x y : List Int} {i k : Nat}, i < N → k < N → (mulI x y N N N).getD (i * N + k) 0 = dotI x y N N i k N := fun hi hk => grid_getD hi hk
  show gridP _ N N 0 = gridP _ N N 0
  refine gridP_congr fun i k hi hk => ?_
  rw [dotI_sum, dotI_sum]
  have e1 : ((List.range N).map fun j => (mulI a b N N N).getD (i * N + j) 0 * c.getD (j * N + k) 0).sum = ((List.range N).map fun j => ((List.range N).map fun l => a.getD (i * N + l) 0 * b.getD (l * N + j) 0 * c.getD (j * N + k) 0).sum).sum :=
    sum_congr fun j hj => by rw [hg hi hj, dotI_sum, sum_mul]
  have e2 : ((List.range N).map fun l => a.getD (i * N + l) 0 * (mulI b c N N N).getD (l * N + k) 0).sum = ((List.range N).map fun l => ((List.range N).map fun j => a.getD (i * N + l) 0 * b.getD (l * N + j) 0 * c.getD (j * N + k) 0).sum).sum :=
    sum_congr fun l hl => by
      rw [hg hl hk, dotI_sum, mul_sum']
      exact sum_congr fun j _ => by rw [Int.mul_assoc]
  rw [e1, e2, sum_swap]

end Go.Proofs.YtbflmeomkfjikaaGreat.A


set_option linter.unusedVariables false
set_option linter.unusedSimpArgs false
set_option maxRecDepth 100000
namespace Go.Proofs.YtbflmeomkfjikaaGreat.A
open Go Go.RowKit Go.Shelf

/-! ### Division -/
theorem methDiv : Meth Tryz.prog 32 "Div" 211 := by
  intro v xs w
  rfl

def divF (a b : Fr) : Fr := if a.fine = false ∨ b.fine = false then .wrong else newF (a.n * b.d) (a.d * b.n)
theorem ok220 (a b : Fr) (ha : a.fine = true) (hb : b.fine = true) : Ok Tryz.prog 220 [.vp [num a.n, num a.d, tru a.bad], .vp [num b.n, num b.d, tru b.bad]] (.tup [num (a.n * b.d), num (a.d * b.n)]) := by
  obtain ⟨a1, a2, a3, a4, a5⟩ := Fr.fine_spec ha
  obtain ⟨b1, b2, b3, b4, b5⟩ := Fr.fine_spec hb
  have p1 := prod_le (x := a.n) (y := b.d) ⟨a5, a4⟩ (by omega)
  have p3 := prod_le (x := a.d) (y := b.n) (by omega) ⟨b5, b4⟩
  have w1 := wrapped (x := a.n * b.d) (by omega) (by omega)
  have w3 := wrapped (x := a.d * b.n) (by omega) (by omega)
  refine ok_fn mixed Tryz.func220 (code := ?_) (h := h220) ?_ k220 ?_
  rotate_left
  · exact rfl
  unfold h220 initS
  simp -implicitDefEqProofs only [rkA, rkB, stepA, valA, simprocAttr, Tryz.ntmps220, Tryz.results220]
  simp -implicitDefEqProofs only [w1, w3, rkA, rkB, stepA, valA, simprocAttr]
theorem ok211 (a b : Fr) : Ok Tryz.prog 211 [frV a, frV b] (frV (divF a b)) := by
  refine ok_fn mixed Tryz.func211 (code := ?_) (h := h211) ?_ k211 ?_
  rotate_left
  · exact rfl
  unfold h211 initS
  simp -implicitDefEqProofs only [rkA, rkB, stepA, valA, simprocAttr, Tryz.ntmps211, Tryz.results211]
  refine call_fn rfl rfl rfl (ok219 a b 220 _ _ _ (fun ha hb => ok220 a b ha hb)) ?_
  simp -implicitDefEqProofs only [rkA, rkB, stepA, valA, simprocAttr]
  simp [divF]

/-! ### A row, scaled -/
theorem ok123 (ex : Bool) (l : List Fr) (y : Fr) (h : l.length ≤ 5864062014805) : Ok Tryz.prog 123 [.sl ex (frs l), frV y] (.sl false (frs (l.map (mulF · y)))) := by
  refine ok_fn mixed Tryz.func123 (code := ?_) (h := h123) ?_ k123 ?_
  rotate_left
  · exact rfl
  unfold h123 initS
  simp -implicitDefEqProofs only [rkA, rkB, stepA, valA, simprocAttr, Tryz.ntmps123, Tryz.results123]
  refine wp_loop (fun m s => ∃ i : Nat, i + m = l.length ∧ s = ⟨[jk, jk, jk, .ptr 3 0, jk, .acc 5 (frs ((l.take i).map (mulF · y))), jk, jk, .v (.sl ex (frs l)), nt (frs l).length, nt i, jk, jk, jk, jk, jk, jk, jk, jk, jk, jk, jk, jk], [(3, [nt y.n, nt y.d, .v (tru y.bad)])], [], [(4, 0), (5, i)], [], 0, nomem⟩) l.length ?_ ?_
  · simp -implicitDefEqProofs only [rkA, rkB, stepA, valA, simprocAttr]
    exact ⟨0, by simp, rfl⟩
  rintro m s ⟨i, hi, rfl⟩
  simp -implicitDefEqProofs only [rkA, rkB, stepA, valA, simprocAttr]
  refine gB_dec ?_ ?_ <;> intro hc <;> simp -implicitDefEqProofs only [hc, rkA, rkB, stepA, valA, simprocAttr]
  · have hlt : i < l.length := by simpa using hc
    have h0 : (0 : Int) ≤ (i : Int) := by omega
    have hg : (frs l)[i]? = some (frV l[i]) := by simp [hlt]
    simp -implicitDefEqProofs only [h0, Int.toNat_natCast, hg, rkA, rkB, stepA, valA, simprocAttr]
    refine call_meth rfl rfl methMul (ok213 l[i] y) ?_
    have hfit : fits 3 24 (frs ((l.take i).map (mulF · y))) [frV (mulF l[i] y)] = true := fits_frs (l := [mulF l[i] y]) (by simp; omega)
    have hw := wrapped (x := (i : Int) + 1) (by omega) (by omega)
    have hl : (frs ((l.take i).map (mulF · y))).length = i := by simp; omega
    simp -implicitDefEqProofs only [hfit, hl, hw, rkA, rkB, stepA, valA, simprocAttr]
    refine loopK_of (m' := m - 1) (by omega) ?_
    simp -implicitDefEqProofs only [rkA, rkB, stepA, valA, simprocAttr]
    refine ⟨i + 1, by omega, ?_⟩
    rw [List.take_succ_eq_append_getElem hlt]
    simp only [frs, List.map_append, List.map_cons, List.map_nil, Int.natCast_add, Int.natCast_one]
  · have : l.length ≤ i := by simp only [List.length_map] at hc; omega
    rw [List.take_of_length_le this]

/-! ### Squares -/
theorem ok73 (ex : Bool) (r c : Int) (l : List Fr) : Ok Tryz.prog 73 [matV ex r c (frs l)] (tru (right r c l.length && (r == c))) := by
  refine ok_fn mixed Tryz.func73 (code := ?_) (h := h73) ?_ k73 ?_
  rotate_left
  · exact rfl
  unfold h73 initS
  simp -implicitDefEqProofs only [rkA, rkB, stepA, valA, simprocAttr, Tryz.ntmps73, Tryz.results73]
  refine call_fn rfl rfl rfl (ok100 ex r c (frs l)) ?_
  have e : (frs l).length = l.length := by simp
  rw [e]
  cases hr : right r c l.length with
  | false => simp -implicitDefEqProofs only [rkA, rkB, stepA, valA, simprocAttr]
  | true => simp -implicitDefEqProofs only [rkA, rkB, stepA, valA, simprocAttr]

/-- A square. -/
def sqF (r : Int) (l : List Fr) : List Fr := mirF r (prodF r r r l (turnF r r l))
theorem prodF_len {r m c : Int} {a b : List Fr} : (prodF r m c a b).length = r.toNat * c.toNat := by
  unfold prodF
  simp only [List.length_flatMap, List.length_map, allF, List.length_range, List.map_map]
  have e : ∀ l : List Nat, (l.map ((fun _ => c.toNat) ∘ fun (i : Nat) => rowF r m a (i : Int))).sum = l.length * c.toNat := fun l => by
    induction l with
    | nil => simp
    | cons x l ih => rw [List.map_cons, List.sum_cons, ih, List.length_cons, Nat.add_mul, Nat.one_mul, Nat.add_comm]; rfl
  rw [e, List.length_range]
theorem right_sq {n : Nat} (hn : 1 ≤ n ∧ n ≤ 16) {l : List Fr} (h : l.length = n * n) : right (n : Int) (n : Int) l.length = true := right_nat hn hn h
theorem ok110 (n : Nat) (hn : 1 ≤ n ∧ n ≤ 16) (ex : Bool) (l : List Fr) (h : l.length = n * n) : Ok Tryz.prog 110 [matV ex n n (frs l)] (.tup [matV false n n (frs (sqF n l)), tru true]) := by
  have hr := right_sq hn h
  refine ok_fn mixed Tryz.func110 (code := ?_) (h := h110) ?_ k110 ?_
  rotate_left
  · exact rfl
  unfold h110 initS
  simp -implicitDefEqProofs only [rkA, rkB, stepA, valA, simprocAttr, Tryz.ntmps110, Tryz.results110]
  refine call_fn rfl rfl rfl (ok73 ex n n l) ?_
  simp -implicitDefEqProofs only [hr, beq_self_eq_true, rkA, rkB, stepA, valA, simprocAttr]
  have h25 := ok119 ex n n l
  rw [if_pos hr] at h25
  refine call_fn rfl rfl rfl (h25) ?_
  simp -implicitDefEqProofs only [rkA, rkB, stepA, valA, simprocAttr]
  have hrt := right_turn hr
  have h13 := ok125 ex false n n n n l (turnF n n l)
  rw [if_pos ⟨hr, hrt, rfl⟩] at h13
  refine call_fn rfl rfl rfl (h13) ?_
  simp -implicitDefEqProofs only [rkA, rkB, stepA, valA, simprocAttr]
  have h33 := ok157 false n n (prodF n n n l (turnF n n l))
  have hp : right (n : Int) (n : Int) (prodF n n n l (turnF n n l)).length = true := right_sq hn (by rw [prodF_len]; simp)
  rw [if_pos ⟨hp, rfl⟩] at h33
  refine call_fn rfl rfl rfl (h33) ?_
  simp -implicitDefEqProofs only [rkA, rkB, stepA, valA, simprocAttr, sqF]
end Go.Proofs.YtbflmeomkfjikaaGreat.A


set_option linter.unusedVariables false
set_option linter.unusedSimpArgs false
set_option maxRecDepth 100000
namespace Go.Proofs.YtbflmeomkfjikaaGreat.A
open Go Go.RowKit Go.Shelf

/-! ### Squares in memory, row by row -/
def rowM (n : Nat) (M : Nat → Nat → Fr) (i : Nat) : List Fr := (List.range n).map (M i)
def setM (M : Nat → Nat → Fr) (i k : Nat) (x : Fr) : Nat → Nat → Fr := fun a b => if a = i ∧ b = k then x else M a b
theorem rowM_length (n : Nat) (M : Nat → Nat → Fr) (i : Nat) : (rowM n M i).length = n := by simp [rowM]
theorem rowM_get {n : Nat} {M : Nat → Nat → Fr} {i k : Nat} (h : k < n) : (rowM n M i)[k]? = some (M i k) := by simp [rowM, h]
theorem rowM_set {n : Nat} {M : Nat → Nat → Fr} {i k : Nat} {x : Fr} (h : k < n) : (rowM n M i).set k x = rowM n (setM M i k x) i := by
  apply List.ext_getElem?
  intro j
  rw [List.getElem?_set]
  by_cases hj : j < n
  · by_cases e : k = j
    · subst e
      rw [if_pos rfl, if_pos (by rw [rowM_length]; exact h), rowM_get h]
      simp [setM]
    · rw [if_neg e, rowM_get hj, rowM_get hj]
      have : ¬ (j = k) := fun h => e h.symm
      simp [setM, this]
  · rw [if_neg (by omega), List.getElem?_eq_none (by rw [rowM_length]; omega), List.getElem?_eq_none (by rw [rowM_length]; omega)]
theorem rowM_other {n : Nat} {M : Nat → Nat → Fr} {i j k : Nat} {x : Fr} (h : j ≠ i) : rowM n (setM M i k x) j = rowM n M j := by
  simp [rowM, setM, h]

abbrev rawRow (c n : Nat) : PV := .s (.slice (some ⟨c, 0, none⟩) n n)
abbrev nilRow : PV := .s (.slice none 0 0)
/-- The rows' row: b of n are there. -/
def headR (n b : Nat) (c : Nat → Nat) : List PV := (List.range n).map fun j => if j < b then rawRow (c j) n else nilRow
theorem headR_length (n b : Nat) (c : Nat → Nat) : (headR n b c).length = n := by simp [headR]
structure RowsIn (m : Mem) (R : Nat) (c : Nat → Nat) (n b : Nat) (M : Nat → Nat → Fr) : Prop where
  head : m R = some (headR n b c)
  row : ∀ i, i < b → m (c i) = some (flat (frs (rowM n M i)))
  ne : ∀ i, i < b → c i ≠ R
  inj : ∀ i j, i < b → j < b → c i = c j → i = j

theorem ldM_fr {l : List Fr} {k : Nat} {x : Fr} (h : l[k]? = some x) : ldM true 3 (k * 3) (flat (frs l)) = some (.v (frV x)) := by
  have := ldM_elem (els := frs l) (sz := 3) (k := k) (e := frV x) (frs_cells l) (by simp [h]) []
  rwa [List.append_nil] at this
theorem RowsIn.store {m : Mem} {R : Nat} {c : Nat → Nat} {n b : Nat} {M : Nat → Nat → Fr} (h : RowsIn m R c n b M) {i k : Nat} (hi : i < b) (hk : k < n) (x : Fr) :
    RowsIn (m.put (c i) (flat (frs ((rowM n M i).set k x)))) R c n b (setM M i k x) where
  head := by rw [Mem.put_other _ _ (fun e => h.ne i hi e.symm)]; exact h.head
  row := fun j hj => by
    by_cases e : j = i
    · subst e
      rw [Mem.put_same, rowM_set hk]
    · rw [Mem.put_other _ _ (fun e' => e (h.inj j i hj hi e')), rowM_other e]
      exact h.row j hj
  ne := h.ne
  inj := h.inj

theorem tells_map {α : Type} {m : Mem} {f g : α → PV} : ∀ {l : List α}, (∀ x ∈ l, Tell m (f x) (g x)) → Tells m (l.map f) (l.map g)
  | [], _ => .nil
  | x :: l, h => .cons (h x (by simp)) (tells_map fun y hy => h y (by simp [hy]))

/-- The rows, as values. -/
abbrev rowsV (n : Nat) (M : Nat → Nat → Fr) : PV := .sl true ((List.range n).map fun i => .sl false (frs (rowM n M i)))
theorem flat_one {l : List PV} (h : ∀ x ∈ l, x.cells = [x]) : flat l = l := by
  induction l with
  | nil => rfl
  | cons x l ih =>
    have e1 := h x (by simp)
    have e2 := ih fun y hy => h y (by simp [hy])
    simp only [flat, List.flatMap_cons, e1] at e2 ⊢
    rw [e2]
    rfl
theorem RowsIn.tell {m : Mem} {R : Nat} {c : Nat → Nat} {n : Nat} {M : Nat → Nat → Fr} (h : RowsIn m R c n n M) : Tell m (rawRow R n) (rowsV n M) := by
  have hf : flat ((List.range n).map fun i => PV.sl false (frs (rowM n M i))) = (List.range n).map fun i => PV.sl false (frs (rowM n M i)) := flat_one fun x hx => by
    obtain ⟨i, _, rfl⟩ := List.mem_map.1 hx
    rfl
  refine .row (sz := 1) h.head (fun x hx => ?_) (by simp) (by rw [hf, headR_length]; simp) (Nat.le_refl _) (fun _ => rfl) ?_
  · obtain ⟨i, _, rfl⟩ := List.mem_map.1 hx
    rfl
  · rw [hf, List.drop_zero, List.take_of_length_le (by rw [headR_length]; simp)]
    refine tells_map fun i hi => ?_
    have hi' := List.mem_range.1 hi
    rw [if_pos hi']
    have e := h.row i hi'
    rw [← List.append_nil (flat _)] at e
    have := tell_row (m := m) (b := c i) (cap := n) (q := 0) (l := rowM n M i) e (by simp [rowM_length])
    simpa [rowM_length] using this

/-! ### The root of a square -/
def leftM (n : Nat) (p : List Fr) (M : Nat → Nat → Fr) (i k : Nat) : Fr := subF (atF n n p i k) (dotF ((rowM n M i).take k) ((rowM n M k).take k))

theorem methRoot : Meth Tryz.prog 32 "Root" 216 := by
  intro v xs w
  rfl

def stepD (n : Nat) (p : List Fr) (M : Nat → Nat → Fr) (k : Nat) : Nat → Nat → Fr := setM M k k (rootF (leftM n p M k k))
/-- One column: k + 1 rows below its diagonal are done for every one counted. -/
def colS (n : Nat) (p : List Fr) (k : Nat) (M : Nat → Nat → Fr) : Nat → Nat → Nat → Fr
  | 0 => stepD n p M k
  | j + 1 => setM (colS n p k M j) (k + 1 + j) k (divF (leftM n p (colS n p k M j) (k + 1 + j) k) (colS n p k M j k k))
def rootS (n : Nat) (p : List Fr) : Nat → Nat → Nat → Fr
  | 0 => fun _ _ => newF 0 1
  | k + 1 => colS n p k (rootS n p k) (n - (k + 1))
/-- While the rows are made: noughts so far, zero values behind. -/
def zeroM (i k : Nat) : Nat → Nat → Fr := fun a b => if a < i ∨ a = i ∧ b < k then newF 0 1 else ⟨0, 0, false⟩

theorem flat_zeros : ∀ (n : Nat), (List.replicate n [num 0, num 0, tru false]).flatten = flat (frs (List.replicate n (⟨0, 0, false⟩ : Fr)))
  | 0 => rfl
  | n + 1 => by
    rw [List.replicate_succ, List.flatten_cons, flat_zeros n]
    rfl
theorem zero_row (n i : Nat) : rowM n (zeroM i 0) i = List.replicate n ⟨0, 0, false⟩ := by
  apply List.ext_getElem?
  intro j
  by_cases h : j < n
  · rw [rowM_get h]; simp [zeroM, h]
  · rw [List.getElem?_eq_none (by rw [rowM_length]; omega), List.getElem?_eq_none (by simp; omega)]
theorem RowsIn.grow {m : Mem} {R : Nat} {c : Nat → Nat} {n i b : Nat} (h : RowsIn m R c n i (zeroM i 0)) (hi : i < n) (hb : m b = none) :
    RowsIn ((m.put b (flat (frs (List.replicate n (⟨0, 0, false⟩ : Fr))))).put R (headR n (i + 1) (fun j => if j = i then b else c j))) R (fun j => if j = i then b else c j) n (i + 1) (zeroM i 0) := by
  have hRb : R ≠ b := fun e => by have := h.head; rw [e, hb] at this; cases this
  have hcb : ∀ j, j < i → c j ≠ b := fun j hj e => by have := h.row j hj; rw [e, hb] at this; cases this
  refine ⟨Mem.put_same _ _ _, fun j hj => ?_, fun j hj => ?_, fun j k hj hk => ?_⟩
  · by_cases e : j = i
    · subst e
      rw [if_pos rfl, Mem.put_other _ _ (fun e => hRb e.symm), Mem.put_same, zero_row]
    · rw [if_neg e, Mem.put_other _ _ (h.ne j (by omega)), Mem.put_other _ _ (hcb j (by omega))]
      exact h.row j (by omega)
  · by_cases e : j = i
    · rw [if_pos e]; exact fun e => hRb e.symm
    · rw [if_neg e]; exact h.ne j (by omega)
  · by_cases e : j = i <;> by_cases e' : k = i
    · intro _; omega
    · rw [if_pos e, if_neg e']
      exact fun h1 => absurd h1.symm (hcb k (by omega))
    · rw [if_neg e, if_pos e']
      exact fun h1 => absurd h1 (hcb j (by omega))
    · rw [if_neg e, if_neg e']
      exact h.inj j k (by omega) (by omega)
theorem RowsIn.congr {m : Mem} {R : Nat} {c : Nat → Nat} {n b : Nat} {M N : Nat → Nat → Fr} (h : RowsIn m R c n b M) (hMN : ∀ i k, i < b → k < n → M i k = N i k) : RowsIn m R c n b N :=
  ⟨h.head, fun i hi => by
    have e : rowM n N i = rowM n M i := by
      unfold rowM
      exact List.map_congr_left fun k hk => (hMN i k hi (List.mem_range.1 hk)).symm
    rw [e]
    exact h.row i hi, h.ne, h.inj⟩

end Go.Proofs.YtbflmeomkfjikaaGreat.A


set_option linter.unusedVariables false
set_option linter.unusedSimpArgs false
set_option maxRecDepth 100000
namespace Go.Proofs.YtbflmeomkfjikaaGreat.A
open Go Go.RowKit Go.Shelf

theorem ok77 (n : Nat) (hn : 1 ≤ n ∧ n ≤ 16) (K : Nat) (caps : List PV) (g : Nat → Nat → Fr) (hg : ∀ i k : Nat, i < n → k < n → Ok Tryz.prog K (num i :: num k :: caps) (frV (g i k))) :
    Ok Tryz.prog 77 [num n, .fn (.func K) caps] (.tup [matV false n n (frs (gridP g n n 0)), tru true]) := by
  refine Ok.ofM (okm77 n hn K caps g hg) ?_
  rintro r m ⟨b, cap, q, h1, rfl, rfl⟩
  have hl : (frs (gridP g n n 0)).length = (gridP g n n 0).length := by simp
  exact .tup (.cons (.agg (.cons (.same _) (.cons (.same _) (.cons (tell_row (Mem.put_same _ _ _) h1) .nil)))) (.cons (.same _) .nil))

/-! ### Cleared -/
def clearG (n : Nat) (l : List Fr) (i k : Nat) : Fr := if i < k then newF 0 1 else atF n n l i k
def clearF (n : Nat) (l : List Fr) : List Fr := gridP (clearG n l) n n 0
theorem ok99 (e : Bool) (n : Nat) (l : List Fr) (i k : Nat) : Ok Tryz.prog 99 [num i, num k, .vp [num 0, num 0, tru false], .vp [num n, num n, .sl e (frs l)]] (frV (clearG n l i k)) := by
  refine ok_fn mixed Tryz.func99 (code := ?_) (h := h99) ?_ k99 ?_
  rotate_left
  · exact rfl
  unfold h99 initS
  simp -implicitDefEqProofs only [rkA, rkB, stepA, valA, simprocAttr, Tryz.ntmps99, Tryz.results99]
  unfold clearG
  refine gB_dec ?_ ?_ <;> intro hc <;> simp -implicitDefEqProofs only [hc, rkA, rkB, stepA, valA, simprocAttr]
  · have : i < k := by omega
    refine call_meth rfl rfl methOf (ok215 ⟨0, 0, false⟩ 0) ?_
    rw [if_pos this]
    simp -implicitDefEqProofs only [rkA, rkB, stepA, valA, simprocAttr]
  · have : ¬ i < k := by omega
    refine call_fn rfl rfl rfl (ok75 e n n i k l) ?_
    rw [if_neg this]
    simp -implicitDefEqProofs only [rkA, rkB, stepA, valA, simprocAttr]

theorem ok40 (n : Nat) (hn : 1 ≤ n ∧ n ≤ 16) (e : Bool) (l : List Fr) (h : l.length = n * n) : Ok Tryz.prog 40 [matV e n n (frs l)] (.tup [matV false n n (frs (clearF n l)), tru true]) := by
  have hr := right_sq hn h
  refine ok_fn mixed Tryz.func40 (code := ?_) (h := h40) ?_ k40 ?_
  rotate_left
  · exact rfl
  unfold h40 initS
  simp -implicitDefEqProofs only [rkA, rkB, stepA, valA, simprocAttr, Tryz.ntmps40, Tryz.results40]
  refine call_fn rfl rfl rfl (ok73 e n n l) ?_
  simp -implicitDefEqProofs only [hr, beq_self_eq_true, rkA, rkB, stepA, valA, simprocAttr]
  refine call_fn rfl rfl rfl (ok77 n hn _ _ (clearG n l) (fun i k _ _ => ok99 e n l i k)) ?_
  simp -implicitDefEqProofs only [rkA, rkB, stepA, valA, simprocAttr, clearF]

/-! ### The diagonal -/
/-! ### Is it a triangle? -/
end Go.Proofs.YtbflmeomkfjikaaGreat.A


set_option linter.unusedVariables false
set_option linter.unusedSimpArgs false
set_option maxRecDepth 100000
namespace Go.Proofs.YtbflmeomkfjikaaGreat.A
open Go Go.RowKit Go.Shelf

/-! ### Rows in memory of their own -/
theorem okn151 (ex : Bool) (r c : Int) (i : Nat) (l : List Fr) (hr : right r c l.length = true) (hi : i < r.toNat) : OkN Tryz.prog 151 [matV ex r c (frs l), num i] (frs (rowF r c l i)) := by
  obtain ⟨r1, r2, c1, c2, hn⟩ := right_spec hr
  have hlen := rowF_len hr hi
  have hrow : rowF r c l i = (l.take (((i : Int) + 1) * c).toNat).drop ((i : Int) * c).toNat := if_pos ⟨hr, by omega, by omega⟩
  have hne : rowF r c l i ≠ [] := fun h => by rw [h] at hlen; simp at hlen; omega
  rw [hrow] at hne ⊢
  refine okn_fn mixed Tryz.func151 (code := ?_) (h := hN151) ?_ kN151 rfl (RFs_frs _) ?_
  rotate_left
  · exact rfl
  unfold hN151 initS
  simp -implicitDefEqProofs only [rkA, rkB, stepA, valA, simprocAttr, Tryz.ntmps151, Tryz.results151]
  refine call_fn rfl rfl rfl (ok100 ex r c (frs l)) ?_
  have e : (frs l).length = l.length := by simp
  have g1 : ¬ (i : Int) < 0 := by omega
  have g2 : ¬ (i : Int) ≥ r := by omega
  obtain ⟨b1, b2, b3, b4, b5⟩ := at_bound (i := i) (k := 0) r2 ⟨c1, c2⟩ (by omega) (by omega)
  have b6 : ((i : Int) + 1) * c = i * c + c := by rw [Int.add_mul, Int.one_mul]
  have b7 : ((i : Int) + 1) * c ≤ r * c := Int.mul_le_mul_of_nonneg_right (by omega) (by omega)
  have w1 := wrapped (x := (i : Int) * c) (by omega) (by omega)
  have w2 := wrapped (x := (i : Int) + 1) (by omega) (by omega)
  have w3 := wrapped (x := ((i : Int) + 1) * c) (by omega) (by omega)
  have h3 : 0 ≤ ((i : Int) + 1) * c := by omega
  have hs := sl_frs (ex := ex) (l := l) (a := ((i : Int) * c).toNat) (b := (((i : Int) + 1) * c).toNat) (by omega) (by omega)
  simp -implicitDefEqProofs only [e, hr, g1, g2, w1, w2, w3, b1, h3, hs, rkA, rkB, stepA, valA, simprocAttr]
  refine newRow_fn rfl rfl (Tells.same _ _) (okn109 _ _ hne (by simp; omega)) (RFs_frs _) (by simpa using hne) ?_
  intro b cap q hb hcap
  simp -implicitDefEqProofs only [rkA, rkB, stepA, valA, simprocAttr]
  exact .inr ⟨_, rfl, .inr ⟨by simpa using hne, b, cap, q, hcap, rfl, rfl⟩⟩

/-- Row i, in memory of its own. -/
def rowItem (r c : Int) (l : List Fr) (i : Nat) : Item := fun p m => ∃ b cap q, (frs (rowF r c l i)).length ≤ cap ∧ p = [num i, .s (.slice (some ⟨b, 0, none⟩) (frs (rowF r c l i)).length cap)] ∧ m = nomem.put b (flat (frs (rowF r c l i)) ++ List.replicate q .junk)
def rowItems (r c : Int) (l : List Fr) : List Item := (List.range r.toNat).map (rowItem r c l)
theorem itm150 (ex : Bool) (r c : Int) (l : List Fr) (hr : right r c l.length = true) : IterOkM Tryz.prog (.fn (.func 150) [.vp [num r, num c, .sl ex (frs l)]]) (rowItems r c l) := by
  obtain ⟨r1, r2, c1, c2, hn⟩ := right_spec hr
  have hl : (rowItems r c l).length = r.toNat := by simp [rowItems]
  have e : (frs l).length = l.length := by simp
  have h17 := ok100 ex r c (frs l)
  rw [e, hr] at h17
  refine iterM_fn mixed Tryz.func150 (code := ?_) (h := hN150) ?_ kN150 ?_ ?_
  rotate_left
  · exact rfl
  · exact rfl
  intro yl
  unfold hN150 initS
  simp -implicitDefEqProofs only [rkA, rkB, stepA, valA, simprocAttr, Tryz.ntmps150]
  refine wp_loop (fun m s => ∃ i : Nat, i + m = (rowItems r c l).length ∧ s = ⟨[.v (.fn (.yield yl) []), .v (.vp [num r, num c, .sl ex (frs l)]), jk, nt i, jk, jk, jk, jk, jk, jk, jk, jk, jk, jk, jk, jk, jk, jk, jk, jk, jk], [], [], [], [], i, nomem⟩) (rowItems r c l).length ?_ ?_
  · simp -implicitDefEqProofs only [rkA, rkB, stepA, valA, simprocAttr]
    exact ⟨0, by simp, rfl⟩
  rintro m s ⟨i, hi, rfl⟩
  simp -implicitDefEqProofs only [rkA, rkB, stepA, valA, simprocAttr]
  refine call_fn rfl rfl rfl (h17) ?_
  simp -implicitDefEqProofs only [rkA, rkB, stepA, valA, simprocAttr]
  refine gB_dec ?_ ?_ <;> intro hc <;> simp -implicitDefEqProofs only [hc, rkA, rkB, stepA, valA, simprocAttr]
  · have hlt : i < r.toNat := by omega
    have hlen := rowF_len hr hlt
    have hne : frs (rowF r c l i) ≠ [] := fun h => by
      have := congrArg List.length h
      rw [List.length_map, hlen, List.length_nil] at this
      omega
    refine newRow_fn rfl rfl (Tells.same _ _) (okn151 ex r c i l hr hlt) (RFs_frs _) hne ?_
    intro b cap q hb hcap
    simp -implicitDefEqProofs only [rkA, rkB, stepA, valA, simprocAttr]
    have hx : (rowItems r c l)[i]? = some (rowItem r c l i) := by simp [rowItems, hlt]
    have hw := wrapped (x := (i : Int) + 1) (by omega) (by omega)
    refine call_yieldM rfl rfl rfl rfl hx ⟨b, cap, q, hcap, rfl, rfl⟩ ?_ ?_
    · simp -implicitDefEqProofs only [hw, rkA, rkB, stepA, valA, simprocAttr]
      refine loopK_of (m' := m - 1) (by omega) ?_
      simp -implicitDefEqProofs only [rkA, rkB, stepA, valA, simprocAttr]
      exact ⟨i + 1, by omega, by simp only [Int.natCast_add, Int.natCast_one]⟩
    · simp -implicitDefEqProofs only [rkA, rkB, stepA, valA, simprocAttr]
      exact .inr trivial
  · omega

end Go.Proofs.YtbflmeomkfjikaaGreat.A


set_option linter.unusedVariables false
set_option linter.unusedSimpArgs false
set_option maxRecDepth 100000
namespace Go.Proofs.YtbflmeomkfjikaaGreat.A
open Go Go.RowKit Go.Shelf

/-! ### Rows in memory: each in a block of its own -/
abbrev rawC (c cap : Nat → Nat) (w i : Nat) : PV := .s (.slice (some ⟨c i, 0, none⟩) w (cap i))
abbrev jnk (q : Nat) : List PV := List.replicate q .junk
structure RowsC (m : Mem) (c q : Nat → Nat) (n w : Nat) (M : Nat → Nat → Fr) : Prop where
  row : ∀ i, i < n → m (c i) = some (flat (frs (rowM w M i)) ++ jnk (q i))
  inj : ∀ i j, i < n → j < n → c i = c j → i = j
theorem ldM_frj {l : List Fr} {k : Nat} {x : Fr} {post : List PV} (h : l[k]? = some x) : ldM true 3 (k * 3) (flat (frs l) ++ post) = some (.v (frV x)) :=
  ldM_elem (els := frs l) (sz := 3) (k := k) (e := frV x) (frs_cells l) (by simp [h]) post
theorem stM_frj {l : List Fr} {k : Nat} {x : Fr} {post : List PV} (h : k < l.length) : stM 3 (k * 3) (flat (frs l) ++ post) (frV x) = some (flat (frs (l.set k x)) ++ post) := by
  have := stM_elem (els := frs l) (sz := 3) (k := k) (e := frV x) (frs_cells l) (by simpa using h) rfl rfl post
  rw [this]
  simp [frs, List.map_set]
theorem frs_ok (l : List Fr) : (frs l).all (fun e => e.ok && e.cells.length == 3) = true := by
  rw [List.all_eq_true]
  intro e he
  obtain ⟨x, _, rfl⟩ := List.mem_map.1 he
  rfl
/-! ### One column folded -/
def xF (w : Nat) (M : Nat → Nat → Fr) (k : Nat) : List Fr := (rowM w M k).drop k
def normF (w : Nat) (M : Nat → Nat → Fr) (k : Nat) : Fr := if 0 ≤ signF (M k k) then negF (rootF (dotF (xF w M k) (xF w M k))) else rootF (dotF (xF w M k) (xF w M k))
def vA (w : Nat) (M : Nat → Nat → Fr) (k c : Nat) : Fr := if c = k then subF (M k k) (normF w M k) else M k c
def vF (w : Nat) (M : Nat → Nat → Fr) (k : Nat) : List Fr := ((List.range w).map (vA w M k)).drop k
def tF (w : Nat) (M : Nat → Nat → Fr) (k i : Nat) : Fr := divF (addF (dotF ((rowM w M i).drop k) (vF w M k)) (dotF ((rowM w M i).drop k) (vF w M k))) (dotF (vF w M k) (vF w M k))
def foldTo (w : Nat) (M : Nat → Nat → Fr) (k j : Nat) : Nat → Nat → Fr := fun a c => if k < a ∧ a < j ∧ k ≤ c then subF (M a c) (mulF (vA w M k c) (tF w M k a)) else M a c
/-- One row more is folded. -/
theorem RowsC.fold {mm : Mem} {c q : Nat → Nat} {n w k i : Nat} {M : Nat → Nat → Fr} (h : RowsC mm c q n w (foldTo w M k i)) (hi : i < n) (hki : k < i) :
    RowsC (mm.put (c i) (flat (frs (rowM w (foldTo w M k (i + 1)) i)) ++ jnk (q i))) c q n w (foldTo w M k (i + 1)) := ⟨fun a ha => by
  by_cases e : a = i
  · subst e
    rw [Mem.put_same]
  · rw [Mem.put_other _ _ (fun e' => e (h.inj a i ha hi e')), h.row a ha]
    congr 3
    unfold rowM
    congr 1
    refine List.map_congr_left fun j _ => ?_
    unfold foldTo
    by_cases h1 : k < a ∧ a < i ∧ k ≤ j
    · rw [if_pos h1, if_pos (by omega)]
    · rw [if_neg h1, if_neg (by omega)], h.inj⟩
theorem RowsC.congr {mm : Mem} {c q : Nat → Nat} {n w : Nat} {M N : Nat → Nat → Fr} (h : RowsC mm c q n w M) (hMN : ∀ a j, a < n → j < w → M a j = N a j) : RowsC mm c q n w N := ⟨fun a ha => by
  have e : rowM w N a = rowM w M a := by
    unfold rowM
    exact List.map_congr_left fun j hj => (hMN a j ha (List.mem_range.1 hj)).symm
  rw [e]
  exact h.row a ha, h.inj⟩
theorem RowsC.store {mm : Mem} {c q : Nat → Nat} {n w : Nat} {M : Nat → Nat → Fr} (h : RowsC mm c q n w M) {i k : Nat} (hi : i < n) (hk : k < w) (x : Fr) :
    RowsC (mm.put (c i) (flat (frs ((rowM w M i).set k x)) ++ jnk (q i))) c q n w (setM M i k x) := ⟨fun j hj => by
  by_cases e : j = i
  · subst e
    rw [Mem.put_same, rowM_set hk]
  · rw [Mem.put_other _ _ (fun e' => e (h.inj j i hj hi e')), rowM_other e]
    exact h.row j hj, h.inj⟩
end Go.Proofs.YtbflmeomkfjikaaGreat.A


set_option linter.unusedVariables false
set_option linter.unusedSimpArgs false
set_option maxRecDepth 100000
namespace Go.Proofs.YtbflmeomkfjikaaGreat.A
open Go Go.RowKit Go.Shelf

/-! ### No diagonal below 0 -/
end Go.Proofs.YtbflmeomkfjikaaGreat.A


set_option linter.unusedVariables false
set_option linter.unusedSimpArgs false
set_option maxRecDepth 100000
namespace Go.Proofs.YtbflmeomkfjikaaGreat.A
open Go Go.RowKit Go.Shelf

theorem wp_rfM' {P : Program} {Q : XA → St → Prop} {tm : List TV} {bx : List (Nat × List TV)} {ro : List (Nat × List PV)} {tk : List (Nat × Nat)} {sv : List (List TV)} {it : Nat} {mm : Mem} {f : Operand} {ps : Array Nat} {g : List Gh} {a b : Hint} {x y : Code} {p : PV} {items : List Item} (hf : ev ⟨tm, bx, ro, tk, sv, it, mm⟩ f = some (.v p)) (hI : IterOkM P p items)
    (Inv : List (List TV) → Nat → St → Prop) (h0 : opt (ghs g ⟨[], bx, ro, tk, tm :: sv, it, mm⟩) (Inv (tm :: sv) 0))
    (hr : ∀ (i : Nat) (x' : Item) (p : List PV) (m : Mem) (s' : St) (R : St → Prop), items[i]? = some x' → Inv (tm :: sv) i s' → x' p m → (∀ c, (m c).isSome = true → s'.mm c = none) → (∀ s1, Inv (tm :: sv) (i + 1) s1 → R s1) → p.length = ps.toList.length ∧ wpA P none (acOf a x) (rfK P (acOf b y) (roundK g R Q)) (enterR ps.toList p { s' with mm := s'.mm.join m }))
    (hq : ∀ s', Inv (tm :: sv) items.length s' → Q .normal (leaveR s')) :
    wpA P none (acOf (.f g a b) (.rangeFunc f ps x y)) Q ⟨tm, bx, ro, tk, sv, it, mm⟩ := wp_rfM hf hI (Inv (tm :: sv)) h0 hr hq
theorem fits_raw (c cap : Nat → Nat) (w i : Nat) (x : PV) (hx : ∃ b k j, x = .s (.slice b k j)) (hi : i ≤ 100) : fits 1 24 ((List.range i).map (rawC c cap w)) [x] = true := by
  obtain ⟨b, k, j, rfl⟩ := hx
  have h1 : ((List.range i).map (rawC c cap w)).all (fun e => e.ok && e.cells.length == 1) = true := by
    rw [List.all_eq_true]
    intro e he
    obtain ⟨a, _, rfl⟩ := List.mem_map.1 he
    rfl
  unfold fits
  rw [h1]
  simp [PV.ok, PV.cells]
  exact ⟨rfl, by omega⟩
theorem raw_grow (c cap : Nat → Nat) (w i b z : Nat) : (List.range i).map (rawC c cap w) ++ [.s (.slice (some ⟨b, 0, none⟩) w z)] = (List.range (i + 1)).map (rawC (fun j => if j = i then b else c j) (fun j => if j = i then z else cap j) w) := by
  rw [List.range_succ, List.map_append, List.map_singleton]
  congr 1
  · refine List.map_congr_left fun j hj => ?_
    have := List.mem_range.1 hj
    simp only [rawC, show ¬ j = i by omega, if_false]
  · simp only [rawC, if_true]
theorem RowsC.grow {mm : Mem} {c q : Nat → Nat} {i w b z : Nat} {M : Nat → Nat → Fr} (h : RowsC mm c q i w M) (hb : mm b = none) :
    RowsC (mm.put b (flat (frs (rowM w M i)) ++ jnk z)) (fun j => if j = i then b else c j) (fun j => if j = i then z else q j) (i + 1) w M := by
  have hcb : ∀ j, j < i → c j ≠ b := fun j hj e => by have := h.row j hj; rw [e, hb] at this; cases this
  refine ⟨fun j hj => ?_, fun j k hj hk => ?_⟩
  · by_cases e : j = i
    · subst e
      simp only [if_true]
      rw [Mem.put_same]
    · simp only [e, if_false]
      rw [Mem.put_other _ _ (hcb j (by omega))]
      exact h.row j (by omega)
  · by_cases e : j = i <;> by_cases e' : k = i
    · intro _; omega
    · simp only [e, e', if_true, if_false]
      exact fun h1 => absurd h1.symm (hcb k (by omega))
    · simp only [e, e', if_true, if_false]
      exact fun h1 => absurd h1 (hcb j (by omega))
    · simp only [e, e', if_false]
      exact h.inj j k (by omega) (by omega)
/-! ### All columns folded -/
def startF (n w : Nat) (l : List Fr) : Nat → Nat → Fr := fun i c => atF n w l i c
theorem row_start {n w : Nat} {l : List Fr} (hr : right n w l.length = true) {i : Nat} (hi : i < n) : rowF n w l i = rowM w (startF n w l) i := by
  rw [rowF_eq ⟨0, 0, false⟩ hr (by simpa using hi), Int.toNat_natCast, rowM]
  refine List.map_congr_left fun j hj => ?_
  rw [startF, atF_eq hr (by simpa using hi) (by simpa using hj), Int.toNat_natCast]
end Go.Proofs.YtbflmeomkfjikaaGreat.A



set_option linter.unusedVariables false
set_option linter.unusedSimpArgs false
set_option maxRecDepth 100000
namespace Go.Proofs.YtbflmeomkfjikaaGreat.A
open Go Go.RowKit Go.Shelf

/-! ### root.column: one column of a triangle, behind a measurement -/
/-- The rows, as far as row t; what was gathered. -/
def colM (M : Nat → Nat → Fr) (E : Nat → Fr) (j : Nat) (d c : Fr) (t : Nat) : Nat → Nat → Fr := fun i k => if k = j ∧ j ≤ i ∧ i < t then subF (mulF (M i j) d) (mulF (E i) c) else M i k
def colE (M : Nat → Nat → Fr) (E : Nat → Fr) (j : Nat) (w : Fr) (t : Nat) : Nat → Fr := fun i => if j ≤ i ∧ i < t then addF (E i) (mulF (M i j) w) else E i
def rootD (a b : Fr) : Fr := rootF (divF a b)
def rootC (w a b : Fr) : Fr := divF w (rootF (mulF a b))
theorem colM_first (M : Nat → Nat → Fr) (E : Nat → Fr) (j : Nat) (d c : Fr) : colM M E j d c j = M := by
  funext i k
  unfold colM
  rw [if_neg (by omega)]
theorem colE_first (M : Nat → Nat → Fr) (E : Nat → Fr) (j : Nat) (w : Fr) : colE M E j w j = E := by
  funext i
  unfold colE
  rw [if_neg (by omega)]
theorem colM_step (M : Nat → Nat → Fr) (E : Nat → Fr) (j : Nat) (d c : Fr) {t : Nat} (h : j ≤ t) : setM (colM M E j d c t) t j (subF (mulF (M t j) d) (mulF (E t) c)) = colM M E j d c (t + 1) := by
  funext i k
  unfold setM colM
  by_cases e : i = t ∧ k = j
  · obtain ⟨rfl, rfl⟩ := e
    rw [if_pos ⟨rfl, rfl⟩, if_pos ⟨rfl, h, by omega⟩]
  · rw [if_neg e]
    by_cases h1 : k = j ∧ j ≤ i ∧ i < t
    · rw [if_pos h1, if_pos (by omega)]
    · rw [if_neg h1, if_neg (by omega)]
theorem colE_step (M : Nat → Nat → Fr) (E : Nat → Fr) (j : Nat) (w : Fr) {t n : Nat} (h : j ≤ t) (ht : t < n) : ((List.range n).map (colE M E j w t)).set t (addF (E t) (mulF (M t j) w)) = (List.range n).map (colE M E j w (t + 1)) := by
  apply List.ext_getElem?
  intro i
  rw [List.getElem?_set]
  by_cases hi : i < n
  · rw [List.getElem?_map, List.getElem?_map, List.getElem?_range hi]
    by_cases e : t = i
    · subst e
      rw [if_pos rfl, if_pos (by simpa using ht)]
      simp only [Option.map_some]
      unfold colE
      rw [if_pos ⟨h, by omega⟩]
    · rw [if_neg e]
      simp only [Option.map_some]
      unfold colE
      by_cases h1 : j ≤ i ∧ i < t
      · rw [if_pos h1, if_pos (by omega)]
      · rw [if_neg h1, if_neg (by omega)]
  · rw [List.getElem?_eq_none (by simp; omega), List.getElem?_eq_none (by simp; omega), if_neg (by omega)]
/-- Rows lie as they lay, whatever is written elsewhere. -/
theorem RowsC.other {mm : Mem} {c q : Nat → Nat} {n w b : Nat} {M : Nat → Nat → Fr} {x : List PV} (h : RowsC mm c q n w M) (hb : ∀ i, i < n → c i ≠ b) : RowsC (mm.put b x) c q n w M :=
  ⟨fun i hi => by rw [Mem.put_other _ _ (hb i hi)]; exact h.row i hi, h.inj⟩
set_option maxHeartbeats 4000000 in
theorem okm120 (ex : Bool) (n j : Nat) (hj : j < n) (hn : n ≤ 16) (M : Nat → Nat → Fr) (E : Nat → Fr) (w a b : Fr) (c cap q : Nat → Nat) (hcap : ∀ i, i < n → n ≤ cap i) (eb : Nat) (m : Mem) (hm : RowsC m c q n n M) (he : m eb = some (flat (frs ((List.range n).map E)))) (hce : ∀ i, i < n → c i ≠ eb) :
    OkM Tryz.prog 120 [.sl ex ((List.range n).map (rawC c cap n)), num j, frV w, frV a, frV b, .s (.slice (some ⟨eb, 0, none⟩) n n)] m
      (fun _ m' => RowsC m' c q n n (colM M E j (rootD a b) (rootC w a b) n) ∧ m' eb = some (flat (frs ((List.range n).map (colE M E j w n))))) := by
  refine okm_fn mixed Tryz.func120 (code := ?_) (h := h120) ?_ k120 ?_
  rotate_left
  · exact rfl
  unfold h120 initS
  simp -implicitDefEqProofs (maxSteps := 10000000) only [rkA, rkB, stepA, valA, simprocAttr, Tryz.ntmps120, Tryz.results120]
  refine call_meth rfl rfl methDiv (ok211 _ _) ?_
  simp -implicitDefEqProofs (maxSteps := 10000000) only [rkA, rkB, stepA, valA, simprocAttr]
  refine call_meth rfl rfl methRoot (ok216 _) ?_
  simp -implicitDefEqProofs (maxSteps := 10000000) only [rkA, rkB, stepA, valA, simprocAttr]
  refine call_meth rfl rfl methMul (ok213 _ _) ?_
  simp -implicitDefEqProofs (maxSteps := 10000000) only [rkA, rkB, stepA, valA, simprocAttr]
  refine call_meth rfl rfl methRoot (ok216 _) ?_
  simp -implicitDefEqProofs (maxSteps := 10000000) only [rkA, rkB, stepA, valA, simprocAttr]
  refine call_meth rfl rfl methDiv (ok211 _ _) ?_
  simp -implicitDefEqProofs (maxSteps := 10000000) only [rkA, rkB, stepA, valA, simprocAttr]
  have eD : rootF (divF a b) = rootD a b := rfl
  have eC : divF w (rootF (mulF a b)) = rootC w a b := rfl
  simp only [eD, eC]
  refine wp_loop (fun z s => ∃ (t : Nat) (mm : Mem), j ≤ t ∧ t + z = n ∧ RowsC mm c q n n (colM M E j (rootD a b) (rootC w a b) t) ∧ mm eb = some (flat (frs ((List.range n).map (colE M E j w t)))) ∧
    s = ⟨[.v (.sl ex ((List.range n).map (rawC c cap n))), .v (num j), jk, jk, jk, .v (.s (.slice (some ⟨eb, 0, none⟩) n n)), jk, jk, .ptr 8 0, jk, jk, jk, .ptr 12 0, .ptr 13 0, nt t, jk, jk, jk, jk, jk, jk, jk, jk, jk, jk, jk, jk, jk, jk, jk, jk, jk, jk, jk, jk, jk, jk, jk, jk, jk, jk, jk, jk, jk, jk, jk, jk, jk, jk, jk, jk, jk, jk, jk, jk, jk, jk, jk, jk, jk, jk, jk, jk, jk, jk, jk, jk, jk, jk, jk, jk, jk, jk, jk, jk, jk, jk],
      [(8, [.v (num w.n), .v (num w.d), .v (tru w.bad)]), (9, [.v (num a.n), .v (num a.d), .v (tru a.bad)]), (10, [.v (num b.n), .v (num b.d), .v (tru b.bad)]), (12, [.v (num (rootD a b).n), .v (num (rootD a b).d), .v (tru (rootD a b).bad)]), (13, [.v (num (rootC w a b).n), .v (num (rootC w a b).d), .v (tru (rootC w a b).bad)])], [], [], [], 0, mm⟩) (n - j) ?_ ?_
  · simp -implicitDefEqProofs (maxSteps := 10000000) only [rkA, rkB, stepA, valA, simprocAttr]
    exact ⟨j, m, by omega, by omega, by rw [colM_first]; exact hm, by rw [colE_first]; exact he, rfl⟩
  clear hm he m
  rintro z s ⟨t, mm, hjt, htz, hM, hE, rfl⟩
  have li : ((List.range n).map (rawC c cap n)).length = n := by simp
  simp -implicitDefEqProofs (maxSteps := 10000000) only [li, rkA, rkB, stepA, valA, simprocAttr]
  refine gB_dec ?_ ?_ <;> intro hc <;> simp -implicitDefEqProofs (maxSteps := 10000000) only [hc, rkA, rkB, stepA, valA, simprocAttr]
  · have hi : t < n := by omega
    have h0t : (0 : Int) ≤ (t : Int) := by omega
    have h0j : (0 : Int) ≤ (j : Int) := by omega
    have hjn : (j : Int) < (n : Int) := by omega
    have gi : ((List.range n).map (rawC c cap n))[t]? = some (rawC c cap n t) := by simp [hi]
    have hrow := hM.row t hi
    have gM : colM M E j (rootD a b) (rootC w a b) t t j = M t j := by unfold colM; rw [if_neg (by omega)]
    have gE : colE M E j w t t = E t := by unfold colE; rw [if_neg (by omega)]
    have hld := ldM_frj (post := jnk (q t)) (rowM_get (n := n) (M := colM M E j (rootD a b) (rootC w a b) t) (i := t) (k := j) hj)
    have hle : ((List.range n).map (colE M E j w t))[t]? = some (E t) := by simp [hi, gE]
    have hlde := ldM_fr hle
    rw [gM] at hld
    simp -implicitDefEqProofs (maxSteps := 10000000) only [h0t, h0j, hjn, Int.toNat_natCast, gi, addr_add, Nat.zero_add, hrow, hld, rkA, rkB, stepA, valA, simprocAttr]
    refine call_meth rfl rfl methMul (ok213 _ _) ?_
    have hte : (t : Int) < (n : Int) := by omega
    simp -implicitDefEqProofs (maxSteps := 10000000) only [h0t, hte, Int.toNat_natCast, addr_add, Nat.zero_add, hE, hlde, rkA, rkB, stepA, valA, simprocAttr]
    refine call_meth rfl rfl methMul (ok213 _ _) ?_
    simp -implicitDefEqProofs (maxSteps := 10000000) only [rkA, rkB, stepA, valA, simprocAttr]
    refine call_meth rfl rfl methSub (ok218 _ _) ?_
    have hst := stM_frj (l := rowM n (colM M E j (rootD a b) (rootC w a b) t) t) (k := j) (x := subF (mulF (M t j) (rootD a b)) (mulF (E t) (rootC w a b))) (post := jnk (q t)) (by rw [rowM_length]; exact hj)
    simp -implicitDefEqProofs (maxSteps := 10000000) only [h0j, hjn, Int.toNat_natCast, addr_add, Nat.zero_add, hrow, hst, rkA, rkB, stepA, valA, simprocAttr]
    have hM2 := hM.store hi hj (subF (mulF (M t j) (rootD a b)) (mulF (E t) (rootC w a b)))
    rw [colM_step M E j (rootD a b) (rootC w a b) hjt] at hM2
    have hE2 : (mm.put (c t) (flat (frs ((rowM n (colM M E j (rootD a b) (rootC w a b) t) t).set j (subF (mulF (M t j) (rootD a b)) (mulF (E t) (rootC w a b))))) ++ jnk (q t))) eb = some (flat (frs ((List.range n).map (colE M E j w t)))) := by
      rw [Mem.put_other _ _ (fun e => hce t hi e.symm)]
      exact hE
    generalize mm.put (c t) _ = mm2 at hM2 hE2 ⊢
    simp -implicitDefEqProofs (maxSteps := 10000000) only [h0t, hte, Int.toNat_natCast, addr_add, Nat.zero_add, hE2, hlde, rkA, rkB, stepA, valA, simprocAttr]
    refine call_meth rfl rfl methMul (ok213 _ _) ?_
    simp -implicitDefEqProofs (maxSteps := 10000000) only [rkA, rkB, stepA, valA, simprocAttr]
    refine call_meth rfl rfl methAdd (ok210 _ _) ?_
    have hse := stM_frj (l := (List.range n).map (colE M E j w t)) (k := t) (x := addF (E t) (mulF (M t j) w)) (post := []) (by simp; exact hi)
    rw [List.append_nil, List.append_nil, colE_step M E j w hjt hi] at hse
    have hw' := wrapped (x := (t : Int) + 1) (by omega) (by omega)
    simp -implicitDefEqProofs (maxSteps := 10000000) only [h0t, hte, Int.toNat_natCast, addr_add, Nat.zero_add, hE2, hse, hw', rkA, rkB, stepA, valA, simprocAttr]
    refine loopK_of (m' := z - 1) (by omega) ?_
    simp -implicitDefEqProofs (maxSteps := 10000000) only [rkA, rkB, stepA, valA, simprocAttr]
    refine ⟨t + 1, mm2.put eb (flat (frs ((List.range n).map (colE M E j w (t + 1))))), by omega, by omega, ?_, Mem.put_same _ _ _, by simp only [Int.natCast_add, Int.natCast_one]⟩
    exact hM2.other (fun i hi' => hce i hi')
  · have e : t = n := by omega
    subst e
    exact ⟨_, rfl, hM, hE⟩
end Go.Proofs.YtbflmeomkfjikaaGreat.A


/- slices.Grow of a row that is nil, off the library's shelf. -/
set_option linter.unusedVariables false
set_option maxRecDepth 100000
namespace Go.Proofs.YtbflmeomkfjikaaGreat.A
open Go Go.RowKit Go.Shelf
theorem isAgg_no' {P : Program} {t : TypeId} (h : tAgg P t = some false) (w : World) : (isAgg t).run P w = .ok false w := run_isAgg_of h w
theorem sizeOf_one' {P : Program} {t : TypeId} {n : Nat} (h : tSize P t = some n) (w : World) : (Go.sizeOf t).run P w = .ok n w := run_sizeOf_of h w
theorem zero_is' {P : Program} {t : TypeId} {v : Value} (h : tZero P t = some v) (w : World) : (zeroValue t).run P w = .ok v w := run_zero_of h w
/-- New memory with room for n elements of sz cells each. -/
def GrownR (n sz : Nat) (r : PV) (m : Mem) : Prop := ∃ c cap, n ≤ cap ∧ r = .s (.slice (some ⟨c, 0, none⟩) 0 cap) ∧ m = nomem.put c (List.replicate (cap * sz) .junk)
theorem grown_rf {n sz : Nat} : ∀ r m', GrownR n sz r m' → RF r = true ∧ ∀ c cells, m' c = some cells → RFs cells = true := by
  rintro r m' ⟨c, cap, _, rfl, rfl⟩
  refine ⟨rfl, fun d cells hd => ?_⟩
  by_cases e : d = c
  · subst e
    rw [Mem.put_same] at hd
    cases hd
    have : ∀ k, RFs (List.replicate k PV.junk) = true := fun k => by
      induction k with
      | zero => rfl
      | succ k ih => rw [List.replicate_succ]; exact ih
    exact this _
  · rw [Mem.put_other _ _ e] at hd
    cases hd
theorem grown_of {P : Program} {ρ : Ren} (L : Lays8.n4 P ρ) {i0 : TypeInfo} {z : Value} {S B : Nat} (hi : P.info? (ρ.t 25) = some i0) (hz : i0.zero = some z) (hS : i0.size = S) (hB : i0.bytes = B) (hzs : z.cells.size = S) (h0 : 0 < S) (hen : Enters P (ρ.f 4)) (n : Nat) (h1 : 1 ≤ n) (h2 : n * B ≤ 140737488355328) (h3 : n ≤ 4611686018427387904) :
    OkM P (ρ.f 4) [.s (.slice none 0 0), num n] nomem (GrownR n S) := by
  refine ⟨hen, fun I w vs hg hm hc => ?_⟩
  cases hc with
  | cons c1 c2 =>
    cases c2 with
    | cons c3 c4 =>
      cases c4
      cases c1
      cases c3
      subst hS hB
      refine (Any8.slices_Grow_grow L i0 z hi hz h0 none 0 0 n [] w (by omega) (by omega) (by simpa using h2) (by omega) (by simp) (fun _ => rfl) (fun a h => by cases h)).mono ?_
      rintro e w' ⟨rfl, rfl⟩
      have hge := grownCap_ge w (0 + n) 0 (ρ.t 25)
      generalize grownCap w (0 + n) 0 (ρ.t 25) = cap at hge ⊢
      have hnone : I w.heap.size = none := by
        cases h : I w.heap.size with
        | none => rfl
        | some arr => exact absurd (hg.lt h) (by omega)
      refine ⟨_, I, _, nomem.put w.heap.size (List.replicate (cap * i0.size) .junk), rfl, ⟨w.heap.size, cap, by omega, rfl, rfl⟩, ?_, Imm.le_refl _, ?_, fun _ _ => rfl, ?_, ?_, .s _⟩
      · have hb : Below w.heap.size w (w.drew.alloc (.cells (([] : List Value).toArray ++ Builtin.zeroCells z.cells (0 + n - 0) ++ Builtin.zeroCells z.cells (cap - (0 + n))) (ρ.t 25))) := ((Below.refl _ w).drew).alloc (Nat.le_refl _) _
        exact ⟨hb.os, hb.tape, hb.output, hb.size, fun k hk _ => hb.block k hk⟩
      · exact hg.below (((Below.refl _ w).drew).alloc (Nat.le_refl _) _)
      · intro c cells hcc
        by_cases e : c = w.heap.size
        · subst e
          rw [Mem.put_same] at hcc
          cases hcc
          refine ⟨hnone, _, ρ.t 25, (by show (w.heap.push _)[w.heap.size]? = _; exact Array.getElem?_push_size), ?_⟩
          have hsz : ∀ k : Nat, (Builtin.zeroCells z.cells k).size = k * i0.size := fun k => by rw [size_zeroCells, hzs]
          have hl : (([] : List Value).toArray ++ Builtin.zeroCells z.cells (0 + n - 0) ++ Builtin.zeroCells z.cells (cap - (0 + n))).toList.length = cap * i0.size := by
            rw [Array.length_toList, Array.size_append, Array.size_append, hsz, hsz]
            rw [show (([] : List Value).toArray).size = 0 from rfl, Nat.zero_add, ← Nat.add_mul]
            congr 1
            omega
          rw [← hl]
          exact cs_rest I _
        · rw [Mem.put_other _ _ e] at hcc
          cases hcc
      · intro c hlt _
        exact Mem.put_other _ _ (by omega)
def reng160 : Ren := { f := fun | 4 => 160 | x => x, t := fun | 0 => 0 | 3 => 3 | 4 => 4 | 9 => 9 | 20 => 20 | 22 => 26 | 25 => 32 | x => x, g := fun x => x }
theorem laysg160 : Lays8.n4 Tryz.prog reng160 where
  mixed := by kernel_rfl
  f4 := ⟨"slices.Grow[[]couplet/frac.Frac,couplet/frac.Frac]", by decide, Tryz.func160⟩
  t0 := by kernel_rfl
  a0 := isAgg_no' (by kernel_rfl)
  z0 := sizeOf_one' (by kernel_rfl)
  v0 := zero_is' (by kernel_rfl)
  t3 := by kernel_rfl
  a3 := isAgg_no' (by kernel_rfl)
  z3 := sizeOf_one' (by kernel_rfl)
  v3 := zero_is' (by kernel_rfl)
  t4 := by kernel_rfl
  a4 := isAgg_no' (by kernel_rfl)
  z4 := sizeOf_one' (by kernel_rfl)
  v4 := zero_is' (by kernel_rfl)
  t9 := by kernel_rfl
  a9 := isAgg_no' (by kernel_rfl)
  z9 := sizeOf_one' (by kernel_rfl)
  v9 := zero_is' (by kernel_rfl)
  t20 := by kernel_rfl
  a20 := isAgg_no' (by kernel_rfl)
  z20 := sizeOf_one' (by kernel_rfl)
  v20 := zero_is' (by kernel_rfl)
  t22 := by kernel_rfl
  a22 := isAgg_no' (by kernel_rfl)
  z22 := sizeOf_one' (by kernel_rfl)
  v22 := zero_is' (by kernel_rfl)
theorem okg160 (n : Nat) (h1 : 1 ≤ n) (h2 : n * 24 ≤ 140737488355328) : OkM Tryz.prog 160 [.s (.slice none 0 0), num n] nomem (GrownR n 3) :=
  grown_of laysg160 (i0 := Tryz.t32) (z := (Tryz.t32).zero.getD .nilIface) (S := 3) (B := 24) (by kernel_rfl) (by kernel_rfl) (by kernel_rfl) (by kernel_rfl) (by kernel_rfl) (by decide) (enters_of Tryz.func160 (by kernel_rfl) rfl) n h1 h2 (by omega)
def reng158 : Ren := { f := fun | 4 => 158 | x => x, t := fun | 0 => 0 | 3 => 3 | 4 => 4 | 9 => 9 | 20 => 20 | 22 => 34 | 25 => 40 | x => x, g := fun x => x }
theorem laysg158 : Lays8.n4 Tryz.prog reng158 where
  mixed := by kernel_rfl
  f4 := ⟨"slices.Grow[[]couplet/env.Num,couplet/env.Num]", by decide, Tryz.func158⟩
  t0 := by kernel_rfl
  a0 := isAgg_no' (by kernel_rfl)
  z0 := sizeOf_one' (by kernel_rfl)
  v0 := zero_is' (by kernel_rfl)
  t3 := by kernel_rfl
  a3 := isAgg_no' (by kernel_rfl)
  z3 := sizeOf_one' (by kernel_rfl)
  v3 := zero_is' (by kernel_rfl)
  t4 := by kernel_rfl
  a4 := isAgg_no' (by kernel_rfl)
  z4 := sizeOf_one' (by kernel_rfl)
  v4 := zero_is' (by kernel_rfl)
  t9 := by kernel_rfl
  a9 := isAgg_no' (by kernel_rfl)
  z9 := sizeOf_one' (by kernel_rfl)
  v9 := zero_is' (by kernel_rfl)
  t20 := by kernel_rfl
  a20 := isAgg_no' (by kernel_rfl)
  z20 := sizeOf_one' (by kernel_rfl)
  v20 := zero_is' (by kernel_rfl)
  t22 := by kernel_rfl
  a22 := isAgg_no' (by kernel_rfl)
  z22 := sizeOf_one' (by kernel_rfl)
  v22 := zero_is' (by kernel_rfl)
theorem okg158 (n : Nat) (h1 : 1 ≤ n) (h2 : n * 32 ≤ 140737488355328) : OkM Tryz.prog 158 [.s (.slice none 0 0), num n] nomem (GrownR n 4) :=
  grown_of laysg158 (i0 := Tryz.t40) (z := (Tryz.t40).zero.getD .nilIface) (S := 4) (B := 32) (by kernel_rfl) (by kernel_rfl) (by kernel_rfl) (by kernel_rfl) (by kernel_rfl) (by decide) (enters_of Tryz.func158 (by kernel_rfl) rfl) n h1 h2 (by omega)
end Go.Proofs.YtbflmeomkfjikaaGreat.A


set_option linter.unusedVariables false
namespace Go.Proofs.YtbflmeomkfjikaaGreat.A
open Go Go.RowKit Go.Shelf
/- slices.Concat(()couplet/frac.Frac,couplet/frac.Frac) -/
def hN121 : Hint := .s (.r [(0, { acc := [(0, 2)] })]) (.s (.o) (.s (.s (.o) (.b (.l [.junk [1, 2, 4, 5, 6, 7, 8, 12, 13, 14, 15, 16, 17, 18, 19, 20, 21, 22, 23, 24, 25, 26, 27, 28, 29, 30, 31, 32, 33, 34, 35]] (.s (.o) (.s (.s (.o) (.o)) (.s (.b (.s (.r [(0, { n := 1 }), (1, { n := 1, agg := false })]) (.s (.o) (.s (.o) (.s (.no) (.o)))))) (.o))))))) (.s (.r [(1, { mc := 6 })]) (.s (.s (.o) (.b (.l [.junk [0, 1, 2, 3, 4, 5, 7, 8, 9, 10, 11, 12, 13, 14, 15, 16, 17, 18, 19, 20, 21, 22, 23, 24, 28, 29, 30, 31, 32, 33, 34, 35]] (.s (.o) (.s (.s (.o) (.o)) (.s (.b (.s (.r [(0, { n := 1 }), (1, { n := 1, agg := false })]) (.r [(2, { n := 3, t := 24, mc := 7 })]))) (.o))))))) (.s (.o) (.o))))))
theorem kN121 : okF Tryz.prog Tryz.f121 hN121 [(false, 0)] = true := by kernel_rfl

/- slices.Concat(()couplet/env.Num,couplet/env.Num) -/
def hN114 : Hint := .s (.r [(0, { acc := [(0, 2)] })]) (.s (.o) (.s (.s (.o) (.b (.l [.junk [1, 2, 4, 5, 6, 7, 8, 12, 13, 14, 15, 16, 17, 18, 19, 20, 21, 22, 23, 24, 25, 26, 27, 28, 29, 30, 31, 32, 33, 34, 35]] (.s (.o) (.s (.s (.o) (.o)) (.s (.b (.s (.r [(0, { n := 1 }), (1, { n := 1, agg := false })]) (.s (.o) (.s (.o) (.s (.no) (.o)))))) (.o))))))) (.s (.r [(1, { mc := 6 })]) (.s (.s (.o) (.b (.l [.junk [0, 1, 2, 3, 4, 5, 7, 8, 9, 10, 11, 12, 13, 14, 15, 16, 17, 18, 19, 20, 21, 22, 23, 24, 28, 29, 30, 31, 32, 33, 34, 35]] (.s (.o) (.s (.s (.o) (.o)) (.s (.b (.s (.r [(0, { n := 1 }), (1, { n := 1, agg := false })]) (.r [(2, { n := 4, t := 32, mc := 7 })]))) (.o))))))) (.s (.o) (.o))))))
theorem kN114 : okF Tryz.prog Tryz.f114 hN114 [(false, 0)] = true := by kernel_rfl

end Go.Proofs.YtbflmeomkfjikaaGreat.A



set_option linter.unusedVariables false
set_option linter.unusedSimpArgs false
set_option maxRecDepth 100000
namespace Go.Proofs.YtbflmeomkfjikaaGreat.A
open Go Go.RowKit Go.Shelf

/-! ### slices.Concat -/
abbrev catV (rows : List (List Fr)) : List PV := rows.map fun r => .sl false (frs r)
theorem flatten_take_succ {α : Type} {l : List (List α)} {i : Nat} (h : i < l.length) : (l.take (i + 1)).flatten = (l.take i).flatten ++ l[i] := by
  rw [List.take_succ_eq_append_getElem h, List.flatten_append, List.flatten_singleton]
theorem flatten_take_le {α : Type} (l : List (List α)) (i : Nat) : (l.take i).flatten.length ≤ l.flatten.length := by
  conv => rhs; rw [← List.take_append_drop i l, List.flatten_append, List.length_append]
  omega
theorem RFs_replicate : ∀ k, RFs (List.replicate k PV.junk) = true
  | 0 => rfl
  | k + 1 => by rw [List.replicate_succ]; exact RFs_replicate k
theorem cells_put (L M : List PV) (K : Nat) : (L ++ List.replicate K PV.junk).take L.length ++ M ++ (L ++ List.replicate K PV.junk).drop (L.length + M.length) = (L ++ M) ++ List.replicate (K - M.length) PV.junk := by
  rw [List.take_append_of_le_length (Nat.le_refl _), List.take_length, List.drop_append, List.drop_of_length_le (by omega), List.nil_append, List.drop_replicate]
  congr 3
  omega
theorem cells_putF (A B : List Fr) {C : List Fr} (h : C = A ++ B) (K : Nat) : (flat (frs A) ++ List.replicate (K - (flat (frs A)).length) PV.junk).take (flat (frs A)).length ++ flat (frs B) ++ (flat (frs A) ++ List.replicate (K - (flat (frs A)).length) PV.junk).drop ((flat (frs A)).length + (flat (frs B)).length) = flat (frs C) ++ List.replicate (K - (flat (frs C)).length) PV.junk := by
  have e : flat (frs C) = flat (frs A) ++ flat (frs B) := by rw [h, frs, List.map_append, flat_append]
  rw [cells_put, e, List.length_append, Nat.sub_sub]
set_option maxHeartbeats 2000000 in
theorem okn121 (ex : Bool) (rows : List (List Fr)) (h0 : rows.flatten ≠ []) (h1 : rows.flatten.length ≤ 1000000) (h2 : rows.length ≤ 1000000) : OkN Tryz.prog 121 [.sl ex (catV rows)] (frs rows.flatten) := by
  have hlr : (catV rows).length = rows.length := by simp
  have hpos : 0 < rows.flatten.length := List.length_pos_iff.2 h0
  refine okn_fn mixed Tryz.func121 (code := ?_) (h := hN121) ?_ kN121 rfl (RFs_frs _) ?_
  rotate_left
  · exact rfl
  unfold hN121 initS
  simp -implicitDefEqProofs (maxSteps := 10000000) only [rkA, rkB, stepA, valA, simprocAttr, Tryz.ntmps121, Tryz.results121]
  refine wp_loop (fun m s => ∃ i, i + m = rows.length ∧ s = ⟨[.v (.sl ex (catV rows)), jk, jk, nt ((rows.take i).flatten.length : Nat), jk, jk, jk, jk, jk, .v (.sl ex (catV rows)), nt rows.length, nt i, jk, jk, jk, jk, jk, jk, jk, jk, jk, jk, jk, jk, jk, jk, jk, jk, jk, jk, jk, jk, jk, jk, jk, jk], [], [], [(2, 0)], [], 0, nomem⟩) rows.length ?_ ?_
  · simp -implicitDefEqProofs (maxSteps := 10000000) only [hlr, rkA, rkB, stepA, valA, simprocAttr]
    exact ⟨0, by simp, rfl⟩
  rintro m s ⟨i, hi, rfl⟩
  simp -implicitDefEqProofs (maxSteps := 10000000) only [rkA, rkB, stepA, valA, simprocAttr]
  refine gB_dec ?_ ?_ <;> intro hc <;> simp -implicitDefEqProofs (maxSteps := 10000000) only [hc, rkA, rkB, stepA, valA, simprocAttr]
  · have hlt : i < rows.length := by omega
    have h0i : (0 : Int) ≤ (i : Int) := by omega
    have hg : (catV rows)[i]? = some (.sl false (frs rows[i])) := by simp [hlt]
    have e1 := flatten_take_succ hlt
    have e2 := flatten_take_le rows (i + 1)
    have e3 : (rows.take (i + 1)).flatten.length = (rows.take i).flatten.length + rows[i].length := by rw [e1, List.length_append]
    have e4 : (frs rows[i]).length = rows[i].length := by simp
    have w1 : IntKind.wrap .i64 (((rows.take i).flatten.length : Nat) + (rows[i].length : Nat) : Int) = ((rows.take (i + 1)).flatten.length : Nat) := by rw [wrapped (by omega) (by omega)]; omega
    have w2 := wrapped (x := (i : Int) + 1) (by omega) (by omega)
    have g0 : ¬ (((rows.take (i + 1)).flatten.length : Nat) : Int) < 0 := by omega
    simp -implicitDefEqProofs (maxSteps := 10000000) only [h0i, Int.toNat_natCast, hg, e4, w1, w2, g0, rkA, rkB, stepA, valA, simprocAttr]
    refine loopK_of (m' := m - 1) (by omega) ?_
    simp -implicitDefEqProofs (maxSteps := 10000000) only [rkA, rkB, stepA, valA, simprocAttr]
    exact ⟨i + 1, by omega, by simp only [Int.natCast_add, Int.natCast_one]⟩
  · have ei : rows.take i = rows := List.take_of_length_le (by omega)
    simp only [ei]
    clear ei hc hi m
    refine lendNew_fn rfl rfl (Tells.same _ _) (okg160 rows.flatten.length (by omega) (by omega)) grown_rf ?_
    rintro r m' ⟨c, cap, hcap, rfl, rfl⟩ hfree
    simp -implicitDefEqProofs (maxSteps := 10000000) only [rkA, rkB, stepA, valA, simprocAttr]
    refine wp_loop (fun m s => ∃ (i : Nat) (mm : Mem), i + m = rows.length ∧ mm = nomem.put c (flat (frs (rows.take i).flatten) ++ List.replicate (cap * 3 - (flat (frs (rows.take i).flatten)).length) .junk) ∧
      s = ⟨[jk, jk, jk, jk, jk, jk, .v (.s (.slice (some ⟨c, 0, none⟩) (rows.take i).flatten.length cap)), jk, jk, jk, jk, jk, jk, jk, jk, jk, jk, jk, jk, jk, jk, jk, jk, jk, jk, .v (.sl ex (catV rows)), nt rows.length, nt i, jk, jk, jk, jk, jk, jk, jk, jk], [], [], [(2, 0)], [], 0, mm⟩) rows.length ?_ ?_
    · simp -implicitDefEqProofs (maxSteps := 10000000) only [hlr, rkA, rkB, stepA, valA, simprocAttr]
      exact ⟨0, _, by simp, rfl, rfl⟩
    rintro m s ⟨i, mm, hi, rfl, rfl⟩
    simp -implicitDefEqProofs (maxSteps := 10000000) only [rkA, rkB, stepA, valA, simprocAttr]
    refine gB_dec ?_ ?_ <;> intro hc <;> simp -implicitDefEqProofs (maxSteps := 10000000) only [hc, rkA, rkB, stepA, valA, simprocAttr]
    · have hlt : i < rows.length := by omega
      have h0i : (0 : Int) ≤ (i : Int) := by omega
      have hg : (catV rows)[i]? = some (.sl false (frs rows[i])) := by simp [hlt]
      have e1 := flatten_take_succ hlt
      have e2 := flatten_take_le rows (i + 1)
      have e3 : (rows.take (i + 1)).flatten.length = (rows.take i).flatten.length + rows[i].length := by rw [e1, List.length_append]
      have e4 : (frs rows[i]).length = rows[i].length := by simp
      have l1 : (flat (frs (rows.take i).flatten)).length = (rows.take i).flatten.length * 3 := by rw [flat_length (frs_cells _), List.length_map]
      have l2 : (flat (frs rows[i])).length = rows[i].length * 3 := by rw [flat_length (frs_cells _), List.length_map]
      have w2 := wrapped (x := (i : Int) + 1) (by omega) (by omega)
      have hmul : rows.flatten.length * 3 ≤ cap * 3 := Nat.mul_le_mul_right _ hcap
      have hput := cells_putF (rows.take i).flatten rows[i] e1 (cap * 3)
      simp -implicitDefEqProofs (maxSteps := 10000000) only [h0i, Int.toNat_natCast, hg, rkA, rkB, stepA, valA, simprocAttr]
      refine appIn_of rfl rfl (.same _) (RFs_frs _) (Mem.put_same _ _ _) (by rw [List.all_eq_true]; intro e he; obtain ⟨x, _, rfl⟩ := List.mem_map.1 he; rfl) (by rw [e4]; omega) (by simp only [List.length_append, List.length_replicate, l1, l2, Nat.zero_add]; omega) ?_
      rw [Nat.zero_add, ← l1, hput, e4, ← e3]
      simp -implicitDefEqProofs (maxSteps := 10000000) only [w2, rkA, rkB, stepA, valA, simprocAttr]
      refine loopK_of (m' := m - 1) (by omega) ?_
      simp -implicitDefEqProofs (maxSteps := 10000000) only [rkA, rkB, stepA, valA, simprocAttr]
      refine ⟨i + 1, _, by omega, rfl, ?_⟩
      simp only [Int.natCast_add, Int.natCast_one]
      congr 1
      funext d
      unfold Mem.put
      split <;> rfl
    · have ei : rows.take i = rows := List.take_of_length_le (by omega)
      rw [ei]
      refine .inr ⟨_, rfl, .inr ⟨by simpa using h0, c, cap, _, by rw [List.length_map]; exact hcap, by rw [List.length_map], rfl⟩⟩
end Go.Proofs.YtbflmeomkfjikaaGreat.A



set_option linter.unusedVariables false
set_option linter.unusedSimpArgs false
set_option maxRecDepth 100000
namespace Go.Proofs.YtbflmeomkfjikaaGreat.A
open Go Go.RowKit Go.Shelf

/-! ### States -/
abbrev stV (ex ep : Bool) (x : List PV) (r c : Int) (l : List PV) : PV := .agg [.sl ex x, num r, num c, .sl ep l]
abbrev stNil : PV := .agg [.s (.slice none 0 0), num 0, num 0, .s (.slice none 0 0)]
def stRight (k : Nat) (r c : Int) (n : Nat) : Bool := decide (1 ≤ k ∧ k ≤ 4) && (right r c n && (r == k && c == k))
theorem ok118 (ex ep : Bool) (x l : List Fr) (r c : Int) : Ok Tryz.prog 118 [stV ex ep (frs x) r c (frs l)] (tru (stRight x.length r c l.length)) := by
  refine ok_fn mixed Tryz.func118 (code := ?_) (h := h118) ?_ k118 ?_
  rotate_left
  · exact rfl
  unfold h118 initS
  simp -implicitDefEqProofs (maxSteps := 10000000) only [rkA, rkB, stepA, valA, simprocAttr, Tryz.ntmps118, Tryz.results118]
  have e : (frs x).length = x.length := by simp
  have e' : (frs l).length = l.length := by simp
  by_cases hx : 1 ≤ x.length ∧ x.length ≤ 4
  · have h1 : (1 : Int) ≤ (x.length : Int) := by omega
    have h2 : (x.length : Int) ≤ 4 := by omega
    simp -implicitDefEqProofs (maxSteps := 10000000) only [e, h1, h2, rkA, rkB, stepA, valA, simprocAttr]
    refine call_fn rfl rfl rfl (ok100 ep r c (frs l)) ?_
    rw [e']
    cases hr : right r c l.length with
    | false => simp -implicitDefEqProofs (maxSteps := 10000000) only [stRight, hx, hr, rkA, rkB, stepA, valA, simprocAttr]
    | true =>
      simp -implicitDefEqProofs (maxSteps := 10000000) only [rkA, rkB, stepA, valA, simprocAttr]
      cases h3 : (r == (x.length : Int)) with
      | false => simp -implicitDefEqProofs (maxSteps := 10000000) only [stRight, hx, hr, h3, rkA, rkB, stepA, valA, simprocAttr]
      | true => simp -implicitDefEqProofs (maxSteps := 10000000) only [stRight, hx, hr, h3, rkA, rkB, stepA, valA, simprocAttr]
  · have hs : stRight x.length r c l.length = false := by simp -implicitDefEqProofs (maxSteps := 10000000) only [stRight, hx, rkA, rkB, stepA, valA, simprocAttr]
    rw [hs]
    by_cases h1 : 1 ≤ x.length
    · have h1' : (1 : Int) ≤ (x.length : Int) := by omega
      have h2 : ¬ (x.length : Int) ≤ 4 := by omega
      simp -implicitDefEqProofs (maxSteps := 10000000) only [e, h1', h2, rkA, rkB, stepA, valA, simprocAttr]
    · have h1' : ¬ (1 : Int) ≤ (x.length : Int) := by omega
      simp -implicitDefEqProofs (maxSteps := 10000000) only [e, h1', rkA, rkB, stepA, valA, simprocAttr]

theorem stRight_nat {k n : Nat} {m : Nat} (h : m = n * n) : stRight k n n m = decide (1 ≤ k ∧ k ≤ 4 ∧ k = n) := by
  by_cases hk : 1 ≤ k ∧ k ≤ 4
  · by_cases e : k = n
    · subst e
      have := right_nat (R := k) (K := k) (n := m) (by omega) (by omega) h
      simp [stRight, hk, this]
    · have e2 : ((n : Int) == (k : Int)) = false := by simp; omega
      simp [stRight, e2, e]
  · have : ¬ (1 ≤ k ∧ k ≤ 4 ∧ k = n) := by omega
    simp [stRight, hk, this]

theorem sqF_len (n : Nat) (l : List Fr) : (sqF n l).length = n * n := by
  rw [sqF, mirF, gridP_length]
  simp
/-! ### A new state -/
theorem ok58 (ex er : Bool) (x l : List Fr) (n : Nat) (hn : 1 ≤ n ∧ n ≤ 16) (hl : l.length = n * n) (hx : x.length ≤ 5864062014805) :
    Ok Tryz.prog 58 [.sl ex (frs x), matV er n n (frs l)] (if 1 ≤ x.length ∧ x.length ≤ 4 ∧ x.length = n then .tup [stV false false (frs x) n n (frs (sqF n l)), tru true] else .tup [stNil, tru false]) := by
  refine ok_fn mixed Tryz.func58 (code := ?_) (h := h58) ?_ k58 ?_
  rotate_left
  · exact rfl
  unfold h58 initS
  simp -implicitDefEqProofs (maxSteps := 10000000) only [rkA, rkB, stepA, valA, simprocAttr, Tryz.ntmps58, Tryz.results58]
  refine call_fn rfl rfl rfl (ok110 n hn er l hl) ?_
  simp -implicitDefEqProofs (maxSteps := 10000000) only [rkA, rkB, stepA, valA, simprocAttr]
  refine call_fn rfl rfl rfl (ok109 ex x hx) ?_
  simp -implicitDefEqProofs (maxSteps := 10000000) only [rkA, rkB, stepA, valA, simprocAttr]
  refine call_fn rfl rfl rfl (ok118 false false x (sqF n l) n n) ?_
  rw [stRight_nat (sqF_len n l)]
  by_cases h : 1 ≤ x.length ∧ x.length ≤ 4 ∧ x.length = n
  · rw [if_pos h, decide_eq_true h]
    simp -implicitDefEqProofs (maxSteps := 10000000) only [rkA, rkB, stepA, valA, simprocAttr]
  · rw [if_neg h, decide_eq_false h]
    simp -implicitDefEqProofs (maxSteps := 10000000) only [rkA, rkB, stepA, valA, simprocAttr]

/-! ### Turned -/
def turnedF (n : Nat) (m p q : List Fr) : List Fr := mirF n (List.zipWith addF (prodF n n n (prodF n n n m p) (turnF n n m)) q)
theorem turnedF_len (n : Nat) (m p q : List Fr) : (turnedF n m p q).length = n * n := by
  rw [turnedF, mirF, gridP_length]
  simp
theorem ok127 (n : Nat) (hn : 1 ≤ n ∧ n ≤ 16) (e1 e2 e3 : Bool) (m p q : List Fr) (hm : m.length = n * n) (hp : p.length = n * n) (hq : q.length = n * n) :
    Ok Tryz.prog 127 [matV e1 n n (frs m), matV e2 n n (frs p), matV e3 n n (frs q)] (.tup [matV false n n (frs (turnedF n m p q)), tru true]) := by
  have rm := right_sq hn hm
  have rp := right_sq hn hp
  have rq := right_sq hn hq
  have rt := right_turn rm
  refine ok_fn mixed Tryz.func127 (code := ?_) (h := h127) ?_ k127 ?_
  rotate_left
  · exact rfl
  unfold h127 initS
  simp -implicitDefEqProofs (maxSteps := 10000000) only [rkA, rkB, stepA, valA, simprocAttr, Tryz.ntmps127, Tryz.results127]
  have h13 := ok125 e1 e2 n n n n m p
  rw [if_pos ⟨rm, rp, rfl⟩] at h13
  refine call_fn rfl rfl rfl (h13) ?_
  simp -implicitDefEqProofs (maxSteps := 10000000) only [rkA, rkB, stepA, valA, simprocAttr]
  have h25 := ok119 e1 n n m
  rw [if_pos rm] at h25
  refine call_fn rfl rfl rfl (h25) ?_
  simp -implicitDefEqProofs (maxSteps := 10000000) only [rkA, rkB, stepA, valA, simprocAttr]
  have r1 : right (n : Int) (n : Int) (prodF n n n m p).length = true := right_sq hn (by rw [prodF_len]; simp)
  have h13' := ok125 false false n n n n (prodF n n n m p) (turnF n n m)
  rw [if_pos ⟨r1, rt, rfl⟩] at h13'
  refine call_fn rfl rfl rfl (h13') ?_
  simp -implicitDefEqProofs (maxSteps := 10000000) only [rkA, rkB, stepA, valA, simprocAttr]
  have l2 : (prodF n n n (prodF n n n m p) (turnF n n m)).length = n * n := by rw [prodF_len]; simp
  have r2 := right_sq hn l2
  have h27 := ok164 false e3 n n n n (prodF n n n (prodF n n n m p) (turnF n n m)) q
  rw [if_pos ⟨r2, rq, rfl, rfl⟩] at h27
  refine call_fn rfl rfl rfl (h27) ?_
  simp -implicitDefEqProofs (maxSteps := 10000000) only [rkA, rkB, stepA, valA, simprocAttr]
  have h33 := ok157 false n n (List.zipWith addF (prodF n n n (prodF n n n m p) (turnF n n m)) q)
  rw [if_pos ⟨right_sq hn (by rw [List.length_zipWith, l2, hq, Nat.min_self]), rfl⟩] at h33
  refine call_fn rfl rfl rfl (h33) ?_
  simp -implicitDefEqProofs (maxSteps := 10000000) only [rkA, rkB, stepA, valA, simprocAttr, turnedF]
end Go.Proofs.YtbflmeomkfjikaaGreat.A



set_option linter.unusedVariables false
set_option linter.unusedSimpArgs false
set_option maxRecDepth 100000
namespace Go.Proofs.YtbflmeomkfjikaaGreat.A
open Go Go.RowKit Go.Shelf

/-! ### root: may a state be? -/
theorem ok50 (ex ep : Bool) (x l : List Fr) (r c : Int) : Ok Tryz.prog 50 [stV ex ep (frs x) r c (frs l)] (tru (stRight x.length r c l.length)) := by
  refine ok_fn mixed Tryz.func50 (code := ?_) (h := h50) ?_ k50 ?_
  rotate_left
  · exact rfl
  unfold h50 initS
  simp -implicitDefEqProofs (maxSteps := 10000000) only [rkA, rkB, stepA, valA, simprocAttr, Tryz.ntmps50, Tryz.results50]
  have e : (frs x).length = x.length := by simp
  have e' : (frs l).length = l.length := by simp
  by_cases hx : 1 ≤ x.length ∧ x.length ≤ 4
  · have h1 : (1 : Int) ≤ (x.length : Int) := by omega
    have h2 : (x.length : Int) ≤ 4 := by omega
    simp -implicitDefEqProofs (maxSteps := 10000000) only [e, h1, h2, rkA, rkB, stepA, valA, simprocAttr]
    refine call_fn rfl rfl rfl (ok100 ep r c (frs l)) ?_
    rw [e']
    cases hr : right r c l.length with
    | false => simp -implicitDefEqProofs (maxSteps := 10000000) only [stRight, hx, hr, rkA, rkB, stepA, valA, simprocAttr]
    | true =>
      simp -implicitDefEqProofs (maxSteps := 10000000) only [rkA, rkB, stepA, valA, simprocAttr]
      cases h3 : (r == (x.length : Int)) with
      | false => simp -implicitDefEqProofs (maxSteps := 10000000) only [stRight, hx, hr, h3, rkA, rkB, stepA, valA, simprocAttr]
      | true => simp -implicitDefEqProofs (maxSteps := 10000000) only [stRight, hx, hr, h3, rkA, rkB, stepA, valA, simprocAttr]
  · have hs : stRight x.length r c l.length = false := by simp -implicitDefEqProofs (maxSteps := 10000000) only [stRight, hx, rkA, rkB, stepA, valA, simprocAttr]
    rw [hs]
    by_cases h1 : 1 ≤ x.length
    · have h1' : (1 : Int) ≤ (x.length : Int) := by omega
      have h2 : ¬ (x.length : Int) ≤ 4 := by omega
      simp -implicitDefEqProofs (maxSteps := 10000000) only [e, h1', h2, rkA, rkB, stepA, valA, simprocAttr]
    · have h1' : ¬ (1 : Int) ≤ (x.length : Int) := by omega
      simp -implicitDefEqProofs (maxSteps := 10000000) only [e, h1', rkA, rkB, stepA, valA, simprocAttr]

/-! ### Update -/
abbrev newsV' (e a : Fr) : PV := .agg [num e.n, num e.d, tru e.bad, num a.n, num a.d, tru a.bad]
/-- Behind t columns: the rows, what was gathered, and the spread. -/
def upK (n : Nat) (M : Nat → Nat → Fr) (W : Nat → Fr) (r : Fr) : Nat → (Nat → Nat → Fr) × (Nat → Fr) × Fr
  | 0 => (M, fun _ => newF 0 1, r)
  | t + 1 =>
    let p := upK n M W r t
    let j := n - 1 - t
    let b := addF p.2.2 (mulF (W j) (W j))
    (colM p.1 p.2.1 j (rootD p.2.2 b) (rootC (W j) p.2.2 b) n, colE p.1 p.2.1 j (W j) n, b)
theorem upK_succ {n j : Nat} (M : Nat → Nat → Fr) (W : Nat → Fr) (r : Fr) {t : Nat} (h : n - 1 - t = j) : upK n M W r (t + 1) =
    (colM (upK n M W r t).1 (upK n M W r t).2.1 j (rootD (upK n M W r t).2.2 (addF (upK n M W r t).2.2 (mulF (W j) (W j)))) (rootC (W j) (upK n M W r t).2.2 (addF (upK n M W r t).2.2 (mulF (W j) (W j)))) n,
      colE (upK n M W r t).1 (upK n M W r t).2.1 j (W j) n, addF (upK n M W r t).2.2 (mulF (W j) (W j))) := by
  subst h
  rfl
def dotsR (n : Nat) (l h : List Fr) (j : Nat) : Fr := dotF (rowF n n (turnF n n l) j) h
def upR (n : Nat) (l h : List Fr) (r : Fr) : (Nat → Nat → Fr) × (Nat → Fr) × Fr := upK n (startF n n l) (dotsR n l h) r n
def upRS (n : Nat) (l h : List Fr) (r : Fr) : List Fr := ((List.range n).map (rowM n (upR n l h r).1)).flatten
def upRK (n : Nat) (l h : List Fr) (r : Fr) : List Fr := (List.range n).map fun i => divF ((upR n l h r).2.1 i) (upR n l h r).2.2
def upRX (n : Nat) (x l h : List Fr) (r z : Fr) : List Fr := List.zipWith addF x ((upRK n l h r).map (mulF · (subF z (dotF h x))))
theorem upRS_len (n : Nat) (l h : List Fr) (r : Fr) : (upRS n l h r).length = n * n := by
  unfold upRS
  rw [List.length_flatten, List.map_map]
  have e : ∀ k : List Nat, (k.map (List.length ∘ rowM n (upR n l h r).1)).sum = k.length * n := fun k => by
    induction k with
    | nil => simp
    | cons x k ih => rw [List.map_cons, List.sum_cons, ih, List.length_cons, Nat.succ_mul, Nat.add_comm]; show k.length * n + (rowM n (upR n l h r).1 x).length = _; rw [rowM_length]
  rw [e, List.length_range]
/-- Rows in memory, told as values. -/
theorem tells_rows {m : Mem} {c cap q : Nat → Nat} {n w : Nat} {M : Nat → Nat → Fr} (ex : Bool) (h : RowsC m c q n w M) (hcap : ∀ i, i < n → w ≤ cap i) : Tell m (.sl ex ((List.range n).map (rawC c cap w))) (.sl ex (catV ((List.range n).map (rowM w M)))) := by
  have h1 : ∀ l : List Nat, ∀ x ∈ l.map (rawC c cap w), x.cells = [x] := fun l x hx => by
    obtain ⟨i, _, rfl⟩ := List.mem_map.1 hx
    rfl
  have h2 : ∀ l : List (List Fr), ∀ x ∈ catV l, x.cells = [x] := fun l x hx => by
    obtain ⟨i, _, rfl⟩ := List.mem_map.1 hx
    rfl
  refine .slIn (sz := 1) (fun x hx => by rw [h1 _ x hx]; rfl) (fun x hx => by rw [h2 _ x hx]; rfl) (by simp) ?_
  rw [flat_one (h1 _), flat_one (h2 _), catV, List.map_map]
  refine tells_map fun i hi => ?_
  have hi' := List.mem_range.1 hi
  have := tell_row (m := m) (b := c i) (cap := cap i) (q := q i) (l := rowM w M i) (h.row i hi') (by rw [List.length_map, rowM_length]; exact hcap i hi')
  rw [List.length_map, rowM_length] at this
  exact this
theorem newMat_rf {r c : Int} {l : List PV} (hl : RFs (flat l) = true) : ∀ x m', NewMat r c l x m' → RF x = true ∧ ∀ b cells, m' b = some cells → RFs cells = true := by
  rintro x m' ⟨b, cap, q, _, rfl, rfl⟩
  refine ⟨rfl, fun d cells hd => ?_⟩
  by_cases e : d = b
  · subst e
    rw [Mem.put_same] at hd
    cases hd
    exact RFs_append hl (RFs_replicate q)
  · rw [Mem.put_other _ _ e] at hd
    cases hd
set_option maxHeartbeats 4000000 in
theorem ok59 (ex ep eh : Bool) (n : Nat) (x l h : List Fr) (r z : Fr) (hn : 1 ≤ n ∧ n ≤ 4) (hx : x.length = n) (hl : l.length = n * n) (hh : h.length = n) :
    Ok Tryz.prog 59 [stV ex ep (frs x) n n (frs l), .sl eh (frs h), frV r, frV z] (.tup [stV false false (frs (upRX n x l h r z)) n n (frs (upRS n l h r)), newsV' (subF z (dotF h x)) (upR n l h r).2.2, tru true]) := by
  have hn' : 1 ≤ n ∧ n ≤ 16 := by omega
  have hr : right (n : Int) (n : Int) l.length = true := right_sq hn' hl
  refine okt_fn mixed Tryz.func59 (code := ?_) (h := h59) ?_ k59 ?_
  rotate_left
  · exact rfl
  unfold h59 initS
  simp -implicitDefEqProofs (maxSteps := 10000000) only [rkA, rkB, stepA, valA, simprocAttr, Tryz.ntmps59, Tryz.results59]
  have h6 := ok50 ex ep x l n n
  rw [stRight_nat hl, decide_eq_true (show 1 ≤ x.length ∧ x.length ≤ 4 ∧ x.length = n by omega)] at h6
  refine call_fn rfl rfl rfl (h6) ?_
  have lx : (frs x).length = n := by simp [hx]
  have lh : (frs h).length = n := by simp [hh]
  simp -implicitDefEqProofs (maxSteps := 10000000) only [lx, lh, bne_self_eq_false, rkA, rkB, stepA, valA, simprocAttr]
  refine call_fn rfl rfl rfl (ok98 ep n n l) ?_
  simp -implicitDefEqProofs (maxSteps := 10000000) only [rkA, rkB, stepA, valA, simprocAttr]
  refine wp_rfM' (items := rowItems n n l) rfl (itm150 ep n n l hr) (fun sv i s => i ≤ n ∧ ∃ mm c cap q, RowsC mm c q i n (startF n n l) ∧ (∀ a, a < i → n ≤ cap a) ∧ s = ⟨[], [(4, [.v (.sl ex (frs x)), nt n, nt n, .v (.sl ep (frs l))]), (5, [.v (.sl eh (frs h))]), (6, [nt r.n, nt r.d, .v (tru r.bad)]), (7, [nt z.n, nt z.d, .v (tru z.bad)]), (8, [.acc 1008 [], nt 0, nt 0, .acc 4008 []]), (9, [nt 0, nt 0, .v (tru false), nt 0, nt 0, .v (tru false)]), (12, [.acc 1012 ((List.range i).map (rawC c cap n))]), (13, [.acc 1013 []])], [], [(1008, 0), (1012, i), (1013, 0), (4008, 0)], sv, 0, mm⟩) ?_ ?_ ?_
  · simp -implicitDefEqProofs (maxSteps := 10000000) only [rkA, rkB, stepA, valA, simprocAttr]
    exact ⟨Nat.zero_le _, nomem, fun _ => 0, fun _ => 0, fun _ => 0, ⟨fun i h => by omega, fun i j h => by omega⟩, fun a h => by omega, rfl⟩
  · rintro i x' p m s' R hx' ⟨hi, mm, c, cap, q, hM, hcap, rfl⟩ hxm hfr hR
    have hlt : i < n := by
      have := (List.getElem?_eq_some_iff.1 hx').1
      simpa [rowItems] using this
    have hxe : x' = rowItem n n l i := by
      rw [rowItems, List.getElem?_map, List.getElem?_range (by simpa using hlt), Option.map_some] at hx'
      exact (Option.some.inj hx').symm
    subst hxe
    obtain ⟨b, cp, z', h1, rfl, rfl⟩ := hxm
    have hb : mm b = none := hfr b (by rw [Mem.put_same]; rfl)
    have lr : (frs (rowF n n l i)).length = n := by rw [List.length_map, row_start hr hlt, rowM_length]
    rw [lr] at h1
    rw [lr, row_start hr hlt]
    refine ⟨rfl, ?_⟩
    have hfit := fits_raw c cap n i (.s (.slice (some ⟨b, 0, none⟩) n cp)) ⟨_, _, _, rfl⟩ (by omega)
    have hll : ((List.range i).map (rawC c cap n)).length = i := by simp
    simp -implicitDefEqProofs (maxSteps := 10000000) only [hfit, hll, raw_grow, rkA, rkB, stepA, valA, simprocAttr]
    refine hR _ ⟨by omega, _, _, _, _, hM.grow (z := z') hb, fun a ha => ?_, rfl⟩
    by_cases e : a = i
    · simp only [e, if_true]; exact h1
    · simp only [e, if_false]; exact hcap a (by omega)
  rintro s' ⟨hi, mm, c, cap, q, hM, hcap, rfl⟩
  have li : (rowItems n n l).length = n := by simp [rowItems]
  rw [li] at hM hcap ⊢
  clear hi
  simp -implicitDefEqProofs (maxSteps := 10000000) only [rkA, rkB, stepA, valA, simprocAttr]
  have h25 := ok119 ep n n l
  rw [if_pos hr] at h25
  refine call_fn rfl rfl rfl (h25) ?_
  simp -implicitDefEqProofs (maxSteps := 10000000) only [rkA, rkB, stepA, valA, simprocAttr]
  have hrt := right_turn hr
  refine call_fn rfl rfl rfl (ok98 false n n (turnF n n l)) ?_
  simp -implicitDefEqProofs (maxSteps := 10000000) only [rkA, rkB, stepA, valA, simprocAttr]
  have lt : (rowsF n n (turnF n n l)).length = n := by rw [rowsF_length hrt, Int.toNat_natCast]
  refine wp_rf' (items := rowsF n n (turnF n n l)) rfl (it150 false n n (turnF n n l)) (fun sv i s => i ≤ n ∧ s = ⟨[], [(4, [.v (.sl ex (frs x)), nt n, nt n, .v (.sl ep (frs l))]), (5, [.v (.sl eh (frs h))]), (6, [nt r.n, nt r.d, .v (tru r.bad)]), (7, [nt z.n, nt z.d, .v (tru z.bad)]), (8, [.acc 1008 [], nt 0, nt 0, .acc 4008 []]), (9, [nt 0, nt 0, .v (tru false), nt 0, nt 0, .v (tru false)]), (12, [.acc 1012 ((List.range n).map (rawC c cap n))]), (13, [.acc 1013 (frs ((List.range i).map (dotsR n l h)))])], [], [(1008, 0), (1012, n), (1013, i), (4008, 0)], sv, 0, mm⟩) ?_ ?_ ?_
  · simp -implicitDefEqProofs (maxSteps := 10000000) only [rkA, rkB, stepA, valA, simprocAttr]
    exact Nat.zero_le _
  · rintro i x' s' R hx' ⟨hi, rfl⟩ hR
    obtain ⟨hlt, rfl, hxa⟩ := rowsF_all hrt hx'
    rw [Int.toNat_natCast] at hlt
    have hrl := rowF_len hrt (i := i) (by simpa using hlt)
    rw [Int.toNat_natCast] at hrl
    refine ⟨rfl, ?_⟩
    simp -implicitDefEqProofs (maxSteps := 10000000) only [rkA, rkB, stepA, valA, simprocAttr]
    refine call_fn rfl rfl rfl (ok76 false eh (rowF n n (turnF n n l) i) h (by omega) (by omega)) ?_
    have hd : dotF (rowF n n (turnF n n l) i) h = dotsR n l h i := rfl
    have hfit : fits 3 24 (frs ((List.range i).map (dotsR n l h))) [frV (dotsR n l h i)] = true := fits_frs (l := [dotsR n l h i]) (by simp; omega)
    have hll : (frs ((List.range i).map (dotsR n l h))).length = i := by simp
    simp -implicitDefEqProofs (maxSteps := 10000000) only [hd, hfit, hll, rkA, rkB, stepA, valA, simprocAttr]
    refine hR _ ⟨by omega, ?_⟩
    rw [List.range_succ, List.map_append]
    simp only [frs, List.map_append, List.map_cons, List.map_nil]
  rintro s' ⟨hi, rfl⟩
  rw [lt]
  clear hi
  simp -implicitDefEqProofs (maxSteps := 10000000) only [rkA, rkB, stepA, valA, simprocAttr]
  refine new_make (T := 24) (N := 3) rfl rfl rfl rfl rfl (by omega) (by omega) (by omega) ?_
  intro b hb
  have hb' : mm b = none := hb
  have hcb : ∀ i, i < n → c i ≠ b := fun i hi e => by have := hM.row i hi; rw [e, hb'] at this; cases this
  have n0 : (0 : Int) ≤ (n : Int) := by omega
  have n1 : (n : Int) * 8 ≤ 140737488355328 := by omega
  have n2 : (n : Int) ≤ 16777216 := by omega
  simp -implicitDefEqProofs (maxSteps := 10000000) only [Int.toNat_natCast, flat_zeros, n0, n1, n2, rkA, rkB, stepA, valA, simprocAttr]
  have h35 := ok39 true (List.replicate n 0) (by simp; omega)
  rw [List.map_replicate, List.map_replicate] at h35
  refine call_fn rfl rfl rfl (h35) ?_
  simp -implicitDefEqProofs (maxSteps := 10000000) only [rkA, rkB, stepA, valA, simprocAttr]
  have lz : (flat (frs (List.replicate n (⟨0, 0, false⟩ : Fr)))).length = n * 3 := by rw [flat_length (frs_cells _)]; simp
  have lf : (flat (frs (List.replicate n (newF 0 1)))).length = n * 3 := by rw [flat_length (frs_cells _)]; simp
  refine copy_of (ys := frs (List.replicate n (newF 0 1))) rfl rfl (.same _) (RFs_frs _) (Mem.put_same _ _ _) (frs_ok _) (by simp) (by rw [lz, lf]; omega) ?_
  have hdr : (flat (frs (List.replicate n (⟨0, 0, false⟩ : Fr)))).drop (flat (frs (List.replicate n (newF 0 1)))).length = [] := List.drop_of_length_le (by rw [lz, lf]; omega)
  have hM2 : RowsC ((mm.put b (flat (frs (List.replicate n (⟨0, 0, false⟩ : Fr))))).put b (flat (frs (List.replicate n (newF 0 1))))) c q n n (startF n n l) := (hM.other hcb).other hcb
  have hrep : List.replicate n (newF 0 1) = (List.range n).map (fun _ => newF 0 1) := by
    apply List.ext_getElem?
    intro i
    by_cases hi : i < n
    · simp [hi]
    · rw [List.getElem?_eq_none (by simp; omega), List.getElem?_eq_none (by simp; omega)]
  have hE2 : ((mm.put b (flat (frs (List.replicate n (⟨0, 0, false⟩ : Fr))))).put b (flat (frs (List.replicate n (newF 0 1))))) b = some (flat (frs ((List.range n).map (upK n (startF n n l) (dotsR n l h) r 0).2.1))) := by
    rw [Mem.put_same, hrep]
    rfl
  generalize hmm : (mm.put b (flat (frs (List.replicate n (⟨0, 0, false⟩ : Fr))))).put b (flat (frs (List.replicate n (newF 0 1)))) = mm1 at hM2 hE2
  have w1 := wrapped (x := (n : Int) - 1) (by omega) (by omega)
  simp -implicitDefEqProofs (maxSteps := 10000000) only [Nat.zero_add, hdr, List.append_nil, hmm, w1, rkA, rkB, stepA, valA, simprocAttr]
  clear hmm hb hb' hM hrep hdr lz lf
  refine wp_loop (fun m s => ∃ (t : Nat) (mm : Mem) (A : Fr), t + m = n ∧ A = (upK n (startF n n l) (dotsR n l h) r t).2.2 ∧ RowsC mm c q n n (upK n (startF n n l) (dotsR n l h) r t).1 ∧ mm b = some (flat (frs ((List.range n).map (upK n (startF n n l) (dotsR n l h) r t).2.1))) ∧
    s = ⟨[jk, jk, jk, jk, .ptr 4 0, .ptr 5 0, jk, .ptr 7 0, .ptr 8 0, .ptr 9 0, jk, nt n, .ptr 12 0, .ptr 13 0, jk, jk, jk, jk, .v (.s (.slice (some ⟨b, 0, none⟩) n n)), .ptr 19 0, nt ((m : Int) - 1), jk, jk, jk, jk, jk, jk, jk, jk, jk, jk, jk, jk, jk, jk, jk, jk, jk, jk, jk, jk, jk, jk, jk, jk, jk, jk, jk, jk, jk, jk, jk, jk, jk, jk, jk, jk, jk, jk, jk, jk, jk, jk, jk, jk, jk, jk, jk, jk, jk, jk, jk, jk, jk, jk, jk, jk, jk, jk, jk, jk, jk, jk, jk, jk, jk, jk, jk, jk, jk, jk, jk, jk, jk, jk, jk, jk, jk, jk, jk, jk, jk, jk, jk, jk, jk, jk, jk, jk, jk, jk, jk, jk, jk, jk, jk, jk, jk, jk, jk, jk, jk, jk, jk, jk, jk, jk, jk, jk, jk, jk, jk, jk, jk, jk, jk, jk, jk, jk, jk, jk, jk],
      [(4, [.v (.sl ex (frs x)), nt n, nt n, .v (.sl ep (frs l))]), (5, [.v (.sl eh (frs h))]), (6, [nt r.n, nt r.d, .v (tru r.bad)]), (7, [nt z.n, nt z.d, .v (tru z.bad)]), (8, [.acc 1008 [], nt 0, nt 0, .acc 4008 []]), (9, [nt 0, nt 0, .v (tru false), nt 0, nt 0, .v (tru false)]), (12, [.acc 1012 ((List.range n).map (rawC c cap n))]), (13, [.acc 1013 (frs ((List.range n).map (dotsR n l h)))]), (19, [nt A.n, nt A.d, .v (tru A.bad)])], [], [(1008, 0), (1012, n), (1013, n), (4008, 0)], [], 0, mm⟩) n ?_ ?_
  · simp -implicitDefEqProofs (maxSteps := 10000000) only [rkA, rkB, stepA, valA, simprocAttr]
    exact ⟨0, mm1, r, by omega, rfl, hM2, hE2, rfl⟩
  clear hM2 hE2 mm1
  rintro m s ⟨t, mm, A, htm, hA, hM, hE, rfl⟩
  simp -implicitDefEqProofs (maxSteps := 10000000) only [rkA, rkB, stepA, valA, simprocAttr]
  refine gB_dec ?_ ?_ <;> intro hc <;> simp -implicitDefEqProofs (maxSteps := 10000000) only [hc, rkA, rkB, stepA, valA, simprocAttr]
  · obtain ⟨j, rfl⟩ : ∃ j, m = j + 1 := ⟨m - 1, by omega⟩
    have hj : j < n := by omega
    have ej : ((j + 1 : Nat) : Int) - 1 = (j : Int) := by omega
    have h0j : (0 : Int) ≤ (j : Int) := by omega
    have gw : (frs ((List.range n).map (dotsR n l h)))[j]? = some (frV (dotsR n l h j)) := by simp [hj]
    simp -implicitDefEqProofs (maxSteps := 10000000) only [ej, h0j, Int.toNat_natCast, gw, rkA, rkB, stepA, valA, simprocAttr]
    refine call_meth rfl rfl methMul (ok213 _ _) ?_
    simp -implicitDefEqProofs (maxSteps := 10000000) only [rkA, rkB, stepA, valA, simprocAttr]
    refine call_meth rfl rfl methAdd (ok210 _ _) ?_
    simp -implicitDefEqProofs (maxSteps := 10000000) only [h0j, Int.toNat_natCast, gw, rkA, rkB, stepA, valA, simprocAttr]
    generalize hB : addF A (mulF (dotsR n l h j) (dotsR n l h j)) = B
    refine mem_fn rfl rfl rfl (okm120 false n j hj (by omega) _ _ (dotsR n l h j) A B c cap q hcap b mm hM hE hcb) ?_
    rintro r' m' ⟨hM', hE'⟩
    have w2 := wrapped (x := (j : Int) - 1) (by omega) (by omega)
    simp -implicitDefEqProofs (maxSteps := 10000000) only [w2, rkA, rkB, stepA, valA, simprocAttr]
    refine loopK_of (m' := j) (by omega) ?_
    simp -implicitDefEqProofs (maxSteps := 10000000) only [rkA, rkB, stepA, valA, simprocAttr]
    have hup := upK_succ (startF n n l) (dotsR n l h) r (show n - 1 - t = j by omega)
    rw [← hA, hB] at hup
    exact ⟨t + 1, m', B, by omega, by rw [hup], by rw [hup]; exact hM', by rw [hup]; exact hE', rfl⟩
  · have ht : t = n := by omega
    rw [ht] at hA hM hE
    refine call_fn rfl rfl rfl (ok76 eh ex h x (by omega) (by omega)) ?_
    simp -implicitDefEqProofs (maxSteps := 10000000) only [rkA, rkB, stepA, valA, simprocAttr]
    refine call_meth rfl rfl methSub (ok218 _ _) ?_
    generalize hz : subF z (dotF h x) = Z
    generalize hU : upK n (startF n n l) (dotsR n l h) r n = U at hA hM hE
    have hUR : upR n l h r = U := hU
    simp -implicitDefEqProofs (maxSteps := 10000000) only [rkA, rkB, stepA, valA, simprocAttr]
    have hkl : ((List.range n).map fun i => divF (U.2.1 i) A).length = n := by simp
    refine wp_loop (fun m s => ∃ (i : Nat), i + m = n ∧
      s = ⟨[jk, jk, jk, jk, .ptr 4 0, jk, jk, jk, .ptr 8 0, .ptr 9 0, jk, nt n, .ptr 12 0, jk, jk, jk, jk, jk, jk, .ptr 19 0, jk, jk, .ptr 22 0, .acc 23 (frs ((List.range i).map fun i => divF (U.2.1 i) A)), jk, jk, jk, jk, jk, jk, jk, jk, jk, jk, jk, jk, jk, jk, jk, jk, jk, jk, jk, jk, jk, jk, jk, jk, jk, jk, jk, jk, jk, jk, jk, jk, jk, jk, jk, jk, jk, jk, jk, jk, jk, jk, jk, jk, jk, jk, jk, jk, jk, jk, jk, jk, jk, jk, jk, jk, jk, jk, jk, jk, jk, jk, jk, jk, jk, jk, jk, jk, jk, jk, jk, jk, jk, jk, jk, jk, jk, jk, jk, jk, jk, jk, jk, jk, jk, jk, .v (.s (.slice (some ⟨b, 0, none⟩) n n)), nt n, nt i, jk, jk, jk, jk, jk, jk, jk, jk, jk, jk, jk, jk, jk, jk, jk, jk, jk, jk, jk, jk, jk, jk, jk, jk, jk, jk, jk, jk, jk],
        [(4, [.v (.sl ex (frs x)), nt n, nt n, .v (.sl ep (frs l))]), (5, [.v (.sl eh (frs h))]), (6, [nt r.n, nt r.d, .v (tru r.bad)]), (7, [nt z.n, nt z.d, .v (tru z.bad)]), (8, [.acc 1008 [], nt 0, nt 0, .acc 4008 []]), (9, [nt 0, nt 0, .v (tru false), nt 0, nt 0, .v (tru false)]), (12, [.acc 1012 ((List.range n).map (rawC c cap n))]), (13, [.acc 1013 (frs ((List.range n).map (dotsR n l h)))]), (19, [nt A.n, nt A.d, .v (tru A.bad)]), (22, [nt Z.n, nt Z.d, .v (tru Z.bad), nt A.n, nt A.d, .v (tru A.bad)])], [], [(23, i), (1008, 0), (1012, n), (1013, n), (4008, 0)], [], 0, mm⟩) n ?_ ?_
    · simp -implicitDefEqProofs (maxSteps := 10000000) only [rkA, rkB, stepA, valA, simprocAttr]
      exact ⟨0, by omega, rfl⟩
    rintro m s ⟨i, him, rfl⟩
    simp -implicitDefEqProofs (maxSteps := 10000000) only [rkA, rkB, stepA, valA, simprocAttr]
    refine gB_dec ?_ ?_ <;> intro hc <;> simp -implicitDefEqProofs (maxSteps := 10000000) only [hc, rkA, rkB, stepA, valA, simprocAttr]
    · have hi : i < n := by omega
      have h0i : (0 : Int) ≤ (i : Int) := by omega
      have hin : (i : Int) < (n : Int) := by omega
      have hle : ((List.range n).map U.2.1)[i]? = some (U.2.1 i) := by simp [hi]
      have hlde := ldM_fr hle
      simp -implicitDefEqProofs (maxSteps := 10000000) only [h0i, hin, Int.toNat_natCast, addr_add, Nat.zero_add, hE, hlde, rkA, rkB, stepA, valA, simprocAttr]
      refine call_meth rfl rfl methDiv (ok211 _ _) ?_
      have hfit : fits 3 24 (frs ((List.range i).map fun i => divF (U.2.1 i) A)) [frV (divF (U.2.1 i) A)] = true := fits_frs (l := [divF (U.2.1 i) A]) (by simp; omega)
      have hll : (frs ((List.range i).map fun i => divF (U.2.1 i) A)).length = i := by simp
      have hw := wrapped (x := (i : Int) + 1) (by omega) (by omega)
      simp -implicitDefEqProofs (maxSteps := 10000000) only [hfit, hll, hw, rkA, rkB, stepA, valA, simprocAttr]
      refine loopK_of (m' := m - 1) (by omega) ?_
      simp -implicitDefEqProofs (maxSteps := 10000000) only [rkA, rkB, stepA, valA, simprocAttr]
      refine ⟨i + 1, by omega, ?_⟩
      rw [List.range_succ, List.map_append]
      simp only [frs, List.map_append, List.map_cons, List.map_nil, Int.natCast_add, Int.natCast_one]
    · have hin : i = n := by omega
      rw [hin]
      have hcat : ((List.range n).map (rowM n U.1)).flatten = upRS n l h r := by rw [upRS, hUR]
      have hcl := upRS_len n l h r
      have hsq := side16 (n := n) (m := n) (by omega) (by omega)
      have hpos : 0 < n * n := Nat.mul_pos (by omega) (by omega)
      have hne : upRS n l h r ≠ [] := fun e => by rw [e] at hcl; simp at hcl; omega
      have hcc := okn121 false ((List.range n).map (rowM n U.1)) (by rw [hcat]; exact hne) (by rw [hcat, hcl]; omega) (by simp; omega)
      rw [hcat] at hcc
      refine newRow_fn rfl rfl (.cons (tells_rows false hM hcap) .nil) hcc (RFs_frs _) (by simpa using hne) ?_
      intro c2 cap2 q2 hc2 hcap2
      simp -implicitDefEqProofs (maxSteps := 10000000) only [rkA, rkB, stepA, valA, simprocAttr]
      have hrs : right (n : Int) (n : Int) (upRS n l h r).length = true := right_sq hn' hcl
      refine lendNew_fn rfl rfl (.cons (.same _) (.cons (.same _) (.cons (tell_row (Mem.put_same _ _ _) hcap2) .nil))) (okm71 n n false (upRS n l h r) hrs) (newMat_rf (RFs_frs _)) ?_
      rintro y m' ⟨b3, cap3, q3, hcap3, rfl, rfl⟩ hfr
      simp -implicitDefEqProofs (maxSteps := 10000000) only [rkA, rkB, stepA, valA, simprocAttr]
      have hk : ((List.range n).map fun i => divF (U.2.1 i) A) = upRK n l h r := by rw [upRK, hUR, ← hA]
      have hkl : (upRK n l h r).length = n := by simp [upRK]
      rw [hk]
      refine call_fn rfl rfl rfl (ok123 false (upRK n l h r) Z (by omega)) ?_
      simp -implicitDefEqProofs (maxSteps := 10000000) only [rkA, rkB, stepA, valA, simprocAttr]
      refine call_fn rfl rfl rfl (ok122 ex false x ((upRK n l h r).map (mulF · Z)) (by omega) (by simp; omega)) ?_
      simp -implicitDefEqProofs (maxSteps := 10000000) only [rkA, rkB, stepA, valA, simprocAttr]
      refine ⟨_, rfl, ?_⟩
      rw [upRX, hz, hUR, ← hA]
      exact .tup (.cons (.agg (.cons (.same _) (.cons (.same _) (.cons (.same _) (.cons (tell_row (Mem.put_same _ _ _) hcap3) .nil))))) (.cons (.same _) (.cons (.same _) .nil)))
end Go.Proofs.YtbflmeomkfjikaaGreat.A


set_option linter.unusedVariables false
set_option linter.unusedSimpArgs false
set_option maxRecDepth 100000
namespace Go.Proofs.YtbflmeomkfjikaaGreat.A
open Go Go.RowKit Go.Shelf

/-! ### The document's answers, of whole numbers -/
def clearH (l : List Int) (n i k : Nat) : Int := if i < k then 0 else l.getD (i * n + k) 0
def clearI (l : List Int) (n : Nat) : List Int := gridP (clearH l n) n n 0
theorem ok18 (e : Bool) (l : List Int) (n : Nat) (hn : n ≤ 16) (hl : l.length = n * n) : Ok Tryz.prog 18 [.sl e (l.map num), num n] (.sl false ((clearI l n).map num)) := by
  refine ok_fn mixed Tryz.func18 (code := ?_) (h := h18) ?_ k18 ?_
  rotate_left
  · exact rfl
  unfold h18 initS
  simp -implicitDefEqProofs only [rkA, rkB, stepA, valA, simprocAttr, Tryz.ntmps18, Tryz.results18]
  have hlen := gridP_length (clearH l n) n
  have hbig : ∀ i k, i ≤ n → k ≤ n → i * n + k ≤ 272 := fun i k h1 h2 => by
    have : i * n ≤ 16 * 16 := Nat.mul_le_mul (by omega) (by omega)
    omega
  have s3 := side16 hn hn
  refine wp_loop (fun m s => ∃ i : Nat, i + m = n ∧ s = ⟨[.v (.sl e (l.map num)), .v (num n), jk, jk, jk, .acc 5 ((gridP (clearH l n) n i 0).map num), nt i, jk, jk, jk, jk, jk, jk, jk, jk, jk, jk, jk, jk, jk, jk, jk, jk, jk, jk, jk, jk, jk, jk, jk, jk, jk, jk, jk, jk, jk], [], [], [(4, 0), (5, (gridP (clearH l n) n i 0).length)], [], 0, nomem⟩) n ?_ ?_
  · simp -implicitDefEqProofs only [rkA, rkB, stepA, valA, simprocAttr]
    exact ⟨0, by simp, rfl⟩
  rintro m s ⟨i, hi, rfl⟩
  simp -implicitDefEqProofs only [rkA, rkB, stepA, valA, simprocAttr]
  refine gB_dec ?_ ?_ <;> intro hc <;> simp -implicitDefEqProofs only [hc, rkA, rkB, stepA, valA, simprocAttr]
  · refine wp_loop (fun m s => ∃ k : Nat, k + m = n ∧ s = ⟨[.v (.sl e (l.map num)), .v (num n), jk, jk, jk, .acc 5 ((gridP (clearH l n) n i k).map num), nt i, nt k, jk, jk, jk, jk, jk, jk, jk, jk, jk, jk, jk, jk, jk, jk, jk, jk, jk, jk, jk, jk, jk, jk, jk, jk, jk, jk, jk, jk], [], [], [(4, 0), (5, (gridP (clearH l n) n i k).length)], [], 0, nomem⟩) n ?_ ?_
    · simp -implicitDefEqProofs only [rkA, rkB, stepA, valA, simprocAttr]
      exact ⟨0, by simp, rfl⟩
    rintro m' s ⟨k, hk, rfl⟩
    simp -implicitDefEqProofs only [rkA, rkB, stepA, valA, simprocAttr]
    refine gB_dec ?_ ?_ <;> intro hc2 <;> simp -implicitDefEqProofs only [hc2, rkA, rkB, stepA, valA, simprocAttr]
    · have hl1 := hlen i k
      have hb := hbig i k (by omega) (by omega)
      have hfit : ∀ x : Int, fits 1 8 ((gridP (clearH l n) n i k).map num) [num x] = true := fun x => fits_num (l := [x]) (by simp only [List.length_cons, List.length_nil]; omega)
      have hl' : ((gridP (clearH l n) n i k).map num).length = (gridP (clearH l n) n i k).length := by simp
      have hw := wrapped (x := (k : Int) + 1) (by omega) (by omega)
      have t := at_table (i := i) (j := k) (n := n) (m := n) (by omega) (by omega)
      have c1 : (i : Int) * (n : Int) = ((i * n : Nat) : Int) := by simp
      have c3 : ((i * n : Nat) : Int) + (k : Int) = ((i * n + k : Nat) : Int) := by simp
      have w1 := wrapped (x := ((i * n : Nat) : Int)) (by omega) (by omega)
      have w3 := wrapped (x := ((i * n + k : Nat) : Int)) (by omega) (by omega)
      have g1 := at_num (a := l) (i := i * n + k) (by omega)
      have n1 : (0 : Int) ≤ ((i * n + k : Nat) : Int) := by omega
      refine gB_dec ?_ ?_ <;> intro hc3 <;> simp -implicitDefEqProofs only [hc3, hfit, hl', hw, rkA, rkB, stepA, valA, simprocAttr]
      · have e0 : clearH l n i k = 0 := if_pos (by omega)
        refine loopK_of (m' := m' - 1) (by omega) ?_
        simp -implicitDefEqProofs only [rkA, rkB, stepA, valA, simprocAttr]
        refine ⟨k + 1, by omega, ?_⟩
        rw [gridP_succ]
        simp only [e0, List.map_append, List.map_cons, List.map_nil, List.length_append, List.length_cons, List.length_nil, Int.natCast_add, Int.natCast_one]
      · have e0 : clearH l n i k = l.getD (i * n + k) 0 := if_neg (by omega)
        simp -implicitDefEqProofs only [c1, w1, c3, w3, n1, Int.toNat_natCast, g1, hfit, hl', hw, rkA, rkB, stepA, valA, simprocAttr]
        refine loopK_of (m' := m' - 1) (by omega) ?_
        simp -implicitDefEqProofs only [rkA, rkB, stepA, valA, simprocAttr]
        refine ⟨k + 1, by omega, ?_⟩
        rw [gridP_succ]
        simp only [e0, List.map_append, List.map_cons, List.map_nil, List.length_append, List.length_cons, List.length_nil, Int.natCast_add, Int.natCast_one]
    · have hkr : k = n := by omega
      have hw := wrapped (x := (i : Int) + 1) (by omega) (by omega)
      simp -implicitDefEqProofs only [hw, rkA, rkB, stepA, valA, simprocAttr]
      refine loopK_of (m' := m - 1) (by omega) ?_
      simp -implicitDefEqProofs only [rkA, rkB, stepA, valA, simprocAttr]
      refine ⟨i + 1, by omega, ?_⟩
      rw [hkr, gridP_next]
      simp only [Int.natCast_add, Int.natCast_one]
  · have : i = n := by omega
    subst this
    rfl
/-! ### What the document fixes of a root -/
end Go.Proofs.YtbflmeomkfjikaaGreat.A


set_option linter.unusedVariables false
set_option linter.unusedSimpArgs false
set_option maxRecDepth 100000
namespace Go.Proofs.YtbflmeomkfjikaaGreat.A
open Go Go.RowKit Go.Shelf

/-- A matrix applied to a row. -/
def applyF (r c : Int) (l v : List Fr) : List Fr := (allF r c l).map (dotF · v)

theorem ok41 (ex ev : Bool) (r c : Int) (l v : List Fr) (hv : v.length ≤ 5864062014805) : Ok Tryz.prog 41 [matV ex r c (frs l), .sl ev (frs v)]
    (if right r c l.length = true ∧ (v.length : Int) = c then .tup [.sl false (frs (applyF r c l v)), tru true] else .tup [.sl false [], tru false]) := by
  refine ok_fn mixed Tryz.func41 (code := ?_) (h := h41) ?_ k41 ?_
  rotate_left
  · exact rfl
  unfold h41 initS
  simp -implicitDefEqProofs only [rkA, rkB, stepA, valA, simprocAttr, Tryz.ntmps41, Tryz.results41]
  refine call_fn rfl rfl rfl (ok100 ex r c (frs l)) ?_
  have e : (frs l).length = l.length := by simp
  have ev' : (frs v).length = v.length := by simp
  rw [e]
  cases hr : right r c l.length with
  | false => simp -implicitDefEqProofs only [rkA, rkB, stepA, valA, simprocAttr]
  | true =>
    obtain ⟨r1, r2, c1, c2, hn⟩ := right_spec hr
    simp -implicitDefEqProofs only [ev', rkA, rkB, stepA, valA, simprocAttr]
    refine gB_bool ?_ ?_ <;> intro hb
    · have hm : ¬ (v.length : Int) = c := by simpa using hb
      simp -implicitDefEqProofs only [hm, rkA, rkB, stepA, valA, simprocAttr]
    · have hm : (v.length : Int) = c := by simpa using hb
      clear hb
      simp -implicitDefEqProofs only [hm, rkA, rkB, stepA, valA, simprocAttr]
      refine call_fn rfl rfl rfl (ok98 ex r c l) ?_
      simp -implicitDefEqProofs only [rkA, rkB, stepA, valA, simprocAttr]
      have hal : (applyF r c l v).length = r.toNat := by simp [applyF, allF]
      have hll : l.length ≤ 256 := by
        have : r * c ≤ 16 * 16 := Int.mul_le_mul r2 c2 (by omega) (by omega)
        omega
      refine wp_rf' (items := rowsF r c l) rfl (it150 ex r c l) (fun sv i s => i ≤ r.toNat ∧ s = ⟨[], [(2, [nt r, nt c, .v (.sl ex (frs l))]), (3, [.v (.sl ev (frs v))]), (6, [.acc 1006 (frs ((applyF r c l v).take i))])], [], [(4, 0), (1006, i)], sv, 0, nomem⟩) ?_ ?_ ?_
      · simp -implicitDefEqProofs only [rkA, rkB, stepA, valA, simprocAttr]
        exact Nat.zero_le _
      · rintro i x' s' R hx ⟨hi, rfl⟩ hR
        obtain ⟨hlt, rfl, hxi⟩ := rowsF_all hr hx
        refine ⟨rfl, ?_⟩
        simp -implicitDefEqProofs only [rkA, rkB, stepA, valA, simprocAttr]
        have hra := rowF_length (r := r) (c := c) (l := l) i
        refine call_fn rfl rfl rfl (ok76 false ev (rowF r c l i) v (by omega) hv) ?_
        have hfit : fits 3 24 (frs ((applyF r c l v).take i)) [frV (dotF (rowF r c l i) v)] = true := fits_frs (l := [dotF (rowF r c l i) v]) (by simp only [List.length_cons, List.length_nil, List.length_take]; omega)
        have hl : (frs ((applyF r c l v).take i)).length = i := by simp; omega
        simp -implicitDefEqProofs only [hfit, hl, rkA, rkB, stepA, valA, simprocAttr]
        refine hR _ ⟨by omega, ?_⟩
        have hai : (applyF r c l v)[i]'(by omega) = dotF (rowF r c l i) v := by simp [applyF, allF]
        rw [List.take_succ_eq_append_getElem (by omega), hai]
        simp only [frs, List.map_append, List.map_cons, List.map_nil]
      · rintro s' ⟨hi, rfl⟩
        simp -implicitDefEqProofs only [rkA, rkB, stepA, valA, simprocAttr]
        rw [rowsF_length hr, List.take_of_length_le (by omega)]

end Go.Proofs.YtbflmeomkfjikaaGreat.A



set_option linter.unusedVariables false
set_option linter.unusedSimpArgs false
set_option maxRecDepth 100000
namespace Go.Proofs.YtbflmeomkfjikaaGreat.A
open Go Go.RowKit Go.Shelf

/-! ### Predict -/
theorem applyF_len (n : Nat) (l v : List Fr) : (applyF n n l v).length = n := by simp [applyF, allF]
end Go.Proofs.YtbflmeomkfjikaaGreat.A



set_option linter.unusedVariables false
set_option linter.unusedSimpArgs false
set_option maxRecDepth 100000
namespace Go.Proofs.YtbflmeomkfjikaaGreat.A
open Go Go.RowKit Go.Shelf

/-! ### Update -/
abbrev newsV (e a : Fr) : PV := .agg [num e.n, num e.d, tru e.bad, num a.n, num a.d, tru a.bad]
section
variable (n : Nat) (x p h : List Fr) (r z : Fr)
def uF : List Fr := applyF n n p h
def spreadF : Fr := addF (dotF h (uF n p h)) r
def surpriseF : Fr := subF z (dotF h x)
def kF : List Fr := (uF n p h).map (divF · (spreadF n p h r))
def unitF : List Fr := (unitP n n).map (newF · 1)
def mF : List Fr := List.zipWith subF (unitF n) (prodF n 1 n (kF n p h r) h)
def krkF : List Fr := prodF n 1 n ((kF n p h r).map (mulF · r)) (turnF n 1 (kF n p h r))
def upP : List Fr := turnedF n (mF n p h r) p (krkF n p h r)
def upX : List Fr := List.zipWith addF x ((kF n p h r).map (mulF · (surpriseF x h z)))
end
theorem uF_len (n : Nat) (p h : List Fr) : (uF n p h).length = n := applyF_len n p h
theorem kF_len (n : Nat) (p h : List Fr) (r : Fr) : (kF n p h r).length = n := by rw [kF, List.length_map, uF_len]
set_option maxHeartbeats 2000000 in
theorem ok60 (ex ep eh : Bool) (n : Nat) (x p h : List Fr) (r z : Fr) (hn : 1 ≤ n ∧ n ≤ 4) (hx : x.length = n) (hp : p.length = n * n) (hh : h.length = n) :
    Ok Tryz.prog 60 [stV ex ep (frs x) n n (frs p), .sl eh (frs h), frV r, frV z] (.tup [stV false false (frs (upX n x p h r z)) n n (frs (upP n p h r)), newsV (surpriseF x h z) (spreadF n p h r), tru true]) := by
  have hn' : 1 ≤ n ∧ n ≤ 16 := by omega
  refine ok_fn mixed Tryz.func60 (code := ?_) (h := h60) ?_ k60 ?_
  rotate_left
  · exact rfl
  unfold h60 initS
  simp -implicitDefEqProofs (maxSteps := 10000000) only [rkA, rkB, stepA, valA, simprocAttr, Tryz.ntmps60, Tryz.results60]
  have h6 := ok118 ex ep x p n n
  rw [stRight_nat hp, decide_eq_true (show 1 ≤ x.length ∧ x.length ≤ 4 ∧ x.length = n by omega)] at h6
  refine call_fn rfl rfl rfl (h6) ?_
  have lx : (frs x).length = n := by simp [hx]
  have lh : (frs h).length = n := by simp [hh]
  simp -implicitDefEqProofs (maxSteps := 10000000) only [lx, lh, bne_self_eq_false, rkA, rkB, stepA, valA, simprocAttr]
  have h22 := ok41 ep eh n n p h (by omega)
  rw [if_pos ⟨right_sq hn' hp, by simp [hh]⟩] at h22
  refine call_fn rfl rfl rfl (h22) ?_
  simp -implicitDefEqProofs (maxSteps := 10000000) only [rkA, rkB, stepA, valA, simprocAttr]
  refine call_fn rfl rfl rfl (ok76 eh false h (applyF n n p h) (by omega) (by rw [applyF_len]; omega)) ?_
  simp -implicitDefEqProofs (maxSteps := 10000000) only [rkA, rkB, stepA, valA, simprocAttr]
  refine call_meth rfl rfl methAdd (ok210 (dotF h (applyF n n p h)) r) ?_
  simp -implicitDefEqProofs (maxSteps := 10000000) only [rkA, rkB, stepA, valA, simprocAttr]
  refine call_fn rfl rfl rfl (ok76 eh ex h x (by omega) (by omega)) ?_
  simp -implicitDefEqProofs (maxSteps := 10000000) only [rkA, rkB, stepA, valA, simprocAttr]
  refine call_meth rfl rfl methSub (ok218 z (dotF h x)) ?_
  simp -implicitDefEqProofs (maxSteps := 10000000) only [rkA, rkB, stepA, valA, simprocAttr]
  have hu : (frs (applyF n n p h)).length = n := by simp [applyF_len]
  have hul := applyF_len n p h
  generalize hud : applyF n n p h = u at hu hul
  generalize had : addF (dotF h u) r = a
  generalize hed : subF z (dotF h x) = e
  refine wp_loop (fun m s => ∃ i : Nat, i + m = n ∧ s = ⟨[jk, .v (.sl eh (frs h)), jk, jk, .ptr 4 0, jk, .ptr 6 0, jk, .ptr 8 0, .ptr 9 0, jk, nt n, jk, jk, .ptr 14 0, .ptr 15 0, .acc 16 (frs ((u.take i).map (divF · a))), jk, jk, jk, jk, jk, jk, jk, jk, jk, jk, jk, jk, jk, jk, jk, jk, jk, jk, jk, jk, jk, jk, jk, jk, jk, jk, jk, jk, jk, jk, jk, jk, jk, jk, jk, jk, jk, jk, jk, jk, jk, jk, jk, jk, jk, jk, jk, jk, jk, jk, jk, jk, .v (.sl false (frs u)), nt n, nt i, jk, jk, jk, jk, jk, jk, jk, jk, jk, jk, jk, jk, jk, jk, jk, jk, jk, jk, jk, jk, jk, jk, jk, jk, jk, jk, jk, jk, jk, jk, jk, jk, jk, jk, jk, jk, jk, jk, jk, jk, jk, jk, jk, jk, jk, jk, jk, jk, jk, jk, jk, jk, jk, jk, jk, jk, jk, jk, jk, jk, jk, jk, jk, jk, jk, jk, jk, jk, jk, jk, jk, jk, jk, jk, jk, jk, jk, jk],
    [(4, [.v (.sl ex (frs x)), nt n, nt n, .v (.sl ep (frs p))]), (6, [nt r.n, nt r.d, .v (tru r.bad)]), (7, [nt z.n, nt z.d, .v (tru z.bad)]), (8, [.acc 1008 [], nt 0, nt 0, .acc 4008 []]), (9, [nt 0, nt 0, .v (tru false), nt 0, nt 0, .v (tru false)]),
      (14, [nt a.n, nt a.d, .v (tru a.bad)]), (15, [nt e.n, nt e.d, .v (tru e.bad)])], [], [(16, i), (1008, 0), (4008, 0)], [], 0, nomem⟩) n ?_ ?_
  · simp -implicitDefEqProofs (maxSteps := 10000000) only [hu, rkA, rkB, stepA, valA, simprocAttr]
    exact ⟨0, by simp, rfl⟩
  rintro m s ⟨i, hi, rfl⟩
  simp -implicitDefEqProofs (maxSteps := 10000000) only [rkA, rkB, stepA, valA, simprocAttr]
  refine gB_dec ?_ ?_ <;> intro hc <;> simp -implicitDefEqProofs (maxSteps := 10000000) only [hc, rkA, rkB, stepA, valA, simprocAttr]
  · have hlt : i < u.length := by omega
    have h0 : (0 : Int) ≤ (i : Int) := by omega
    have hg : (frs u)[i]? = some (frV u[i]) := by simp [hlt]
    simp -implicitDefEqProofs (maxSteps := 10000000) only [h0, Int.toNat_natCast, hg, rkA, rkB, stepA, valA, simprocAttr]
    refine call_meth rfl rfl methDiv (ok211 u[i] a) ?_
    have hfit : fits 3 24 (frs ((u.take i).map (divF · a))) [frV (divF u[i] a)] = true := fits_frs (l := [divF u[i] a]) (by simp; omega)
    have hw := wrapped (x := (i : Int) + 1) (by omega) (by omega)
    have hl : (frs ((u.take i).map (divF · a))).length = i := by simp; omega
    simp -implicitDefEqProofs (maxSteps := 10000000) only [hfit, hl, hw, rkA, rkB, stepA, valA, simprocAttr]
    refine loopK_of (m' := m - 1) (by omega) ?_
    simp -implicitDefEqProofs (maxSteps := 10000000) only [rkA, rkB, stepA, valA, simprocAttr]
    refine ⟨i + 1, by omega, ?_⟩
    rw [List.take_succ_eq_append_getElem hlt]
    simp only [frs, List.map_append, List.map_cons, List.map_nil, Int.natCast_add, Int.natCast_one]
  · have hin : u.length ≤ i := by omega
    rw [List.take_of_length_le hin]
    have hk1 : (u.map (divF · a)).length = n := by simp [hul]
    have hkd : u.map (divF · a) = kF n p h r := by simp only [kF, spreadF, uF, hud, had]
    generalize hkk : u.map (divF · a) = k at hk1 hkd
    have hkl : (frs k).length = n := by simp [hk1]
    have rk : right (n : Int) 1 k.length = true := right_nat (R := n) (K := 1) hn' (by omega) (by omega)
    have rh : right 1 (n : Int) h.length = true := right_nat (R := 1) (K := n) (by omega) hn' (by omega)
    have h1 := ok71 n 1 false k (by omega)
    rw [if_pos rk] at h1
    refine call_fn rfl rfl rfl (h1) ?_
    simp -implicitDefEqProofs (maxSteps := 10000000) only [rkA, rkB, stepA, valA, simprocAttr]
    have h2 := ok71 1 n eh h (by omega)
    rw [if_pos rh] at h2
    refine call_fn rfl rfl rfl (h2) ?_
    simp -implicitDefEqProofs (maxSteps := 10000000) only [rkA, rkB, stepA, valA, simprocAttr]
    have h3 := ok124 n
    rw [if_pos (by omega), Int.toNat_natCast] at h3
    refine call_fn rfl rfl rfl (h3) ?_
    simp -implicitDefEqProofs (maxSteps := 10000000) only [rkA, rkB, stepA, valA, simprocAttr]
    have h4 := ok125 false false n 1 1 n k h
    rw [if_pos ⟨rk, rh, rfl⟩] at h4
    refine call_fn rfl rfl rfl (h4) ?_
    simp -implicitDefEqProofs (maxSteps := 10000000) only [rkA, rkB, stepA, valA, simprocAttr]
    have l4 : (prodF n 1 n k h).length = n * n := by rw [prodF_len]; simp
    have ru : right (n : Int) (n : Int) ((unitP n n).map (newF · 1)).length = true := right_sq hn' (by rw [List.length_map, unitP_length])
    have h5 := ok126 false false n n n n ((unitP n n).map (newF · 1)) (prodF n 1 n k h)
    rw [if_pos ⟨ru, right_sq hn' l4, rfl, rfl⟩] at h5
    refine call_fn rfl rfl rfl (h5) ?_
    simp -implicitDefEqProofs (maxSteps := 10000000) only [rkA, rkB, stepA, valA, simprocAttr]
    refine call_fn rfl rfl rfl (ok123 false k r (by omega)) ?_
    simp -implicitDefEqProofs (maxSteps := 10000000) only [rkA, rkB, stepA, valA, simprocAttr]
    have rs : right (n : Int) 1 (k.map (mulF · r)).length = true := right_nat (R := n) (K := 1) hn' (by omega) (by simp [hk1])
    have h7 := ok71 n 1 false (k.map (mulF · r)) (by simp; omega)
    rw [if_pos rs] at h7
    refine call_fn rfl rfl rfl (h7) ?_
    simp -implicitDefEqProofs (maxSteps := 10000000) only [rkA, rkB, stepA, valA, simprocAttr]
    have h8 := ok119 false n 1 k
    rw [if_pos rk] at h8
    refine call_fn rfl rfl rfl (h8) ?_
    simp -implicitDefEqProofs (maxSteps := 10000000) only [rkA, rkB, stepA, valA, simprocAttr]
    have h9 := ok125 false false n 1 1 n (k.map (mulF · r)) (turnF n 1 k)
    rw [if_pos ⟨rs, right_turn rk, rfl⟩] at h9
    refine call_fn rfl rfl rfl (h9) ?_
    simp -implicitDefEqProofs (maxSteps := 10000000) only [rkA, rkB, stepA, valA, simprocAttr]
    have l5 : (List.zipWith subF ((unitP n n).map (newF · 1)) (prodF n 1 n k h)).length = n * n := by rw [List.length_zipWith, List.length_map, unitP_length, l4, Nat.min_self]
    refine call_fn rfl rfl rfl (ok127 n hn' false ep false (List.zipWith subF ((unitP n n).map (newF · 1)) (prodF n 1 n k h)) p (prodF n 1 n (k.map (mulF · r)) (turnF n 1 k)) l5 hp (by rw [prodF_len]; simp)) ?_
    simp -implicitDefEqProofs (maxSteps := 10000000) only [rkA, rkB, stepA, valA, simprocAttr]
    refine call_fn rfl rfl rfl (ok123 false k e (by omega)) ?_
    simp -implicitDefEqProofs (maxSteps := 10000000) only [rkA, rkB, stepA, valA, simprocAttr]
    refine call_fn rfl rfl rfl (ok122 ex false x (k.map (mulF · e)) (by omega) (by simp; omega)) ?_
    simp -implicitDefEqProofs (maxSteps := 10000000) only [rkA, rkB, stepA, valA, simprocAttr]
    simp -implicitDefEqProofs (maxSteps := 10000000) only [upX, upP, mF, krkF, unitF, surpriseF, spreadF, uF, hud, had, hed, ← hkd, rkA, rkB, stepA, valA, simprocAttr]
end Go.Proofs.YtbflmeomkfjikaaGreat.A


set_option linter.unusedVariables false
set_option linter.unusedSimpArgs false
set_option maxRecDepth 100000
namespace Go.Proofs.YtbflmeomkfjikaaGreat.A
open Go Go.RowKit Go.Shelf

/-! ### Fractions as numbers -/
def Fr.val (x : Fr) : Rat := (x.n : Rat) / (x.d : Rat)
theorem cast_ne {d : Int} (h : d ≠ 0) : (d : Rat) ≠ 0 := by
  intro e
  exact h (Rat.intCast_inj.1 (by simpa using e))
theorem val_div {n d m e k : Int} (hd : d ≠ 0) (he : e ≠ 0) (h : n * e = m * d) : (n : Rat) / d = (m : Rat) / e := by
  have h1 := cast_ne hd
  have h2 := cast_ne he
  have h3 : (n : Rat) * e = (m : Rat) * d := by
    rw [← Rat.intCast_mul, ← Rat.intCast_mul, h]
  grind
theorem div_val {n d m e : Int} (hd : d ≠ 0) (he : e ≠ 0) (h : (n : Rat) / d = (m : Rat) / e) : n * e = m * d := by
  have h1 := cast_ne hd
  have h2 := cast_ne he
  have h3 : (n : Rat) * e = (m : Rat) * d := by grind
  rw [← Rat.intCast_mul, ← Rat.intCast_mul] at h3
  exact Rat.intCast_inj.1 h3

/-- What New tells, where it is not Bad. -/
theorem newF_spec {n d : Int} (h : (newF n d).bad = false) : d ≠ 0 ∧ 0 < (newF n d).d ∧ (newF n d).n * d = n * (newF n d).d ∧ Int.gcd (newF n d).n (newF n d).d = 1 ∧ (newF n d).d ≤ 1073741824 ∧ (newF n d).n ≤ 1073741824 ∧ -1073741824 ≤ (newF n d).n := by
  unfold newF at h ⊢
  by_cases h1 : n > 1152921504606846976 ∨ n < -1152921504606846976 ∨ d > 1152921504606846976 ∨ d < -1152921504606846976 ∨ d = 0
  · rw [if_pos h1] at h; cases h
  rw [if_neg h1] at h ⊢
  simp only at h ⊢
  have hd : d ≠ 0 := by omega
  have key : ∀ m e : Int, 0 < e → m * d = n * e → ∀ x : Fr, x = (if m.tdiv (Int.gcd m e : Int) > 1073741824 ∨ m.tdiv (Int.gcd m e : Int) < -1073741824 ∨ e.tdiv (Int.gcd m e : Int) > 1073741824 then Fr.wrong else ⟨m.tdiv (Int.gcd m e : Int), e.tdiv (Int.gcd m e : Int), false⟩) → x.bad = false →
      d ≠ 0 ∧ 0 < x.d ∧ x.n * d = n * x.d ∧ Int.gcd x.n x.d = 1 ∧ x.d ≤ 1073741824 ∧ x.n ≤ 1073741824 ∧ -1073741824 ≤ x.n := by
    intro m e he hme x hx hb
    have hg : 0 < Int.gcd m e := Int.gcd_pos_of_ne_zero_right m (by omega)
    obtain ⟨m', hm'⟩ := Int.gcd_dvd_left m e
    obtain ⟨e', he'⟩ := Int.gcd_dvd_right m e
    generalize hk : Int.gcd m e = k at *
    have hk0 : (k : Int) ≠ 0 := by omega
    have q1 : m.tdiv (k : Int) = m' := by rw [hm', Int.mul_tdiv_cancel_left _ hk0]
    have q2 : e.tdiv (k : Int) = e' := by rw [he', Int.mul_tdiv_cancel_left _ hk0]
    rw [q1, q2] at hx
    have hcop : Int.gcd m' e' = 1 := by
      have h3 : Int.gcd ((k : Int) * m') ((k : Int) * e') = k * Int.gcd m' e' := by
        rw [Int.gcd_mul_left]; simp
      rw [← hm', ← he', hk] at h3
      have : k * 1 = k * Int.gcd m' e' := by omega
      exact (Nat.eq_of_mul_eq_mul_left hg this).symm
    have he0 : 0 < e' := by
      have h4 : 0 < (k : Int) * e' := by rw [← he']; exact he
      exact Int.pos_of_mul_pos_right h4 (by omega)
    split at hx
    · rw [hx] at hb; cases hb
    · rename_i hns
      subst hx
      refine ⟨hd, he0, ?_, hcop, by simp only; omega, by simp only; omega, by simp only; omega⟩
      simp only
      rw [hm', he'] at hme
      have : (k : Int) * (m' * d) = (k : Int) * (n * e') := by
        rw [← Int.mul_assoc, hme, ← Int.mul_assoc, ← Int.mul_assoc, Int.mul_comm (k : Int) n]
      exact Int.eq_of_mul_eq_mul_left hk0 this
  by_cases hneg : d < 0
  · simp only [hneg, if_true] at h ⊢
    exact key (-n) (-d) (by omega) (by rw [Int.neg_mul, Int.mul_neg]) _ rfl h
  · simp only [hneg, if_false] at h ⊢
    exact key n d (by omega) rfl _ rfl h

theorem newF_low {n d : Int} (hd : 0 < d) (hg : Int.gcd n d = 1) (h1 : n ≤ 1073741824) (h2 : -1073741824 ≤ n) (h3 : d ≤ 1073741824) : newF n d = ⟨n, d, false⟩ := by
  unfold newF
  rw [if_neg (by omega)]
  simp only [show ¬ d < 0 by omega, if_false, hg]
  rw [if_neg (by simp; omega)]
  simp
theorem fine_of {x : Fr} (hb : x.bad = false) (hd : 0 < x.d) (hg : Int.gcd x.n x.d = 1) (h1 : x.n ≤ 1073741824) (h2 : -1073741824 ≤ x.n) (h3 : x.d ≤ 1073741824) : x.fine = true := by
  unfold Fr.fine
  rw [newF_low hd hg h1 h2 h3]
  simp [hb]
  omega
theorem fine_low {x : Fr} (h : x.fine = true) : x.bad = false ∧ 0 < x.d ∧ Int.gcd x.n x.d = 1 := by
  obtain ⟨h1, h2, h3, h4, h5⟩ := Fr.fine_spec h
  refine ⟨h1, by omega, ?_⟩
  have hn : newF x.n x.d = x := by
    unfold Fr.fine at h
    simp only [Bool.and_eq_true, beq_iff_eq, decide_eq_true_eq] at h
    obtain ⟨n, d, b⟩ := x
    obtain ⟨_, k1, k2, k3, _⟩ := h
    generalize newF n d = y at *
    obtain ⟨n', d', b'⟩ := y
    simp only at k1 k2 k3
    rw [k1, k2, k3]
  have hb : (newF x.n x.d).bad = false := by rw [hn]; exact h1
  obtain ⟨_, _, _, g, _⟩ := newF_spec hb
  rw [hn] at g
  exact g
theorem newF_fine {n d : Int} (h : (newF n d).bad = false) : (newF n d).fine = true ∧ (newF n d).val = (n : Rat) / (d : Rat) ∧ d ≠ 0 := by
  obtain ⟨h1, h2, h3, h4, h5, h6, h7⟩ := newF_spec h
  exact ⟨fine_of h h2 h4 h6 h7 h5, val_div (k := 0) (by omega) h1 h3, h1⟩
theorem dvd_cop {a b c : Int} (h : a ∣ b * c) (g : Int.gcd b a = 1) : a ∣ c := by
  rw [← Int.natAbs_dvd_natAbs] at h ⊢
  rw [Int.natAbs_mul] at h
  refine Nat.Coprime.dvd_of_dvd_mul_left ?_ h
  rw [Int.gcd_comm] at g
  exact g
/-- What stands for the same number is the same. -/
theorem fine_inj {a b : Fr} (ha : a.fine = true) (hb : b.fine = true) (h : a.val = b.val) : a = b := by
  obtain ⟨a1, a2, a3⟩ := fine_low ha
  obtain ⟨b1, b2, b3⟩ := fine_low hb
  have e := div_val (by omega) (by omega) h
  have c1 : a.d ∣ b.d := by
    have : a.d ∣ a.n * b.d := ⟨b.n, by rw [e, Int.mul_comm]⟩
    exact dvd_cop this a3
  have c2 : b.d ∣ a.d := by
    have : b.d ∣ b.n * a.d := ⟨a.n, by rw [← e, Int.mul_comm]⟩
    exact dvd_cop this b3
  have hd : a.d = b.d := Int.dvd_antisymm (by omega) (by omega) c1 c2
  rw [hd] at e
  have hn : a.n = b.n := Int.eq_of_mul_eq_mul_right (by omega) e
  obtain ⟨n, d, x⟩ := a
  obtain ⟨n', d', x'⟩ := b
  simp only at hd hn a1 b1
  rw [hd, hn, a1, b1]
theorem fine_bad {a : Fr} (h : a.fine = true) : a.bad = false := (Fr.fine_spec h).1

/-- x stands for the number v. -/
def Is (x : Fr) (v : Rat) : Prop := x.fine = true ∧ x.val = v
theorem Is.inj {a b : Fr} {v : Rat} (ha : Is a v) (hb : Is b v) : a = b := fine_inj ha.1 hb.1 (ha.2.trans hb.2.symm)
theorem fine_ne {a : Fr} (h : a.fine = true) : (a.d : Rat) ≠ 0 := cast_ne (by have := (Fr.fine_spec h).2.1; omega)
theorem two_fine {a b : Fr} {x : Fr} (h : (if a.fine = false ∨ b.fine = false then Fr.wrong else x).bad = false) : a.fine = true ∧ b.fine = true ∧ x.bad = false := by
  by_cases h1 : a.fine = false ∨ b.fine = false
  · rw [if_pos h1] at h; cases h
  · rw [if_neg h1] at h
    simp only [not_or, Bool.not_eq_false] at h1
    exact ⟨h1.1, h1.2, h⟩
theorem mulF_is {a b : Fr} (h : (mulF a b).bad = false) : a.fine = true ∧ b.fine = true ∧ Is (mulF a b) (a.val * b.val) := by
  have h0 := h
  unfold mulF at h
  obtain ⟨ha, hb, hx⟩ := two_fine h
  obtain ⟨f1, f2, f3⟩ := newF_fine hx
  have e : mulF a b = newF (a.n * b.n) (a.d * b.d) := by unfold mulF; rw [if_neg (by simp [ha, hb])]
  refine ⟨ha, hb, by rw [e]; exact f1, ?_⟩
  rw [e, f2]
  have h1 := fine_ne ha
  have h2 := fine_ne hb
  simp only [Fr.val, Rat.intCast_mul]
  grind
theorem divF_is {a b : Fr} (h : (divF a b).bad = false) : a.fine = true ∧ b.fine = true ∧ b.val ≠ 0 ∧ Is (divF a b) (a.val / b.val) := by
  unfold divF at h
  obtain ⟨ha, hb, hx⟩ := two_fine h
  obtain ⟨f1, f2, f3⟩ := newF_fine hx
  have e : divF a b = newF (a.n * b.d) (a.d * b.n) := by unfold divF; rw [if_neg (by simp [ha, hb])]
  have h1 := fine_ne ha
  have h2 := fine_ne hb
  have h3 : (b.n : Rat) ≠ 0 := cast_ne (fun e => f3 (by rw [e, Int.mul_zero]))
  refine ⟨ha, hb, ?_, by rw [e]; exact f1, ?_⟩
  · simp only [Fr.val]
    intro e
    apply h3
    have : (b.n : Rat) = (b.n : Rat) / (b.d : Rat) * (b.d : Rat) := by grind
    rw [this, e]
    grind
  · rw [e, f2]
    simp only [Fr.val, Rat.intCast_mul]
    grind
theorem addF_is {a b : Fr} (h : (addF a b).bad = false) : a.fine = true ∧ b.fine = true ∧ Is (addF a b) (a.val + b.val) := by
  unfold addF at h
  obtain ⟨ha, hb, hx⟩ := two_fine h
  obtain ⟨f1, f2, f3⟩ := newF_fine hx
  have e : addF a b = newF ((a.n * b.d + b.n * a.d).tdiv (Int.gcd (a.n * b.d + b.n * a.d) (a.d * b.d))) ((a.d * b.d).tdiv (Int.gcd (a.n * b.d + b.n * a.d) (a.d * b.d))) := by
    unfold addF; rw [if_neg (by simp [ha, hb])]
  have h1 := fine_ne ha
  have h2 := fine_ne hb
  refine ⟨ha, hb, by rw [e]; exact f1, ?_⟩
  rw [e, f2]
  have hd1 := (Fr.fine_spec ha).2.1
  have hd2 := (Fr.fine_spec hb).2.1
  have hdd : 0 < a.d * b.d := Int.mul_pos (by omega) (by omega)
  generalize hD : a.d * b.d = D at *
  generalize hN : a.n * b.d + b.n * a.d = Nn at *
  have hg : 0 < Int.gcd Nn D := Int.gcd_pos_of_ne_zero_right _ (by omega)
  obtain ⟨m', hm'⟩ := Int.gcd_dvd_left Nn D
  obtain ⟨e', he'⟩ := Int.gcd_dvd_right Nn D
  have hk0 : ((Int.gcd Nn D : Nat) : Int) ≠ 0 := by omega
  generalize hk : ((Int.gcd Nn D : Nat) : Int) = k at *
  have q1 : Nn.tdiv k = m' := by rw [hm', Int.mul_tdiv_cancel_left _ hk0]
  have q2 : D.tdiv k = e' := by rw [he', Int.mul_tdiv_cancel_left _ hk0]
  rw [q1, q2]
  have he0 : e' ≠ 0 := fun e0 => by rw [e0, Int.mul_zero] at he'; omega
  have h3 : (m' : Rat) / (e' : Rat) = (Nn : Rat) / (D : Rat) := by
    refine val_div (k := 0) he0 (by omega) ?_
    rw [hm', he', Int.mul_comm k e', ← Int.mul_assoc, Int.mul_comm k m']
    rw [Int.mul_assoc, Int.mul_assoc, Int.mul_comm e' k, Int.mul_comm k e']
  rw [h3, ← hN, ← hD]
  simp only [Fr.val, Rat.intCast_mul, Rat.intCast_add]
  grind
theorem negF_is {a : Fr} (h : (negF a).bad = false) : a.fine = true ∧ Is (negF a) (-a.val) := by
  unfold negF at h
  by_cases ha : a.fine = false
  · rw [if_pos ha] at h; cases h
  · rw [if_neg ha] at h
    simp only [Bool.not_eq_false] at ha
    obtain ⟨f1, f2, f3⟩ := newF_fine h
    have e : negF a = newF (-a.n) a.d := by unfold negF; rw [if_neg (by simp [ha])]
    refine ⟨ha, by rw [e]; exact f1, ?_⟩
    rw [e, f2]
    simp only [Fr.val, Rat.intCast_neg]
    grind
theorem subF_is {a b : Fr} (h : (subF a b).bad = false) : a.fine = true ∧ b.fine = true ∧ Is (subF a b) (a.val - b.val) := by
  unfold subF at h
  obtain ⟨h1, h2, h3⟩ := addF_is h
  obtain ⟨h4, h5⟩ := negF_is (fine_bad h2)
  refine ⟨h1, h4, h3.1, ?_⟩
  have e : (subF a b).val = a.val + (negF b).val := h3.2
  rw [e, h5.2]
  grind
theorem whole_is {n : Int} (h : few n) : Is (newF n 1) (n : Rat) := by
  rw [newF_whole h]
  refine ⟨fine_whole h, ?_⟩
  simp only [Fr.val]
  have : ((1 : Int) : Rat) = 1 := rfl
  rw [this]
  grind
end Go.Proofs.YtbflmeomkfjikaaGreat.A


set_option linter.unusedVariables false
set_option linter.unusedSimpArgs false
set_option maxRecDepth 100000
namespace Go.Proofs.YtbflmeomkfjikaaGreat.A
open Go Go.RowKit Go.Shelf

/-! ### Sums of numbers -/
def sumR : Nat → (Nat → Rat) → Rat
  | 0, _ => 0
  | n + 1, f => sumR n f + f n
theorem sumR_congr {f g : Nat → Rat} : ∀ {n : Nat}, (∀ j, j < n → f j = g j) → sumR n f = sumR n g
  | 0, _ => rfl
  | n + 1, h => by rw [sumR, sumR, sumR_congr fun j hj => h j (by omega), h n (by omega)]
theorem sumR_add (f g : Nat → Rat) : ∀ n, sumR n (fun j => f j + g j) = sumR n f + sumR n g
  | 0 => by simp only [sumR]; grind
  | n + 1 => by simp only [sumR, sumR_add f g n]; grind
theorem sumR_sub (f g : Nat → Rat) : ∀ n, sumR n (fun j => f j - g j) = sumR n f - sumR n g
  | 0 => by simp only [sumR]; grind
  | n + 1 => by simp only [sumR, sumR_sub f g n]; grind
theorem sumR_mul (c : Rat) (f : Nat → Rat) : ∀ n, sumR n (fun j => c * f j) = c * sumR n f
  | 0 => by simp only [sumR]; grind
  | n + 1 => by simp only [sumR, sumR_mul c f n]; grind
theorem sumR_zero : ∀ n, sumR n (fun _ => 0) = 0
  | 0 => rfl
  | n + 1 => by simp only [sumR, sumR_zero n]; grind
theorem sumR_one (f : Nat → Rat) {i : Nat} : ∀ {n : Nat}, i < n → sumR n (fun j => (if i = j then 1 else 0) * f j) = f i
  | n + 1, h => by
    simp only [sumR]
    by_cases e : i = n
    · subst e
      have : sumR i (fun j => (if i = j then 1 else 0) * f j) = sumR i (fun _ => 0) := sumR_congr fun j hj => by
        rw [if_neg (by omega)]; grind
      rw [this, sumR_zero, if_pos rfl]
      grind
    · rw [sumR_one f (show i < n by omega), if_neg e]
      grind
theorem sumR_swap (f : Nat → Nat → Rat) (m : Nat) : ∀ n, sumR n (fun i => sumR m (f i)) = sumR m (fun j => sumR n (fun i => f i j))
  | 0 => by simp only [sumR]; exact (sumR_zero m).symm
  | n + 1 => by simp only [sumR, sumR_swap f m n]; exact (sumR_add _ _ m).symm

/-! ### Dots -/
abbrev dz : Fr := ⟨0, 0, false⟩
theorem sum_is (f : Nat → Fr) : ∀ n, (sumF ((List.range n).map f)).bad = false → (∀ j, j < n → (f j).fine = true) ∧ Is (sumF ((List.range n).map f)) (sumR n fun j => (f j).val)
  | 0, _ => by
    refine ⟨fun j hj => by omega, ?_⟩
    have := whole_is (n := 0) (by unfold few; omega)
    exact this
  | n + 1, h => by
    have e : sumF ((List.range (n + 1)).map f) = addF (sumF ((List.range n).map f)) (f n) := by
      unfold sumF
      rw [List.range_succ, List.map_append, List.foldl_append]
      rfl
    rw [e] at h ⊢
    obtain ⟨h1, h2, h3⟩ := addF_is h
    obtain ⟨k1, k2⟩ := sum_is f n (fine_bad h1)
    refine ⟨fun j hj => ?_, h3.1, ?_⟩
    · by_cases e : j = n
      · rw [e]; exact h2
      · exact k1 j (by omega)
    · rw [h3.2, k2.2]; rfl
theorem dot_is (f g : Nat → Fr) (n : Nat) (h : (dotF ((List.range n).map f) ((List.range n).map g)).bad = false) :
    (∀ j, j < n → (f j).fine = true ∧ (g j).fine = true) ∧ Is (dotF ((List.range n).map f) ((List.range n).map g)) (sumR n fun j => (f j).val * (g j).val) := by
  have e : dotF ((List.range n).map f) ((List.range n).map g) = sumF ((List.range n).map fun j => mulF (f j) (g j)) := by
    unfold dotF
    rw [List.zipWith_map, List.zipWith_self]
  rw [e] at h ⊢
  obtain ⟨h1, h2⟩ := sum_is _ n h
  have h3 := fun j hj => mulF_is (fine_bad (h1 j hj))
  refine ⟨fun j hj => ⟨(h3 j hj).1, (h3 j hj).2.1⟩, h2.1, ?_⟩
  rw [h2.2]
  exact sumR_congr fun j hj => (h3 j hj).2.2.2

/-! ### Products, entry by entry -/
theorem list_range {l : List Fr} {n : Nat} (h : l.length = n) : l = (List.range n).map fun j => l.getD j dz := by
  apply List.ext_getElem
  · simp [h]
  · intro j h1 h2
    simp [h1]
theorem prodF_grid {R M K : Nat} {a b : List Fr} (hR : 1 ≤ R ∧ R ≤ 16) (hM : 1 ≤ M ∧ M ≤ 16) (hK : 1 ≤ K ∧ K ≤ 16) (la : a.length = R * M) (lb : b.length = M * K) :
    prodF R M K a b = gridP (fun i k => dotF ((List.range M).map fun j => a.getD (i * M + j) dz) ((List.range M).map fun j => b.getD (j * K + k) dz)) K R 0 := by
  have h1 := right_nat (n := a.length) hR hM la
  have h2 := right_nat (n := b.length) hM hK lb
  have h3 := right_turn h2
  unfold prodF allF
  rw [gridP_zero, List.flatMap_map, Int.toNat_natCast, Int.toNat_natCast]
  apply flatMap_same
  intro i hi
  rw [List.mem_range] at hi
  rw [List.map_map]
  apply List.map_congr_left
  intro k hk
  rw [List.mem_range] at hk
  simp only [Function.comp]
  rw [rowF_eq dz h1 (by simpa using hi), rowF_eq dz h3 (by simpa using hk), Int.toNat_natCast]
  congr 1
  apply List.map_congr_left
  intro j hj
  rw [List.mem_range] at hj
  rw [turnF_eq h2, Int.toNat_natCast, Int.toNat_natCast, List.getD_eq_getElem?_getD, gridP_get _ _ _ _ _ hk hj, Option.getD_some, atF_eq h2 (by simpa using hj) (by simpa using hk), Int.toNat_natCast]
theorem grid_at {g : Nat → Nat → Fr} {n N i k : Nat} (hi : i < N) (hk : k < n) : (gridP g n N 0).getD (i * n + k) dz = g i k := by
  rw [List.getD_eq_getElem?_getD, gridP_get _ _ _ _ _ hi hk, Option.getD_some]
theorem prod_at {R M K : Nat} {a b : List Fr} (hR : 1 ≤ R ∧ R ≤ 16) (hM : 1 ≤ M ∧ M ≤ 16) (hK : 1 ≤ K ∧ K ≤ 16) (la : a.length = R * M) (lb : b.length = M * K) {i k : Nat} (hi : i < R) (hk : k < K)
    (h : ((prodF R M K a b).getD (i * K + k) dz).bad = false) : (∀ j, j < M → (a.getD (i * M + j) dz).fine = true ∧ (b.getD (j * K + k) dz).fine = true) ∧
      Is ((prodF R M K a b).getD (i * K + k) dz) (sumR M fun j => (a.getD (i * M + j) dz).val * (b.getD (j * K + k) dz).val) := by
  rw [prodF_grid hR hM hK la lb, grid_at hi hk] at h ⊢
  exact dot_is _ _ M h
theorem turn_at {R K : Nat} {l : List Fr} (hR : 1 ≤ R ∧ R ≤ 16) (hK : 1 ≤ K ∧ K ≤ 16) (hl : l.length = R * K) {i k : Nat} (hi : i < R) (hk : k < K) : (turnF R K l).getD (k * R + i) dz = l.getD (i * K + k) dz := by
  have h := right_nat (n := l.length) hR hK hl
  rw [turnF_eq h, Int.toNat_natCast, Int.toNat_natCast, grid_at hk hi, atF_eq h (by simpa using hi) (by simpa using hk), Int.toNat_natCast]
theorem turnF_len {R K : Nat} {l : List Fr} (hR : 1 ≤ R ∧ R ≤ 16) (hK : 1 ≤ K ∧ K ≤ 16) (hl : l.length = R * K) : (turnF R K l).length = K * R := by
  rw [turnF_length (right_nat hR hK hl)]; simp
theorem mir_at {n : Nat} {l : List Fr} (hn : 1 ≤ n ∧ n ≤ 16) (hl : l.length = n * n) {i k : Nat} (hi : i < n) (hk : k < n) : (mirF n l).getD (i * n + k) dz = l.getD (max i k * n + min i k) dz := by
  have h := right_nat (n := l.length) hn hn hl
  rw [mirF, Int.toNat_natCast, grid_at hi hk, atF_eq h (by simp; omega) (by simp; omega), Int.toNat_natCast]
theorem zip_at {f : Fr → Fr → Fr} {a b : List Fr} {j : Nat} (ha : j < a.length) (hb : j < b.length) : (List.zipWith f a b).getD j dz = f (a.getD j dz) (b.getD j dz) := by
  rw [List.getD_eq_getElem?_getD, List.getElem?_zipWith]
  simp [List.getElem?_eq_getElem ha, List.getElem?_eq_getElem hb]
theorem map_at {f : Fr → Fr} {a : List Fr} {j : Nat} (ha : j < a.length) : (a.map f).getD j dz = f (a.getD j dz) := by
  simp [List.getElem?_eq_getElem ha]
theorem apply_at {n : Nat} {l v : List Fr} (hn : 1 ≤ n ∧ n ≤ 16) (hl : l.length = n * n) {i : Nat} (hi : i < n) : (applyF n n l v).getD i dz = dotF ((List.range n).map fun j => l.getD (i * n + j) dz) v := by
  have h := right_nat (n := l.length) hn hn hl
  unfold applyF allF
  rw [List.map_map, Int.toNat_natCast]
  simp [hi]
  rw [rowF_eq dz h (by simpa using hi), Int.toNat_natCast]
  simp
end Go.Proofs.YtbflmeomkfjikaaGreat.A


set_option linter.unusedVariables false
set_option linter.unusedSimpArgs false
set_option maxRecDepth 100000
namespace Go.Proofs.YtbflmeomkfjikaaGreat.A
open Go Go.RowKit Go.Shelf

/-! ### Plain laws of clearing -/
/-! ### The function TriClears -/
end Go.Proofs.YtbflmeomkfjikaaGreat.A


set_option linter.unusedVariables false
set_option linter.unusedSimpArgs false
set_option maxRecDepth 100000
namespace Go.Proofs.YtbflmeomkfjikaaGreat.A
open Go Go.RowKit Go.Shelf

/-! ### Plain laws of squares -/
theorem sqF_len' (n : Nat) (l : List Fr) : (sqF n l).length = n * n := by rw [sqF, mirF, gridP_length]; simp
end Go.Proofs.YtbflmeomkfjikaaGreat.A



set_option linter.unusedVariables false
set_option linter.unusedSimpArgs false
set_option maxRecDepth 100000
namespace Go.Proofs.YtbflmeomkfjikaaGreat.A
open Go Go.RowKit Go.Shelf

/-! ### Nothing's triangles -/
/-! ### Plain laws of clearing, of whole numbers -/
theorem atF_whole {l : List Int} {n i k : Nat} (hn : 1 ≤ n ∧ n ≤ 16) (hl : l.length = n * n) (hi : i < n) (hk : k < n) : atF n n (l.map (newF · 1)) i k = newF (l.getD (i * n + k) 0) 1 := by
  have hb := at_table (i := i) (j := k) (n := n) (m := n) hi hk
  rw [atF_eq (right_sq hn (by rw [List.length_map, hl])) (by simpa using hi) (by simpa using hk), Int.toNat_natCast, getD_newF (by omega)]
theorem clear_whole {l : List Int} {n : Nat} (hn : 1 ≤ n ∧ n ≤ 16) (hl : l.length = n * n) : clearF n (l.map (newF · 1)) = (clearI l n).map (newF · 1) := by
  unfold clearF clearI
  rw [gridP_map]
  refine gridP_congr fun i k hi hk => ?_
  unfold clearG clearH
  by_cases h : i < k
  · rw [if_pos h, if_pos h]
  · rw [if_neg h, if_neg h, atF_whole hn hl hi hk]
/-! ### The function TriTells -/
end Go.Proofs.YtbflmeomkfjikaaGreat.A



set_option linter.unusedVariables false
set_option linter.unusedSimpArgs false
set_option maxRecDepth 100000
namespace Go.Proofs.YtbflmeomkfjikaaGreat.A
open Go Go.RowKit Go.Shelf

/-! ### root: new states, and what they stand for -/
theorem clearF_len (n : Nat) (l : List Fr) : (clearF n l).length = n * n := by rw [clearF, gridP_length, Nat.add_zero]
theorem ok49 (ex er : Bool) (x l : List Fr) (n : Nat) (hn : 1 ≤ n ∧ n ≤ 16) (hl : l.length = n * n) (hx : x.length ≤ 5864062014805) :
    Ok Tryz.prog 49 [.sl ex (frs x), matV er n n (frs l)] (if 1 ≤ x.length ∧ x.length ≤ 4 ∧ x.length = n then .tup [stV false false (frs x) n n (frs (clearF n l)), tru true] else .tup [stNil, tru false]) := by
  refine ok_fn mixed Tryz.func49 (code := ?_) (h := h49) ?_ k49 ?_
  rotate_left
  · exact rfl
  unfold h49 initS
  simp -implicitDefEqProofs (maxSteps := 10000000) only [rkA, rkB, stepA, valA, simprocAttr, Tryz.ntmps49, Tryz.results49]
  refine call_fn rfl rfl rfl (ok40 n hn er l hl) ?_
  simp -implicitDefEqProofs (maxSteps := 10000000) only [rkA, rkB, stepA, valA, simprocAttr]
  refine call_fn rfl rfl rfl (ok109 ex x hx) ?_
  simp -implicitDefEqProofs (maxSteps := 10000000) only [rkA, rkB, stepA, valA, simprocAttr]
  refine call_fn rfl rfl rfl (ok50 false false x (clearF n l) n n) ?_
  rw [stRight_nat (clearF_len n l)]
  by_cases h : 1 ≤ x.length ∧ x.length ≤ 4 ∧ x.length = n
  · rw [if_pos h, decide_eq_true h]
    simp -implicitDefEqProofs (maxSteps := 10000000) only [rkA, rkB, stepA, valA, simprocAttr]
  · rw [if_neg h, decide_eq_false h]
    simp -implicitDefEqProofs (maxSteps := 10000000) only [rkA, rkB, stepA, valA, simprocAttr]
theorem ok51 (ex ep : Bool) (x l : List Fr) (n : Nat) (hl : l.length = n * n) :
    Ok Tryz.prog 51 [stV ex ep (frs x) n n (frs l)] (if 1 ≤ x.length ∧ x.length ≤ 4 ∧ x.length = n then matV false n n (frs (sqF n l)) else matNil) := by
  refine ok_fn mixed Tryz.func51 (code := ?_) (h := h51) ?_ k51 ?_
  rotate_left
  · exact rfl
  unfold h51 initS
  simp -implicitDefEqProofs (maxSteps := 10000000) only [rkA, rkB, stepA, valA, simprocAttr, Tryz.ntmps51, Tryz.results51]
  refine call_fn rfl rfl rfl (ok50 ex ep x l n n) ?_
  rw [stRight_nat hl]
  by_cases h : 1 ≤ x.length ∧ x.length ≤ 4 ∧ x.length = n
  · rw [if_pos h, decide_eq_true h]
    simp -implicitDefEqProofs (maxSteps := 10000000) only [rkA, rkB, stepA, valA, simprocAttr]
    refine call_fn rfl rfl rfl (ok110 n (by omega) ep l hl) ?_
    simp -implicitDefEqProofs (maxSteps := 10000000) only [rkA, rkB, stepA, valA, simprocAttr]
  · rw [if_neg h, decide_eq_false h]
    simp -implicitDefEqProofs (maxSteps := 10000000) only [rkA, rkB, stepA, valA, simprocAttr]
end Go.Proofs.YtbflmeomkfjikaaGreat.A


set_option linter.unusedVariables false
set_option linter.unusedSimpArgs false
set_option maxRecDepth 100000
namespace Go.Proofs.YtbflmeomkfjikaaGreat.A
open Go Go.RowKit Go.Shelf

/-! ### Entries of an update of a triangle -/
theorem upE_entry {n : Nat} (M : Nat → Nat → Fr) (W : Nat → Fr) (r : Fr) {i j : Nat} (hi : i < n) (hj : j < n) : ∀ t, t ≤ n → (upK n M W r t).1 i j =
    if n ≤ j + t ∧ j ≤ i then subF (mulF (M i j) (rootD (upK n M W r (n - 1 - j)).2.2 (upK n M W r (n - j)).2.2)) (mulF ((upK n M W r (n - 1 - j)).2.1 i) (rootC (W j) (upK n M W r (n - 1 - j)).2.2 (upK n M W r (n - j)).2.2)) else M i j
  | 0, _ => by rw [if_neg (by omega)]; rfl
  | t + 1, ht => by
    have ih := upE_entry M W r hi hj t (by omega)
    rw [upK_succ M W r (rfl : n - 1 - t = n - 1 - t)]
    show colM _ _ _ _ _ _ i j = _
    unfold colM
    by_cases e : j = n - 1 - t
    · have et : n - 1 - j = t := by omega
      have et' : n - j = t + 1 := by omega
      by_cases hji : j ≤ i
      · rw [if_pos ⟨e, by omega, hi⟩, if_pos ⟨by omega, hji⟩, ← e, ih, if_neg (by omega), et, et', upK_succ M W r (show n - 1 - t = j by omega)]
      · rw [if_neg (by omega), if_neg (by omega), ih, if_neg (by omega)]
    · rw [if_neg (by omega), ih]
      by_cases h1 : n ≤ j + t ∧ j ≤ i
      · rw [if_pos h1, if_pos (by omega)]
      · rw [if_neg h1, if_neg (by omega)]
theorem upE_step {n : Nat} (M : Nat → Nat → Fr) (W : Nat → Fr) (r : Fr) {t i : Nat} (hi : i < n) (ht : t < n) : (upK n M W r (t + 1)).2.1 i = (if n - 1 - t ≤ i then addF ((upK n M W r t).2.1 i) (mulF (M i (n - 1 - t)) (W (n - 1 - t))) else (upK n M W r t).2.1 i) := by
  have h1 := upE_entry M W r hi (show n - 1 - t < n by omega) t (by omega)
  rw [if_neg (by omega)] at h1
  rw [upK_succ M W r (rfl : n - 1 - t = n - 1 - t)]
  show colE _ _ _ _ _ i = _
  unfold colE
  rw [h1]
  by_cases h : n - 1 - t ≤ i
  · rw [if_pos ⟨h, hi⟩, if_pos h]
  · rw [if_neg (by omega), if_neg h]
theorem upA_step {n : Nat} (M : Nat → Nat → Fr) (W : Nat → Fr) (r : Fr) (t : Nat) : (upK n M W r (t + 1)).2.2 = addF (upK n M W r t).2.2 (mulF (W (n - 1 - t)) (W (n - 1 - t))) := by
  rw [upK_succ M W r (rfl : n - 1 - t = n - 1 - t)]
theorem upRS_gridF (n : Nat) (l h : List Fr) (r : Fr) : upRS n l h r = gridP (upR n l h r).1 n n 0 := by
  rw [gridP_zero, upRS, List.flatMap_def]
  rfl
theorem rowF_turnF {n : Nat} (hn : 1 ≤ n ∧ n ≤ 16) {l : List Fr} (hl : l.length = n * n) {j : Nat} (hj : j < n) : rowF n n (turnF n n l) j = (List.range n).map fun (i : Nat) => atF n n l i j := by
  have hr := right_sq hn hl
  have hrt := right_turn hr
  rw [rowF_eq dz hrt (i := j) (by simpa using hj), Int.toNat_natCast]
  refine List.map_congr_left fun i hi => ?_
  rw [turnF_eq hr, Int.toNat_natCast]
  exact grid_at (g := fun k i => atF n n l (i : Int) (k : Int)) hj (List.mem_range.1 hi)
end Go.Proofs.YtbflmeomkfjikaaGreat.A


set_option linter.unusedVariables false
set_option linter.unusedSimpArgs false
set_option maxRecDepth 100000
namespace Go.Proofs.YtbflmeomkfjikaaGreat.A
open Go Go.RowKit Go.Shelf

/-! ### An update, in numbers -/
section
variable (n : Nat) (p h : List Fr) (r : Fr)
def nP (i k : Nat) : Rat := (p.getD (i * n + k) dz).val
def nH (j : Nat) : Rat := (h.getD j dz).val
def nU (i : Nat) : Rat := sumR n fun j => nP n p i j * nH h j
def nA : Rat := sumR n (fun j => nH h j * nU n p h j) + r.val
end
variable {n : Nat} {p h : List Fr} {r : Fr}
/-- All of the matrix and the row may be. -/
def allFine (n : Nat) (p h : List Fr) (r : Fr) : Prop := (∀ i j, i < n → j < n → (p.getD (i * n + j) dz).fine = true) ∧ (∀ j, j < n → (h.getD j dz).fine = true) ∧ r.fine = true
theorem u_len (n : Nat) (p h : List Fr) : (uF n p h).length = n := uF_len n p h
theorem u_at (hn : 1 ≤ n ∧ n ≤ 16) (lp : p.length = n * n) (lh : h.length = n) {i : Nat} (hi : i < n) (hb : ((uF n p h).getD i dz).bad = false) :
    (∀ j, j < n → (p.getD (i * n + j) dz).fine = true ∧ (h.getD j dz).fine = true) ∧ Is ((uF n p h).getD i dz) (nU n p h i) := by
  unfold uF at hb ⊢
  rw [apply_at hn lp hi] at hb ⊢
  rw [list_range lh] at hb ⊢
  have := dot_is _ _ n hb
  simp only [← list_range lh] at this ⊢
  exact this
theorem dot_lists {a b : List Fr} (la : a.length = n) (lb : b.length = n) (hb : (dotF a b).bad = false) : (∀ j, j < n → (a.getD j dz).fine = true ∧ (b.getD j dz).fine = true) ∧ Is (dotF a b) (sumR n fun j => (a.getD j dz).val * (b.getD j dz).val) := by
  have e : dotF a b = dotF ((List.range n).map fun j => a.getD j dz) ((List.range n).map fun j => b.getD j dz) := by
    rw [← list_range la, ← list_range lb]
  rw [e] at hb ⊢
  exact dot_is _ _ n hb
theorem spread_is (hn : 1 ≤ n ∧ n ≤ 16) (lp : p.length = n * n) (lh : h.length = n) (hb : (spreadF n p h r).bad = false) :
    allFine n p h r ∧ Is (spreadF n p h r) (nA n p h r) ∧ ∀ i, i < n → Is ((uF n p h).getD i dz) (nU n p h i) := by
  unfold spreadF at hb ⊢
  obtain ⟨h1, h2, h3⟩ := addF_is hb
  obtain ⟨k1, k2⟩ := dot_lists lh (u_len n p h) (fine_bad h1)
  have hu := fun i hi => u_at hn lp lh (i := i) hi (fine_bad (k1 i hi).2)
  refine ⟨⟨fun i j hi hj => ((hu i hi).1 j hj).1, fun j hj => (k1 j hj).1, h2⟩, ⟨h3.1, ?_⟩, fun i hi => (hu i hi).2⟩
  rw [h3.2, k2.2]
  unfold nA
  congr 1
  exact sumR_congr fun j hj => by rw [(hu j hj).2.2]; rfl
theorem k_is (hn : 1 ≤ n ∧ n ≤ 16) (lp : p.length = n * n) (lh : h.length = n) {i : Nat} (hi : i < n) (hb : ((kF n p h r).getD i dz).bad = false) :
    (spreadF n p h r).bad = false ∧ nA n p h r ≠ 0 ∧ Is ((kF n p h r).getD i dz) (nU n p h i / nA n p h r) := by
  unfold kF at hb ⊢
  rw [map_at (by rw [u_len]; exact hi)] at hb ⊢
  obtain ⟨h1, h2, h3, h4⟩ := divF_is hb
  obtain ⟨k1, k2, k3⟩ := spread_is hn lp lh (fine_bad h2)
  rw [k2.2, (k3 i hi).2] at h4
  rw [k2.2] at h3
  exact ⟨fine_bad h2, h3, h4⟩

theorem unit_at {i l : Nat} (hi : i < n) (hl : l < n) : Is ((unitF n).getD (i * n + l) dz) (if i = l then 1 else 0) := by
  have ht := at_table hi hl
  have e : (unitF n).getD (i * n + l) dz = newF (if i = l then 1 else 0) 1 := by
    unfold unitF
    have hlen : i * n + l < (unitP n n).length := by rw [unitP_length]; exact ht.1
    have hu : (unitP n n).getD (i * n + l) 0 = if i = l ∧ i < n then 1 else 0 := grid_getD hi hl
    rw [getD_newF hlen, hu]
    simp [hi]
  rw [e]
  have := whole_is (n := if i = l then 1 else 0) (by unfold few; split <;> omega)
  split at this <;> rename_i hc
  · rw [if_pos hc, if_pos hc]; exact this
  · rw [if_neg hc, if_neg hc]; exact this
theorem unitF_len (n : Nat) : (unitF n).length = n * n := by rw [unitF, List.length_map, unitP_length]
theorem prodF_len' {R M K : Nat} {a b : List Fr} : (prodF R M K a b).length = R * K := by rw [prodF_len]; simp
theorem m_len (n : Nat) (p h : List Fr) (r : Fr) : (mF n p h r).length = n * n := by
  have := prodF_len' (R := n) (M := 1) (K := n) (a := kF n p h r) (b := h)
  rw [Int.natCast_one] at this
  rw [mF, List.length_zipWith, unitF_len, this, Nat.min_self]
theorem m_at (hn : 1 ≤ n ∧ n ≤ 16) (lp : p.length = n * n) (lh : h.length = n) {i l : Nat} (hi : i < n) (hl : l < n) (hb : ((mF n p h r).getD (i * n + l) dz).bad = false) :
    ((kF n p h r).getD i dz).fine = true ∧ (h.getD l dz).fine = true ∧ Is ((mF n p h r).getD (i * n + l) dz) ((if i = l then 1 else 0) - ((kF n p h r).getD i dz).val * nH h l) := by
  have ht := at_table hi hl
  have l2 := prodF_len' (R := n) (M := 1) (K := n) (a := kF n p h r) (b := h)
  rw [Int.natCast_one] at l2
  unfold mF at hb ⊢
  rw [zip_at (by rw [unitF_len]; exact ht.1) (by rw [l2]; exact ht.1)] at hb ⊢
  obtain ⟨h1, h2, h3⟩ := subF_is hb
  have hp := prod_at (R := n) (M := 1) (K := n) (a := kF n p h r) (b := h) hn (by omega) hn (by rw [kF_len]; omega) (by omega) hi hl (fine_bad h2)
  obtain ⟨k1, k2⟩ := hp
  have k0 := k1 0 (by omega)
  simp only [Nat.mul_one, Nat.add_zero, Nat.zero_mul, Nat.zero_add] at k0
  refine ⟨k0.1, k0.2, h3.1, ?_⟩
  have k2' := k2.2
  rw [Int.natCast_one] at k2'
  rw [h3.2, k2', (unit_at hi hl).2]
  simp only [sumR, Nat.mul_one, Nat.add_zero, Nat.zero_mul, Nat.zero_add, nH]
  grind
theorem krk_at (hn : 1 ≤ n ∧ n ≤ 16) {i k : Nat} (hi : i < n) (hk : k < n) (hb : ((krkF n p h r).getD (i * n + k) dz).bad = false) :
    Is ((krkF n p h r).getD (i * n + k) dz) (((kF n p h r).getD i dz).val * r.val * ((kF n p h r).getD k dz).val) := by
  have lk := kF_len n p h r
  have hkl : (kF n p h r).length = n * 1 := by omega
  unfold krkF at hb ⊢
  have lt := turnF_len (R := n) (K := 1) hn (by omega) hkl
  rw [Int.natCast_one] at lt
  have hp := prod_at (R := n) (M := 1) (K := n) (a := (kF n p h r).map (mulF · r)) (b := turnF n 1 (kF n p h r)) hn (by omega) hn (by rw [List.length_map]; omega) (by omega) hi hk hb
  rw [Int.natCast_one] at hp
  obtain ⟨k1, k2⟩ := hp
  have k0 := k1 0 (by omega)
  simp only [Nat.mul_one, Nat.add_zero, Nat.zero_mul, Nat.zero_add] at k0
  have ht := turn_at (R := n) (K := 1) hn (by omega) hkl hk (show 0 < 1 by omega)
  rw [Int.natCast_one] at ht
  simp only [Nat.mul_one, Nat.add_zero, Nat.zero_mul, Nat.zero_add] at ht
  rw [map_at (by omega)] at k0
  have hm := (mulF_is (fine_bad k0.1)).2.2
  refine ⟨k2.1, ?_⟩
  rw [k2.2]
  simp only [sumR, Nat.mul_one, Nat.add_zero, Nat.zero_mul, Nat.zero_add]
  rw [map_at (by omega), hm.2, ht]
  grind

theorem up_sum (K : Nat → Rat) (P : Nat → Nat → Rat) (H U : Nat → Rat) (hU : ∀ i, i < n → U i = sumR n fun j => P i j * H j) (hs : ∀ i k, i < n → k < n → P i k = P k i) {i k : Nat} (hi : i < n) (hk : k < n) :
    sumR n (fun j => sumR n (fun l => ((if i = l then 1 else 0) - K i * H l) * P l j) * ((if k = j then 1 else 0) - K k * H j)) = P i k - K i * U k - K k * U i + K i * K k * sumR n (fun j => H j * U j) := by
  have e1 : ∀ j, j < n → sumR n (fun l => ((if i = l then 1 else 0) - K i * H l) * P l j) = P i j - K i * U j := fun j hj => by
    have : sumR n (fun l => ((if i = l then 1 else 0) - K i * H l) * P l j) = sumR n (fun l => (if i = l then 1 else 0) * P l j - K i * (P j l * H l)) := sumR_congr fun l hl => by
      rw [hs j l hj hl]; grind
    rw [this, sumR_sub, sumR_one (fun l => P l j) hi, sumR_mul, ← hU j hj]
  have e2 : sumR n (fun j => sumR n (fun l => ((if i = l then 1 else 0) - K i * H l) * P l j) * ((if k = j then 1 else 0) - K k * H j)) =
      sumR n (fun j => (if k = j then 1 else 0) * (P i j - K i * U j) - (K k * (P i j * H j) - K i * K k * (H j * U j))) := sumR_congr fun j hj => by
    rw [e1 j hj]; grind
  rw [e2, sumR_sub, sumR_sub, sumR_one (fun j => P i j - K i * U j) hk, sumR_mul, sumR_mul, ← hU i hi]
  grind

theorem up_raw (hn : 1 ≤ n ∧ n ≤ 16) (lp : p.length = n * n) (lh : h.length = n) (hs : ∀ i k, i < n → k < n → p.getD (i * n + k) dz = p.getD (k * n + i) dz) {i k : Nat} (hi : i < n) (hk : k < n) {x : Fr}
    (hx : x = (List.zipWith addF (prodF n n n (prodF n n n (mF n p h r) p) (turnF n n (mF n p h r))) (krkF n p h r)).getD (i * n + k) dz) (hb : x.bad = false) :
    allFine n p h r ∧ nA n p h r ≠ 0 ∧ Is (spreadF n p h r) (nA n p h r) ∧ Is x (nP n p i k - nU n p h i * nU n p h k / nA n p h r) := by
  have lm := m_len n p h r
  have lt := turnF_len hn hn lm
  have l1 : (prodF n n n (mF n p h r) p).length = n * n := prodF_len'
  have l2 : (prodF n n n (prodF n n n (mF n p h r) p) (turnF n n (mF n p h r))).length = n * n := prodF_len'
  have l3 : (krkF n p h r).length = n * n := by
    have := prodF_len' (R := n) (M := 1) (K := n) (a := (kF n p h r).map (mulF · r)) (b := turnF n 1 (kF n p h r))
    rw [Int.natCast_one] at this
    exact this
  have ht := at_table hi hk
  subst hx
  rw [zip_at (by rw [l2]; exact ht.1) (by rw [l3]; exact ht.1)] at hb ⊢
  obtain ⟨h1, h2, h3⟩ := addF_is hb
  obtain ⟨k1, k2⟩ := prod_at hn hn hn l1 lt hi hk (fine_bad h1)
  have k3 := krk_at hn hi hk (fine_bad h2)
  have k4 := fun j hj => prod_at hn hn hn lm lp hi (k := j) hj (fine_bad (k1 j hj).1)
  have k5 : ∀ l, l < n → ((mF n p h r).getD (i * n + l) dz).fine = true := fun l hl => ((k4 0 (by omega)).1 l hl).1
  have k6 : ∀ j, j < n → ((mF n p h r).getD (k * n + j) dz).fine = true := fun j hj => by
    have := (k1 j hj).2
    rwa [turn_at hn hn lm hk hj] at this
  have mi := fun l hl => m_at (r := r) hn lp lh hi (l := l) hl (fine_bad (k5 l hl))
  have mk := fun l hl => m_at (r := r) hn lp lh hk (l := l) hl (fine_bad (k6 l hl))
  obtain ⟨q1, q2, q3⟩ := k_is hn lp lh hi (fine_bad (mi 0 (by omega)).1)
  obtain ⟨_, _, q4⟩ := k_is hn lp lh hk (fine_bad (mk 0 (by omega)).1)
  obtain ⟨s1, s2, s3⟩ := spread_is hn lp lh q1
  refine ⟨s1, q2, s2, h3.1, ?_⟩
  rw [h3.2, k2.2, k3.2]
  have e : sumR n (fun j => ((prodF n n n (mF n p h r) p).getD (i * n + j) dz).val * ((turnF n n (mF n p h r)).getD (j * n + k) dz).val) =
      sumR n (fun j => sumR n (fun l => ((if i = l then 1 else 0) - (fun i => ((kF n p h r).getD i dz).val) i * nH h l) * nP n p l j) * ((if k = j then 1 else 0) - (fun i => ((kF n p h r).getD i dz).val) k * nH h j)) := sumR_congr fun j hj => by
    rw [(k4 j hj).2.2, turn_at hn hn lm hk hj, (mk j hj).2.2.2]
    congr 1
    exact sumR_congr fun l hl => by rw [(mi l hl).2.2.2]; rfl
  rw [e, up_sum (fun i => ((kF n p h r).getD i dz).val) (nP n p) (nH h) (nU n p h) (fun i hi => rfl) (fun i k hi hk => by unfold nP; rw [hs i k hi hk]) hi hk]
  rw [q3.2, q4.2]
  have hA : sumR n (fun j => nH h j * nU n p h j) = nA n p h r - r.val := by unfold nA; grind
  rw [hA]
  grind

/-- P behind an update, in numbers. -/
theorem up_at (hn : 1 ≤ n ∧ n ≤ 16) (lp : p.length = n * n) (lh : h.length = n) (hs : ∀ i k, i < n → k < n → p.getD (i * n + k) dz = p.getD (k * n + i) dz) {i k : Nat} (hi : i < n) (hk : k < n) (hb : ((upP n p h r).getD (i * n + k) dz).bad = false) :
    allFine n p h r ∧ nA n p h r ≠ 0 ∧ Is (spreadF n p h r) (nA n p h r) ∧ Is ((upP n p h r).getD (i * n + k) dz) (nP n p i k - nU n p h i * nU n p h k / nA n p h r) := by
  have l2 : (prodF n n n (prodF n n n (mF n p h r) p) (turnF n n (mF n p h r))).length = n * n := prodF_len'
  have l3 : (krkF n p h r).length = n * n := by
    have := prodF_len' (R := n) (M := 1) (K := n) (a := (kF n p h r).map (mulF · r)) (b := turnF n 1 (kF n p h r))
    rw [Int.natCast_one] at this
    exact this
  have e : (upP n p h r).getD (i * n + k) dz = (List.zipWith addF (prodF n n n (prodF n n n (mF n p h r) p) (turnF n n (mF n p h r))) (krkF n p h r)).getD (max i k * n + min i k) dz := by
    unfold upP turnedF
    exact mir_at hn (by rw [List.length_zipWith, l2, l3, Nat.min_self]) hi hk
  obtain ⟨h1, h2, h3, h4⟩ := up_raw hn lp lh hs (show max i k < n by omega) (show min i k < n by omega) e hb
  refine ⟨h1, h2, h3, h4.1, ?_⟩
  rw [h4.2]
  by_cases hik : k ≤ i
  · rw [Nat.max_eq_left hik, Nat.min_eq_right hik]
  · rw [Nat.max_eq_right (by omega), Nat.min_eq_left (by omega)]
    have : nP n p k i = nP n p i k := by unfold nP; rw [hs i k hi hk]
    rw [this]
    grind
end Go.Proofs.YtbflmeomkfjikaaGreat.A


set_option linter.unusedVariables false
set_option linter.unusedSimpArgs false
set_option maxRecDepth 100000
namespace Go.Proofs.YtbflmeomkfjikaaGreat.A
open Go Go.RowKit Go.Shelf

/-! ### What a root is, entry by entry -/
theorem rootI_is {n : Int} (h0 : 0 ≤ n) (h : ¬ rootI n < 0) : rootI n * rootI n = n := by
  unfold rootI at h ⊢
  split at h
  · rename_i e
    rw [if_pos e, ← Int.natCast_mul, e]
    omega
  · omega
theorem rootF_is {a : Fr} (h : (rootF a).bad = false) : a.fine = true ∧ (rootF a).fine = true ∧ (rootF a).val * (rootF a).val = a.val := by
  unfold rootF at h ⊢
  split at h
  · cases h
  · rename_i e
    rw [if_neg e]
    have hf : a.fine = true := by cases hf : a.fine with | true => rfl | false => exact absurd (.inl hf) e
    have h1 : ¬ a.n < 0 := fun h => e (.inr (.inl h))
    have h2 : ¬ rootI a.n < 0 := fun h => e (.inr (.inr (.inl h)))
    have h3 : ¬ rootI a.d < 0 := fun h => e (.inr (.inr (.inr h)))
    obtain ⟨f1, f2, f3⟩ := newF_fine h
    have hd := (Fr.fine_spec hf).2.1
    have r1 := rootI_is (by omega) h2
    have r2 := rootI_is (by omega) h3
    refine ⟨hf, f1, ?_⟩
    rw [f2]
    unfold Fr.val
    generalize rootI a.n = r at *
    generalize rootI a.d = t at *
    rw [← r1, ← r2]
    have ht : (t : Rat) ≠ 0 := cast_ne f3
    rw [Rat.intCast_mul, Rat.intCast_mul]
    grind
theorem take_rowM (n : Nat) (M : Nat → Nat → Fr) (i k : Nat) (hk : k ≤ n) : (rowM n M i).take k = (List.range k).map (M i) := by
  rw [rowM, ← List.map_take, List.take_range, Nat.min_eq_left hk]
theorem leftM_congr {n : Nat} {p : List Fr} {M N : Nat → Nat → Fr} {i k : Nat} (hk : k ≤ n) (h : ∀ j, j < k → M i j = N i j ∧ M k j = N k j) : leftM n p M i k = leftM n p N i k := by
  unfold leftM
  rw [take_rowM n M i k hk, take_rowM n M k k hk, take_rowM n N i k hk, take_rowM n N k k hk]
  congr 2
  · exact List.map_congr_left fun j hj => (h j (List.mem_range.1 hj)).1
  · exact List.map_congr_left fun j hj => (h j (List.mem_range.1 hj)).2
theorem colS_other (n : Nat) (p : List Fr) (k : Nat) (M : Nat → Nat → Fr) : ∀ (j a b : Nat), b ≠ k ∨ a < k → colS n p k M j a b = M a b
  | 0, a, b, h => by
    simp only [colS, stepD, setM]
    rw [if_neg (by omega)]
  | j + 1, a, b, h => by
    simp only [colS, setM]
    rw [if_neg (by omega)]
    exact colS_other n p k M j a b h
theorem colS_diag (n : Nat) (p : List Fr) (k : Nat) (M : Nat → Nat → Fr) : ∀ j, colS n p k M j k k = rootF (leftM n p M k k)
  | 0 => by
    simp only [colS, stepD, setM]
    rw [if_pos (by simp)]
  | j + 1 => by
    simp only [colS, setM]
    rw [if_neg (by rintro ⟨h, _⟩; omega)]
    exact colS_diag n p k M j
theorem colS_low (n : Nat) (p : List Fr) (k : Nat) (M : Nat → Nat → Fr) (hk : k ≤ n) : ∀ (j t : Nat), t < j → colS n p k M j (k + 1 + t) k = divF (leftM n p M (k + 1 + t) k) (rootF (leftM n p M k k))
  | 0, t, h => by omega
  | j + 1, t, h => by
    simp only [colS, setM]
    by_cases e : t = j
    · subst e
      rw [if_pos (by simp), colS_diag]
      congr 1
      exact leftM_congr hk fun q hq => ⟨colS_other n p k M t _ _ (.inl (by omega)), colS_other n p k M t _ _ (.inl (by omega))⟩
    · rw [if_neg (by omega)]
      exact colS_low n p k M hk j t (by omega)
theorem rootS_out (n : Nat) (p : List Fr) : ∀ (k a b : Nat), k ≤ b → rootS n p k a b = newF 0 1
  | 0, a, b, h => rfl
  | k + 1, a, b, h => by
    rw [rootS, colS_other n p k _ _ _ _ (.inl (by omega))]
    exact rootS_out n p k a b (by omega)
theorem rootS_keep (n : Nat) (p : List Fr) : ∀ (k a b : Nat), b < k → rootS n p k a b = rootS n p (b + 1) a b
  | 0, a, b, h => by omega
  | k + 1, a, b, h => by
    by_cases e : b = k
    · rw [e]
    · rw [rootS, colS_other n p k _ _ _ _ (.inl (by omega))]
      exact rootS_keep n p k a b (by omega)
theorem rootS_left {n : Nat} {p : List Fr} {i k : Nat} (hk : k ≤ n) : leftM n p (rootS n p k) i k = leftM n p (rootS n p n) i k :=
  leftM_congr hk fun j hj => ⟨(rootS_keep n p k i j hj).trans (rootS_keep n p n i j (by omega)).symm, (rootS_keep n p k k j hj).trans (rootS_keep n p n k j (by omega)).symm⟩
theorem root_up {n : Nat} {p : List Fr} {i k : Nat} (h : i < k) (hk : k < n) : rootS n p n i k = newF 0 1 := by
  rw [rootS_keep n p n i k hk, rootS, colS_other n p k _ _ _ _ (.inr h)]
  exact rootS_out n p k i k (Nat.le_refl _)
theorem root_diag {n : Nat} {p : List Fr} {k : Nat} (hk : k < n) : rootS n p n k k = rootF (leftM n p (rootS n p n) k k) := by
  rw [rootS_keep n p n k k hk, rootS, colS_diag, rootS_left (by omega)]
theorem root_low {n : Nat} {p : List Fr} {i k : Nat} (h : k < i) (hi : i < n) : rootS n p n i k = divF (leftM n p (rootS n p n) i k) (rootS n p n k k) := by
  rw [rootS_keep n p n i k (by omega), rootS]
  have := colS_low n p k (rootS n p k) (by omega) (n - (k + 1)) (i - (k + 1)) (by omega)
  rw [show k + 1 + (i - (k + 1)) = i by omega] at this
  rw [this, rootS_left (by omega), rootS_left (by omega), ← root_diag (by omega)]

end Go.Proofs.YtbflmeomkfjikaaGreat.A


set_option linter.unusedVariables false
set_option linter.unusedSimpArgs false
set_option maxRecDepth 100000
namespace Go.Proofs.YtbflmeomkfjikaaGreat.A
open Go Go.RowKit Go.Shelf

/-! ### Sums of whole numbers -/
def sumZ : Nat → (Nat → Int) → Int
  | 0, _ => 0
  | n + 1, f => sumZ n f + f n
theorem sumZ_congr {f g : Nat → Int} : ∀ {n : Nat}, (∀ j, j < n → f j = g j) → sumZ n f = sumZ n g
  | 0, _ => rfl
  | n + 1, h => by rw [sumZ, sumZ, sumZ_congr fun j hj => h j (by omega), h n (by omega)]
theorem sumZ_tail {f : Nat → Int} {k n : Nat} (hk : k ≤ n) (h : ∀ j, k ≤ j → j < n → f j = 0) : sumZ n f = sumZ k f := by
  induction n with
  | zero => rw [show k = 0 by omega]
  | succ n ih =>
    by_cases e : k = n + 1
    · rw [e]
    · rw [sumZ, ih (by omega) (fun j h1 h2 => h j h1 (by omega)), h n (by omega) (by omega), Int.add_zero]
theorem sumZ_bnd {f : Nat → Int} {B : Int} (hB : 0 ≤ B) (hf : ∀ j, -B ≤ f j ∧ f j ≤ B) : ∀ n : Nat, -((n : Int) * B) ≤ sumZ n f ∧ sumZ n f ≤ (n : Int) * B
  | 0 => by simp [sumZ]
  | n + 1 => by
    have h := sumZ_bnd hB hf n
    have h2 := hf n
    have e : ((n + 1 : Nat) : Int) * B = (n : Int) * B + B := by rw [Int.natCast_add, Int.add_mul]; simp
    rw [sumZ, e]
    omega
theorem sumZ_cast (f : Nat → Int) : ∀ n, ((sumZ n f : Int) : Rat) = sumR n fun j => (f j : Rat)
  | 0 => rfl
  | n + 1 => by rw [sumZ, Rat.intCast_add, sumZ_cast f n, sumR]
/-- The dot of whole numbers. -/
theorem dot_whole {f g : Nat → Int} (hf : ∀ j, -100 ≤ f j ∧ f j ≤ 100) (hg : ∀ j, -100 ≤ g j ∧ g j ≤ 100) {n : Nat} (hn : n ≤ 16) :
    dotF ((List.range n).map fun j => newF (f j) 1) ((List.range n).map fun j => newF (g j) 1) = newF (sumZ n fun j => f j * g j) 1 := by
  have hb : ∀ j, -10000 ≤ f j * g j ∧ f j * g j ≤ 10000 := fun j => prod_small (hf j) (hg j)
  have hs : ∀ j, j ≤ 16 → few (sumZ j fun j => f j * g j) := fun j hj => by
    have := sumZ_bnd (B := 10000) (by omega) hb j
    unfold few
    omega
  unfold dotF
  rw [newF_whole (hs n hn), List.zipWith_map, List.zipWith_self]
  have e : ∀ j, mulF (newF (f j) 1) (newF (g j) 1) = whole (f j * g j) := fun j => by
    have h3 := hb j
    rw [newF_whole (few_small (hf j)), newF_whole (few_small (hg j)), mulF_whole (few_small (hf j)) (few_small (hg j)) (by unfold few; omega)]
  simp only [e]
  exact sumF_whole (fun j => f j * g j) (fun j => sumZ j fun j => f j * g j) rfl (fun j => rfl) n (fun j _ => by have := hb j; unfold few; omega) (fun j hj => hs j (by omega)) n (Nat.le_refl _)

/-! ### Roots of squares of whole triangles -/
theorem rootI_sq {s : Int} (h : 0 ≤ s ∧ s ≤ 100) : rootI (s * s) = s := by
  obtain ⟨S, rfl⟩ : ∃ S : Nat, s = S := ⟨s.toNat, by omega⟩
  have e : ((S : Int) * S).toNat = S * S := by rw [← Int.natCast_mul, Int.toNat_natCast]
  have hs : S < 2 ^ 16 := by omega
  unfold rootI
  rw [e, rtB_sq hs, if_pos rfl]
theorem root_whole {s : Int} (h : 0 ≤ s ∧ s ≤ 100) : rootF (newF (s * s) 1) = newF s 1 := by
  have hb : 0 ≤ s * s ∧ s * s ≤ 10000 := ⟨Int.mul_nonneg h.1 h.1, (prod_small ⟨by omega, h.2⟩ ⟨by omega, h.2⟩).2⟩
  have hf : few (s * s) := by unfold few; omega
  rw [newF_whole hf]
  unfold rootF
  have r1 := rootI_sq h
  have r2 : rootI 1 = 1 := by decide +kernel
  simp only [fine_whole hf]
  show (if true = false ∨ s * s < 0 ∨ rootI (s * s) < 0 ∨ rootI 1 < 0 then Fr.wrong else newF (rootI (s * s)) (rootI 1)) = _
  rw [r1, r2, if_neg (by rintro (h1 | h1 | h1 | h1) <;> first | cases h1 | omega)]
theorem div_whole {a b : Int} (ha : -100 ≤ a ∧ a ≤ 100) (hb : 1 ≤ b ∧ b ≤ 100) : divF (newF (a * b) 1) (newF b 1) = newF a 1 := by
  have hp := prod_small (x := a) (y := b) ha ⟨by omega, hb.2⟩
  have f1 : few (a * b) := by unfold few; omega
  have f2 : few b := by unfold few; omega
  have f3 : few a := by unfold few; omega
  rw [newF_whole f1, newF_whole f2]
  unfold divF
  rw [fine_whole f1, fine_whole f2, if_neg (by simp)]
  simp only [whole]
  rw [Int.mul_one, Int.one_mul]
  have h1 : newF (a * b) b = newF a 1 := by
    have hb0 : b ≠ 0 := by omega
    have i1 : Is (newF (a * b) b) (a : Rat) := by
      have hg : Int.gcd (a * b) b = b.natAbs := by
        show Nat.gcd (a * b).natAbs b.natAbs = _
        rw [Int.natAbs_mul]
        exact Nat.gcd_eq_right (Nat.dvd_mul_left _ _)
      have hq : (newF (a * b) b).bad = false := by
        unfold newF
        rw [if_neg (by omega)]
        simp only [show ¬ b < 0 by omega, if_false, hg]
        have e1 : ((b.natAbs : Nat) : Int) = b := by omega
        rw [e1, Int.mul_tdiv_cancel _ hb0, Int.tdiv_self hb0, if_neg (by omega)]
      obtain ⟨g1, g2, g3⟩ := newF_fine hq
      refine ⟨g1, g2.trans ?_⟩
      have := cast_ne hb0
      rw [Rat.intCast_mul]
      grind
    exact i1.inj (whole_is f3)
  exact h1
section
variable {n : Nat} {L : Nat → Nat → Int}
/-- A lower triangle of small whole numbers, its diagonal above 0. -/
structure LowTri (n : Nat) (L : Nat → Nat → Int) : Prop where
  small : ∀ i k, -100 ≤ L i k ∧ L i k ≤ 100
  zero : ∀ i k, i < k → k < n → L i k = 0
  diag : ∀ k, k < n → 1 ≤ L k k
theorem LowTri.sum (h : LowTri n L) {i k : Nat} (hk : k < n) (hki : k ≤ i) : sumZ n (fun j => L i j * L k j) = sumZ k (fun j => L i j * L k j) + L i k * L k k := by
  have : sumZ n (fun j => L i j * L k j) = sumZ (k + 1) (fun j => L i j * L k j) := sumZ_tail (by omega) fun j h1 h2 => by rw [h.zero k j (by omega) h2, Int.mul_zero]
  rw [this, sumZ]
theorem LowTri.left (hn : 1 ≤ n ∧ n ≤ 16) (h : LowTri n L) {p : List Fr} (hp : ∀ i k, i < n → k < n → atF n n p i k = newF (sumZ n fun j => L i j * L k j) 1) {S : Nat → Nat → Fr} {i k : Nat} (hk : k < n) (hki : k ≤ i) (hi : i < n)
    (hS : ∀ j, j < k → S i j = newF (L i j) 1 ∧ S k j = newF (L k j) 1) : leftM n p S i k = newF (L i k * L k k) 1 := by
  unfold leftM
  rw [take_rowM n S i k (by omega), take_rowM n S k k (by omega), hp i k hi hk, h.sum hk hki]
  have e1 : (List.range k).map (S i) = (List.range k).map fun j => newF (L i j) 1 := List.map_congr_left fun j hj => (hS j (List.mem_range.1 hj)).1
  have e2 : (List.range k).map (S k) = (List.range k).map fun j => newF (L k j) 1 := List.map_congr_left fun j hj => (hS j (List.mem_range.1 hj)).2
  rw [e1, e2, dot_whole (h.small i) (h.small k) (by omega)]
  have hb : ∀ j, -10000 ≤ L i j * L k j ∧ L i j * L k j ≤ 10000 := fun j => prod_small (h.small i j) (h.small k j)
  have hs := sumZ_bnd (B := 10000) (by omega) hb k
  have hk' := hb k
  generalize sumZ k (fun j => L i j * L k j) = s at *
  rw [newF_whole (n := s + L i k * L k k) (by unfold few; omega), newF_whole (n := s) (by unfold few; omega), subF_whole (by unfold few; omega) (by unfold few; omega) (by unfold few; omega), newF_whole (by unfold few; omega)]
  congr 1
  omega
theorem LowTri.root (hn : 1 ≤ n ∧ n ≤ 16) (h : LowTri n L) {p : List Fr} (hp : ∀ i k, i < n → k < n → atF n n p i k = newF (sumZ n fun j => L i j * L k j) 1) : ∀ k i, k < n → i < n → rootS n p n i k = newF (L i k) 1 := by
  intro k
  induction k using Nat.strongRecOn with
  | ind k ih =>
    intro i hk hi
    have hdiag : rootS n p n k k = newF (L k k) 1 := by
      rw [root_diag hk, LowTri.left hn h hp hk (Nat.le_refl _) hk (fun j hj => ⟨ih j hj k (by omega) hk, ih j hj k (by omega) hk⟩)]
      exact root_whole ⟨by have := h.diag k hk; omega, (h.small k k).2⟩
    rcases Nat.lt_trichotomy i k with h1 | h1 | h1
    · rw [root_up h1 hk, h.zero i k h1 hk]
    · rw [h1]; exact hdiag
    · rw [root_low h1 hi, hdiag, LowTri.left hn h hp hk (by omega) hi (fun j hj => ⟨ih j hj i (by omega) hi, ih j hj k (by omega) hk⟩)]
      exact div_whole (h.small i k) ⟨h.diag k hk, (h.small k k).2⟩
end
end Go.Proofs.YtbflmeomkfjikaaGreat.A


set_option linter.unusedVariables false
set_option linter.unusedSimpArgs false
set_option maxRecDepth 100000
namespace Go.Proofs.YtbflmeomkfjikaaGreat.A
open Go Go.RowKit Go.Shelf

/-! ### One column folded, in numbers -/
section
variable {m : Nat} {A : Nat → Nat → Rat} {k : Nat} {p : Rat}
end
theorem abs_mul {a b x y : Rat} (h1 : -a ≤ x ∧ x ≤ a) (h2 : -b ≤ y ∧ y ≤ b) : -(a * b) ≤ x * y ∧ x * y ≤ a * b := by
  have k1 : 0 ≤ (a - x) * (b + y) := Rat.mul_nonneg (by grind) (by grind)
  have k2 : 0 ≤ (a + x) * (b - y) := Rat.mul_nonneg (by grind) (by grind)
  have k3 : 0 ≤ (a - x) * (b - y) := Rat.mul_nonneg (by grind) (by grind)
  have k4 : 0 ≤ (a + x) * (b + y) := Rat.mul_nonneg (by grind) (by grind)
  constructor <;> grind
end Go.Proofs.YtbflmeomkfjikaaGreat.A


set_option linter.unusedVariables false
set_option linter.unusedSimpArgs false
set_option maxRecDepth 100000
namespace Go.Proofs.YtbflmeomkfjikaaGreat.A
open Go Go.RowKit Go.Shelf

/-! ### Numbers that tend to one -/
def Tends (s : Nat → Rat) (v : Rat) : Prop := ∀ e : Rat, 0 < e → ∃ N : Nat, ∀ m, N ≤ m → -e < s m - v ∧ s m - v < e
theorem Tends.const (v : Rat) : Tends (fun _ => v) v := fun e he => ⟨0, fun m _ => by grind⟩
theorem Tends.add {s t : Nat → Rat} {v w : Rat} (h : Tends s v) (k : Tends t w) : Tends (fun m => s m + t m) (v + w) := fun e he => by
  obtain ⟨N, hN⟩ := h (e / 2) (by grind)
  obtain ⟨M, hM⟩ := k (e / 2) (by grind)
  refine ⟨max N M, fun m hm => ?_⟩
  have h1 := hN m (by omega)
  have h2 := hM m (by omega)
  grind
theorem Tends.neg {s : Nat → Rat} {v : Rat} (h : Tends s v) : Tends (fun m => - s m) (-v) := fun e he => by
  obtain ⟨N, hN⟩ := h e he
  exact ⟨N, fun m hm => by have := hN m hm; grind⟩
theorem Tends.sub {s t : Nat → Rat} {v w : Rat} (h : Tends s v) (k : Tends t w) : Tends (fun m => s m - t m) (v - w) := by
  have := h.add k.neg
  have e : (fun m => s m + - t m) = fun m => s m - t m := by funext m; grind
  rw [e] at this
  have e2 : v + -w = v - w := by grind
  rwa [e2] at this
/-- Bounded, and behind some number. -/
def BndS (s : Nat → Rat) : Prop := ∃ B : Rat, 0 < B ∧ ∃ N : Nat, ∀ m, N ≤ m → -B ≤ s m ∧ s m ≤ B
theorem rat_abs (v : Rat) : ∃ B : Rat, 0 < B ∧ -B ≤ v ∧ v ≤ B := by
  by_cases h : 0 ≤ v
  · exact ⟨v + 1, by grind, by grind, by grind⟩
  · exact ⟨-v + 1, by grind, by grind, by grind⟩
theorem Tends.bnd {s : Nat → Rat} {v : Rat} (h : Tends s v) : BndS s := by
  obtain ⟨B, hB, h1, h2⟩ := rat_abs v
  obtain ⟨N, hN⟩ := h 1 (by decide)
  exact ⟨B + 1, by grind, N, fun m hm => by have := hN m hm; grind⟩
theorem mul_small {x y e B : Rat} (hB : 0 < B) (hx : -B ≤ x ∧ x ≤ B) (hy : -(e / B) < y ∧ y < e / B) (he : 0 < e) : -e ≤ x * y ∧ x * y ≤ e := by
  have h1 := abs_mul hx (b := e / B) ⟨Rat.le_of_lt hy.1, Rat.le_of_lt hy.2⟩
  have e1 : B * (e / B) = e := by grind
  rwa [e1] at h1
theorem div_pos' {e B : Rat} (he : 0 < e) (hB : 0 < B) : 0 < e / B := by
  rw [Rat.div_def]
  exact Rat.mul_pos he (Rat.inv_pos.2 hB)
theorem Tends.null_mul {s t : Nat → Rat} (h : BndS s) (k : Tends t 0) : Tends (fun m => s m * t m) 0 := fun e he => by
  obtain ⟨B, hB, N, hN⟩ := h
  obtain ⟨M, hM⟩ := k (e / 2 / B) (div_pos' (by grind) hB)
  refine ⟨max N M, fun m hm => ?_⟩
  have h1 := hN m (by omega)
  have h2 := hM m (by omega)
  have h3 := mul_small (x := s m) (y := t m) hB h1 (by grind) (by grind : 0 < e / 2)
  grind
theorem Tends.zero_iff {s : Nat → Rat} {v : Rat} : Tends s v ↔ Tends (fun m => s m - v) 0 := by
  unfold Tends
  constructor
  · intro h e he
    obtain ⟨N, hN⟩ := h e he
    exact ⟨N, fun m hm => by have := hN m hm; grind⟩
  · intro h e he
    obtain ⟨N, hN⟩ := h e he
    exact ⟨N, fun m hm => by have := hN m hm; grind⟩
theorem Tends.mul {s t : Nat → Rat} {v w : Rat} (h : Tends s v) (k : Tends t w) : Tends (fun m => s m * t m) (v * w) := by
  rw [Tends.zero_iff]
  have h1 := Tends.null_mul h.bnd (Tends.zero_iff.1 k)
  have h2 := Tends.null_mul (Tends.const w).bnd (Tends.zero_iff.1 h)
  have h3 := h1.add h2
  have e : (fun m => s m * (t m - w) + w * (s m - v)) = fun m => s m * t m - v * w := by funext m; grind
  rw [e] at h3
  have e2 : (0 : Rat) + 0 = 0 := by grind
  rwa [e2] at h3
theorem Tends.inv {s : Nat → Rat} {v : Rat} (h : Tends s v) (hv : v ≠ 0) : Tends (fun m => (s m)⁻¹) v⁻¹ := by
  -- away from 0
  have hb : ∃ c : Rat, 0 < c ∧ ∃ N : Nat, ∀ m, N ≤ m → s m ≠ 0 ∧ -c ≤ (s m)⁻¹ ∧ (s m)⁻¹ ≤ c := by
    by_cases hp : 0 < v
    · obtain ⟨N, hN⟩ := h (v / 2) (by grind)
      refine ⟨(v / 2)⁻¹, Rat.inv_pos.2 (by grind), N, fun m hm => ?_⟩
      have h1 := hN m hm
      have h2 : 0 < s m := by grind
      have h3 : 0 < (s m)⁻¹ := Rat.inv_pos.2 h2
      have h4 : 0 < (v / 2)⁻¹ := Rat.inv_pos.2 (by grind)
      refine ⟨by grind, by grind, ?_⟩
      have h5 : 0 ≤ (s m - v / 2) * ((s m)⁻¹ * (v / 2)⁻¹) := Rat.mul_nonneg (by grind) (Rat.le_of_lt (Rat.mul_pos h3 h4))
      have e1 : (s m - v / 2) * ((s m)⁻¹ * (v / 2)⁻¹) = (v / 2)⁻¹ - (s m)⁻¹ := by
        have a1 : s m * (s m)⁻¹ = 1 := Rat.mul_inv_cancel _ (by grind)
        have a2 : (v / 2) * (v / 2)⁻¹ = 1 := Rat.mul_inv_cancel _ (by grind)
        generalize (s m)⁻¹ = a at *
        generalize (v / 2)⁻¹ = b at *
        grind
      grind
    · have hn : v < 0 := by grind
      obtain ⟨N, hN⟩ := h (-v / 2) (by grind)
      refine ⟨(-v / 2)⁻¹, Rat.inv_pos.2 (by grind), N, fun m hm => ?_⟩
      have h1 := hN m hm
      have h2 : 0 < - s m := by grind
      have h3 : 0 < (- s m)⁻¹ := Rat.inv_pos.2 h2
      have h4 : 0 < (-v / 2)⁻¹ := Rat.inv_pos.2 (by grind)
      have h6 : (s m)⁻¹ = -(- s m)⁻¹ := by
        have a1 : s m * (s m)⁻¹ = 1 := Rat.mul_inv_cancel _ (by grind)
        have a2 : (- s m) * (- s m)⁻¹ = 1 := Rat.mul_inv_cancel _ (by grind)
        generalize (s m)⁻¹ = a at *
        generalize (- s m)⁻¹ = b at *
        have : s m * a = s m * (-b) := by grind
        have h0 : s m ≠ 0 := by grind
        grind
      have h5 : 0 ≤ (- s m - -v / 2) * ((- s m)⁻¹ * (-v / 2)⁻¹) := Rat.mul_nonneg (by grind) (Rat.le_of_lt (Rat.mul_pos h3 h4))
      have e1 : (- s m - -v / 2) * ((- s m)⁻¹ * (-v / 2)⁻¹) = (-v / 2)⁻¹ - (- s m)⁻¹ := by
        have a1 : - s m * (- s m)⁻¹ = 1 := Rat.mul_inv_cancel _ (by grind)
        have a2 : (-v / 2) * (-v / 2)⁻¹ = 1 := Rat.mul_inv_cancel _ (by grind)
        generalize (- s m)⁻¹ = a at *
        generalize (-v / 2)⁻¹ = b at *
        grind
      refine ⟨by grind, by grind, by grind⟩
  obtain ⟨c, hc, N, hN⟩ := hb
  rw [Tends.zero_iff]
  have h2 : Tends (fun m => (s m)⁻¹ * (v⁻¹ * (v - s m))) 0 := by
    refine Tends.null_mul ⟨c, hc, N, fun m hm => (hN m hm).2⟩ ?_
    refine Tends.null_mul (Tends.const v⁻¹).bnd ?_
    have := (Tends.const v).sub h
    have e2 : v - v = 0 := by grind
    rwa [e2] at this
  intro e he
  obtain ⟨M, hM⟩ := h2 e he
  refine ⟨max N M, fun m hm => ?_⟩
  have h3 : -e < (s m)⁻¹ * (v⁻¹ * (v - s m)) - 0 ∧ (s m)⁻¹ * (v⁻¹ * (v - s m)) - 0 < e := hM m (by omega)
  have h4 := (hN m (by omega)).1
  have e1 : (s m)⁻¹ * (v⁻¹ * (v - s m)) = (s m)⁻¹ - v⁻¹ := by
    have a1 : s m * (s m)⁻¹ = 1 := Rat.mul_inv_cancel _ h4
    have a2 : v * v⁻¹ = 1 := Rat.mul_inv_cancel _ hv
    generalize (s m)⁻¹ = a at *
    generalize v⁻¹ = b at *
    grind
  rw [e1] at h3
  exact ⟨by grind, by grind⟩
theorem Tends.sum {s : Nat → Nat → Rat} {v : Nat → Rat} (h : ∀ j, Tends (fun m => s m j) (v j)) : ∀ n, Tends (fun m => sumR n (s m)) (sumR n v)
  | 0 => Tends.const 0
  | n + 1 => (Tends.sum h n).add (h n)
/-- What stays below a bound has its limit there. -/
theorem Tends.le {s : Nat → Rat} {v b : Rat} (h : Tends s v) (hb : ∀ m, s m ≤ b) : v ≤ b := by
  by_cases hv : v ≤ b
  · exact hv
  · obtain ⟨N, hN⟩ := h (v - b) (by grind)
    have h1 := hN N (Nat.le_refl _)
    have h2 := hb N
    grind
theorem Tends.ge {s : Nat → Rat} {v b : Rat} (h : Tends s v) (hb : ∀ m, b ≤ s m) : b ≤ v := by
  have := h.neg.le (b := -b) (fun m => by have := hb m; grind)
  grind
theorem Tends.congr {s t : Nat → Rat} {v : Rat} (h : Tends s v) (k : ∀ m, s m = t m) : Tends t v := by
  have : s = t := funext k
  rwa [← this]
/-- What is within e / (m + 1) of one tends to it. -/
theorem Tends.near {s t : Nat → Rat} {v c : Rat} (h : Tends t v) (hc : 0 ≤ c) (k : ∀ m : Nat, -(c / ((m : Rat) + 1)) ≤ s m - t m ∧ s m - t m ≤ c / ((m : Rat) + 1)) : Tends s v := by
  have h0 : Tends (fun m => s m - t m) 0 := fun e he => by
    obtain ⟨N, hN⟩ : ∃ N : Nat, c / e < (N : Rat) := by
      refine ⟨((c / e).floor + 1).toNat, ?_⟩
      have h1 : c / e < ((c / e).floor + 1 : Int) := Rat.lt_floor_add_one _
      have h2 : ((c / e).floor + 1 : Int) ≤ (((c / e).floor + 1).toNat : Int) := Int.self_le_toNat _
      have h3 := Rat.intCast_le_intCast.2 h2
      rw [Rat.intCast_natCast] at h3
      grind
    refine ⟨N, fun m hm => ?_⟩
    have h1 := k m
    have hm' : (N : Rat) ≤ (m : Rat) := by exact_mod_cast hm
    have h2 : c < e * ((m : Rat) + 1) := by
      have h3 : c = e * (c / e) := by grind
      have h4 : 0 ≤ e * ((m : Rat) - c / e) := Rat.mul_nonneg (Rat.le_of_lt he) (by grind)
      grind
    have hm0 : 0 < (m : Rat) + 1 := by
      have : (0 : Rat) ≤ (N : Rat) := by exact_mod_cast Nat.zero_le N
      grind
    have h5 : c / ((m : Rat) + 1) < e := by
      have h6 : 0 < (e * ((m : Rat) + 1) - c) * ((m : Rat) + 1)⁻¹ := Rat.mul_pos (by grind) (Rat.inv_pos.2 hm0)
      have h7 : ((m : Rat) + 1) * ((m : Rat) + 1)⁻¹ = 1 := Rat.mul_inv_cancel _ (by grind)
      rw [Rat.div_def]
      generalize ((m : Rat) + 1)⁻¹ = a at *
      have h8 : (e * ((m : Rat) + 1) - c) * a = e * (((m : Rat) + 1) * a) - c * a := by grind
      rw [h8, h7] at h6
      grind
    constructor <;> grind
  have := h0.add h
  have e1 : (fun m => s m - t m + t m) = s := by funext m; grind
  have e2 : (0 : Rat) + v = v := by grind
  rwa [e1, e2] at this
/-! ### Roots, as near as is asked -/
end Go.Proofs.YtbflmeomkfjikaaGreat.A


set_option linter.unusedVariables false
set_option linter.unusedSimpArgs false
set_option maxRecDepth 100000
namespace Go.Proofs.YtbflmeomkfjikaaGreat.A
open Go Go.RowKit Go.Shelf

/-! ### What a triangle times it is a row -/
end Go.Proofs.YtbflmeomkfjikaaGreat.A


set_option linter.unusedVariables false
set_option linter.unusedSimpArgs false
set_option maxRecDepth 100000
namespace Go.Proofs.YtbflmeomkfjikaaGreat.A
open Go Go.RowKit Go.Shelf

/-! ### What is solved, times the cleared triangle, is what was asked -/
end Go.Proofs.YtbflmeomkfjikaaGreat.A


set_option linter.unusedVariables false
set_option linter.unusedSimpArgs false
set_option maxRecDepth 100000
namespace Go.Proofs.YtbflmeomkfjikaaGreat.A
open Go Go.RowKit Go.Shelf

/-! ### Fractions beside numbers: where it is fine, it stands for it -/
def Rf (x : Fr) (v : Rat) : Prop := x.fine = true → x.val = v
theorem add_fineF {a b : Fr} (h : (addF a b).fine = true) : a.fine = true ∧ b.fine = true := ⟨(addF_is (fine_bad h)).1, (addF_is (fine_bad h)).2.1⟩
theorem sub_fineF {a b : Fr} (h : (subF a b).fine = true) : a.fine = true ∧ b.fine = true := ⟨(subF_is (fine_bad h)).1, (subF_is (fine_bad h)).2.1⟩
theorem mul_fineF {a b : Fr} (h : (mulF a b).fine = true) : a.fine = true ∧ b.fine = true := ⟨(mulF_is (fine_bad h)).1, (mulF_is (fine_bad h)).2.1⟩
theorem neg_fineF {a : Fr} (h : (negF a).fine = true) : a.fine = true := (negF_is (fine_bad h)).1
theorem Rf.add {a b : Fr} {v w : Rat} (ha : Rf a v) (hb : Rf b w) : Rf (addF a b) (v + w) := fun h => by
  obtain ⟨h1, h2⟩ := add_fineF h
  rw [(addF_is (fine_bad h)).2.2.2, ha h1, hb h2]
theorem Rf.sub {a b : Fr} {v w : Rat} (ha : Rf a v) (hb : Rf b w) : Rf (subF a b) (v - w) := fun h => by
  obtain ⟨h1, h2⟩ := sub_fineF h
  rw [(subF_is (fine_bad h)).2.2.2, ha h1, hb h2]
theorem Rf.mul {a b : Fr} {v w : Rat} (ha : Rf a v) (hb : Rf b w) : Rf (mulF a b) (v * w) := fun h => by
  obtain ⟨h1, h2⟩ := mul_fineF h
  rw [(mulF_is (fine_bad h)).2.2.2, ha h1, hb h2]
theorem Rf.neg {a : Fr} {v : Rat} (ha : Rf a v) : Rf (negF a) (-v) := fun h => by
  rw [(negF_is (fine_bad h)).2.2, ha (neg_fineF h)]
theorem Rf.self (x : Fr) : Rf x x.val := fun _ => rfl
theorem Rf.zero : Rf (newF 0 1) 0 := fun _ => by
  have := (whole_is (n := 0) (by unfold few; omega)).2
  rw [this]
  rfl
theorem sumF_succ (f : Nat → Fr) (n : Nat) : sumF ((List.range (n + 1)).map f) = addF (sumF ((List.range n).map f)) (f n) := by
  unfold sumF
  rw [List.range_succ, List.map_append, List.foldl_append]
  rfl
theorem Rf.sum {f : Nat → Fr} {v : Nat → Rat} : ∀ {n : Nat}, (∀ j, j < n → Rf (f j) (v j)) → Rf (sumF ((List.range n).map f)) (sumR n v)
  | 0, _ => Rf.zero
  | n + 1, h => by
    rw [sumF_succ]
    exact Rf.add (Rf.sum fun j hj => h j (by omega)) (h n (by omega))
theorem dotF_range (f g : Nat → Fr) (n : Nat) : dotF ((List.range n).map f) ((List.range n).map g) = sumF ((List.range n).map fun j => mulF (f j) (g j)) := by
  unfold dotF
  rw [List.zipWith_map, List.zipWith_self]
theorem Rf.dot {f g : Nat → Fr} {v w : Nat → Rat} {n : Nat} (hf : ∀ j, j < n → Rf (f j) (v j)) (hg : ∀ j, j < n → Rf (g j) (w j)) : Rf (dotF ((List.range n).map f) ((List.range n).map g)) (sumR n fun j => v j * w j) := by
  rw [dotF_range]
  exact Rf.sum fun j hj => (hf j hj).mul (hg j hj)
/-! ### Folding fractions, beside numbers -/
section
variable {n w k : Nat} {M : Nat → Nat → Fr} {A : Nat → Nat → Rat} {p : Rat}
end
end Go.Proofs.YtbflmeomkfjikaaGreat.A


set_option linter.unusedVariables false
set_option linter.unusedSimpArgs false
set_option maxRecDepth 100000
namespace Go.Proofs.YtbflmeomkfjikaaGreat.A
open Go Go.RowKit Go.Shelf

/-! ### The triangle's square is the square of what was folded -/
theorem sq_entry {n : Nat} (hn : 1 ≤ n ∧ n ≤ 16) {t : List Fr} (lt : t.length = n * n) {i k : Nat} (hi : i < n) (hk : k < n) :
    (sqF n t).getD (i * n + k) dz = dotF ((List.range n).map fun j => t.getD (max i k * n + j) dz) ((List.range n).map fun j => t.getD (min i k * n + j) dz) := by
  have lt' : (turnF n n t).length = n * n := turnF_len hn hn lt
  have lp : (prodF n n n t (turnF n n t)).length = n * n := by rw [prodF_len]; simp
  unfold sqF
  rw [mir_at hn lp hi hk, prodF_grid hn hn hn lt lt', grid_at (by omega) (by omega)]
  congr 1
  refine List.map_congr_left fun j hj => ?_
  exact turn_at hn hn lt (by omega) (List.mem_range.1 hj)
section
variable {n w : Nat} {l : List Fr}
end
end Go.Proofs.YtbflmeomkfjikaaGreat.A


set_option linter.unusedVariables false
set_option linter.unusedSimpArgs false
set_option maxRecDepth 100000
namespace Go.Proofs.YtbflmeomkfjikaaGreat.A
open Go Go.RowKit Go.Shelf

/-! ### An update of a triangle is an update of its square: whole numbers, exact roots -/
theorem root_up0 {a : Fr} (h : (rootF a).bad = false) : 0 ≤ (rootF a).val := by
  unfold rootF at h ⊢
  split at h
  · cases h
  · rename_i e
    rw [if_neg e]
    have h2 : ¬ rootI a.n < 0 := fun h => e (.inr (.inr (.inl h)))
    have h3 : ¬ rootI a.d < 0 := fun h => e (.inr (.inr (.inr h)))
    obtain ⟨f1, f2, f3⟩ := newF_fine h
    rw [f2]
    have c1 : (0 : Rat) ≤ (rootI a.n : Rat) := by
      have := Rat.intCast_le_intCast.2 (show (0 : Int) ≤ rootI a.n by omega)
      simpa using this
    have c2 : (0 : Rat) ≤ (rootI a.d : Rat) := by
      have := Rat.intCast_le_intCast.2 (show (0 : Int) ≤ rootI a.d by omega)
      simpa using this
    rw [Rat.div_def]
    refine Rat.mul_nonneg c1 ?_
    by_cases h0 : (rootI a.d : Rat) = 0
    · rw [h0, Rat.inv_zero]; exact Rat.le_refl
    · have := Rat.inv_pos.2 (show (0 : Rat) < (rootI a.d : Rat) by grind)
      grind
/-- One column, in numbers. -/
theorem col_ident {Li Lk ei ek a b w d q : Rat} (hb : b = a + w * w) (ha : 0 < a) (hd : 0 ≤ d) (hq : 0 ≤ q) (hd2 : d * d = a / b) (hq2 : q * q = a * b) :
    (Li * d - ei * (w / q)) * (Lk * d - ek * (w / q)) = Li * Lk - (ei + Li * w) * (ek + Lk * w) / b + ei * ek / a := by
  have hw : 0 ≤ w * w := by
    rcases (Rat.le_total : 0 ≤ w ∨ w ≤ 0) with h | h
    · exact Rat.mul_nonneg h h
    · have := Rat.mul_nonneg (show 0 ≤ -w by grind) (show 0 ≤ -w by grind)
      grind
  have hb0 : 0 < b := by grind
  have hab : 0 < a * b := Rat.mul_pos ha hb0
  have hq0 : q ≠ 0 := by
    intro h
    rw [h] at hq2
    grind
  have hb1 : b ≠ 0 := by grind
  have ha1 : a ≠ 0 := by grind
  have hdq : d * q = a := by
    have h1 : (d * q) * (d * q) = a * a := by
      have : (d * q) * (d * q) = (d * d) * (q * q) := by grind
      rw [this, hd2, hq2]
      grind
    have h2 : 0 ≤ d * q := Rat.mul_nonneg hd hq
    have h3 : (d * q - a) * (d * q + a) = 0 := by grind
    rcases Rat.mul_eq_zero.1 h3 with h | h
    · grind
    · grind
  have e1 : d = a / q := by grind
  subst e1
  have e2 : 1 / q * (1 / q) = 1 / (a * b) := by grind
  grind

section
variable (n : Nat) (L : Nat → Nat → Int) (H : Nat → Int) (r : Int)
def zW (j : Nat) : Int := sumZ n fun i => L i j * H i
def zE : Nat → Nat → Int
  | 0, _ => 0
  | t + 1, i => if n - 1 - t ≤ i then zE t i + L i (n - 1 - t) * zW n L H (n - 1 - t) else zE t i
def zA : Nat → Int
  | 0 => r
  | t + 1 => zA t + zW n L H (n - 1 - t) * zW n L H (n - 1 - t)
end
section
variable {n : Nat} {L : Nat → Nat → Int} {H : Nat → Int} {r : Int}
theorem zE_z (i : Nat) : zE n L H 0 i = 0 := by unfold zE; rfl
theorem zE_succ (t i : Nat) : zE n L H (t + 1) i = if n - 1 - t ≤ i then zE n L H t i + L i (n - 1 - t) * zW n L H (n - 1 - t) else zE n L H t i := rfl
theorem zA_succ (t : Nat) : zA n L H r (t + 1) = zA n L H r t + zW n L H (n - 1 - t) * zW n L H (n - 1 - t) := rfl
theorem mul_bnd {x y : Int} {A B : Nat} (hx : x.natAbs ≤ A) (hy : y.natAbs ≤ B) : (x * y).natAbs ≤ A * B := by
  rw [Int.natAbs_mul]
  exact Nat.mul_le_mul hx hy
theorem sumZ_abs {f : Nat → Int} {B : Nat} (hf : ∀ j, (f j).natAbs ≤ B) : ∀ n, (sumZ n f).natAbs ≤ n * B
  | 0 => by simp [sumZ]
  | n + 1 => by
    have h1 := sumZ_abs hf n
    have h2 := hf n
    have h3 := Int.natAbs_add_le (sumZ n f) (f n)
    rw [sumZ, Nat.succ_mul]
    omega
theorem zW_bnd (hn : n ≤ 3) (hL : ∀ i k, (L i k).natAbs ≤ 5) (hH : ∀ j, (H j).natAbs ≤ 5) (j : Nat) : (zW n L H j).natAbs ≤ 75 := by
  have := sumZ_abs (f := fun i => L i j * H i) (B := 25) (fun i => mul_bnd (hL i j) (hH i)) n
  unfold zW
  omega
theorem zE_bnd (hn : n ≤ 3) (hL : ∀ i k, (L i k).natAbs ≤ 5) (hH : ∀ j, (H j).natAbs ≤ 5) (i : Nat) : ∀ t, (zE n L H t i).natAbs ≤ t * 375
  | 0 => by simp [zE]
  | t + 1 => by
    have h1 := zE_bnd hn hL hH i t
    have h2 := mul_bnd (hL i (n - 1 - t)) (zW_bnd hn hL hH (n - 1 - t))
    have h3 := Int.natAbs_add_le (zE n L H t i) (L i (n - 1 - t) * zW n L H (n - 1 - t))
    rw [zE_succ, Nat.succ_mul]
    split <;> omega
theorem zA_bnd (hn : n ≤ 3) (hL : ∀ i k, (L i k).natAbs ≤ 5) (hH : ∀ j, (H j).natAbs ≤ 5) (hr : 1 ≤ r ∧ r ≤ 5) : ∀ t : Nat, 1 ≤ zA n L H r t ∧ zA n L H r t ≤ 5 + t * 5625
  | 0 => by unfold zA; omega
  | t + 1 => by
    have h1 := zA_bnd hn hL hH hr t
    have h2 := mul_bnd (zW_bnd hn hL hH (n - 1 - t)) (zW_bnd hn hL hH (n - 1 - t))
    have h3 : 0 ≤ zW n L H (n - 1 - t) * zW n L H (n - 1 - t) := by
      rcases Int.le_total 0 (zW n L H (n - 1 - t)) with h | h
      · exact Int.mul_nonneg h h
      · exact Int.mul_nonneg_of_nonpos_of_nonpos h h
    rw [zA_succ]
    omega
/-- What is gathered, and the spread: whole numbers. -/
theorem up_z (hn : 1 ≤ n ∧ n ≤ 3) (hL : ∀ i k, (L i k).natAbs ≤ 5) (hH : ∀ j, (H j).natAbs ≤ 5) (hr : 1 ≤ r ∧ r ≤ 5) {M : Nat → Nat → Fr} {W : Nat → Fr} (hM : ∀ i k, i < n → k < n → M i k = newF (L i k) 1) (hW : ∀ j, j < n → W j = newF (zW n L H j) 1) :
    ∀ t, t ≤ n → (∀ i, i < n → (upK n M W (newF r 1) t).2.1 i = newF (zE n L H t i) 1) ∧ (upK n M W (newF r 1) t).2.2 = newF (zA n L H r t) 1
  | 0, _ => ⟨fun i _ => by rw [zE_z]; rfl, rfl⟩
  | t + 1, ht => by
    obtain ⟨h1, h2⟩ := up_z hn hL hH hr hM hW t (by omega)
    have hj : n - 1 - t < n := by omega
    have bW := zW_bnd hn.2 hL hH (n - 1 - t)
    have bA := zA_bnd hn.2 hL hH hr t
    have bA' := zA_bnd hn.2 hL hH hr (t + 1)
    have bWW := mul_bnd bW bW
    constructor
    · intro i hi
      have bE := zE_bnd hn.2 hL hH i t
      have bE' := zE_bnd hn.2 hL hH i (t + 1)
      have bL := hL i (n - 1 - t)
      have bLW := mul_bnd bL bW
      rw [upE_step M W _ hi (by omega), h1 i hi]
      rw [zE_succ] at bE' ⊢
      by_cases h : n - 1 - t ≤ i
      · rw [if_pos h] at bE' ⊢
        rw [if_pos h, hM i _ hi hj, hW _ hj, newF_whole (n := L i (n - 1 - t)) (by unfold few; omega), newF_whole (n := zW n L H (n - 1 - t)) (by unfold few; omega), mulF_whole (by unfold few; omega) (by unfold few; omega) (by unfold few; omega),
          newF_whole (n := zE n L H t i) (by unfold few; omega), addF_whole (by unfold few; omega) (by unfold few; omega) (by unfold few; omega), newF_whole (by unfold few; omega)]
      · rw [if_neg h, if_neg h]
    · rw [upA_step, h2, hW _ hj, newF_whole (n := zW n L H (n - 1 - t)) (by unfold few; omega), mulF_whole (by unfold few; omega) (by unfold few; omega) (by unfold few; omega),
        newF_whole (n := zA n L H r t) (by unfold few; omega)]
      rw [zA_succ] at bA' ⊢
      rw [addF_whole (by unfold few; omega) (by unfold few; omega) (by unfold few; omega), newF_whole (by unfold few; omega)]
/-- Nothing is gathered yet of what stands above. -/
theorem zE_zero {i : Nat} : ∀ t, i + t < n → zE n L H t i = 0
  | 0, _ => zE_z i
  | t + 1, h => by
    rw [zE_succ, if_neg (by omega)]
    exact zE_zero t (by omega)
end
end Go.Proofs.YtbflmeomkfjikaaGreat.A


set_option linter.unusedVariables false
set_option linter.unusedSimpArgs false
set_option maxRecDepth 100000
namespace Go.Proofs.YtbflmeomkfjikaaGreat.A
open Go Go.RowKit Go.Shelf

theorem sumR_tele (f G : Nat → Rat) : ∀ m, sumR m (fun j => f j - G j + G (j + 1)) = sumR m f - G 0 + G m
  | 0 => by simp only [sumR]; grind
  | m + 1 => by simp only [sumR, sumR_tele f G m]; grind
theorem val_whole {x : Int} (h : few x) : (newF x 1).val = (x : Rat) := (whole_is h).2
section
variable {n : Nat} {L : Nat → Nat → Int} {H : Nat → Int} {r : Int} {M : Nat → Nat → Fr} {W : Nat → Fr}
/-- An entry that is written, in numbers. -/
theorem up_fine (hn : 1 ≤ n ∧ n ≤ 3) (hL : ∀ i k, (L i k).natAbs ≤ 5) (hH : ∀ j, (H j).natAbs ≤ 5) (hr : 1 ≤ r ∧ r ≤ 5) (hM : ∀ i k, i < n → k < n → M i k = newF (L i k) 1) (hW : ∀ j, j < n → W j = newF (zW n L H j) 1)
    {i j : Nat} (hi : i < n) (hj : j < n) (hji : j ≤ i) (hf : ((upK n M W (newF r 1) n).1 i j).fine = true) :
    ∃ d q : Rat, 0 ≤ d ∧ 0 ≤ q ∧ d * d = (zA n L H r (n - 1 - j) : Rat) / (zA n L H r (n - j) : Rat) ∧ q * q = (zA n L H r (n - 1 - j) : Rat) * (zA n L H r (n - j) : Rat) ∧
      d = (rootD (newF (zA n L H r (n - 1 - j)) 1) (newF (zA n L H r (n - j)) 1)).val ∧ q = (rootF (mulF (newF (zA n L H r (n - 1 - j)) 1) (newF (zA n L H r (n - j)) 1))).val ∧
      ((upK n M W (newF r 1) n).1 i j).val = (L i j : Rat) * d - (zE n L H (n - 1 - j) i : Rat) * ((zW n L H j : Rat) / q) := by
  obtain ⟨e1, a1⟩ := up_z hn hL hH hr hM hW (n - 1 - j) (by omega)
  obtain ⟨_, a2⟩ := up_z hn hL hH hr hM hW (n - j) (by omega)
  have bA := zA_bnd hn.2 hL hH hr (n - 1 - j)
  have bA' := zA_bnd hn.2 hL hH hr (n - j)
  have bE := zE_bnd hn.2 hL hH i (n - 1 - j)
  have bW := zW_bnd hn.2 hL hH j
  have bL := hL i j
  rw [upE_entry M W _ hi hj n (Nat.le_refl _), if_pos ⟨by omega, hji⟩, a1, a2, e1 i hi, hM i j hi hj, hW j hj] at hf ⊢
  obtain ⟨s1, s2, s3⟩ := subF_is (fine_bad hf)
  obtain ⟨m1, m2, m3⟩ := mulF_is (fine_bad s1)
  obtain ⟨n1, n2, n3⟩ := mulF_is (fine_bad s2)
  have m2' := m2
  unfold rootD at m2'
  have rb := fine_bad m2'
  obtain ⟨r1, r2, r3⟩ := rootF_is rb
  have r4 := root_up0 rb
  obtain ⟨q1, q2, q3, q4⟩ := divF_is (fine_bad r1)
  have n2' := n2
  unfold rootC at n2'
  obtain ⟨c1, c2, c3, c4⟩ := divF_is (fine_bad n2')
  have cb := fine_bad c2
  obtain ⟨t1, t2, t3⟩ := rootF_is cb
  have t4 := root_up0 cb
  obtain ⟨u1, u2, u3⟩ := mulF_is (fine_bad t1)
  have vA := val_whole (x := zA n L H r (n - 1 - j)) (by unfold few; omega)
  have vA' := val_whole (x := zA n L H r (n - j)) (by unfold few; omega)
  have vE := val_whole (x := zE n L H (n - 1 - j) i) (by unfold few; omega)
  have vW := val_whole (x := zW n L H j) (by unfold few; omega)
  have vL := val_whole (x := L i j) (by unfold few; omega)
  refine ⟨_, _, r4, t4, ?_, ?_, rfl, rfl, ?_⟩
  · rw [r3, q4.2, vA, vA']
  · rw [t3, u3.2, vA, vA']
  · rw [s3.2, m3.2, n3.2, vL, vE]
    unfold rootC rootD
    rw [c4.2, vW]
theorem up_square (hn : 1 ≤ n ∧ n ≤ 3) (hL : ∀ i k, (L i k).natAbs ≤ 5) (hH : ∀ j, (H j).natAbs ≤ 5) (hr : 1 ≤ r ∧ r ≤ 5) (hz : ∀ i k, i < k → k < n → L i k = 0) (hM : ∀ i k, i < n → k < n → M i k = newF (L i k) 1) (hW : ∀ j, j < n → W j = newF (zW n L H j) 1)
    {i k : Nat} (hi : i < n) (hk : k < n) (hf : ∀ j, j < n → ((upK n M W (newF r 1) n).1 i j).fine = true ∧ ((upK n M W (newF r 1) n).1 k j).fine = true) :
    sumR n (fun j => ((upK n M W (newF r 1) n).1 i j).val * ((upK n M W (newF r 1) n).1 k j).val) =
      sumR n (fun j => (L i j : Rat) * (L k j : Rat)) - (zE n L H n i : Rat) * (zE n L H n k : Rat) / (zA n L H r n : Rat) := by
  have key : ∀ j, j < n → ((upK n M W (newF r 1) n).1 i j).val * ((upK n M W (newF r 1) n).1 k j).val =
      (L i j : Rat) * (L k j : Rat) - (zE n L H (n - j) i : Rat) * (zE n L H (n - j) k : Rat) / (zA n L H r (n - j) : Rat) + (zE n L H (n - (j + 1)) i : Rat) * (zE n L H (n - (j + 1)) k : Rat) / (zA n L H r (n - (j + 1)) : Rat) := fun j hj => by
    have ej : n - (j + 1) = n - 1 - j := by omega
    have ej' : n - j = (n - 1 - j) + 1 := by omega
    have en : n - 1 - (n - 1 - j) = j := by omega
    have zero : ∀ a, a < n → a < j → ((upK n M W (newF r 1) n).1 a j).val = 0 ∧ L a j = 0 ∧ zE n L H (n - j) a = 0 ∧ zE n L H (n - 1 - j) a = 0 := fun a ha haj => by
      refine ⟨?_, hz a j haj hj, zE_zero _ (by omega), zE_zero _ (by omega)⟩
      rw [upE_entry M W _ ha hj n (Nat.le_refl _), if_neg (by omega), hM a j ha hj, hz a j haj hj, val_whole (by unfold few; omega)]
      rfl
    rw [ej]
    by_cases hij : j ≤ i
    · by_cases hkj : j ≤ k
      · obtain ⟨d, q, d0, q0, d2, q2, ed, eq, v1⟩ := up_fine hn hL hH hr hM hW hi hj hij (hf j hj).1
        obtain ⟨d', q', _, _, _, _, ed', eq', v2⟩ := up_fine hn hL hH hr hM hW hk hj hkj (hf j hj).2
        rw [← ed] at ed'
        rw [← eq] at eq'
        subst ed' eq'
        rw [v1, v2]
        have bA := zA_bnd hn.2 hL hH hr (n - 1 - j)
        have hA0 : (0 : Rat) < (zA n L H r (n - 1 - j) : Rat) := by
          have := Rat.intCast_lt_intCast.2 (show (0 : Int) < zA n L H r (n - 1 - j) by omega)
          simpa using this
        have hb : (zA n L H r (n - j) : Rat) = (zA n L H r (n - 1 - j) : Rat) + (zW n L H j : Rat) * (zW n L H j : Rat) := by
          rw [ej', zA_succ, en, Rat.intCast_add, Rat.intCast_mul]
        have hi' : (zE n L H (n - j) i : Rat) = (zE n L H (n - 1 - j) i : Rat) + (L i j : Rat) * (zW n L H j : Rat) := by
          rw [ej', zE_succ, en, if_pos hij, Rat.intCast_add, Rat.intCast_mul]
        have hk' : (zE n L H (n - j) k : Rat) = (zE n L H (n - 1 - j) k : Rat) + (L k j : Rat) * (zW n L H j : Rat) := by
          rw [ej', zE_succ, en, if_pos hkj, Rat.intCast_add, Rat.intCast_mul]
        rw [hi', hk']
        exact col_ident hb hA0 d0 q0 d2 q2
      · obtain ⟨h1, h2, h3, h4⟩ := zero k hk (by omega)
        rw [h1, h2, h3, h4]
        simp only [Rat.intCast_zero]
        grind
    · obtain ⟨h1, h2, h3, h4⟩ := zero i hi (by omega)
      rw [h1, h2, h3, h4]
      simp only [Rat.intCast_zero]
      grind
  rw [sumR_congr key, sumR_tele (fun j => (L i j : Rat) * (L k j : Rat)) (fun j => (zE n L H (n - j) i : Rat) * (zE n L H (n - j) k : Rat) / (zA n L H r (n - j) : Rat)), Nat.sub_zero, Nat.sub_self, zE_z]
  simp only [Rat.intCast_zero]
  grind
/-- What is gathered is the square times h; the spread is what layer 9 tells. -/
theorem zE_is (hz : ∀ i k, i < k → k < n → L i k = 0) {i : Nat} (hi : i < n) : ∀ t, t ≤ n → (zE n L H t i : Rat) = sumR n (fun j => (L i j : Rat) * (zW n L H j : Rat)) - sumR (n - t) (fun j => (L i j : Rat) * (zW n L H j : Rat))
  | 0, _ => by rw [zE_z, Nat.sub_zero, Rat.intCast_zero]; grind
  | t + 1, ht => by
    have ih := zE_is hz hi t (by omega)
    have e : n - t = (n - 1 - t) + 1 := by omega
    rw [e, sumR] at ih
    rw [show n - (t + 1) = n - 1 - t by omega, zE_succ]
    by_cases h : n - 1 - t ≤ i
    · rw [if_pos h, Rat.intCast_add, Rat.intCast_mul, ih]
      grind
    · rw [if_neg h, ih, hz i (n - 1 - t) (by omega) (by omega), Rat.intCast_zero]
      grind
theorem zA_is : ∀ t, t ≤ n → (zA n L H r t : Rat) = (r : Rat) + sumR n (fun j => (zW n L H j : Rat) * (zW n L H j : Rat)) - sumR (n - t) (fun j => (zW n L H j : Rat) * (zW n L H j : Rat))
  | 0, _ => by rw [show zA n L H r 0 = r from by unfold zA; rfl, Nat.sub_zero]; grind
  | t + 1, ht => by
    have ih := zA_is t (by omega)
    have e : n - t = (n - 1 - t) + 1 := by omega
    rw [e, sumR] at ih
    rw [show n - (t + 1) = n - 1 - t by omega, zA_succ, Rat.intCast_add, Rat.intCast_mul, ih]
    grind
end
end Go.Proofs.YtbflmeomkfjikaaGreat.A


set_option linter.unusedVariables false
set_option linter.unusedSimpArgs false
set_option maxRecDepth 100000
namespace Go.Proofs.YtbflmeomkfjikaaGreat.A
open Go Go.RowKit Go.Shelf

theorem dot_whole2 {f g : Nat → Int} (hf : ∀ j, (f j).natAbs ≤ 100) (hg : ∀ j, (g j).natAbs ≤ 2000) {n : Nat} (hn : n ≤ 16) :
    dotF ((List.range n).map fun j => newF (f j) 1) ((List.range n).map fun j => newF (g j) 1) = newF (sumZ n fun j => f j * g j) 1 := by
  have hb : ∀ j, (f j * g j).natAbs ≤ 200000 := fun j => mul_bnd (hf j) (hg j)
  have hs : ∀ j, j ≤ 16 → few (sumZ j fun j => f j * g j) := fun j hj => by
    have := sumZ_abs (B := 200000) hb j
    unfold few
    omega
  unfold dotF
  rw [newF_whole (hs n hn), List.zipWith_map, List.zipWith_self]
  have e : ∀ j, mulF (newF (f j) 1) (newF (g j) 1) = whole (f j * g j) := fun j => by
    have h1 := hf j
    have h2 := hg j
    have h3 := hb j
    rw [newF_whole (by unfold few; omega), newF_whole (by unfold few; omega), mulF_whole (by unfold few; omega) (by unfold few; omega) (by unfold few; omega)]
  simp only [e]
  exact sumF_whole (fun j => f j * g j) (fun j => sumZ j fun j => f j * g j) rfl (fun j => rfl) n (fun j _ => by have := hb j; unfold few; omega) (fun j hj => hs j (by omega)) n (Nat.le_refl _)
theorem map_whole {x : List Int} {n : Nat} (lx : x.length = n) : x.map (newF · 1) = (List.range n).map fun i => newF (x.getD i 0) 1 := by
  apply List.ext_getElem?
  intro i
  by_cases hi : i < n
  · rw [List.getElem?_map, List.getElem?_map, List.getElem?_range hi, Option.map_some, List.getD_eq_getElem?_getD, List.getElem?_eq_getElem (by omega)]
    simp
  · rw [List.getElem?_eq_none (by simp; omega), List.getElem?_eq_none (by simp; omega)]
section
variable {n : Nat} {low h : List Int} {r : Int}
def lowL (n : Nat) (low : List Int) (i k : Nat) : Int := low.getD (i * n + k) 0
def numH (h : List Int) (j : Nat) : Int := h.getD j 0
/-- What the law says of its numbers. -/
structure Ex9 (n : Nat) (low h : List Int) (r : Int) : Prop where
  hn : 1 ≤ n ∧ n ≤ 3
  ll : low.length = n * n
  lh : h.length = n
  bl : bnd 5 low
  bh : bnd 5 h
  hr : 1 ≤ r ∧ r ≤ 5
  hz : ∀ i k, i < k → k < n → lowL n low i k = 0
theorem ex_at (q : Ex9 n low h r) {i k : Nat} (hi : i < n) (hk : k < n) : startF n n (low.map (newF · 1)) i k = newF (lowL n low i k) 1 := by
  have ⟨hn, ll, lh, bl, bh, hr, hz⟩ := q
  have lM : (low.map (newF · 1)).length = n * n := by rw [List.length_map, ll]
  unfold startF lowL
  rw [atF_eq (right_sq (by omega) lM) (by simpa using hi) (by simpa using hk), Int.toNat_natCast, getD_newF (by rw [ll]; exact (at_table (i := i) (j := k) (n := n) (m := n) hi hk).1)]
theorem ex_P (q : Ex9 n low h r) {i k : Nat} (hi : i < n) (hk : k < n) : (sqF n (low.map (newF · 1))).getD (i * n + k) dz = newF (sumZ n fun j => lowL n low i j * lowL n low k j) 1 := by
  have ⟨hn, ll, lh, bl, bh, hr, hz⟩ := q
  have lM : (low.map (newF · 1)).length = n * n := by rw [List.length_map, ll]
  rw [sq_entry (by omega) lM hi hk]
  have e : ∀ a, a < n → ((List.range n).map fun j => (low.map (newF · 1)).getD (a * n + j) dz) = (List.range n).map fun j => newF (lowL n low a j) 1 := fun a ha => List.map_congr_left fun j hj => by
    unfold lowL
    rw [getD_newF (by rw [ll]; exact (at_table (i := a) (j := j) (n := n) (m := n) ha (List.mem_range.1 hj)).1)]
  have bL : ∀ a j, -100 ≤ lowL n low a j ∧ lowL n low a j ≤ 100 := fun a j => by
    have := bnd_get bl (a * n + j)
    unfold lowL
    omega
  rw [e _ (by omega), e _ (by omega), dot_whole (bL _) (bL _) (by omega)]
  by_cases hik : k ≤ i
  · rw [Nat.max_eq_left hik, Nat.min_eq_right hik]
  · rw [Nat.max_eq_right (by omega), Nat.min_eq_left (by omega)]
    congr 1
    exact sumZ_congr fun j _ => Int.mul_comm _ _
theorem ex_W (q : Ex9 n low h r) {j : Nat} (hj : j < n) : dotsR n (low.map (newF · 1)) (h.map (newF · 1)) j = newF (zW n (lowL n low) (numH h) j) 1 := by
  have ⟨hn, ll, lh, bl, bh, hr, hz⟩ := q
  have lM : (low.map (newF · 1)).length = n * n := by rw [List.length_map, ll]
  unfold dotsR
  rw [rowF_turnF (by omega) lM hj, map_whole lh]
  have e : ((List.range n).map fun (i : Nat) => atF n n (low.map (newF · 1)) i j) = (List.range n).map fun i => newF (lowL n low i j) 1 := List.map_congr_left fun i hi => ex_at q (List.mem_range.1 hi) hj
  rw [e]
  exact dot_whole (f := fun i => lowL n low i j) (g := fun i => h.getD i 0) (fun i => by have := bnd_get bl (i * n + j); unfold lowL; omega) (fun i => by have := bnd_get bh i; omega) (by omega)
theorem ex_u (q : Ex9 n low h r) {i : Nat} (hi : i < n) : (uF n (sqF n (low.map (newF · 1))) (h.map (newF · 1))).getD i dz = newF (sumZ n fun j => (sumZ n fun m => lowL n low i m * lowL n low j m) * numH h j) 1 := by
  have ⟨hn, ll, lh, bl, bh, hr, hz⟩ := q
  have lM : (low.map (newF · 1)).length = n * n := by rw [List.length_map, ll]
  have bLL : ∀ i j, (sumZ n fun m => lowL n low i m * lowL n low j m).natAbs ≤ 75 := fun i j => by
    have := sumZ_abs (f := fun m => lowL n low i m * lowL n low j m) (B := 25) (fun m => mul_bnd (bnd_get bl _) (bnd_get bl _)) n
    omega
  unfold uF
  rw [apply_at (by omega) (sqF_len' n _) hi, map_whole lh]
  have e : ((List.range n).map fun j => (sqF n (low.map (newF · 1))).getD (i * n + j) dz) = (List.range n).map fun j => newF (sumZ n fun m => lowL n low i m * lowL n low j m) 1 := List.map_congr_left fun j hj => ex_P q hi (List.mem_range.1 hj)
  rw [e]
  exact dot_whole (f := fun j => sumZ n fun m => lowL n low i m * lowL n low j m) (g := fun i => h.getD i 0) (fun j => by have := bLL i j; omega) (fun i => by have := bnd_get bh i; omega) (by omega)

/-- In numbers: what is gathered. -/
theorem ex_rows (q : Ex9 n low h r) {i : Nat} (hi : i < n) : (((sumZ n fun j => (sumZ n fun m => lowL n low i m * lowL n low j m) * numH h j) : Int) : Rat) = sumR n fun m => (lowL n low i m : Rat) * (zW n (lowL n low) (numH h) m : Rat) := by
  have ⟨hn, ll, lh, bl, bh, hr, hz⟩ := q
  rw [sumZ_cast]
  have e : ∀ j, j < n → (((sumZ n fun m => lowL n low i m * lowL n low j m) * numH h j : Int) : Rat) = sumR n fun m => (lowL n low i m : Rat) * (lowL n low j m : Rat) * (numH h j : Rat) := fun j _ => by
    rw [Rat.intCast_mul, sumZ_cast, Rat.mul_comm, ← sumR_mul]
    refine sumR_congr fun m _ => ?_
    rw [Rat.intCast_mul]
    grind
  rw [sumR_congr e, sumR_swap]
  refine sumR_congr fun m _ => ?_
  unfold zW
  rw [sumZ_cast, ← sumR_mul]
  refine sumR_congr fun j _ => ?_
  rw [Rat.intCast_mul]
  grind
theorem ex_E (q : Ex9 n low h r) {i : Nat} (hi : i < n) : zE n (lowL n low) (numH h) n i = sumZ n fun j => (sumZ n fun m => lowL n low i m * lowL n low j m) * numH h j := by
  have ⟨hn, ll, lh, bl, bh, hr, hz⟩ := q
  refine Rat.intCast_inj.1 ?_
  rw [ex_rows q hi, zE_is hz hi n (Nat.le_refl _), Nat.sub_self]
  simp only [sumR]
  grind
theorem ex_u' (q : Ex9 n low h r) {i : Nat} (hi : i < n) : (upR n (low.map (newF · 1)) (h.map (newF · 1)) (newF r 1)).2.1 i = (uF n (sqF n (low.map (newF · 1))) (h.map (newF · 1))).getD i dz := by
  have ⟨hn, ll, lh, bl, bh, hr, hz⟩ := q
  have hL : ∀ i k, (lowL n low i k).natAbs ≤ 5 := fun i k => bnd_get bl _
  have hH : ∀ j, (numH h j).natAbs ≤ 5 := fun j => bnd_get bh _
  obtain ⟨k1, _⟩ := up_z (r := r) hn hL hH hr (fun i k hi hk => ex_at q hi hk) (fun j hj => ex_W q hj) n (Nat.le_refl _)
  rw [ex_u q hi, ← ex_E q hi]
  exact k1 i hi
theorem ex_A (q : Ex9 n low h r) : (upR n (low.map (newF · 1)) (h.map (newF · 1)) (newF r 1)).2.2 = spreadF n (sqF n (low.map (newF · 1))) (h.map (newF · 1)) (newF r 1) := by
  have ⟨hn, ll, lh, bl, bh, hr, hz⟩ := q
  have hL : ∀ i k, (lowL n low i k).natAbs ≤ 5 := fun i k => bnd_get bl _
  have hH : ∀ j, (numH h j).natAbs ≤ 5 := fun j => bnd_get bh _
  obtain ⟨_, k2⟩ := up_z (r := r) hn hL hH hr (fun i k hi hk => ex_at q hi hk) (fun j hj => ex_W q hj) n (Nat.le_refl _)
  have bE := fun i => zE_bnd (L := lowL n low) (H := numH h) hn.2 hL hH i n
  have hu : uF n (sqF n (low.map (newF · 1))) (h.map (newF · 1)) = (List.range n).map fun i => newF (zE n (lowL n low) (numH h) n i) 1 := by
    rw [list_range (uF_len n (sqF n (low.map (newF · 1))) (h.map (newF · 1)))]
    refine List.map_congr_left fun i hi => ?_
    have hi' := List.mem_range.1 hi
    rw [ex_u q hi', ← ex_E q hi']
  have bS := sumZ_abs (f := fun j => numH h j * zE n (lowL n low) (numH h) n j) (B := 10000) (fun j => by
    have := mul_bnd (hH j) (bE j)
    have h3 : 5 * (n * 375) ≤ 10000 := by omega
    omega) n
  have bA := zA_bnd (L := lowL n low) (H := numH h) (r := r) hn.2 hL hH hr n
  have hd : dotF (h.map (newF · 1)) (uF n (sqF n (low.map (newF · 1))) (h.map (newF · 1))) = newF (sumZ n fun j => numH h j * zE n (lowL n low) (numH h) n j) 1 := by
    rw [hu, map_whole lh]
    exact dot_whole2 (f := fun j => h.getD j 0) (g := fun j => zE n (lowL n low) (numH h) n j) (fun j => by have := hH j; unfold numH at this; omega) (fun j => by have := bE j; omega) (by omega)
  have e : zA n (lowL n low) (numH h) r n = (sumZ n fun j => numH h j * zE n (lowL n low) (numH h) n j) + r := by
    refine Rat.intCast_inj.1 ?_
    rw [Rat.intCast_add, sumZ_cast, zA_is n (Nat.le_refl _), Nat.sub_self]
    have e1 : ∀ j, j < n → ((numH h j * zE n (lowL n low) (numH h) n j : Int) : Rat) = sumR n fun m => (numH h j : Rat) * ((lowL n low j m : Rat) * (zW n (lowL n low) (numH h) m : Rat)) := fun j hj => by
      rw [Rat.intCast_mul, zE_is hz hj n (Nat.le_refl _), Nat.sub_self, sumR_mul]
      simp only [sumR]
      grind
    rw [sumR_congr e1, sumR_swap]
    have e2 : ∀ m, m < n → (sumR n fun j => (numH h j : Rat) * ((lowL n low j m : Rat) * (zW n (lowL n low) (numH h) m : Rat))) = (zW n (lowL n low) (numH h) m : Rat) * (zW n (lowL n low) (numH h) m : Rat) := fun m _ => by
      have : ∀ j, j < n → (numH h j : Rat) * ((lowL n low j m : Rat) * (zW n (lowL n low) (numH h) m : Rat)) = (zW n (lowL n low) (numH h) m : Rat) * ((lowL n low j m : Rat) * (numH h j : Rat)) := fun j _ => by grind
      rw [sumR_congr this, sumR_mul]
      congr 1
      unfold zW
      rw [sumZ_cast]
      exact sumR_congr fun j _ => (Rat.intCast_mul _ _).symm
    rw [sumR_congr e2]
    simp only [sumR]
    grind
  have hA : (upR n (low.map (newF · 1)) (h.map (newF · 1)) (newF r 1)).2.2 = newF (zA n (lowL n low) (numH h) r n) 1 := k2
  rw [hA, spreadF, hd, e]
  have b5 : n * 10000 ≤ 30000 := by omega
  rw [newF_whole (n := sumZ n fun j => numH h j * zE n (lowL n low) (numH h) n j) (by unfold few; omega), newF_whole (n := r) (by unfold few; omega), addF_whole (by unfold few; omega) (by unfold few; omega) (by unfold few; omega), newF_whole (by unfold few; omega)]
theorem ex_X (q : Ex9 n low h r) (X : List Fr) (Z : Fr) : upRX n X (low.map (newF · 1)) (h.map (newF · 1)) (newF r 1) Z = upX n X (sqF n (low.map (newF · 1))) (h.map (newF · 1)) (newF r 1) Z := by
  have ⟨hn, ll, lh, bl, bh, hr, hz⟩ := q
  unfold upRX upX upRK kF surpriseF
  rw [ex_A q]
  have e : (List.range n).map (fun i => divF ((upR n (low.map (newF · 1)) (h.map (newF · 1)) (newF r 1)).2.1 i) (spreadF n (sqF n (low.map (newF · 1))) (h.map (newF · 1)) (newF r 1))) =
      (uF n (sqF n (low.map (newF · 1))) (h.map (newF · 1))).map (divF · (spreadF n (sqF n (low.map (newF · 1))) (h.map (newF · 1)) (newF r 1))) := by
    conv => rhs; rw [list_range (uF_len n (sqF n (low.map (newF · 1))) (h.map (newF · 1)))]
    rw [List.map_map]
    refine List.map_congr_left fun i hi => ?_
    rw [ex_u' q (List.mem_range.1 hi)]
    rfl
  rw [e]
theorem ex_cover (q : Ex9 n low h r) {i k : Nat} (hi : i < n) (hk : k < n) (h1 : ((sqF n (upRS n (low.map (newF · 1)) (h.map (newF · 1)) (newF r 1))).getD (i * n + k) dz).bad = false) (h2 : ((upP n (sqF n (low.map (newF · 1))) (h.map (newF · 1)) (newF r 1)).getD (i * n + k) dz).bad = false) :
    (sqF n (upRS n (low.map (newF · 1)) (h.map (newF · 1)) (newF r 1))).getD (i * n + k) dz = (upP n (sqF n (low.map (newF · 1))) (h.map (newF · 1)) (newF r 1)).getD (i * n + k) dz := by
  have ⟨hn, ll, lh, bl, bh, hr, hz⟩ := q
  have hn' : 1 ≤ n ∧ n ≤ 16 := by omega
  have hL : ∀ i k, (lowL n low i k).natAbs ≤ 5 := fun i k => bnd_get bl _
  have hH : ∀ j, (numH h j).natAbs ≤ 5 := fun j => bnd_get bh _
  have lh' : (h.map (newF · 1)).length = n := by rw [List.length_map, lh]
  have bP : ∀ i k, few (sumZ n fun j => lowL n low i j * lowL n low k j) := fun i k => by
    have := sumZ_abs (f := fun m => lowL n low i m * lowL n low k m) (B := 25) (fun m => mul_bnd (hL i m) (hL k m)) n
    unfold few
    omega
  have hsym : ∀ i k, i < n → k < n → (sqF n (low.map (newF · 1))).getD (i * n + k) dz = (sqF n (low.map (newF · 1))).getD (k * n + i) dz := fun i k hi hk => by
    rw [ex_P q hi hk, ex_P q hk hi]
    congr 1
    exact sumZ_congr fun j _ => Int.mul_comm _ _
  obtain ⟨_, hA0, hAs, hup⟩ := up_at hn' (sqF_len' n _) lh' hsym hi hk h2
  rw [sq_entry hn' (upRS_len _ _ _ _) hi hk] at h1 ⊢
  have eS : ∀ a, a < n → ((List.range n).map fun j => (upRS n (low.map (newF · 1)) (h.map (newF · 1)) (newF r 1)).getD (a * n + j) dz) = (List.range n).map fun j => (upR n (low.map (newF · 1)) (h.map (newF · 1)) (newF r 1)).1 a j := fun a ha => List.map_congr_left fun j hj => by
    rw [upRS_gridF]
    exact grid_at ha (List.mem_range.1 hj)
  have hm1 : max i k < n := by omega
  have hm2 : min i k < n := by omega
  rw [eS _ hm1, eS _ hm2] at h1 ⊢
  obtain ⟨d1, d2⟩ := dot_is _ _ n h1
  refine d2.inj ⟨hup.1, ?_⟩
  have hsq := up_square (r := r) (M := startF n n (low.map (newF · 1))) (W := dotsR n (low.map (newF · 1)) (h.map (newF · 1))) hn hL hH hr hz (fun i k hi hk => ex_at q hi hk) (fun j hj => ex_W q hj) hm1 hm2 d1
  have hsq' : (sumR n fun j => ((upR n (low.map (newF · 1)) (h.map (newF · 1)) (newF r 1)).1 (max i k) j).val * ((upR n (low.map (newF · 1)) (h.map (newF · 1)) (newF r 1)).1 (min i k) j).val) = _ := hsq
  rw [hsq', hup.2]
  have nPe : ∀ i k, i < n → k < n → nP n (sqF n (low.map (newF · 1))) i k = sumR n fun j => (lowL n low i j : Rat) * (lowL n low k j : Rat) := fun i k hi hk => by
    unfold nP
    rw [ex_P q hi hk, val_whole (bP i k), sumZ_cast]
    exact sumR_congr fun j _ => Rat.intCast_mul _ _
  have nUe : ∀ i, i < n → nU n (sqF n (low.map (newF · 1))) (h.map (newF · 1)) i = (zE n (lowL n low) (numH h) n i : Rat) := fun i hi => by
    rw [ex_E q hi, sumZ_cast]
    unfold nU
    refine sumR_congr fun j hj => ?_
    rw [nPe i j hi hj, Rat.intCast_mul, sumZ_cast]
    have : nH (h.map (newF · 1)) j = (numH h j : Rat) := by
      unfold nH numH
      have := hH j
      unfold numH at this
      rw [getD_newF (by omega), val_whole (by unfold few; omega)]
    rw [this]
    congr 1
    exact sumR_congr fun m _ => (Rat.intCast_mul _ _).symm
  have nAe : nA n (sqF n (low.map (newF · 1))) (h.map (newF · 1)) (newF r 1) = (zA n (lowL n low) (numH h) r n : Rat) := by
    obtain ⟨_, k2⟩ := up_z (r := r) hn hL hH hr (fun i k hi hk => ex_at q hi hk) (fun j hj => ex_W q hj) n (Nat.le_refl _)
    have bA := zA_bnd (L := lowL n low) (H := numH h) (r := r) hn.2 hL hH hr n
    have k2' : (upR n (low.map (newF · 1)) (h.map (newF · 1)) (newF r 1)).2.2 = newF (zA n (lowL n low) (numH h) r n) 1 := k2
    rw [← hAs.2, ← ex_A q, k2', val_whole (by unfold few; omega)]
  rw [nPe i k hi hk, nUe i hi, nUe k hk, nAe]
  by_cases hik : k ≤ i
  · rw [Nat.max_eq_left hik, Nat.min_eq_right hik]
  · rw [Nat.max_eq_right (by omega), Nat.min_eq_left (by omega)]
    have : (sumR n fun j => (lowL n low k j : Rat) * (lowL n low i j : Rat)) = sumR n fun j => (lowL n low i j : Rat) * (lowL n low k j : Rat) := sumR_congr fun j _ => Rat.mul_comm _ _
    rw [this]
    grind
end
end Go.Proofs.YtbflmeomkfjikaaGreat.A


/- The arithmetic under Go's math/bits.Div64 (the school method, two digits of 32 bits). No program in this text. -/
set_option linter.unusedVariables false
namespace Go.Proofs.YtbflmeomkfjikaaGreat.A

/-- A digit's guess is not below the digit. -/
theorem dig_ge {u v1 v0 x : Nat} (hv1 : 0 < v1) (hx : x < 4294967296) : (u * 4294967296 + x) / (v1 * 4294967296 + v0) ≤ u / v1 := by
  rw [Nat.le_div_iff_mul_le hv1]
  have h := Nat.div_mul_le_self (u * 4294967296 + x) (v1 * 4294967296 + v0)
  generalize (u * 4294967296 + x) / (v1 * 4294967296 + v0) = Q at *
  rw [Nat.mul_add, ← Nat.mul_assoc] at h
  generalize Q * v1 = a at *
  generalize Q * v0 = b at *
  omega
/-- A guess is too great just if it is so by two digits. -/
theorem dig_gt {u v1 v0 x q r : Nat} (h : q * v1 + r = u) : q * v0 > 4294967296 * r + x ↔ q * (v1 * 4294967296 + v0) > u * 4294967296 + x := by
  subst h
  rw [Nat.mul_add, ← Nat.mul_assoc, Nat.add_mul]
  generalize q * v1 = a
  generalize q * v0 = b
  omega
theorem dig_le {W v q : Nat} (hv : 0 < v) (h : ¬ q * v > W) : q ≤ W / v := by
  rw [Nat.le_div_iff_mul_le hv]
  omega
/-- What is left is as great as a digit: the guess is not too great. -/
theorem dig_big {u v1 v0 x q r : Nat} (h : q * v1 + r = u) (hu : u < v1 * 4294967296 + v0) (h0 : v0 < 4294967296) (hr : 4294967296 ≤ r) : ¬ q * (v1 * 4294967296 + v0) > u * 4294967296 + x := by
  rw [← dig_gt h]
  have hq : q * v1 < 4294967296 * v1 := by
    rw [Nat.mul_comm 4294967296]
    generalize q * v1 = a at *
    generalize v1 * 4294967296 = b at *
    omega
  have hq' : q < 4294967296 := Nat.lt_of_mul_lt_mul_right hq
  have h2 : q * v0 ≤ 4294967295 * 4294967295 := Nat.mul_le_mul (by omega) (by omega)
  generalize q * v0 = a at *
  omega
/-- The first guess is not much too great. -/
theorem dig_first {u v1 v0 : Nat} (hv : 2147483648 ≤ v1) (h0 : v0 < 4294967296) (hu : u < v1 * 4294967296 + v0) : u / v1 ≤ 4294967297 := by
  have : u / v1 < 4294967298 := by
    rw [Nat.div_lt_iff_lt_mul (by omega)]
    omega
  omega
theorem dig_small {u v x : Nat} (hu : u < v) (hx : x < 4294967296) : (u * 4294967296 + x) / v < 4294967296 := by
  have h1 : u * 4294967296 + x < (u + 1) * 4294967296 := by omega
  have h2 : (u + 1) * 4294967296 ≤ v * 4294967296 := Nat.mul_le_mul_right _ hu
  have h3 := Nat.lt_of_lt_of_le h1 h2
  generalize u * 4294967296 + x = a at *
  generalize hK : 4294967296 = K at *
  refine Nat.div_lt_of_lt_mul ?_
  first | exact h3 | (rw [Nat.mul_comm]; exact h3)
/-- Both digits. -/
theorem two_digits {W v b K : Nat} (hv : 0 < v) : W / v * K + (W % v * K + b) / v = (W * K + b) / v ∧ (W % v * K + b) % v = (W * K + b) % v := by
  have e : W * K + b = ((W % v) * K + b) + v * (W / v * K) := by
    conv => lhs; rw [← Nat.div_add_mod W v]
    rw [Nat.add_mul, Nat.mul_assoc]
    omega
  rw [e]
  constructor
  · rw [Nat.add_mul_div_left _ _ hv, Nat.add_comm]
  · rw [Nat.add_mul_mod_self_left]
theorem shifted {N y s : Nat} (hy : 0 < y) : N * 2 ^ s / (y * 2 ^ s) = N / y ∧ N * 2 ^ s % (y * 2 ^ s) / 2 ^ s = N % y := by
  have hp : 0 < 2 ^ s := Nat.two_pow_pos s
  constructor
  · rw [Nat.mul_div_mul_right _ _ hp]
  · rw [Nat.mul_mod_mul_right, Nat.mul_div_cancel _ hp]
end Go.Proofs.YtbflmeomkfjikaaGreat.A


set_option linter.unusedVariables false
namespace Go.Proofs.YtbflmeomkfjikaaGreat.A

/-! ### Numbers as rows of bits -/
/-! A sum: bit by bit, with what is carried. -/
/-! A difference. -/
/-! Which one is less. -/
/-! One place higher. -/
end Go.Proofs.YtbflmeomkfjikaaGreat.A


set_option linter.unusedVariables false
set_option linter.unusedSimpArgs false
set_option maxRecDepth 100000
namespace Go.Proofs.YtbflmeomkfjikaaGreat.A
open Go Go.RowKit Go.Shelf

/-! ### Words -/
abbrev uw (n : Nat) : PV := .s (.int .u64 (n : Int))
abbrev ut (n : Nat) : TV := .v (.s (.int .u64 (n : Int)))
theorem wrapU (x : Int) : IntKind.wrap .u64 x = x % 18446744073709551616 := by simp [IntKind.wrap, IntKind.bits, IntKind.signed]
theorem wrapN {n : Nat} (h : n < 18446744073709551616) : IntKind.wrap .u64 (n : Int) = (n : Int) := by rw [wrapU]; omega
theorem wrapM (n : Nat) : IntKind.wrap .u64 (n : Int) = ((n % 18446744073709551616 : Nat) : Int) := by rw [wrapU]; omega
theorem bitsU : IntKind.bits .u64 = 64 := rfl
theorem ofIntN (n : Nat) (w : Nat) : BitVec.ofInt w (n : Int) = BitVec.ofNat w n := BitVec.ofInt_natCast w n
theorem shrN (a : Nat) {k : Nat} (hk : k ≤ 64) : ((a : Int)).fdiv (2 ^ min k (IntKind.bits .u64)) = ((a / 2 ^ k : Nat) : Int) := by
  rw [bitsU, Nat.min_eq_left hk, Int.fdiv_eq_ediv_of_nonneg _ (Int.le_of_lt (Int.pow_pos (by omega)))]
  have : ((2 : Int) ^ k) = ((2 ^ k : Nat) : Int) := by simp
  rw [this, ← Int.natCast_ediv]
theorem shr32 (a : Nat) : ((a : Int)).fdiv (2 ^ min 32 (IntKind.bits .u64)) = ((a / 4294967296 : Nat) : Int) := shrN a (by omega)
theorem and32 {a : Nat} (ha : a < 18446744073709551616) : IntKind.wrap .u64 ((BitVec.ofInt (IntKind.bits .u64) (a : Int) &&& BitVec.ofInt (IntKind.bits .u64) 4294967295).toNat : Int) = ((a % 4294967296 : Nat) : Int) := by
  have e : (BitVec.ofInt 64 (a : Int) &&& BitVec.ofInt 64 4294967295).toNat = a % 4294967296 := by
    have : (4294967295 : Int) = ((4294967295 : Nat) : Int) := rfl
    rw [this, ofIntN, ofIntN, BitVec.toNat_and, BitVec.toNat_ofNat, BitVec.toNat_ofNat]
    have h1 : a % 2 ^ 64 = a := Nat.mod_eq_of_lt (by omega)
    have h2 : 4294967295 % 2 ^ 64 = 2 ^ 32 - 1 := by decide
    rw [h1, h2, Nat.and_two_pow_sub_one_eq_mod]
  rw [bitsU, e, wrapN (by omega)]
theorem mulN (a b : Nat) : (a : Int) * (b : Int) = ((a * b : Nat) : Int) := (Int.natCast_mul a b).symm
theorem addN (a b : Nat) : (a : Int) + (b : Int) = ((a + b : Nat) : Int) := (Int.natCast_add a b).symm

theorem ok169 (x y : Nat) (hx : x < 18446744073709551616) (hy : y < 18446744073709551616) : Ok Tryz.prog 169 [uw x, uw y] (.tup [uw (x * y / 18446744073709551616), uw (x * y % 18446744073709551616)]) := by
  obtain ⟨bd, bt, bw, hhi⟩ := Lib.mul64_hi x y hx hy
  have ba := Lib.half_mul_le (a := x / 4294967296) (b := y / 4294967296) (by omega) (by omega)
  have bb := Lib.half_mul_le (a := x / 4294967296) (b := y % 4294967296) (by omega) (by omega)
  have bc := Lib.half_mul_le (a := x % 4294967296) (b := y / 4294967296) (by omega) (by omega)
  have ba' : x / 4294967296 * (y / 4294967296) < 18446744073709551616 := by omega
  have bb' : x / 4294967296 * (y % 4294967296) < 18446744073709551616 := by omega
  have bc' : x % 4294967296 * (y / 4294967296) < 18446744073709551616 := by omega
  have bh1 : x / 4294967296 * (y / 4294967296) + (x / 4294967296 * (y % 4294967296) + x % 4294967296 * (y % 4294967296) / 4294967296) / 4294967296 < 18446744073709551616 := by omega
  have bh : x / 4294967296 * (y / 4294967296) + (x / 4294967296 * (y % 4294967296) + x % 4294967296 * (y % 4294967296) / 4294967296) / 4294967296 + ((x / 4294967296 * (y % 4294967296) + x % 4294967296 * (y % 4294967296) / 4294967296) % 4294967296 + x % 4294967296 * (y / 4294967296)) / 4294967296 < 18446744073709551616 := by
    rw [hhi]
    have : x * y / 18446744073709551616 ≤ x := Nat.div_le_of_le_mul (by rw [Nat.mul_comm]; exact Nat.mul_le_mul_right _ (by omega))
    omega
  refine ok_fn mixed Tryz.func169 (code := ?_) (h := h169) ?_ k169 ?_
  rotate_left
  · exact rfl
  unfold h169 initS
  simp -implicitDefEqProofs only [rkA, rkB, stepA, valA, simprocAttr, Tryz.ntmps169, Tryz.results169]
  simp only [and32 hx, and32 hy, shr32, mulN, addN, wrapN bd, wrapN bb', wrapN bt, and32 bt, wrapN bc', wrapN bw, wrapN ba', wrapN bh1, wrapN bh, wrapM (x * y)]
  rw [hhi]

theorem ok85 (n : Int) : Ok Tryz.prog 85 [num n] (tru (decide (-4611686018427387903 ≤ n ∧ n ≤ 4611686018427387903))) := by
  refine ok_fn mixed Tryz.func85 (code := ?_) (h := h85) ?_ k85 ?_
  rotate_left
  · exact rfl
  unfold h85 initS
  simp -implicitDefEqProofs only [rkA, rkB, stepA, valA, simprocAttr, Tryz.ntmps85, Tryz.results85]
  by_cases h1 : n ≥ -4611686018427387903
  · simp -implicitDefEqProofs only [h1, rkA, rkB, stepA, valA, simprocAttr]
  · simp -implicitDefEqProofs only [h1, rkA, rkB, stepA, valA, simprocAttr]
end Go.Proofs.YtbflmeomkfjikaaGreat.A


/- math/bits.LeadingZeros64, off the library's shelf. -/
set_option linter.unusedVariables false
set_option maxRecDepth 100000
namespace Go.Proofs.YtbflmeomkfjikaaGreat.A
open Go Go.RowKit Go.Shelf
def ren : Ren := { f := fun | 129 => 193 | 134 => 188 | x => x, t := fun | 3 => 3 | 4 => 4 | 5 => 5 | 9 => 9 | 46 => 195 | 53 => 159 | x => x, g := fun x => x }
theorem isAgg_no {P : Program} {t : TypeId} (h : tAgg P t = some false) (w : World) : (isAgg t).run P w = .ok false w := run_isAgg_of h w
theorem sizeOf_one {P : Program} {t : TypeId} {n : Nat} (h : tSize P t = some n) (w : World) : (Go.sizeOf t).run P w = .ok n w := run_sizeOf_of h w
theorem zero_is {P : Program} {t : TypeId} {v : Value} (h : tZero P t = some v) (w : World) : (zeroValue t).run P w = .ok v w := run_zero_of h w
theorem lays134 : Lays.n134 Tryz.prog ren where
  mixed := by kernel_rfl
  f129 := Tryz.func193
  f134 := Tryz.func188
  t3 := by kernel_rfl
  a3 := isAgg_no (by kernel_rfl)
  z3 := sizeOf_one (by kernel_rfl)
  v3 := zero_is (by kernel_rfl)
  t4 := by kernel_rfl
  a4 := isAgg_no (by kernel_rfl)
  z4 := sizeOf_one (by kernel_rfl)
  v4 := zero_is (by kernel_rfl)
  t5 := by kernel_rfl
  a5 := isAgg_no (by kernel_rfl)
  z5 := sizeOf_one (by kernel_rfl)
  v5 := zero_is (by kernel_rfl)
  t9 := by kernel_rfl
  a9 := isAgg_no (by kernel_rfl)
  z9 := sizeOf_one (by kernel_rfl)
  v9 := zero_is (by kernel_rfl)
  t46 := by kernel_rfl
  a46 := isAgg_no (by kernel_rfl)
  z46 := sizeOf_one (by kernel_rfl)
  v46 := zero_is (by kernel_rfl)
  t53 := by kernel_rfl
  a53 := isAgg_no (by kernel_rfl)
  z53 := sizeOf_one (by kernel_rfl)
  v53 := zero_is (by kernel_rfl)
theorem ok188 {x : Nat} (h1 : x ≤ 18446744073709551615) : Ok Tryz.prog 188 [.s (.int .u64 (x : Int))] (.s (.int .i64 (64 - (Lib.bitLen x : Int)))) := by
  refine ⟨enters_of Tryz.func188 (by kernel_rfl) rfl, fun I w vs hg hc => ?_⟩
  cases hc with
  | cons h1' h2 =>
    cases h2
    cases h1'
    refine (Any.bits_LeadingZeros64 lays134 (x : Int) w (by omega) (by omega)).mono ?_
    rintro e w' ⟨rfl, rfl⟩
    exact ⟨_, I, rfl, Below.refl _ _, Imm.le_refl _, hg, fun _ _ => rfl, .s _⟩
end Go.Proofs.YtbflmeomkfjikaaGreat.A


