import Derived.Test.YtadfcbpakfaaaaaT8
set_option linter.unusedVariables false
set_option linter.unusedSimpArgs false
set_option maxRecDepth 100000
namespace Go.Proofs.Ytadfcbpakfaaaaa.A
open Go Go.RowKit Go.Shelf

section
variable {α : Type} (g : Nat → Nat → α) (n : Nat)
/-- A table gone through row by row: what stands so far. -/
def gridP (i k : Nat) : List α := (List.range i).flatMap (fun i => (List.range n).map (g i)) ++ (List.range k).map (g i)
theorem gridP_succ (i k : Nat) : gridP g n i (k + 1) = gridP g n i k ++ [g i k] := by simp [gridP, List.range_succ]
theorem gridP_next (i : Nat) : gridP g n i n = gridP g n (i + 1) 0 := by simp [gridP, List.range_succ]
theorem gridP_length (i k : Nat) : (gridP g n i k).length = i * n + k := by simp [gridP, List.length_flatMap, List.map_const', List.sum_replicate_nat]
theorem gridP_zero (i : Nat) : gridP g n i 0 = (List.range i).flatMap (fun i => (List.range n).map (g i)) := by simp [gridP]
end

/-- The document's sum of products. -/
def dotI (a b : List Int) (many cols i k : Nat) : Nat → Int
  | 0 => 0
  | j + 1 => dotI a b many cols i k j + a.getD (i * many + j) 0 * b.getD (j * cols + k) 0
def small (a : List Int) : Prop := ∀ x ∈ a, -100 ≤ x ∧ x ≤ 100
theorem small_get {a : List Int} (h : small a) (i : Nat) : -100 ≤ a.getD i 0 ∧ a.getD i 0 ≤ 100 := by
  rw [List.getD_eq_getElem?_getD]
  cases hi : a[i]? with
  | none => simp
  | some x => exact h x (List.mem_of_getElem? hi)
theorem prod_small {x y : Int} (hx : -100 ≤ x ∧ x ≤ 100) (hy : -100 ≤ y ∧ y ≤ 100) : -10000 ≤ x * y ∧ x * y ≤ 10000 := by
  have h1 : (x * y).natAbs = x.natAbs * y.natAbs := Int.natAbs_mul x y
  have h2 : x.natAbs * y.natAbs ≤ 100 * 100 := Nat.mul_le_mul (by omega) (by omega)
  omega
theorem dotI_le {a b : List Int} (ha : small a) (hb : small b) (many cols i k : Nat) : ∀ j : Nat, -10000 * (j : Int) ≤ dotI a b many cols i k j ∧ dotI a b many cols i k j ≤ 10000 * (j : Int)
  | 0 => by simp [dotI]
  | j + 1 => by
    have h1 := dotI_le ha hb many cols i k j
    have h2 := prod_small (small_get ha (i * many + j)) (small_get hb (j * cols + k))
    simp only [dotI, Int.natCast_add, Int.natCast_one]
    omega
/-- The document's product. -/
def mulI (a b : List Int) (rows many cols : Nat) : List Int := gridP (fun i k => dotI a b many cols i k many) cols rows 0

theorem fits_num {k l : List Int} (h : k.length + l.length ≤ 5864062014805) : fits 1 8 (k.map num) (l.map num) = true := by
  simp [fits, PV.cells, PV.ok, PV.cell, Value.oneCell']
  omega
theorem at_num {a : List Int} {i : Nat} (h : i < a.length) : (a.map num)[i]? = some (num (a.getD i 0)) := by
  simp [h]
theorem at_table {i j n m : Nat} (hi : i < n) (hj : j < m) : i * m + j < n * m ∧ i * m ≤ n * m := by
  have : (i + 1) * m ≤ n * m := Nat.mul_le_mul_right _ (by omega)
  rw [Nat.add_mul] at this
  omega
theorem side16 {n m : Nat} (hn : n ≤ 16) (hm : m ≤ 16) : n * m ≤ 256 := Nat.mul_le_mul hn hm

theorem ok35 (ea eb : Bool) (a b : List Int) (rows many cols : Nat) (hr : rows ≤ 16) (hm : many ≤ 16) (hc : cols ≤ 16) (hla : a.length = rows * many) (hlb : b.length = many * cols) (ha : small a) (hb : small b) :
    Ok Try.prog 35 [.sl ea (a.map num), num rows, num many, .sl eb (b.map num), num cols] (.sl false ((mulI a b rows many cols).map num)) := by
  refine ok_fn mixed Try.func35 (code := ?_) (h := h35) ?_ k35 ?_
  rotate_left
  · exact rfl
  unfold h35 initS
  simp -implicitDefEqProofs only [wp_reg0, wp_reg, wp_seq, wp_block, seqK_normal, opsK_at, ops_nil, ops_cons, op_plain, step_assign, opt_some, ev_const, putT_some, st_tm, lk, upd, stepA, valA, St.newTok, St.mapTV, TV.killTok, Option.getD_some, Option.getD_none, Option.map_some, List.set_cons_zero, List.set_cons_succ, List.map_cons, List.map_nil, List.length_cons, List.length_nil, List.cons_append, List.nil_append, List.toList_toArray, List.replicate_succ, List.replicate_zero, if_true, if_false, Nat.zero_add, Nat.reduceAdd, Nat.reduceSub, Nat.reduceEqDiff, Nat.reduceLT, eq_self, Try.ntmps35, Try.results35]
  refine wp_loop (fun m s => ∃ i : Nat, i + m = rows ∧ s = ⟨[.v (.sl ea (a.map num)), nt rows, nt many, .v (.sl eb (b.map num)), nt cols, jk, jk, jk, jk, jk, jk, .acc 11 ((gridP (fun i k => dotI a b many cols i k many) cols i 0).map num), nt i, jk, jk, jk, jk, jk, jk, jk, jk, jk, jk, jk, jk, jk, jk, jk, jk, jk, jk, jk, jk, jk, jk, jk, jk, jk, jk, jk, jk, jk, jk, jk, jk, jk, jk, jk, jk, jk, jk, jk, jk, jk, jk], [], [], [(10, 0), (11, (gridP (fun i k => dotI a b many cols i k many) cols i 0).length)], [], 0⟩) rows ?_ ?_
  · simp -implicitDefEqProofs only [opt_some, ghs, gh1, junkAll, Option.bind_some, List.set_cons_zero, List.set_cons_succ]
    exact ⟨0, by simp, rfl⟩
  rintro m1 s ⟨i, hi, rfl⟩
  simp -implicitDefEqProofs only [wp_reg0, wp_seq, wp_cond, seqK_normal, opsK_at, ops_nil, ops_cons, op_plain, step_move, step_binOp, opt_some, ev_tmp, putT_some, lk, valA, binA, num2, binV, Option.getD_none, Option.map_some, List.getElem?_cons_zero, List.getElem?_cons_succ, List.set_cons_zero, List.set_cons_succ, if_true, Nat.zero_add, Nat.reduceAdd, Nat.reduceBEq, eq_self]
  refine gB_dec ?_ ?_ <;> intro hc1 <;> simp -implicitDefEqProofs only [hc1, wp_skip, wp_reg0, wp_seq, wp_block, wp_exit, wp_ret, wpK_at, seqK_normal, seqK_exit, blockK_exit, loopK_exit, opsK_at, ops_nil, ops_cons, op_plain, step_move, step_assign, opt_some, ev_tmp, ev_const, putT_some, lk, tov, stepA, valA, Option.getD_none, Option.map_some, Option.bind_some, List.getElem?_cons_zero, List.getElem?_cons_succ, List.set_cons_zero, List.set_cons_succ, if_true, Nat.zero_add, Nat.reduceAdd, decide_true, decide_false, eq_self, RetQ_ret, resAll, res1, packR, Option.some.injEq]
  · refine wp_loop (fun m s => ∃ k : Nat, k + m = cols ∧ s = ⟨[.v (.sl ea (a.map num)), nt rows, nt many, .v (.sl eb (b.map num)), nt cols, jk, jk, jk, jk, jk, jk, .acc 11 ((gridP (fun i k => dotI a b many cols i k many) cols i k).map num), nt i, nt k, jk, jk, jk, jk, jk, jk, jk, jk, jk, jk, jk, jk, jk, jk, jk, jk, jk, jk, jk, jk, jk, jk, jk, jk, jk, jk, jk, jk, jk, jk, jk, jk, jk, jk, jk, jk, jk, jk, jk, jk, jk], [], [], [(10, 0), (11, (gridP (fun i k => dotI a b many cols i k many) cols i k).length)], [], 0⟩) cols ?_ ?_
    · simp -implicitDefEqProofs only [opt_some, ghs, gh1, junkAll, Option.bind_some, List.set_cons_zero, List.set_cons_succ]
      exact ⟨0, by simp, rfl⟩
    rintro m2 s ⟨k, hk, rfl⟩
    simp -implicitDefEqProofs only [wp_reg0, wp_seq, wp_cond, seqK_normal, opsK_at, ops_nil, ops_cons, op_plain, step_move, step_binOp, opt_some, ev_tmp, putT_some, lk, valA, binA, num2, binV, Option.getD_none, Option.map_some, List.getElem?_cons_zero, List.getElem?_cons_succ, List.set_cons_zero, List.set_cons_succ, if_true, Nat.zero_add, Nat.reduceAdd, Nat.reduceBEq, eq_self]
    refine gB_dec ?_ ?_ <;> intro hc2 <;> simp -implicitDefEqProofs only [hc2, wp_skip, wp_reg0, wp_seq, wp_block, wp_exit, wp_ret, wpK_at, seqK_normal, seqK_exit, blockK_normal, blockK_exit, loopK_exit, opsK_at, ops_nil, ops_cons, op_plain, step_move, step_assign, step_binOp, opt_some, ev_tmp, ev_const, putT_some, lk, tov, stepA, valA, binA, num2, binV, Option.getD_none, Option.map_some, Option.bind_some, List.getElem?_cons_zero, List.getElem?_cons_succ, List.set_cons_zero, List.set_cons_succ, if_true, if_false, reduceCtorEq, Nat.zero_add, Nat.reduceAdd, Nat.reduceEqDiff, Nat.reduceBEq, decide_true, decide_false, eq_self, RetQ_ret, resAll, res1, packR, Option.some.injEq]
    · refine wp_loop (fun m s => ∃ j : Nat, j + m = many ∧ s = ⟨[.v (.sl ea (a.map num)), nt rows, nt many, .v (.sl eb (b.map num)), nt cols, jk, jk, jk, jk, jk, jk, .acc 11 ((gridP (fun i k => dotI a b many cols i k many) cols i k).map num), nt i, nt k, nt (dotI a b many cols i k j), nt j, jk, jk, jk, jk, jk, jk, jk, jk, jk, jk, jk, jk, jk, jk, jk, jk, jk, jk, jk, jk, jk, jk, jk, jk, jk, jk, jk, jk, jk, jk, jk, jk, jk, jk, jk, jk, jk, jk, jk], [], [], [(10, 0), (11, (gridP (fun i k => dotI a b many cols i k many) cols i k).length)], [], 0⟩) many ?_ ?_
      · simp -implicitDefEqProofs only [opt_some, ghs, gh1, junkAll, Option.bind_some, List.set_cons_zero, List.set_cons_succ]
        exact ⟨0, by simp, rfl⟩
      rintro m3 s ⟨j, hj, rfl⟩
      simp -implicitDefEqProofs only [wp_reg0, wp_seq, wp_cond, seqK_normal, opsK_at, ops_nil, ops_cons, op_plain, step_move, step_binOp, opt_some, ev_tmp, putT_some, lk, valA, binA, num2, binV, Option.getD_none, Option.map_some, List.getElem?_cons_zero, List.getElem?_cons_succ, List.set_cons_zero, List.set_cons_succ, if_true, Nat.zero_add, Nat.reduceAdd, Nat.reduceBEq, eq_self]
      refine gB_dec ?_ ?_ <;> intro hc3 <;> simp -implicitDefEqProofs only [hc3, wp_skip, wp_reg0, wp_reg, wp_draw, wp_seq, wp_block, wp_exit, wp_ret, wpK_at, seqK_normal, seqK_exit, blockK_normal, blockK_exit, loopK_exit, opsK_at, ops_nil, ops_cons, op_plain, step_builtin, step_move, step_assign, step_indexAddr, step_binOp, step_buildSlice, opt_some, ev_tmp, ev_const, putT_some, pv_eq, lk, upd, tov, stepA, valA, idxAddrA, idxA, binA, num2, binV, pvs, rowOf, tkOf, PV.cells, PV.ok, PV.cell, appA, Option.getD_some, Option.getD_none, Option.map_some, Option.bind_some, List.getElem?_cons_zero, List.getElem?_cons_succ, List.set_cons_zero, List.set_cons_succ, List.map_cons, List.map_nil, List.all_cons, List.all_nil, List.length_cons, List.length_nil, if_true, if_false, Bool.and_true, reduceCtorEq, and_self, Nat.zero_add, Nat.reduceAdd, Nat.reduceEqDiff, Nat.reduceLT, Nat.reduceBEq, decide_true, decide_false, eq_self, range1, one_int, RetQ_ret, resAll, res1, packR, Option.some.injEq]
      · have t1 := at_table (i := i) (j := j) (n := rows) (m := many) (by omega) (by omega)
        have t2 := at_table (i := j) (j := k) (n := many) (m := cols) (by omega) (by omega)
        have s1 := side16 hr hm
        have s2 := side16 hm hc
        have c1 : (i : Int) * (many : Int) = ((i * many : Nat) : Int) := by simp
        have c2 : (j : Int) * (cols : Int) = ((j * cols : Nat) : Int) := by simp
        have c3 : ((i * many : Nat) : Int) + (j : Int) = ((i * many + j : Nat) : Int) := by simp
        have c4 : ((j * cols : Nat) : Int) + (k : Int) = ((j * cols + k : Nat) : Int) := by simp
        have w1 := wrapped (x := ((i * many : Nat) : Int)) (by omega) (by omega)
        have w2 := wrapped (x := ((j * cols : Nat) : Int)) (by omega) (by omega)
        have w3 := wrapped (x := ((i * many + j : Nat) : Int)) (by omega) (by omega)
        have w4 := wrapped (x := ((j * cols + k : Nat) : Int)) (by omega) (by omega)
        have p := prod_small (small_get ha (i * many + j)) (small_get hb (j * cols + k))
        have q := dotI_le ha hb many cols i k j
        have w5 := wrapped (x := a.getD (i * many + j) 0 * b.getD (j * cols + k) 0) (by omega) (by omega)
        have w6 := wrapped (x := dotI a b many cols i k j + a.getD (i * many + j) 0 * b.getD (j * cols + k) 0) (by omega) (by omega)
        have w7 := wrapped (x := (j : Int) + 1) (by omega) (by omega)
        have g1 := at_num (a := a) (i := i * many + j) (by omega)
        have g2 := at_num (a := b) (i := j * cols + k) (by omega)
        have n1 : (0 : Int) ≤ ((i * many + j : Nat) : Int) := by omega
        have n2 : (0 : Int) ≤ ((j * cols + k : Nat) : Int) := by omega
        simp -implicitDefEqProofs only [c1, c2, w1, w2, c3, c4, w3, w4, n1, n2, Int.toNat_natCast, g1, g2, w5, w6, w7, wp_reg0, seqK_normal, blockK_normal, opsK_at, ops_nil, ops_cons, op_plain, step_move, step_assign, step_load, step_indexAddr, step_binOp, opt_some, ev_tmp, ev_const, putT_some, pv_eq, lk, tov, stepA, valA, ldA, ldC, idxAddrA, idxA, binA, num2, binV, PV.cells, Option.getD_some, Option.getD_none, Option.map_some, Option.bind_some, List.getElem?_cons_zero, List.getElem?_cons_succ, List.set_cons_zero, List.set_cons_succ, List.length_cons, List.length_nil, List.take_succ_cons, List.take_nil, if_true, if_false, Nat.zero_add, Nat.reduceAdd, Nat.reduceEqDiff, Nat.le_refl, Nat.reduceBEq, Bool.false_eq_true, eq_self]
        refine loopK_of (m' := m3 - 1) (by omega) ?_
        simp -implicitDefEqProofs only [opt_some, ghs, gh1, junkAll, Option.bind_some, List.set_cons_zero, List.set_cons_succ]
        exact ⟨j + 1, by omega, by simp only [Int.natCast_add, Int.natCast_one, dotI]⟩
      · have hjm : j = many := by omega
        subst hjm
        have hlen := gridP_length (fun i k => dotI a b j cols i k j) cols i k
        have t3 := at_table (i := i) (j := k) (n := rows) (m := cols) (by omega) (by omega)
        have s3 := side16 hr hc
        have hfit : fits 1 8 ((gridP (fun i k => dotI a b j cols i k j) cols i k).map num) [num (dotI a b j cols i k j)] = true := fits_num (l := [dotI a b j cols i k j]) (by simp only [List.length_cons, List.length_nil]; omega)
        have hl : ((gridP (fun i k => dotI a b j cols i k j) cols i k).map num).length = (gridP (fun i k => dotI a b j cols i k j) cols i k).length := by simp
        have w8 := wrapped (x := (k : Int) + 1) (by omega) (by omega)
        simp -implicitDefEqProofs only [hfit, hl, w8, wp_reg0, seqK_normal, blockK_normal, opsK_at, ops_nil, ops_cons, op_plain, step_move, step_assign, step_binOp, opt_some, ev_tmp, ev_const, putT_some, lk, stepA, valA, binA, num2, binV, Option.getD_none, Option.map_some, List.getElem?_cons_zero, List.getElem?_cons_succ, List.set_cons_zero, List.set_cons_succ, if_true, if_false, and_self, Nat.zero_add, Nat.reduceAdd, Nat.reduceEqDiff, Nat.reduceBEq, eq_self]
        refine loopK_of (m' := m2 - 1) (by omega) ?_
        simp -implicitDefEqProofs only [opt_some, ghs, gh1, junkAll, Option.bind_some, List.set_cons_zero, List.set_cons_succ]
        refine ⟨k + 1, by omega, ?_⟩
        rw [gridP_succ]
        simp only [List.map_append, List.map_cons, List.map_nil, List.length_append, List.length_cons, List.length_nil, Int.natCast_add, Int.natCast_one]
    · have hkc : k = cols := by omega
      subst hkc
      have w9 := wrapped (x := (i : Int) + 1) (by omega) (by omega)
      simp -implicitDefEqProofs only [w9]
      refine loopK_of (m' := m1 - 1) (by omega) ?_
      simp -implicitDefEqProofs only [opt_some, ghs, gh1, junkAll, Option.bind_some, List.set_cons_zero, List.set_cons_succ]
      refine ⟨i + 1, by omega, ?_⟩
      rw [gridP_next]
      simp only [Int.natCast_add, Int.natCast_one]
  · have : i = rows := by omega
    subst this
    simp only [mulI]
end Go.Proofs.Ytadfcbpakfaaaaa.A
