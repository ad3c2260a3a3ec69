import Derived.Test.YtambpjbpdackfaaGreatM6
import Derived.Test.YtambpjbpdackfaaGreatM3
import Derived.SizedLaws
set_option linter.unusedVariables false
set_option linter.unusedSimpArgs false
set_option maxRecDepth 100000
namespace Go.Proofs.YtambpjbpdackfaaGreat.A.E
open Go Go.RowKit Go.Shelf

/-! ### The function LanesWords -/
def Pr.every (q : Pr) : List Fr := q.x ++ q.y ++ q.p ++ q.s
def nwB (q : Pr) (b : Bool) : Nat → Bool
  | 0 => b
  | 1 => b || (q.e0.bad || q.a0.bad)
  | _ => b || (q.e0.bad || q.a0.bad) || (q.e1.bad || q.a1.bad)
theorem rowF_mem {r c : Int} {l : List Fr} {i : Int} {x : Fr} (h : x ∈ rowF r c l i) : x ∈ l := by
  unfold rowF at h
  split at h
  · exact List.mem_of_mem_take (List.mem_of_mem_drop h)
  · cases h
theorem tril_mem {n : Nat} {l : List Fr} {i : Nat} {x : Fr} (h : x ∈ trilF n l i) : x ∈ l := by
  unfold trilF at h
  obtain ⟨j, _, hj⟩ := List.mem_flatMap.1 h
  exact rowF_mem (List.mem_of_mem_take hj)
theorem tril_any {n : Nat} {l : List Fr} {i : Nat} (h : ((trilF n l i).any fun x => x.bad) = true) : (l.any fun x => x.bad) = true := by
  rw [List.any_eq_true] at h ⊢
  obtain ⟨x, hx, hb⟩ := h
  exact ⟨x, tril_mem hx, hb⟩
theorem tril_step {n : Nat} {l : List Fr} (hr : right (n : Int) (n : Int) l.length = true) {i : Nat} (hi : i < n) : (trilF n l (i + 1)).length = (trilF n l i).length + (i + 1) := by
  have lr : (rowF n n l (i : Int)).length = n := by rw [rowF_len hr (by simp; omega), Int.toNat_natCast]
  rw [tril_succ, List.length_append, List.length_take, lr, Nat.min_eq_left (by omega)]
theorem words_sum {q : Pr} (h : q.good) (lane : Int) :
    (((frs (q.words lane)).length : Int) == IntKind.wrap .i64 ((q.x.length : Int) + IntKind.wrap .i64 ((IntKind.wrap .i64 ((q.x.length : Int) * IntKind.wrap .i64 ((q.x.length : Int) + 1))).tdiv 2))) = true ∧
    (((frs (q.lx' lane)).length : Int) == (q.x.length : Int)) = true ∧ (((frs (q.cov lane)).length : Int) == IntKind.wrap .i64 ((q.x.length : Int) * (q.x.length : Int))) = true := by
  have h4 := h.n4
  have h1 := h.n1
  have hr : right (q.n : Int) (q.n : Int) (q.lm lane).length = true := right_sq ⟨h.n1, by omega⟩ (h.lml lane)
  have t0 : ∀ n, (trilF n (q.lm lane) 0).length = 0 := fun _ => rfl
  have ts := fun i (hi : i < q.n) => tril_step hr hi
  have lw : (q.words lane).length = q.n + (trilF q.n (q.lm lane) q.n).length := by
    unfold Pr.words
    rw [List.length_append, h.lxl]
  have lc : (q.cov lane).length = q.n * q.n := by
    unfold Pr.cov
    split
    · exact h.lp
    · rw [sqF_len]
  rw [List.length_map, List.length_map, List.length_map, lw, lc, h.lxl, h.lx]
  have hn : q.n = 1 ∨ q.n = 2 ∨ q.n = 3 ∨ q.n = 4 := by omega
  rcases hn with e | e | e | e
  · have := ts 0 (by omega)
    rw [e] at this ⊢
    rw [this, t0]
    decide
  · have s1 := ts 1 (by omega)
    have s0 := ts 0 (by omega)
    rw [e] at s0 s1 ⊢
    rw [s1, s0, t0]
    decide
  · have s2 := ts 2 (by omega)
    have s1 := ts 1 (by omega)
    have s0 := ts 0 (by omega)
    rw [e] at s0 s1 s2 ⊢
    rw [s2, s1, s0, t0]
    decide
  · have s3 := ts 3 (by omega)
    have s2 := ts 2 (by omega)
    have s1 := ts 1 (by omega)
    have s0 := ts 0 (by omega)
    rw [e] at s0 s1 s2 s3 ⊢
    rw [s3, s2, s1, s0, t0]
    decide
theorem ruin_every {q : Pr} (h : q.good) : q.ruin = nwB q (q.every.any fun x => x.bad) 2 := by
  have h1 := tril_any (n := q.n) (l := q.p) (i := q.n)
  have h2 := tril_any (n := q.n) (l := q.s) (i := q.n)
  have w0 : q.words 0 = q.x ++ trilF q.n q.p q.n := rfl
  have w1 : q.words 1 = q.y ++ trilF q.n q.s q.n := rfl
  unfold Pr.ruin Pr.news Pr.all nwB Pr.every
  simp only [List.flatten_cons, List.flatten_nil, List.append_nil, List.any_append, w0, w1]
  generalize (q.x.any fun x => x.bad) = a1 at *
  generalize (q.y.any fun x => x.bad) = a2 at *
  generalize (q.p.any fun x => x.bad) = a3 at *
  generalize (q.s.any fun x => x.bad) = a4 at *
  generalize ((trilF q.n q.p q.n).any fun x => x.bad) = a5 at *
  generalize ((trilF q.n q.s q.n).any fun x => x.bad) = a6 at *
  generalize q.e0.bad = a7 at *
  generalize q.a0.bad = a8 at *
  generalize q.e1.bad = a9 at *
  generalize q.a1.bad = a10 at *
  revert h1 h2
  revert a1 a2 a3 a4 a5 a6 a7 a8 a9 a10
  decide
def AllI (Pr : Nat → Oper → Prop) : Nat → List Oper → Prop
  | _, [] => True
  | k, o :: os => Pr k o ∧ AllI Pr (k + 1) os
theorem allI_get {Pr : Nat → Oper → Prop} : ∀ {ops : List Oper} {k i : Nat} {o : Oper}, AllI Pr k ops → ops[i]? = some o → Pr (k + i) o
  | [], _, _, _, _, h => by simp at h
  | _ :: _, k, 0, o, ha, h => by
    simp only [List.getElem?_cons_zero, Option.some.injEq] at h
    subst h
    exact ha.1
  | _ :: os, k, i + 1, o, ha, h => by
    rw [List.getElem?_cons_succ] at h
    have := allI_get (k := k + 1) ha.2 h
    rwa [Nat.add_assoc, Nat.add_comm 1 i] at this
theorem aoL_get : ∀ {ops : List Oper} {k i : Nat} {l : List (Nat × Inf)} {a : AO}, (aoL k ops l)[i]? = some a → ∃ o, ops[i]? = some o ∧ a = ao o ((lk (k + i) l).getD {})
  | [], _, _, _, _, h => by simp [aoL] at h
  | o :: os, k, 0, l, a, h => by
    simp only [aoL, List.getElem?_cons_zero, Option.some.injEq] at h
    exact ⟨o, rfl, h.symm⟩
  | o :: os, k, i + 1, l, a, h => by
    simp only [aoL, List.getElem?_cons_succ] at h
    obtain ⟨x, hx, rfl⟩ := aoL_get (k := k + 1) h
    refine ⟨x, by rwa [List.getElem?_cons_succ], ?_⟩
    rw [Nat.add_assoc, Nat.add_comm 1 i]
theorem aoL_len : ∀ {ops : List Oper} {k : Nat} {l : List (Nat × Inf)}, (aoL k ops l).length = ops.length
  | [], _, _ => rfl
  | _ :: os, k, l => by simp only [aoL, List.length_cons, aoL_len (ops := os)]
/-- A region told for any order, operation by operation. -/
theorem regi_all {P : Program} {its : Option (Nat × List Item)} {Q : XA → St → Prop} {s : St} {id : Nat} {ops : List Oper} {l : List (Nat × Inf)} {d : Bool} (Inv : (Nat → Bool) → St → Prop) (h0 : Inv (fun _ => false) s)
    (hstep : AllI (fun i o => ∀ (D : Nat → Bool) (s : St), D i = false → (∀ j ∈ (ao o {}).pre, D j = true) → Inv D s → wpOp P none (aoL 0 ops l) (ao o ((lk i l).getD {})) s (Inv fun j => D j || j == i)) 0 ops)
    (hfin : ∀ (D : Nat → Bool) (s : St), (∀ j, j < ops.length → D j = true) → Inv D s → Q .normal s) : wpA P its (acOf (.i l) (.region id ⟨ops⟩ d)) Q s := by
  refine wp_regi Inv h0 (fun D i o s ho hD hp hI => ?_) (fun D s hD hI => hfin D s (fun j hj => hD j (by rw [aoL_len]; exact hj)) hI)
  obtain ⟨x, hx, rfl⟩ := aoL_get ho
  have := allI_get hstep hx
  rw [Nat.zero_add] at this ⊢
  exact this D s hD hp hI
def mk (b : Bool) (t : TV) : TV := if b = true then t else jk
theorem mk_t (t : TV) : mk true t = t := rfl
theorem mk_f (t : TV) : mk false t = jk := rfl
theorem kt_p (k b o : Nat) : TV.killTok k (.ptr b o) = .ptr b o := rfl
theorem kt_v (k : Nat) (p : PV) : TV.killTok k (.v p) = .v p := rfl
theorem kmk (k : Nat) (b : Bool) (t : TV) : TV.killTok k (mk b t) = mk b (TV.killTok k t) := by cases b <;> rfl
def tkW (D : Nat → Bool) (X Y Z W : List PV) (tk : List (Nat × Nat)) : List (Nat × Nat) :=
  if D 18 = true then (71, (X ++ Y ++ Z).length + W.length) :: tk else if D 13 = true then (71, (X ++ Y).length + Z.length) :: tk else if D 8 = true then (71, X.length + Y.length) :: tk else if D 4 = true then (71, X.length) :: tk else tk
def InvW (e : Bool) (l : List Frm) (lane : Int) (q : Pr) (X Y Z W : List PV) (D : Nat → Bool) (s : St) : Prop :=
  ((D 8 = true → D 4 = true) ∧ (D 13 = true → D 8 = true) ∧ (D 18 = true → D 13 = true)) ∧
  s = ⟨[.v (.sl e (List.map fr4V l)), .v (num lane), jk, jk, .v (tru false), .ptr 5 0, .v (tru true), .v (.sl false (frs (q.words lane))), .v (.sl false (frs (q.lx' lane))), .v (.sl false (frs (q.cov lane))), nt (frs q.x).length, .v (tru false), jk, jk, jk, jk, .v (.sl e (List.map fr4V l)), .v (tru true), .v (tru false), jk, .v (.tup [pairV false false false false q, tru true]), .v (.sl e (List.map fr4V l)), .v (.tup [pairV false false false false q, tru true]), .v (pairV false false false false q), .v (tru true), .v (pairV false false false false q), .v (num lane), .v (.sl false (frs (q.words lane))), .v (pairV false false false false q), .v (num lane), .v (.sl false (frs (q.lx' lane))), .v (pairV false false false false q), .v (num lane), .v (.sl false (frs (q.cov lane))), .v (tru true), .v (tru false), .v (tru false), .v (num lane), .v (tru false), .v (tru false), .v (tru false), .v (num lane), .v (tru false), .v (tru false), jk, jk, jk, jk, jk, jk, jk, jk, jk, jk, jk, jk, jk, jk, jk, jk, jk, jk, jk, .ptr 5 0, .ptr 5 0, .v (.sl false (frs (q.x))), nt (frs q.x).length, mk (D 0) (.v (.sl true [])), mk (D 1) (.ptr 5 0), mk (D 2) (.ptr 5 0), mk (D 3) (.v (.sl false X)), mk (D 4) (.acc 71 X), mk (D 5) (.ptr 5 4), mk (D 6) (.ptr 5 4), mk (D 7) (.v (.sl false Y)), mk (D 8) (.acc 71 (X ++ Y)), mk (D 9) (.ptr 5 0), mk (D 10) (.ptr 5 1), mk (D 11) (.ptr 5 3), mk (D 12) (.v (.sl false Z)), mk (D 13) (.acc 71 (X ++ Y ++ Z)), mk (D 14) (.ptr 5 4), mk (D 15) (.ptr 5 5), mk (D 16) (.ptr 5 7), mk (D 17) (.v (.sl false W)), mk (D 18) (.acc 71 (X ++ Y ++ Z ++ W)), mk (D 19) (nt (X ++ Y ++ Z ++ W).length), mk (D 20) (nt 0), jk, jk, jk, jk, jk, jk, jk, jk, jk, jk, jk, jk, jk, jk, jk, jk, jk, jk, jk, jk, jk, jk, jk, jk, jk, jk, jk, jk, jk, jk, jk, jk, jk, jk, jk, jk, jk, jk, jk, jk, jk, jk, jk, jk, jk, jk, jk, jk, jk, jk, jk, jk, jk, jk, jk, jk, jk, jk, jk],
    [(5, bxP false false false false q)], [], tkW D X Y Z W [(1005, 0), (4005, 0), (5005, 0), (8005, 0)], [], 0, nomem⟩
set_option maxHeartbeats 4000000 in
theorem ok10 (e : Bool) (l : List Frm) (hl : l.length ≤ 4398046511104) (lane : Int) : Ok Tryz.prog 10 [.sl e (l.map fr4V), num lane] (tru true) := by
  have hz : IntKind.wrap .i64 (IntKind.wrap .i64 0 + 0) = 0 := by decide
  refine ok_fn mixed Tryz.func10 (code := ?_) (h := hM10) ?_ kM10 ?_
  rotate_left
  · exact rfl
  unfold hM10 initS
  simp -implicitDefEqProofs (maxSteps := 10000000) only [rkA, rkB, stepA, valA, simprocAttr, Tryz.ntmps10, Tryz.results10]
  refine call_fn rfl rfl rfl (ok35 e l hl) ?_
  cases hf : fewZ l with
  | false =>
    simp -implicitDefEqProofs (maxSteps := 10000000) only [rkA, rkB, stepA, valA, simprocAttr]
    refine call_fn rfl rfl rfl (ok39) ?_
    simp -implicitDefEqProofs (maxSteps := 10000000) only [rkA, rkB, stepA, valA, simprocAttr]
  | true =>
    simp -implicitDefEqProofs (maxSteps := 10000000) only [rkA, rkB, stepA, valA, simprocAttr]
    have hfl := few_len hf
    have hgood := play_good l
    refine call_fn rfl rfl rfl (ok37 e l (by omega) (fun f hf => by have := hfl.2 f hf; omega)) ?_
    generalize playP l = o at *
    cases o with
    | none =>
      simp -implicitDefEqProofs (maxSteps := 10000000) only [optV, rkA, rkB, stepA, valA, simprocAttr]
      refine call_fn rfl rfl rfl (ok56_nil lane) ?_
      simp -implicitDefEqProofs (maxSteps := 10000000) only [rkA, rkB, stepA, valA, simprocAttr]
      refine call_fn rfl rfl rfl (ok58_nil lane) ?_
      simp -implicitDefEqProofs (maxSteps := 10000000) only [rkA, rkB, stepA, valA, simprocAttr]
      refine call_fn rfl rfl rfl (ok59_nil lane) ?_
      simp -implicitDefEqProofs (maxSteps := 10000000) only [rkA, rkB, stepA, valA, simprocAttr]
      simp -implicitDefEqProofs (maxSteps := 10000000) only [hz, beq_self_eq_true, rkA, rkB, stepA, valA, simprocAttr]
      refine call_fn rfl rfl rfl (ok43_nil) ?_
      simp -implicitDefEqProofs (maxSteps := 10000000) only [rkA, rkB, stepA, valA, simprocAttr]
      refine call_fn rfl rfl rfl (ok39) ?_
      simp -implicitDefEqProofs (maxSteps := 10000000) only [rkA, rkB, stepA, valA, simprocAttr]
    | some q =>
      have gq := hgood q rfl
      cases hlane : laneOk lane with
      | false =>
        simp -implicitDefEqProofs (maxSteps := 10000000) only [optV, rkA, rkB, stepA, valA, simprocAttr]
        refine call_fn rfl rfl rfl (ok56_out _ _ _ _ q gq lane hlane) ?_
        simp -implicitDefEqProofs (maxSteps := 10000000) only [rkA, rkB, stepA, valA, simprocAttr]
        refine call_fn rfl rfl rfl (ok58_out _ _ _ _ q gq lane hlane) ?_
        simp -implicitDefEqProofs (maxSteps := 10000000) only [rkA, rkB, stepA, valA, simprocAttr]
        refine call_fn rfl rfl rfl (ok59_out _ _ _ _ q gq lane hlane) ?_
        simp -implicitDefEqProofs (maxSteps := 10000000) only [rkA, rkB, stepA, valA, simprocAttr]
        refine gB_dec ?_ ?_ <;> intro h1 <;> simp -implicitDefEqProofs (maxSteps := 10000000) only [h1, rkA, rkB, stepA, valA, simprocAttr]
        · simp -implicitDefEqProofs (maxSteps := 10000000) only [hz, beq_self_eq_true, rkA, rkB, stepA, valA, simprocAttr]
          refine call_fn rfl rfl rfl (ok39) ?_
          simp -implicitDefEqProofs (maxSteps := 10000000) only [rkA, rkB, stepA, valA, simprocAttr]
        refine gB_dec ?_ ?_ <;> intro h2 <;> simp -implicitDefEqProofs (maxSteps := 10000000) only [h2, rkA, rkB, stepA, valA, simprocAttr]
        · simp -implicitDefEqProofs (maxSteps := 10000000) only [hz, beq_self_eq_true, rkA, rkB, stepA, valA, simprocAttr]
          refine call_fn rfl rfl rfl (ok39) ?_
          simp -implicitDefEqProofs (maxSteps := 10000000) only [rkA, rkB, stepA, valA, simprocAttr]
        exfalso
        unfold laneOk at hlane
        rw [decide_eq_true (by omega), decide_eq_true (by omega)] at hlane
        cases hlane
      | true =>
        have hl2 := lane_two hlane
        have h1 : ¬ lane < 0 := by omega
        have h2 : ¬ lane > 1 := by omega
        simp -implicitDefEqProofs (maxSteps := 10000000) only [optV, rkA, rkB, stepA, valA, simprocAttr]
        refine call_fn rfl rfl rfl ((oka56 _ _ _ _ q gq lane hlane).val) ?_
        simp -implicitDefEqProofs (maxSteps := 10000000) only [rkA, rkB, stepA, valA, simprocAttr]
        refine call_fn rfl rfl rfl (ok58 _ _ _ _ q gq lane hlane) ?_
        simp -implicitDefEqProofs (maxSteps := 10000000) only [rkA, rkB, stepA, valA, simprocAttr]
        refine call_fn rfl rfl rfl (ok59 _ _ _ _ q gq lane hlane) ?_
        simp -implicitDefEqProofs (maxSteps := 10000000) only [h1, h2, rkA, rkB, stepA, valA, simprocAttr]
        have n4 := gq.n4
        have n1 := gq.n1
        have lx := gq.lx
        have ly := gq.ly
        have lp := gq.lp
        have ls := gq.ls
        have hnn : q.n * q.n ≤ 4 * 4 := Nat.mul_le_mul n4 n4
        have n4 := gq.n4
        have n1 := gq.n1
        have lx := gq.lx
        have ly := gq.ly
        have lp := gq.lp
        have ls := gq.ls
        have hnn : q.n * q.n ≤ 4 * 4 := Nat.mul_le_mul n4 n4
        have n4 := gq.n4
        have n1 := gq.n1
        have lx := gq.lx
        have ly := gq.ly
        have lp := gq.lp
        have ls := gq.ls
        have hnn : q.n * q.n ≤ 4 * 4 := Nat.mul_le_mul n4 n4
        have n4 := gq.n4
        have n1 := gq.n1
        have lx := gq.lx
        have ly := gq.ly
        have lp := gq.lp
        have ls := gq.ls
        have hnn : q.n * q.n ≤ 4 * 4 := Nat.mul_le_mul n4 n4
        have n4 := gq.n4
        have n1 := gq.n1
        have lx := gq.lx
        have ly := gq.ly
        have lp := gq.lp
        have ls := gq.ls
        have hnn : q.n * q.n ≤ 4 * 4 := Nat.mul_le_mul n4 n4
        have n4 := gq.n4
        have n1 := gq.n1
        have lx := gq.lx
        have ly := gq.ly
        have lp := gq.lp
        have ls := gq.ls
        have hnn : q.n * q.n ≤ 4 * 4 := Nat.mul_le_mul n4 n4
        have n4 := gq.n4
        have n1 := gq.n1
        have lx := gq.lx
        have ly := gq.ly
        have lp := gq.lp
        have ls := gq.ls
        have hnn : q.n * q.n ≤ 4 * 4 := Nat.mul_le_mul n4 n4
        have n4 := gq.n4
        have n1 := gq.n1
        have lx := gq.lx
        have ly := gq.ly
        have lp := gq.lp
        have ls := gq.ls
        have hnn : q.n * q.n ≤ 4 * 4 := Nat.mul_le_mul n4 n4
        have n4 := gq.n4
        have n1 := gq.n1
        have lx := gq.lx
        have ly := gq.ly
        have lp := gq.lp
        have ls := gq.ls
        have hnn : q.n * q.n ≤ 4 * 4 := Nat.mul_le_mul n4 n4
        have n4 := gq.n4
        have n1 := gq.n1
        have lx := gq.lx
        have ly := gq.ly
        have lp := gq.lp
        have ls := gq.ls
        have hnn : q.n * q.n ≤ 4 * 4 := Nat.mul_le_mul n4 n4
        have n4 := gq.n4
        have n1 := gq.n1
        have lx := gq.lx
        have ly := gq.ly
        have lp := gq.lp
        have ls := gq.ls
        have hnn : q.n * q.n ≤ 4 * 4 := Nat.mul_le_mul n4 n4
        have n4 := gq.n4
        have n1 := gq.n1
        have lx := gq.lx
        have ly := gq.ly
        have lp := gq.lp
        have ls := gq.ls
        have hnn : q.n * q.n ≤ 4 * 4 := Nat.mul_le_mul n4 n4
        have fX : fits 4 32 [] (frs q.x) = true := fits_frs (k := []) (l := q.x) (by simp only [List.length_nil]; omega)
        have fY : fits 4 32 (frs q.x) (frs q.y) = true := fits_frs (k := q.x) (l := q.y) (by omega)
        have fZ : fits 4 32 (frs q.x ++ frs q.y) (frs q.p) = true := by
          have := fits_frs (k := q.x ++ q.y) (l := q.p) (by simp only [List.length_append]; omega)
          rwa [show frs (q.x ++ q.y) = frs q.x ++ frs q.y from List.map_append] at this
        have fW : fits 4 32 (frs q.x ++ frs q.y ++ frs q.p) (frs q.s) = true := by
          have := fits_frs (k := q.x ++ q.y ++ q.p) (l := q.s) (by simp only [List.length_append]; omega)
          rwa [show frs (q.x ++ q.y ++ q.p) = frs q.x ++ frs q.y ++ frs q.p by simp only [List.map_append]] at this
        have fWr : fits 4 32 (frs q.x ++ (frs q.y ++ frs q.p)) (frs q.s) = true := by rwa [List.append_assoc] at fW
        have hl3 : (frs q.x).length + ((frs q.y).length + (frs q.p).length) = (frs q.x).length + (frs q.y).length + (frs q.p).length := (Nat.add_assoc _ _ _).symm
        have hxe : (frs q.x).isEmpty = false := by
          cases hx : q.x with
          | nil => rw [hx] at lx; simp at lx; omega
          | cons a r => rfl
        refine regi_all (InvW e l lane q (frs q.x) (frs q.y) (frs q.p) (frs q.s)) ?_ ?_ ?_
        · exact ⟨⟨(fun h => by cases h), (fun h => by cases h), (fun h => by cases h)⟩, rfl⟩
        · simp only [AllI, Nat.zero_add, Nat.reduceAdd]
          refine ⟨?_, ?_, ?_, ?_, ?_, ?_, ?_, ?_, ?_, ?_, ?_, ?_, ?_, ?_, ?_, ?_, ?_, ?_, ?_, ?_, ?_, trivial⟩
          · rintro D s hD hp ⟨⟨c1, c2, c3⟩, rfl⟩
            simp -implicitDefEqProofs (maxSteps := 10000000) only [hD, mk_t, mk_f, fX, fY, fZ, fW, rkA, rkB, stepA, valA, simprocAttr]
            refine ⟨⟨?_, ?_, ?_⟩, ?_⟩
            · first | (simp [hD]; done) | simpa [hD] using c1
            · first | (simp [hD]; done) | simpa [hD] using c2
            · first | (simp [hD]; done) | simpa [hD] using c3
            · simp [hD, kmk, kt_p, kt_v, tkW, mk_t, mk_f]
          · rintro D s hD hp ⟨⟨c1, c2, c3⟩, rfl⟩
            simp -implicitDefEqProofs (maxSteps := 10000000) only [hD, mk_t, mk_f, fX, fY, fZ, fW, rkA, rkB, stepA, valA, simprocAttr]
            refine ⟨⟨?_, ?_, ?_⟩, ?_⟩
            · first | (simp [hD]; done) | simpa [hD] using c1
            · first | (simp [hD]; done) | simpa [hD] using c2
            · first | (simp [hD]; done) | simpa [hD] using c3
            · simp [hD, kmk, kt_p, kt_v, tkW, mk_t, mk_f]
          · rintro D s hD hp ⟨⟨c1, c2, c3⟩, rfl⟩
            have e1 : D 1 = true := hp 1 (by decide)
            simp -implicitDefEqProofs (maxSteps := 10000000) only [hD, e1, mk_t, mk_f, fX, fY, fZ, fW, rkA, rkB, stepA, valA, simprocAttr]
            refine ⟨⟨?_, ?_, ?_⟩, ?_⟩
            · first | (simp [hD, e1]; done) | simpa [hD, e1] using c1
            · first | (simp [hD, e1]; done) | simpa [hD, e1] using c2
            · first | (simp [hD, e1]; done) | simpa [hD, e1] using c3
            · simp [hD, e1, kmk, kt_p, kt_v, tkW, mk_t, mk_f]
          · rintro D s hD hp ⟨⟨c1, c2, c3⟩, rfl⟩
            have e2 : D 2 = true := hp 2 (by decide)
            simp -implicitDefEqProofs (maxSteps := 10000000) only [hD, e2, mk_t, mk_f, fX, fY, fZ, fW, rkA, rkB, stepA, valA, simprocAttr]
            refine ⟨⟨?_, ?_, ?_⟩, ?_⟩
            · first | (simp [hD, e2]; done) | simpa [hD, e2] using c1
            · first | (simp [hD, e2]; done) | simpa [hD, e2] using c2
            · first | (simp [hD, e2]; done) | simpa [hD, e2] using c3
            · simp [hD, e2, kmk, kt_p, kt_v, tkW, mk_t, mk_f]
          · rintro D s hD hp ⟨⟨c1, c2, c3⟩, rfl⟩
            have e0 : D 0 = true := hp 0 (by decide)
            have e3 : D 3 = true := hp 3 (by decide)
            have n8 : D 8 = false := by
              cases h : D 8 with
              | false => rfl
              | true =>
                have h2 := c1 h
                rw [hD] at h2
                cases h2
            have n13 : D 13 = false := by
              cases h : D 13 with
              | false => rfl
              | true =>
                have h2 := c2 h
                rw [n8] at h2
                cases h2
            have n18 : D 18 = false := by
              cases h : D 18 with
              | false => rfl
              | true =>
                have h2 := c3 h
                rw [n13] at h2
                cases h2
            simp -implicitDefEqProofs (maxSteps := 10000000) only [hD, e0, e3, n8, n13, n18, mk_t, mk_f, hxe, Bool.false_eq_true, if_false, fX, fY, fZ, fW, tkW, List.length_append, rkA, rkB, stepA, valA, simprocAttr]
            refine ⟨⟨?_, ?_, ?_⟩, ?_⟩
            · first | (simp [hD, e0, e3, n8, n13, n18]; done) | simpa [hD, e0, e3, n8, n13, n18] using c1
            · first | (simp [hD, e0, e3, n8, n13, n18]; done) | simpa [hD, e0, e3, n8, n13, n18] using c2
            · first | (simp [hD, e0, e3, n8, n13, n18]; done) | simpa [hD, e0, e3, n8, n13, n18] using c3
            · simp [hD, e0, e3, n8, n13, n18, kmk, kt_p, kt_v, tkW, mk_t, mk_f]
          · rintro D s hD hp ⟨⟨c1, c2, c3⟩, rfl⟩
            simp -implicitDefEqProofs (maxSteps := 10000000) only [hD, mk_t, mk_f, fX, fY, fZ, fW, rkA, rkB, stepA, valA, simprocAttr]
            refine ⟨⟨?_, ?_, ?_⟩, ?_⟩
            · first | (simp [hD]; done) | simpa [hD] using c1
            · first | (simp [hD]; done) | simpa [hD] using c2
            · first | (simp [hD]; done) | simpa [hD] using c3
            · simp [hD, kmk, kt_p, kt_v, tkW, mk_t, mk_f]
          · rintro D s hD hp ⟨⟨c1, c2, c3⟩, rfl⟩
            have e5 : D 5 = true := hp 5 (by decide)
            simp -implicitDefEqProofs (maxSteps := 10000000) only [hD, e5, mk_t, mk_f, fX, fY, fZ, fW, rkA, rkB, stepA, valA, simprocAttr]
            refine ⟨⟨?_, ?_, ?_⟩, ?_⟩
            · first | (simp [hD, e5]; done) | simpa [hD, e5] using c1
            · first | (simp [hD, e5]; done) | simpa [hD, e5] using c2
            · first | (simp [hD, e5]; done) | simpa [hD, e5] using c3
            · simp [hD, e5, kmk, kt_p, kt_v, tkW, mk_t, mk_f]
          · rintro D s hD hp ⟨⟨c1, c2, c3⟩, rfl⟩
            have e6 : D 6 = true := hp 6 (by decide)
            simp -implicitDefEqProofs (maxSteps := 10000000) only [hD, e6, mk_t, mk_f, fX, fY, fZ, fW, rkA, rkB, stepA, valA, simprocAttr]
            refine ⟨⟨?_, ?_, ?_⟩, ?_⟩
            · first | (simp [hD, e6]; done) | simpa [hD, e6] using c1
            · first | (simp [hD, e6]; done) | simpa [hD, e6] using c2
            · first | (simp [hD, e6]; done) | simpa [hD, e6] using c3
            · simp [hD, e6, kmk, kt_p, kt_v, tkW, mk_t, mk_f]
          · rintro D s hD hp ⟨⟨c1, c2, c3⟩, rfl⟩
            have e4 : D 4 = true := hp 4 (by decide)
            have e7 : D 7 = true := hp 7 (by decide)
            have n13 : D 13 = false := by
              cases h : D 13 with
              | false => rfl
              | true =>
                have h2 := c2 h
                rw [hD] at h2
                cases h2
            have n18 : D 18 = false := by
              cases h : D 18 with
              | false => rfl
              | true =>
                have h2 := c3 h
                rw [n13] at h2
                cases h2
            simp -implicitDefEqProofs (maxSteps := 10000000) only [hD, e4, e7, n13, n18, mk_t, mk_f, fX, fY, fZ, fW, tkW, List.length_append, rkA, rkB, stepA, valA, simprocAttr]
            refine ⟨⟨?_, ?_, ?_⟩, ?_⟩
            · first | (simp [hD, e4, e7, n13, n18]; done) | simpa [hD, e4, e7, n13, n18] using c1
            · first | (simp [hD, e4, e7, n13, n18]; done) | simpa [hD, e4, e7, n13, n18] using c2
            · first | (simp [hD, e4, e7, n13, n18]; done) | simpa [hD, e4, e7, n13, n18] using c3
            · simp [hD, e4, e7, n13, n18, kmk, kt_p, kt_v, tkW, mk_t, mk_f]
          · rintro D s hD hp ⟨⟨c1, c2, c3⟩, rfl⟩
            simp -implicitDefEqProofs (maxSteps := 10000000) only [hD, mk_t, mk_f, fX, fY, fZ, fW, rkA, rkB, stepA, valA, simprocAttr]
            refine ⟨⟨?_, ?_, ?_⟩, ?_⟩
            · first | (simp [hD]; done) | simpa [hD] using c1
            · first | (simp [hD]; done) | simpa [hD] using c2
            · first | (simp [hD]; done) | simpa [hD] using c3
            · simp [hD, kmk, kt_p, kt_v, tkW, mk_t, mk_f]
          · rintro D s hD hp ⟨⟨c1, c2, c3⟩, rfl⟩
            have e9 : D 9 = true := hp 9 (by decide)
            simp -implicitDefEqProofs (maxSteps := 10000000) only [hD, e9, mk_t, mk_f, fX, fY, fZ, fW, rkA, rkB, stepA, valA, simprocAttr]
            refine ⟨⟨?_, ?_, ?_⟩, ?_⟩
            · first | (simp [hD, e9]; done) | simpa [hD, e9] using c1
            · first | (simp [hD, e9]; done) | simpa [hD, e9] using c2
            · first | (simp [hD, e9]; done) | simpa [hD, e9] using c3
            · simp [hD, e9, kmk, kt_p, kt_v, tkW, mk_t, mk_f]
          · rintro D s hD hp ⟨⟨c1, c2, c3⟩, rfl⟩
            have e10 : D 10 = true := hp 10 (by decide)
            simp -implicitDefEqProofs (maxSteps := 10000000) only [hD, e10, mk_t, mk_f, fX, fY, fZ, fW, rkA, rkB, stepA, valA, simprocAttr]
            refine ⟨⟨?_, ?_, ?_⟩, ?_⟩
            · first | (simp [hD, e10]; done) | simpa [hD, e10] using c1
            · first | (simp [hD, e10]; done) | simpa [hD, e10] using c2
            · first | (simp [hD, e10]; done) | simpa [hD, e10] using c3
            · simp [hD, e10, kmk, kt_p, kt_v, tkW, mk_t, mk_f]
          · rintro D s hD hp ⟨⟨c1, c2, c3⟩, rfl⟩
            have e11 : D 11 = true := hp 11 (by decide)
            simp -implicitDefEqProofs (maxSteps := 10000000) only [hD, e11, mk_t, mk_f, fX, fY, fZ, fW, rkA, rkB, stepA, valA, simprocAttr]
            refine ⟨⟨?_, ?_, ?_⟩, ?_⟩
            · first | (simp [hD, e11]; done) | simpa [hD, e11] using c1
            · first | (simp [hD, e11]; done) | simpa [hD, e11] using c2
            · first | (simp [hD, e11]; done) | simpa [hD, e11] using c3
            · simp [hD, e11, kmk, kt_p, kt_v, tkW, mk_t, mk_f]
          · rintro D s hD hp ⟨⟨c1, c2, c3⟩, rfl⟩
            have e8 : D 8 = true := hp 8 (by decide)
            have e12 : D 12 = true := hp 12 (by decide)
            have e4 : D 4 = true := c1 e8
            have n18 : D 18 = false := by
              cases h : D 18 with
              | false => rfl
              | true =>
                have h2 := c3 h
                rw [hD] at h2
                cases h2
            simp -implicitDefEqProofs (maxSteps := 10000000) only [hD, e8, e12, e4, n18, mk_t, mk_f, fX, fY, fZ, fW, tkW, List.length_append, rkA, rkB, stepA, valA, simprocAttr]
            refine ⟨⟨?_, ?_, ?_⟩, ?_⟩
            · first | (simp [hD, e8, e12, e4, n18]; done) | simpa [hD, e8, e12, e4, n18] using c1
            · first | (simp [hD, e8, e12, e4, n18]; done) | simpa [hD, e8, e12, e4, n18] using c2
            · first | (simp [hD, e8, e12, e4, n18]; done) | simpa [hD, e8, e12, e4, n18] using c3
            · simp [hD, e8, e12, e4, n18, kmk, kt_p, kt_v, tkW, mk_t, mk_f]
          · rintro D s hD hp ⟨⟨c1, c2, c3⟩, rfl⟩
            simp -implicitDefEqProofs (maxSteps := 10000000) only [hD, mk_t, mk_f, fX, fY, fZ, fW, rkA, rkB, stepA, valA, simprocAttr]
            refine ⟨⟨?_, ?_, ?_⟩, ?_⟩
            · first | (simp [hD]; done) | simpa [hD] using c1
            · first | (simp [hD]; done) | simpa [hD] using c2
            · first | (simp [hD]; done) | simpa [hD] using c3
            · simp [hD, kmk, kt_p, kt_v, tkW, mk_t, mk_f]
          · rintro D s hD hp ⟨⟨c1, c2, c3⟩, rfl⟩
            have e14 : D 14 = true := hp 14 (by decide)
            simp -implicitDefEqProofs (maxSteps := 10000000) only [hD, e14, mk_t, mk_f, fX, fY, fZ, fW, rkA, rkB, stepA, valA, simprocAttr]
            refine ⟨⟨?_, ?_, ?_⟩, ?_⟩
            · first | (simp [hD, e14]; done) | simpa [hD, e14] using c1
            · first | (simp [hD, e14]; done) | simpa [hD, e14] using c2
            · first | (simp [hD, e14]; done) | simpa [hD, e14] using c3
            · simp [hD, e14, kmk, kt_p, kt_v, tkW, mk_t, mk_f]
          · rintro D s hD hp ⟨⟨c1, c2, c3⟩, rfl⟩
            have e15 : D 15 = true := hp 15 (by decide)
            simp -implicitDefEqProofs (maxSteps := 10000000) only [hD, e15, mk_t, mk_f, fX, fY, fZ, fW, rkA, rkB, stepA, valA, simprocAttr]
            refine ⟨⟨?_, ?_, ?_⟩, ?_⟩
            · first | (simp [hD, e15]; done) | simpa [hD, e15] using c1
            · first | (simp [hD, e15]; done) | simpa [hD, e15] using c2
            · first | (simp [hD, e15]; done) | simpa [hD, e15] using c3
            · simp [hD, e15, kmk, kt_p, kt_v, tkW, mk_t, mk_f]
          · rintro D s hD hp ⟨⟨c1, c2, c3⟩, rfl⟩
            have e16 : D 16 = true := hp 16 (by decide)
            simp -implicitDefEqProofs (maxSteps := 10000000) only [hD, e16, mk_t, mk_f, fX, fY, fZ, fW, rkA, rkB, stepA, valA, simprocAttr]
            refine ⟨⟨?_, ?_, ?_⟩, ?_⟩
            · first | (simp [hD, e16]; done) | simpa [hD, e16] using c1
            · first | (simp [hD, e16]; done) | simpa [hD, e16] using c2
            · first | (simp [hD, e16]; done) | simpa [hD, e16] using c3
            · simp [hD, e16, kmk, kt_p, kt_v, tkW, mk_t, mk_f]
          · rintro D s hD hp ⟨⟨c1, c2, c3⟩, rfl⟩
            have e13 : D 13 = true := hp 13 (by decide)
            have e17 : D 17 = true := hp 17 (by decide)
            have e8 : D 8 = true := c2 e13
            have e4 : D 4 = true := c1 e8
            simp -implicitDefEqProofs (maxSteps := 10000000) only [hD, e13, e17, e8, e4, mk_t, mk_f, fX, fY, fZ, fWr, hl3, true_and, and_true, if_true, tkW, List.length_append, rkA, rkB, stepA, valA, simprocAttr]
            refine ⟨⟨?_, ?_, ?_⟩, ?_⟩
            · first | (simp [hD, e13, e17, e8, e4]; done) | simpa [hD, e13, e17, e8, e4] using c1
            · first | (simp [hD, e13, e17, e8, e4]; done) | simpa [hD, e13, e17, e8, e4] using c2
            · first | (simp [hD, e13, e17, e8, e4]; done) | simpa [hD, e13, e17, e8, e4] using c3
            · simp [hD, e13, e17, e8, e4, kmk, kt_p, kt_v, tkW, mk_t, mk_f]
              omega
          · rintro D s hD hp ⟨⟨c1, c2, c3⟩, rfl⟩
            have e18 : D 18 = true := hp 18 (by decide)
            have e13 : D 13 = true := c3 e18
            have e8 : D 8 = true := c2 e13
            have e4 : D 4 = true := c1 e8
            simp -implicitDefEqProofs (maxSteps := 10000000) only [hD, e18, e13, e8, e4, mk_t, mk_f, fX, fY, fZ, fW, tkW, List.length_append, rkA, rkB, stepA, valA, simprocAttr]
            refine ⟨⟨?_, ?_, ?_⟩, ?_⟩
            · first | (simp [hD, e18, e13, e8, e4]; done) | simpa [hD, e18, e13, e8, e4] using c1
            · first | (simp [hD, e18, e13, e8, e4]; done) | simpa [hD, e18, e13, e8, e4] using c2
            · first | (simp [hD, e18, e13, e8, e4]; done) | simpa [hD, e18, e13, e8, e4] using c3
            · simp [hD, e18, e13, e8, e4, kmk, kt_p, kt_v, tkW, mk_t, mk_f]
          · rintro D s hD hp ⟨⟨c1, c2, c3⟩, rfl⟩
            simp -implicitDefEqProofs (maxSteps := 10000000) only [hD, mk_t, mk_f, fX, fY, fZ, fW, rkA, rkB, stepA, valA, simprocAttr]
            refine ⟨⟨?_, ?_, ?_⟩, ?_⟩
            · first | (simp [hD]; done) | simpa [hD] using c1
            · first | (simp [hD]; done) | simpa [hD] using c2
            · first | (simp [hD]; done) | simpa [hD] using c3
            · simp [hD, kmk, kt_p, kt_v, tkW, mk_t, mk_f]
        · rintro D s hD ⟨-, rfl⟩
          have d0 : D 0 = true := hD 0 (by decide)
          have d1 : D 1 = true := hD 1 (by decide)
          have d2 : D 2 = true := hD 2 (by decide)
          have d3 : D 3 = true := hD 3 (by decide)
          have d4 : D 4 = true := hD 4 (by decide)
          have d5 : D 5 = true := hD 5 (by decide)
          have d6 : D 6 = true := hD 6 (by decide)
          have d7 : D 7 = true := hD 7 (by decide)
          have d8 : D 8 = true := hD 8 (by decide)
          have d9 : D 9 = true := hD 9 (by decide)
          have d10 : D 10 = true := hD 10 (by decide)
          have d11 : D 11 = true := hD 11 (by decide)
          have d12 : D 12 = true := hD 12 (by decide)
          have d13 : D 13 = true := hD 13 (by decide)
          have d14 : D 14 = true := hD 14 (by decide)
          have d15 : D 15 = true := hD 15 (by decide)
          have d16 : D 16 = true := hD 16 (by decide)
          have d17 : D 17 = true := hD 17 (by decide)
          have d18 : D 18 = true := hD 18 (by decide)
          have d19 : D 19 = true := hD 19 (by decide)
          have d20 : D 20 = true := hD 20 (by decide)
          have hL : frs q.x ++ (frs q.y ++ (frs q.p ++ frs q.s)) = frs q.every := by simp only [Pr.every, List.map_append, List.append_assoc]
          have hT : (frs q.x ++ (frs q.y ++ frs q.p)).length + (frs q.s).length = (frs q.every).length := by simp only [Pr.every, List.length_map, List.length_append, Nat.add_assoc]
          have hLl : q.every.length ≤ 40 := by
            simp only [Pr.every, List.length_append]
            omega
          simp -implicitDefEqProofs (maxSteps := 10000000) only [d0, d1, d2, d3, d4, d5, d6, d7, d8, d9, d10, d11, d12, d13, d14, d15, d16, d17, d18, d19, d20, tkW, mk_t, rkA, rkB, stepA, valA, simprocAttr]
          rw [hL, hT]
          simp only [List.length_map]
          have hru := ruin_every gq
          generalize q.every = L at *
          refine wp_loop (fun m s => ∃ i : Nat, i + m = L.length ∧ s = ⟨[jk, jk, jk, jk, jk, .ptr 5 0, jk, .v (.sl false (frs (q.words lane))), .v (.sl false (frs (q.lx' lane))), .v (.sl false (frs (q.cov lane))), nt q.x.length, .v (tru ((L.take i).any fun x => x.bad)), jk, jk, jk, jk, jk, jk, jk, jk, jk, jk, jk, jk, jk, jk, jk, jk, jk, jk, jk, jk, jk, jk, jk, jk, jk, jk, jk, jk, jk, jk, jk, jk, jk, jk, jk, jk, jk, jk, jk, jk, jk, jk, jk, jk, jk, jk, jk, jk, jk, jk, jk, jk, jk, jk, jk, jk, jk, jk, jk, jk, jk, jk, jk, jk, jk, jk, jk, jk, jk, jk, jk, jk, jk, .acc 71 (frs L), nt L.length, nt i, jk, jk, jk, jk, jk, jk, jk, jk, jk, jk, jk, jk, jk, jk, jk, jk, jk, jk, jk, jk, jk, jk, jk, jk, jk, jk, jk, jk, jk, jk, jk, jk, jk, jk, jk, jk, jk, jk, jk, jk, jk, jk, jk, jk, jk, jk, jk, jk, jk, jk, jk, jk, jk, jk, jk, jk, jk, jk, jk],
            [(5, bxP false false false false q)], [], [(71, L.length), (1005, 0), (4005, 0), (5005, 0), (8005, 0)], [], 0, nomem⟩) L.length ?_ ?_
          · simp -implicitDefEqProofs (maxSteps := 10000000) only [rkA, rkB, stepA, valA, simprocAttr]
            exact ⟨0, by omega, rfl⟩
          rintro m s ⟨i, hi, rfl⟩
          simp -implicitDefEqProofs (maxSteps := 10000000) only [rkA, rkB, stepA, valA, simprocAttr]
          refine gB_dec ?_ ?_ <;> intro hc <;> simp -implicitDefEqProofs (maxSteps := 10000000) only [hc, rkA, rkB, stepA, valA, simprocAttr]
          · have hlt : i < L.length := by omega
            have h0 : (0 : Int) ≤ (i : Int) := by omega
            have hg : (frs L)[i]? = some (frV L[i]) := by simp [hlt]
            have hw := wrapped (x := (i : Int) + 1) (by omega) (by omega)
            have hany : ((L.take (i + 1)).any fun x => x.bad) = (((L.take i).any fun x => x.bad) || L[i].bad) := by
              rw [List.take_succ_eq_append_getElem hlt, List.any_append]
              simp
            simp -implicitDefEqProofs (maxSteps := 10000000) only [h0, Int.toNat_natCast, hg, hw, rkA, rkB, stepA, valA, simprocAttr]
            cases hb : ((L.take i).any fun x => x.bad) with
            | true =>
              simp -implicitDefEqProofs (maxSteps := 10000000) only [hw, rkA, rkB, stepA, valA, simprocAttr]
              refine loopK_of (m' := m - 1) (by omega) ?_
              simp -implicitDefEqProofs (maxSteps := 10000000) only [hw, rkA, rkB, stepA, valA, simprocAttr]
              refine ⟨i + 1, by omega, ?_⟩
              rw [hany, hb, Bool.true_or]
              simp only [Int.natCast_add, Int.natCast_one]
            | false =>
              simp -implicitDefEqProofs (maxSteps := 10000000) only [hw, rkA, rkB, stepA, valA, simprocAttr]
              refine loopK_of (m' := m - 1) (by omega) ?_
              simp -implicitDefEqProofs (maxSteps := 10000000) only [hw, rkA, rkB, stepA, valA, simprocAttr]
              refine ⟨i + 1, by omega, ?_⟩
              rw [hany, hb, Bool.false_or]
              simp only [Int.natCast_add, Int.natCast_one]
          · have hil : i = L.length := by omega
            subst hil
            rw [List.take_length]
            generalize (L.any fun x => x.bad) = b0 at *
            have h30 := ok43 false false q gq
            rw [hru] at h30
            clear hru
            clear hT hL
            have wr1 : IntKind.wrap .i64 1 = 1 := by decide
            have wr2 : IntKind.wrap .i64 2 = 2 := by decide
            refine wp_loop (fun m s => ∃ i : Nat, i + m = 2 ∧ s = ⟨[jk, jk, jk, jk, jk, .ptr 5 0, jk, .v (.sl false (frs (q.words lane))), .v (.sl false (frs (q.lx' lane))), .v (.sl false (frs (q.cov lane))), nt q.x.length, .v (tru (nwB q b0 i)), jk, jk, jk, jk, jk, jk, jk, jk, jk, jk, jk, jk, jk, jk, jk, jk, jk, jk, jk, jk, jk, jk, jk, jk, jk, jk, jk, jk, jk, jk, jk, jk, jk, jk, jk, jk, jk, jk, jk, jk, jk, jk, jk, jk, jk, jk, jk, jk, jk, jk, jk, jk, jk, jk, jk, jk, jk, jk, jk, jk, jk, jk, jk, jk, jk, jk, jk, jk, jk, jk, jk, jk, jk, jk, jk, jk, jk, jk, jk, jk, jk, jk, jk, jk, jk, jk,
                .v (.agg [num q.e0.v, num q.e0.lo, num q.e0.hi, tru q.e0.bad, num q.a0.v, num q.a0.lo, num q.a0.hi, tru q.a0.bad, num q.e1.v, num q.e1.lo, num q.e1.hi, tru q.e1.bad, num q.a1.v, num q.a1.lo, num q.a1.hi, tru q.a1.bad]), nt i, jk, jk, jk, jk, jk, jk, jk, jk, jk, jk, jk, jk, jk, jk, jk, jk, jk, jk, jk, jk, jk, jk, jk, jk, jk, jk, jk, jk, jk, jk, jk, jk, jk, jk, jk, jk, jk, jk, jk, jk, jk, jk, jk, jk, jk, jk, jk],
              [(5, bxP false false false false q)], [], [(71, L.length), (1005, 0), (4005, 0), (5005, 0), (8005, 0)], [], 0, nomem⟩) 2 ?_ ?_
            · simp -implicitDefEqProofs (maxSteps := 10000000) only [rkA, rkB, stepA, valA, simprocAttr]
              exact ⟨0, by omega, rfl⟩
            rintro m s ⟨i, hi, rfl⟩
            rcases i with _ | _ | i
            · simp -implicitDefEqProofs (maxSteps := 10000000) only [rkA, rkB, stepA, valA, simprocAttr]
              have hn2 : nwB q b0 1 = (b0 || (q.e0.bad || q.a0.bad)) := rfl
              have hn0 : nwB q b0 0 = b0 := rfl
              rw [hn0]
              refine gB_bool ?_ ?_ <;> intro k1 <;> simp -implicitDefEqProofs (maxSteps := 10000000) only [k1, rkA, rkB, stepA, valA, simprocAttr]
              · refine loopK_of (m' := m - 1) (by omega) ?_
                simp -implicitDefEqProofs (maxSteps := 10000000) only [rkA, rkB, stepA, valA, simprocAttr]
                refine ⟨1, by omega, ?_⟩
                simp [nwB, k1, bxP, wr1]
              · refine gB_bool ?_ ?_ <;> intro k2 <;> simp -implicitDefEqProofs (maxSteps := 10000000) only [k2, rkA, rkB, stepA, valA, simprocAttr]
                · refine loopK_of (m' := m - 1) (by omega) ?_
                  simp -implicitDefEqProofs (maxSteps := 10000000) only [rkA, rkB, stepA, valA, simprocAttr]
                  refine ⟨1, by omega, ?_⟩
                  simp [bxP, nwB, k1, k2, wr1]
                · refine loopK_of (m' := m - 1) (by omega) ?_
                  simp -implicitDefEqProofs (maxSteps := 10000000) only [rkA, rkB, stepA, valA, simprocAttr]
                  refine ⟨1, by omega, ?_⟩
                  simp [bxP, nwB, k1, k2, wr1]
            · simp -implicitDefEqProofs (maxSteps := 10000000) only [rkA, rkB, stepA, valA, simprocAttr]
              have hn2 : nwB q b0 2 = (nwB q b0 1 || (q.e1.bad || q.a1.bad)) := rfl
              generalize nwB q b0 1 = b1 at *
              refine gB_bool ?_ ?_ <;> intro k1 <;> simp -implicitDefEqProofs (maxSteps := 10000000) only [k1, rkA, rkB, stepA, valA, simprocAttr]
              · refine loopK_of (m' := m - 1) (by omega) ?_
                simp -implicitDefEqProofs (maxSteps := 10000000) only [rkA, rkB, stepA, valA, simprocAttr]
                refine ⟨2, by omega, ?_⟩
                rw [hn2, k1, Bool.true_or]
                simp [bxP, wr2]
              · refine gB_bool ?_ ?_ <;> intro k2 <;> simp -implicitDefEqProofs (maxSteps := 10000000) only [k2, rkA, rkB, stepA, valA, simprocAttr]
                · refine loopK_of (m' := m - 1) (by omega) ?_
                  simp -implicitDefEqProofs (maxSteps := 10000000) only [rkA, rkB, stepA, valA, simprocAttr]
                  refine ⟨2, by omega, ?_⟩
                  rw [hn2, k2, Bool.true_or, Bool.or_true]
                  simp [bxP, k2, wr2]
                · refine loopK_of (m' := m - 1) (by omega) ?_
                  simp -implicitDefEqProofs (maxSteps := 10000000) only [rkA, rkB, stepA, valA, simprocAttr]
                  refine ⟨2, by omega, ?_⟩
                  rw [hn2, k1, k2]
                  simp [bxP, k2, wr2]
            · have hi0 : i = 0 := by omega
              subst hi0
              obtain ⟨e1, e2, e3⟩ := words_sum gq lane
              simp -implicitDefEqProofs (maxSteps := 10000000) only [rkA, rkB, stepA, valA, simprocAttr]
              simp -implicitDefEqProofs (maxSteps := 10000000) only [e1, rkA, rkB, stepA, valA, simprocAttr]
              simp -implicitDefEqProofs (maxSteps := 10000000) only [e2, rkA, rkB, stepA, valA, simprocAttr]
              simp -implicitDefEqProofs (maxSteps := 10000000) only [e3, rkA, rkB, stepA, valA, simprocAttr]
              refine call_fn rfl rfl rfl (h30) ?_
              simp -implicitDefEqProofs (maxSteps := 10000000) only [beq_self_eq_true, rkA, rkB, stepA, valA, simprocAttr]
              refine call_fn rfl rfl rfl (ok39) ?_
              simp -implicitDefEqProofs (maxSteps := 10000000) only [rkA, rkB, stepA, valA, simprocAttr]
theorem LanesWords_ok {x : PV} (h : FitC frsSh x) (b : ∀ (ex : Bool) (els : List PV), x = .sl ex els → els.length * 48 ≤ 140737488351232) (lane : Int) : Ok Tryz.prog 10 [x, num lane] (tru true) := by
  obtain ⟨l, rfl⟩ := frs_fit h
  exact ok10 false l (frs_len b) lane
end Go.Proofs.YtambpjbpdackfaaGreat.A.E


/- A slice that comes in, and how long it may be. -/
set_option linter.unusedVariables false
namespace Go.Proofs.YtambpjbpdackfaaGreat.A
open Go Go.RowKit Go.Shelf Go.ChangeShapes Go.WideShapes Go.ChangeAt

theorem C.len {I : Imm} {ex : Bool} {els : List PV} {a : Option Addr} {len cap : Nat} (h : C I (.sl ex els) (.slice a len cap)) : els.length = len := by
  cases h <;> simp_all
section
variable {H : Type} {enc : TypeId × Value → H} {P : Program} {W : World} {base : Nat} {held : Bool}
theorem row_sliceN {t e : TypeId} {c : CSh} {v : Value} {d : DataW H} {ps : List MemPlace} {r : Reach} {b0 : Nat} {ts : List TypeId} {ds : List (DataW H)} (j B : Nat)
    (m : Nat) (ht : P.underlying t = some (.slice e)) (hs : shape P m t = some [c]) (hv : Value.okWide P W r b0 t v)
    (hz : (DataW.weightsEach P ts ds).all (· ≤ reachBytes) = true) (hj : ts[j]? = some t) (hd : ds[j]? = some d) (hB : P.bytesOf e = B) (h : DataW.Trod enc P W base (fun _ => true) held t v d ps) :
    ∃ x, FitC c x ∧ C (allI W) x v ∧ ∀ ex els, x = .sl ex els → els.length * B ≤ 140737488351232 := by
  subst hB
  obtain ⟨x, h1, h2⟩ := row_slice m ht hs hv h
  refine ⟨x, h1, h2, ?_⟩
  rintro ex els rfl
  obtain ⟨a, len, cap, rfl⟩ := okWide_slice ht hv
  have hl := h2.len
  obtain ⟨fuel, hf⟩ := h
  rcases DataW.trod_slice ht hf with ⟨hcs, _⟩ | ⟨y, l, k, elems, rest, n, _, hcs, hx, _, _, _, hlen, _⟩
  · simp [Value.cells] at hcs
    obtain ⟨rfl, rfl, rfl⟩ := hcs
    rw [hl, Nat.zero_mul]
    exact Nat.zero_le _
  · simp [Value.cells] at hcs
    obtain ⟨rfl, rfl, rfl⟩ := hcs
    injection hx with hx1 hx2
    subst hx1
    have := sized_slice hz hj hd ht
    rw [List.length_map, List.length_map, hlen] at this
    rw [hl]
    exact Nat.le_trans (Nat.mul_le_mul_right _ (Nat.le_add_right _ _)) this
end
end Go.Proofs.YtambpjbpdackfaaGreat.A


