import Derived.Test.YtipchjfcjbghnaaGreatM7
set_option linter.unusedVariables false
set_option linter.unusedSimpArgs false
set_option maxRecDepth 100000
namespace Go.Proofs.YtipchjfcjbghnaaGreat.A
open Go Go.RowKit Go.Shelf

/-! ### simp goes into the state, not into the code that is still to come -/
section
variable {P : Program} {its : Option (Nat × List Item)} {s s' : St} {K : St → Prop} {Q : XA → St → Prop}
@[congr] theorem wpA_cg {c : AC} (h : s = s') : wpA P its c Q s = wpA P its c Q s' := by rw [h]
@[congr] theorem wpOpsA_cg {all l : List AO} (h : s = s') : wpOpsA P its all l s K = wpOpsA P its all l s' K := by rw [h]
@[congr] theorem wpOp_cg {all : List AO} {o o' : AO} (ho : o = o') (h : s = s') : wpOp P its all o s K = wpOp P its all o' s' K := by rw [h, ho]
@[congr] theorem execA_cg {o o' : AO} (h : s = s') (ho : o = o') : execA P its s o K = execA P its s' o' K := by rw [h, ho]
@[congr] theorem opsK_cg {all l : List AO} (h : s = s') : opsK P its all l K s = opsK P its all l K s' := by rw [h]
@[congr] theorem seqK_cg {y : AC} {e e' : XA} (he : e = e') (h : s = s') : seqK P its y Q e s = seqK P its y Q e' s' := by rw [h, he]
@[congr] theorem blockK_cg {id : Nat} {e e' : XA} (he : e = e') (h : s = s') : blockK id Q e s = blockK id Q e' s' := by rw [h, he]
@[congr] theorem wpK_cg {a : Hint} {x : Code} (h : s = s') : wpK P its a x Q s = wpK P its a x Q s' := by rw [h]
@[congr] theorem gB_cg {o o' : Option TV} {x y : St → Prop} (ho : o = o') (h : s = s') : gB o s x y = gB o' s' x y := by rw [h, ho]
@[congr] theorem gU_cg {o o' : Option TV} {x y : Prop} (ho : o = o') : gU o x y = gU o' x y := by rw [ho]
@[congr] theorem opt_cg {o o' : Option St} (ho : o = o') : opt o K = opt o' K := by rw [ho]
@[congr] theorem callA_cg {d : Option Nat} {c : Call} (h : s = s') : callA P its s d c K = callA P its s' d c K := by rw [h]
end
end Go.Proofs.YtipchjfcjbghnaaGreat.A

namespace Go.Proofs.YtipchjfcjbghnaaGreat.A.E
open Go Go.RowKit Go.Shelf

theorem few_bnd {l : List Int} (h : bnd 5 l) : ∀ x ∈ l, few x := fun x hx => by
  have := h x hx
  unfold few
  omega
theorem turned_snd {n : Nat} (hn : 1 ≤ n ∧ n ≤ 16) {m p q : List Fr} (hq : q.length = n * n) : ∀ x ∈ turnedF n m p q, SndE x := fun x hx =>
  zip_mem (P := SndE) addF_snd _ _ x (mir_mem hn (by rw [List.length_zipWith, prodF_len, hq]; simp) x hx)
theorem turnedA_snd {n : Nat} (hn : 1 ≤ n ∧ n ≤ 16) {m p q : List A.Fr} (hq : q.length = n * n) : ∀ x ∈ A.turnedF n m p q, SndA x := fun x hx =>
  zip_mem (P := SndA) addA_snd _ _ x (mirA_mem hn (by rw [List.length_zipWith, A.prodF_len, hq]; simp) x hx)
theorem apply_snd (r c : Int) (l v : List Fr) : ∀ x ∈ applyF r c l v, SndE x := fun x hx => by
  unfold applyF at hx
  obtain ⟨u, _, rfl⟩ := List.mem_map.1 hx
  exact dot_snd _ _
theorem applyA_snd (r c : Int) (l v : List A.Fr) : ∀ x ∈ A.applyF r c l v, SndA x := fun x hx => by
  unfold A.applyF at hx
  obtain ⟨u, _, rfl⟩ := List.mem_map.1 hx
  exact dotA_snd _ _

/-! ### The function JosephEncloses -/
set_option maxHeartbeats 8000000 in
theorem ok6 (e1 e2 e3 e4 e5 : Bool) (N : Int) (x root f g h : List Int) (r z : Int) : Ok Tryz.prog 6 [caseV e1 e2 e3 e4 e5 N x root f g h r z] (tru true) := by
  have h914 := ok18 e1 e2 e3 e4 e5 N x root f g h r z
  refine ok_fn mixed Tryz.func6 (code := ?_) (h := h6) ?_ k6 ?_
  rotate_left
  · exact rfl
  unfold h6 initS
  simp -implicitDefEqProofs (maxSteps := 10000000) only [rkA, stepA, valA, storeA, ldA, fieldAddrA, fieldA, idxAddrA, idxA, idxArr, lenA, unA, binA, num2, binV, eqA, rowOf, PV.cells, PV.cell, bndA, appA, reduceIte, reduceCtorEq, Nat.reduceAdd, Nat.reduceSub, Nat.reduceEqDiff, Nat.reduceLeDiff, Nat.reduceLT, Nat.reduceMul, Nat.reduceBEq, Nat.reduceBNe, Int.reduceToNat, Int.reduceLE, Int.reduceLT, allocX, setPs, extremeA, ints, resAll, rinfOk, packR, Tryz.ntmps6, Tryz.results6]
  refine call_fn rfl rfl rfl (h914) ?_
  cases hf : few9 N x root f g h r z with
  | false =>
    simp -implicitDefEqProofs (maxSteps := 10000000) only [rkA, stepA, valA, storeA, ldA, fieldAddrA, fieldA, idxAddrA, idxA, idxArr, lenA, unA, binA, num2, binV, eqA, rowOf, PV.cells, PV.cell, bndA, appA, reduceIte, reduceCtorEq, Nat.reduceAdd, Nat.reduceSub, Nat.reduceEqDiff, Nat.reduceLeDiff, Nat.reduceLT, Nat.reduceMul, Nat.reduceBEq, Nat.reduceBNe, Int.reduceToNat, Int.reduceLE, Int.reduceLT, allocX, setPs, extremeA, ints, resAll, rinfOk, packR]
    refine call_fn rfl rfl rfl (ok10) ?_
    simp -implicitDefEqProofs (maxSteps := 10000000) only [rkA, stepA, valA, storeA, ldA, fieldAddrA, fieldA, idxAddrA, idxA, idxArr, lenA, unA, binA, num2, binV, eqA, rowOf, PV.cells, PV.cell, bndA, appA, reduceIte, reduceCtorEq, Nat.reduceAdd, Nat.reduceSub, Nat.reduceEqDiff, Nat.reduceLeDiff, Nat.reduceLT, Nat.reduceMul, Nat.reduceBEq, Nat.reduceBNe, Int.reduceToNat, Int.reduceLE, Int.reduceLT, allocX, setPs, extremeA, ints, resAll, rinfOk, packR]
  | true =>
    obtain ⟨⟨n1, n2, lx, lh, r1, r2, z1, z2⟩, ⟨bx, bh, br, bf, bg⟩, lr, lf, lg⟩ := few9_spec hf
    obtain ⟨n, rfl⟩ := Int.eq_ofNat_of_zero_le (show 0 ≤ N by omega)
    have hn : 1 ≤ n ∧ n ≤ 4 := by omega
    have hn' : 1 ≤ n ∧ n ≤ 16 := by omega
    have cN : (n : Int) * (n : Int) = ((n * n : Nat) : Int) := by simp
    have s := side16 (n := n) (m := n) (by omega) (by omega)
    have lx' : x.length = n := by omega
    have lh' : h.length = n := by omega
    have lr' : root.length = n * n := by omega
    have lf' : f.length = n * n := by omega
    have lg' : g.length = n * n := by omega
    have qX := whole_rl (few_bnd bx)
    have qH := whole_rl (few_bnd bh)
    have qR := sq_rl (whole_rl (few_bnd br)) (n : Int)
    have qF := whole_rl (few_bnd bf)
    have qG := sq_rl (whole_rl (few_bnd bg)) (n : Int)
    have qr : Rl (newF r 1) (A.newF r 1) := Rl.whole (by unfold few; omega)
    have qz : Rl (newF z 1) (A.newF z 1) := Rl.whole (by unfold few; omega)
    have qX2 := apply_rl qF qX (n : Int) (n : Int)
    have qP2 := turned_rl qF qR qG n
    have wX2 := wth_of qX2 (apply_snd _ _ _ _) (applyA_snd _ _ _ _)
    have wP2 := wth_of qP2 (turned_snd hn' (sqF_len n _)) (turnedA_snd hn' (A.sqF_len n _))
    have qX3 := upX_rl qX2 qP2 qH qr qz (n := n)
    have qP3 := upP_rl qP2 qH qr (n := n)
    have wX3 := wth_of qX3 (zip_mem (P := SndE) addF_snd _ _) (zip_mem (P := SndA) addA_snd _ _)
    have wP3 := wth_of qP3 (turned_snd hn' (by rw [krkF, prodF_len]; simp)) (turnedA_snd hn' (by rw [A.krkF, A.prodF_len]; simp))
    have wN := wth_of (RL.cons (surprise_rl qX2 qH qz) (RL.cons (spread_rl (n := n) qP2 qH qr) RL.nil)) (fun x hx => by
      rcases List.mem_cons.1 hx with rfl | hx
      · exact subF_snd _ _
      · rcases List.mem_cons.1 hx with rfl | hx
        · exact addF_snd _ _
        · cases hx) (fun x hx => by
      rcases List.mem_cons.1 hx with rfl | hx
      · exact subA_snd _ _
      · rcases List.mem_cons.1 hx with rfl | hx
        · exact addA_snd _ _
        · cases hx)
    simp -implicitDefEqProofs (maxSteps := 10000000) only [rkA, stepA, valA, storeA, ldA, fieldAddrA, fieldA, idxAddrA, idxA, idxArr, lenA, unA, binA, num2, binV, eqA, rowOf, PV.cells, PV.cell, bndA, appA, reduceIte, reduceCtorEq, Nat.reduceAdd, Nat.reduceSub, Nat.reduceEqDiff, Nat.reduceLeDiff, Nat.reduceLT, Nat.reduceMul, Nat.reduceBEq, Nat.reduceBNe, Int.reduceToNat, Int.reduceLE, Int.reduceLT, allocX, setPs, extremeA, ints, resAll, rinfOk, packR]
    have hB := A.ok25 n n e3 f (by omega)
    rw [if_pos (right_nat hn' hn' lf')] at hB
    refine call_fn rfl rfl rfl (hB) ?_
    simp -implicitDefEqProofs (maxSteps := 10000000) only [rkA, stepA, valA, storeA, ldA, fieldAddrA, fieldA, idxAddrA, idxA, idxArr, lenA, unA, binA, num2, binV, eqA, rowOf, PV.cells, PV.cell, bndA, appA, reduceIte, reduceCtorEq, Nat.reduceAdd, Nat.reduceSub, Nat.reduceEqDiff, Nat.reduceLeDiff, Nat.reduceLT, Nat.reduceMul, Nat.reduceBEq, Nat.reduceBNe, Int.reduceToNat, Int.reduceLE, Int.reduceLT, allocX, setPs, extremeA, ints, resAll, rinfOk, packR]
    have hC := A.ok25 n n e4 g (by omega)
    rw [if_pos (right_nat hn' hn' lg')] at hC
    refine call_fn rfl rfl rfl (hC) ?_
    simp -implicitDefEqProofs (maxSteps := 10000000) only [rkA, stepA, valA, storeA, ldA, fieldAddrA, fieldA, idxAddrA, idxA, idxArr, lenA, unA, binA, num2, binV, eqA, rowOf, PV.cells, PV.cell, bndA, appA, reduceIte, reduceCtorEq, Nat.reduceAdd, Nat.reduceSub, Nat.reduceEqDiff, Nat.reduceLeDiff, Nat.reduceLT, Nat.reduceMul, Nat.reduceBEq, Nat.reduceBNe, Int.reduceToNat, Int.reduceLE, Int.reduceLT, allocX, setPs, extremeA, ints, resAll, rinfOk, packR]
    refine call_fn rfl rfl rfl (ok27 e1 e2 e3 e4 e5 n x root f g h r z (by omega) lx' lr') ?_
    simp -implicitDefEqProofs (maxSteps := 10000000) only [rkA, stepA, valA, storeA, ldA, fieldAddrA, fieldA, idxAddrA, idxA, idxArr, lenA, unA, binA, num2, binV, eqA, rowOf, PV.cells, PV.cell, bndA, appA, reduceIte, reduceCtorEq, Nat.reduceAdd, Nat.reduceSub, Nat.reduceEqDiff, Nat.reduceLeDiff, Nat.reduceLT, Nat.reduceMul, Nat.reduceBEq, Nat.reduceBNe, Int.reduceToNat, Int.reduceLE, Int.reduceLT, allocX, setPs, extremeA, ints, resAll, rinfOk, packR]
    have lR' : (A.sqF n (root.map (A.newF · 1))).length = n * n := A.sqF_len n _
    have h9A := A.ok26 false false false false (x.map (A.newF · 1)) (A.sqF n (root.map (A.newF · 1))) (f.map (A.newF · 1)) (g.map (A.newF · 1)) n hn (by rw [List.length_map, lx']) lR' (by rw [List.length_map, lf']) (by rw [List.length_map, lg'])
    refine call_fn rfl rfl rfl (h9A) ?_
    simp -implicitDefEqProofs (maxSteps := 10000000) only [rkA, stepA, valA, storeA, ldA, fieldAddrA, fieldA, idxAddrA, idxA, idxArr, lenA, unA, binA, num2, binV, eqA, rowOf, PV.cells, PV.cell, bndA, appA, reduceIte, reduceCtorEq, Nat.reduceAdd, Nat.reduceSub, Nat.reduceEqDiff, Nat.reduceLeDiff, Nat.reduceLT, Nat.reduceMul, Nat.reduceBEq, Nat.reduceBNe, Int.reduceToNat, Int.reduceLE, Int.reduceLT, allocX, setPs, extremeA, ints, resAll, rinfOk, packR]
    have lX2A : (A.applyF n n (f.map (A.newF · 1)) (x.map (A.newF · 1))).length = n := A.applyF_len _ _ _
    have lP2A : (A.turnedF n (f.map (A.newF · 1)) (A.sqF n (root.map (A.newF · 1))) (A.sqF n (g.map (A.newF · 1)))).length = n * n := A.turnedF_len _ _ _ _
    generalize A.applyF n n (f.map (A.newF · 1)) (x.map (A.newF · 1)) = X2A at *
    generalize A.turnedF n (f.map (A.newF · 1)) (A.sqF n (root.map (A.newF · 1))) (A.sqF n (g.map (A.newF · 1))) = P2A at *
    refine call_fn rfl rfl rfl (A.ok29 e5 h (by omega)) ?_
    simp -implicitDefEqProofs (maxSteps := 10000000) only [rkA, stepA, valA, storeA, ldA, fieldAddrA, fieldA, idxAddrA, idxA, idxArr, lenA, unA, binA, num2, binV, eqA, rowOf, PV.cells, PV.cell, bndA, appA, reduceIte, reduceCtorEq, Nat.reduceAdd, Nat.reduceSub, Nat.reduceEqDiff, Nat.reduceLeDiff, Nat.reduceLT, Nat.reduceMul, Nat.reduceBEq, Nat.reduceBNe, Int.reduceToNat, Int.reduceLE, Int.reduceLT, allocX, setPs, extremeA, ints, resAll, rinfOk, packR]
    refine call_fn rfl rfl rfl (A.ok30 r 1) ?_
    simp -implicitDefEqProofs (maxSteps := 10000000) only [rkA, stepA, valA, storeA, ldA, fieldAddrA, fieldA, idxAddrA, idxA, idxArr, lenA, unA, binA, num2, binV, eqA, rowOf, PV.cells, PV.cell, bndA, appA, reduceIte, reduceCtorEq, Nat.reduceAdd, Nat.reduceSub, Nat.reduceEqDiff, Nat.reduceLeDiff, Nat.reduceLT, Nat.reduceMul, Nat.reduceBEq, Nat.reduceBNe, Int.reduceToNat, Int.reduceLE, Int.reduceLT, allocX, setPs, extremeA, ints, resAll, rinfOk, packR]
    refine call_fn rfl rfl rfl (A.ok30 z 1) ?_
    simp -implicitDefEqProofs (maxSteps := 10000000) only [rkA, stepA, valA, storeA, ldA, fieldAddrA, fieldA, idxAddrA, idxA, idxArr, lenA, unA, binA, num2, binV, eqA, rowOf, PV.cells, PV.cell, bndA, appA, reduceIte, reduceCtorEq, Nat.reduceAdd, Nat.reduceSub, Nat.reduceEqDiff, Nat.reduceLeDiff, Nat.reduceLT, Nat.reduceMul, Nat.reduceBEq, Nat.reduceBNe, Int.reduceToNat, Int.reduceLE, Int.reduceLT, allocX, setPs, extremeA, ints, resAll, rinfOk, packR]
    have h10A := A.ok28 false false false n X2A P2A (h.map (A.newF · 1)) (A.newF r 1) (A.newF z 1) hn lX2A lP2A (by rw [List.length_map, lh'])
    refine call_fn rfl rfl rfl (h10A) ?_
    simp -implicitDefEqProofs (maxSteps := 10000000) only [rkA, stepA, valA, storeA, ldA, fieldAddrA, fieldA, idxAddrA, idxA, idxArr, lenA, unA, binA, num2, binV, eqA, rowOf, PV.cells, PV.cell, bndA, appA, reduceIte, reduceCtorEq, Nat.reduceAdd, Nat.reduceSub, Nat.reduceEqDiff, Nat.reduceLeDiff, Nat.reduceLT, Nat.reduceMul, Nat.reduceBEq, Nat.reduceBNe, Int.reduceToNat, Int.reduceLE, Int.reduceLT, allocX, setPs, extremeA, ints, resAll, rinfOk, packR]
    generalize A.upP n P2A (h.map (A.newF · 1)) (A.newF r 1) = P3A at *
    generalize A.upX n X2A P2A (h.map (A.newF · 1)) (A.newF r 1) (A.newF z 1) = X3A at *
    generalize A.spreadF n P2A (h.map (A.newF · 1)) (A.newF r 1) = DA at *
    generalize A.surpriseF X2A (h.map (A.newF · 1)) (A.newF z 1) = EA at *
    have hA := ok19 n n e2 root (by omega)
    rw [if_pos (right_nat hn' hn' lr')] at hA
    refine call_fn rfl rfl rfl (hA) ?_
    simp -implicitDefEqProofs (maxSteps := 10000000) only [rkA, stepA, valA, storeA, ldA, fieldAddrA, fieldA, idxAddrA, idxA, idxArr, lenA, unA, binA, num2, binV, eqA, rowOf, PV.cells, PV.cell, bndA, appA, reduceIte, reduceCtorEq, Nat.reduceAdd, Nat.reduceSub, Nat.reduceEqDiff, Nat.reduceLeDiff, Nat.reduceLT, Nat.reduceMul, Nat.reduceBEq, Nat.reduceBNe, Int.reduceToNat, Int.reduceLE, Int.reduceLT, allocX, setPs, extremeA, ints, resAll, rinfOk, packR]
    have hB' := ok19 n n e3 f (by omega)
    rw [if_pos (right_nat hn' hn' lf')] at hB'
    refine call_fn rfl rfl rfl (hB') ?_
    simp -implicitDefEqProofs (maxSteps := 10000000) only [rkA, stepA, valA, storeA, ldA, fieldAddrA, fieldA, idxAddrA, idxA, idxArr, lenA, unA, binA, num2, binV, eqA, rowOf, PV.cells, PV.cell, bndA, appA, reduceIte, reduceCtorEq, Nat.reduceAdd, Nat.reduceSub, Nat.reduceEqDiff, Nat.reduceLeDiff, Nat.reduceLT, Nat.reduceMul, Nat.reduceBEq, Nat.reduceBNe, Int.reduceToNat, Int.reduceLE, Int.reduceLT, allocX, setPs, extremeA, ints, resAll, rinfOk, packR]
    have hC' := ok19 n n e4 g (by omega)
    rw [if_pos (right_nat hn' hn' lg')] at hC'
    refine call_fn rfl rfl rfl (hC') ?_
    simp -implicitDefEqProofs (maxSteps := 10000000) only [rkA, stepA, valA, storeA, ldA, fieldAddrA, fieldA, idxAddrA, idxA, idxArr, lenA, unA, binA, num2, binV, eqA, rowOf, PV.cells, PV.cell, bndA, appA, reduceIte, reduceCtorEq, Nat.reduceAdd, Nat.reduceSub, Nat.reduceEqDiff, Nat.reduceLeDiff, Nat.reduceLT, Nat.reduceMul, Nat.reduceBEq, Nat.reduceBNe, Int.reduceToNat, Int.reduceLE, Int.reduceLT, allocX, setPs, extremeA, ints, resAll, rinfOk, packR]
    refine call_fn rfl rfl rfl (ok21 e1 x (by omega)) ?_
    simp -implicitDefEqProofs (maxSteps := 10000000) only [rkA, stepA, valA, storeA, ldA, fieldAddrA, fieldA, idxAddrA, idxA, idxArr, lenA, unA, binA, num2, binV, eqA, rowOf, PV.cells, PV.cell, bndA, appA, reduceIte, reduceCtorEq, Nat.reduceAdd, Nat.reduceSub, Nat.reduceEqDiff, Nat.reduceLeDiff, Nat.reduceLT, Nat.reduceMul, Nat.reduceBEq, Nat.reduceBNe, Int.reduceToNat, Int.reduceLE, Int.reduceLT, allocX, setPs, extremeA, ints, resAll, rinfOk, packR]
    have h7 := ok20 false false (x.map (newF · 1)) (root.map (newF · 1)) n hn' (by rw [List.length_map, lr']) (by rw [List.length_map]; omega)
    rw [if_pos (by rw [List.length_map]; omega)] at h7
    refine call_fn rfl rfl rfl (h7) ?_
    simp -implicitDefEqProofs (maxSteps := 10000000) only [rkA, stepA, valA, storeA, ldA, fieldAddrA, fieldA, idxAddrA, idxA, idxArr, lenA, unA, binA, num2, binV, eqA, rowOf, PV.cells, PV.cell, bndA, appA, reduceIte, reduceCtorEq, Nat.reduceAdd, Nat.reduceSub, Nat.reduceEqDiff, Nat.reduceLeDiff, Nat.reduceLT, Nat.reduceMul, Nat.reduceBEq, Nat.reduceBNe, Int.reduceToNat, Int.reduceLE, Int.reduceLT, allocX, setPs, extremeA, ints, resAll, rinfOk, packR]
    have lq : (sqF n (root.map (newF · 1))).length = n * n := sqF_len _ _
    have h9 := ok16 false false false false (x.map (newF · 1)) (sqF n (root.map (newF · 1))) (f.map (newF · 1)) (g.map (newF · 1)) n hn (by rw [List.length_map, lx']) lq (by rw [List.length_map, lf']) (by rw [List.length_map, lg'])
    refine call_fn rfl rfl rfl (h9) ?_
    simp -implicitDefEqProofs (maxSteps := 10000000) only [rkA, stepA, valA, storeA, ldA, fieldAddrA, fieldA, idxAddrA, idxA, idxArr, lenA, unA, binA, num2, binV, eqA, rowOf, PV.cells, PV.cell, bndA, appA, reduceIte, reduceCtorEq, Nat.reduceAdd, Nat.reduceSub, Nat.reduceEqDiff, Nat.reduceLeDiff, Nat.reduceLT, Nat.reduceMul, Nat.reduceBEq, Nat.reduceBNe, Int.reduceToNat, Int.reduceLE, Int.reduceLT, allocX, setPs, extremeA, ints, resAll, rinfOk, packR]
    have lP2 : (turnedF n (f.map (newF · 1)) (sqF n (root.map (newF · 1))) (sqF n (g.map (newF · 1)))).length = n * n := turnedF_len _ _ _ _
    have lX2 : (applyF n n (f.map (newF · 1)) (x.map (newF · 1))).length = n := applyF_len _ _ _
    generalize turnedF n (f.map (newF · 1)) (sqF n (root.map (newF · 1))) (sqF n (g.map (newF · 1))) = P2 at *
    generalize applyF n n (f.map (newF · 1)) (x.map (newF · 1)) = X2 at *
    refine call_fn rfl rfl rfl (ok21 e5 h (by omega)) ?_
    simp -implicitDefEqProofs (maxSteps := 10000000) only [rkA, stepA, valA, storeA, ldA, fieldAddrA, fieldA, idxAddrA, idxA, idxArr, lenA, unA, binA, num2, binV, eqA, rowOf, PV.cells, PV.cell, bndA, appA, reduceIte, reduceCtorEq, Nat.reduceAdd, Nat.reduceSub, Nat.reduceEqDiff, Nat.reduceLeDiff, Nat.reduceLT, Nat.reduceMul, Nat.reduceBEq, Nat.reduceBNe, Int.reduceToNat, Int.reduceLE, Int.reduceLT, allocX, setPs, extremeA, ints, resAll, rinfOk, packR]
    refine call_fn rfl rfl rfl (ok22 0) ?_
    simp -implicitDefEqProofs (maxSteps := 10000000) only [rkA, stepA, valA, storeA, ldA, fieldAddrA, fieldA, idxAddrA, idxA, idxArr, lenA, unA, binA, num2, binV, eqA, rowOf, PV.cells, PV.cell, bndA, appA, reduceIte, reduceCtorEq, Nat.reduceAdd, Nat.reduceSub, Nat.reduceEqDiff, Nat.reduceLeDiff, Nat.reduceLT, Nat.reduceMul, Nat.reduceBEq, Nat.reduceBNe, Int.reduceToNat, Int.reduceLE, Int.reduceLT, allocX, setPs, extremeA, ints, resAll, rinfOk, packR]
    refine call_fn rfl rfl rfl (ok23 (point 0) r) ?_
    simp -implicitDefEqProofs (maxSteps := 10000000) only [rkA, stepA, valA, storeA, ldA, fieldAddrA, fieldA, idxAddrA, idxA, idxArr, lenA, unA, binA, num2, binV, eqA, rowOf, PV.cells, PV.cell, bndA, appA, reduceIte, reduceCtorEq, Nat.reduceAdd, Nat.reduceSub, Nat.reduceEqDiff, Nat.reduceLeDiff, Nat.reduceLT, Nat.reduceMul, Nat.reduceBEq, Nat.reduceBNe, Int.reduceToNat, Int.reduceLE, Int.reduceLT, allocX, setPs, extremeA, ints, resAll, rinfOk, packR]
    refine call_fn rfl rfl rfl (ok22 0) ?_
    simp -implicitDefEqProofs (maxSteps := 10000000) only [rkA, stepA, valA, storeA, ldA, fieldAddrA, fieldA, idxAddrA, idxA, idxArr, lenA, unA, binA, num2, binV, eqA, rowOf, PV.cells, PV.cell, bndA, appA, reduceIte, reduceCtorEq, Nat.reduceAdd, Nat.reduceSub, Nat.reduceEqDiff, Nat.reduceLeDiff, Nat.reduceLT, Nat.reduceMul, Nat.reduceBEq, Nat.reduceBNe, Int.reduceToNat, Int.reduceLE, Int.reduceLT, allocX, setPs, extremeA, ints, resAll, rinfOk, packR]
    refine call_fn rfl rfl rfl (ok23 (point 0) z) ?_
    simp -implicitDefEqProofs (maxSteps := 10000000) only [rkA, stepA, valA, storeA, ldA, fieldAddrA, fieldA, idxAddrA, idxA, idxArr, lenA, unA, binA, num2, binV, eqA, rowOf, PV.cells, PV.cell, bndA, appA, reduceIte, reduceCtorEq, Nat.reduceAdd, Nat.reduceSub, Nat.reduceEqDiff, Nat.reduceLeDiff, Nat.reduceLT, Nat.reduceMul, Nat.reduceBEq, Nat.reduceBNe, Int.reduceToNat, Int.reduceLE, Int.reduceLT, allocX, setPs, extremeA, ints, resAll, rinfOk, packR]
    have h10 := ok8 false false false n X2 P2 (h.map (newF · 1)) (newF r 1) (newF z 1) hn lX2 lP2 (by rw [List.length_map, lh'])
    refine call_fn rfl rfl rfl (h10) ?_
    simp -implicitDefEqProofs (maxSteps := 10000000) only [rkA, stepA, valA, storeA, ldA, fieldAddrA, fieldA, idxAddrA, idxA, idxArr, lenA, unA, binA, num2, binV, eqA, rowOf, PV.cells, PV.cell, bndA, appA, reduceIte, reduceCtorEq, Nat.reduceAdd, Nat.reduceSub, Nat.reduceEqDiff, Nat.reduceLeDiff, Nat.reduceLT, Nat.reduceMul, Nat.reduceBEq, Nat.reduceBNe, Int.reduceToNat, Int.reduceLE, Int.reduceLT, allocX, setPs, extremeA, ints, resAll, rinfOk, packR]
    have lP3 : (upP n P2 (h.map (newF · 1)) (newF r 1)).length = n * n := turnedF_len _ _ _ _
    have lX3 : (upX n X2 P2 (h.map (newF · 1)) (newF r 1) (newF z 1)).length = n := by
      rw [upX, List.length_zipWith, List.length_map, kF_len]; omega
    generalize upP n P2 (h.map (newF · 1)) (newF r 1) = P3 at *
    generalize upX n X2 P2 (h.map (newF · 1)) (newF r 1) (newF z 1) = X3 at *
    generalize spreadF n P2 (h.map (newF · 1)) (newF r 1) = D at *
    generalize surpriseF X2 (h.map (newF · 1)) (newF z 1) = E at *
    refine call_fn rfl rfl rfl (ok31 false false X2 X2A wX2 (by omega)) ?_
    simp -implicitDefEqProofs (maxSteps := 10000000) only [rkA, stepA, valA, storeA, ldA, fieldAddrA, fieldA, idxAddrA, idxA, idxArr, lenA, unA, binA, num2, binV, eqA, rowOf, PV.cells, PV.cell, bndA, appA, reduceIte, reduceCtorEq, Nat.reduceAdd, Nat.reduceSub, Nat.reduceEqDiff, Nat.reduceLeDiff, Nat.reduceLT, Nat.reduceMul, Nat.reduceBEq, Nat.reduceBNe, Int.reduceToNat, Int.reduceLE, Int.reduceLT, allocX, setPs, extremeA, ints, resAll, rinfOk, packR]
    refine call_fn rfl rfl rfl (ok31 false false P2 P2A wP2 (by omega)) ?_
    simp -implicitDefEqProofs (maxSteps := 10000000) only [rkA, stepA, valA, storeA, ldA, fieldAddrA, fieldA, idxAddrA, idxA, idxArr, lenA, unA, binA, num2, binV, eqA, rowOf, PV.cells, PV.cell, bndA, appA, reduceIte, reduceCtorEq, Nat.reduceAdd, Nat.reduceSub, Nat.reduceEqDiff, Nat.reduceLeDiff, Nat.reduceLT, Nat.reduceMul, Nat.reduceBEq, Nat.reduceBNe, Int.reduceToNat, Int.reduceLE, Int.reduceLT, allocX, setPs, extremeA, ints, resAll, rinfOk, packR]
    refine call_fn rfl rfl rfl (ok31 false false X3 X3A wX3 (by omega)) ?_
    simp -implicitDefEqProofs (maxSteps := 10000000) only [rkA, stepA, valA, storeA, ldA, fieldAddrA, fieldA, idxAddrA, idxA, idxArr, lenA, unA, binA, num2, binV, eqA, rowOf, PV.cells, PV.cell, bndA, appA, reduceIte, reduceCtorEq, Nat.reduceAdd, Nat.reduceSub, Nat.reduceEqDiff, Nat.reduceLeDiff, Nat.reduceLT, Nat.reduceMul, Nat.reduceBEq, Nat.reduceBNe, Int.reduceToNat, Int.reduceLE, Int.reduceLT, allocX, setPs, extremeA, ints, resAll, rinfOk, packR]
    refine call_fn rfl rfl rfl (ok31 false false P3 P3A wP3 (by omega)) ?_
    simp -implicitDefEqProofs (maxSteps := 10000000) only [rkA, stepA, valA, storeA, ldA, fieldAddrA, fieldA, idxAddrA, idxA, idxArr, lenA, unA, binA, num2, binV, eqA, rowOf, PV.cells, PV.cell, bndA, appA, reduceIte, reduceCtorEq, Nat.reduceAdd, Nat.reduceSub, Nat.reduceEqDiff, Nat.reduceLeDiff, Nat.reduceLT, Nat.reduceMul, Nat.reduceBEq, Nat.reduceBNe, Int.reduceToNat, Int.reduceLE, Int.reduceLT, allocX, setPs, extremeA, ints, resAll, rinfOk, packR]
    refine call_fn rfl rfl rfl (ok31 true true [E, D] [EA, DA] wN (by simp)) ?_
    simp -implicitDefEqProofs (maxSteps := 10000000) only [rkA, stepA, valA, storeA, ldA, fieldAddrA, fieldA, idxAddrA, idxA, idxArr, lenA, unA, binA, num2, binV, eqA, rowOf, PV.cells, PV.cell, bndA, appA, reduceIte, reduceCtorEq, Nat.reduceAdd, Nat.reduceSub, Nat.reduceEqDiff, Nat.reduceLeDiff, Nat.reduceLT, Nat.reduceMul, Nat.reduceBEq, Nat.reduceBNe, Int.reduceToNat, Int.reduceLE, Int.reduceLT, allocX, setPs, extremeA, ints, resAll, rinfOk, packR]
    refine call_fn rfl rfl rfl (ok10) ?_
    simp -implicitDefEqProofs (maxSteps := 10000000) only [rkA, stepA, valA, storeA, ldA, fieldAddrA, fieldA, idxAddrA, idxA, idxArr, lenA, unA, binA, num2, binV, eqA, rowOf, PV.cells, PV.cell, bndA, appA, reduceIte, reduceCtorEq, Nat.reduceAdd, Nat.reduceSub, Nat.reduceEqDiff, Nat.reduceLeDiff, Nat.reduceLT, Nat.reduceMul, Nat.reduceBEq, Nat.reduceBNe, Int.reduceToNat, Int.reduceLE, Int.reduceLT, allocX, setPs, extremeA, ints, resAll, rinfOk, packR]
theorem JosephEncloses_ok {xs : List PV} (h : FitL caseSh xs) : Ok Tryz.prog 6 [.agg xs] (tru true) := by
  obtain ⟨N, x, root, f, g, h, r, z, e⟩ := case_fit h
  rw [e]
  exact ok6 _ _ _ _ _ _ _ _ _ _ _ _ _
end Go.Proofs.YtipchjfcjbghnaaGreat.A.E


