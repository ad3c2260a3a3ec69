import Derived.Test.YtambpjbpdackfaaGreatM5
set_option linter.unusedVariables false
set_option linter.unusedSimpArgs false
set_option maxRecDepth 100000
namespace Go.Proofs.YtambpjbpdackfaaGreat.A.E
open Go Go.RowKit Go.Shelf

theorem divF_bad {a b : Fr} (h : a.fine = false ∨ b.fine = false) : divF a b = .wrong := by
  unfold divF
  split
  · rfl
  · unfold madeE
    rw [if_neg]
    rintro ⟨_, h1, h2⟩
    rcases h with h | h
    · rw [h] at h1; cases h1
    · rw [h] at h2; cases h2
set_option maxHeartbeats 8000000 in
theorem ok79d (a b : Fr) : Ok Tryz.prog 79 [num 3, frV a, frV b] (frV (divF a b)) := by
  refine ok_fn mixed Tryz.func79 (code := ?_) (h := h79) ?_ k79 ?_
  rotate_left
  · exact rfl
  unfold h79 initS
  simp -implicitDefEqProofs (maxSteps := 10000000) only [rkA, rkB, stepA, valA, simprocAttr, Tryz.ntmps79, Tryz.results79]
  refine call_fn rfl rfl rfl (ok140 a) ?_
  cases ha : a.fine with
  | false =>
    rw [divF_bad (.inl ha)]
    simp -implicitDefEqProofs (maxSteps := 10000000) only [rkA, rkB, stepA, valA, simprocAttr]
  | true =>
  simp -implicitDefEqProofs (maxSteps := 10000000) only [rkA, rkB, stepA, valA, simprocAttr]
  refine call_fn rfl rfl rfl (ok140 b) ?_
  cases hb : b.fine with
  | false =>
    rw [divF_bad (.inr hb)]
    simp -implicitDefEqProofs (maxSteps := 10000000) only [rkA, rkB, stepA, valA, simprocAttr]
  | true =>
  by_cases h1 : b.lo ≤ 0
  · by_cases h2 : b.hi ≥ 0
    · have : divF a b = .wrong := if_pos ⟨h1, h2⟩
      rw [this]
      simp -implicitDefEqProofs (maxSteps := 10000000) only [h1, h2, rkA, rkB, stepA, valA, simprocAttr]
    · have hd : divF a b = madeE divX a b [(a.lo, b.lo), (a.lo, b.hi), (a.hi, b.lo), (a.hi, b.hi)] := if_neg (fun h => h2 h.2)
      rw [hd]
      simp -implicitDefEqProofs (maxSteps := 10000000) only [h1, h2, rkA, rkB, stepA, valA, simprocAttr]
      obtain ⟨F, hFd⟩ : ∃ F : Int → Int → Int → Int × Bool, F = divX := ⟨_, rfl⟩
      have hF : ∀ x y m, 0 ≤ m ∧ m ≤ 2 → Ok Tryz.prog 157 [num 3, num x, num y, num m] (.tup [num (F x y m).1, tru (F x y m).2]) := fun x y m hm => by rw [hFd]; exact ok157d x y m
      obtain ⟨ps, hps⟩ : ∃ ps : List (Int × Int), ps = [(a.lo, b.lo), (a.lo, b.hi), (a.hi, b.lo), (a.hi, b.hi)] := ⟨_, rfl⟩
      have hpl : ps.length = 4 := by rw [hps]; rfl
      rw [← hFd, ← hps]
      clear hFd
      refine call_fn rfl rfl rfl (hF a.v b.v 0 (by omega)) ?_
      simp -implicitDefEqProofs (maxSteps := 10000000) only [rkA, rkB, stepA, valA, simprocAttr]
      refine wp_loop (fun m s => ∃ (k : Nat), k + m = ps.length ∧ s = ⟨[.v (num 3), jk, jk, jk, jk, jk, .ptr 6 0, .ptr 7 0, .v (.sl true (ps.map prS)), jk, .v (tru ((F a.v b.v 0).2 && (ps.take k).all (okP F))), .ptr 11 0, nt k, jk, jk, jk, jk, jk, jk, jk, jk, jk, jk, jk, jk, jk, jk, jk, jk, jk, jk, jk, jk, jk, jk, jk, jk, jk, jk, jk, jk, jk, jk, jk, jk, jk, jk, jk, jk, jk, jk, jk, jk, jk, jk, jk, jk, jk, jk, jk, jk, jk, jk, jk, jk, jk, jk, jk, jk, jk, jk, jk, jk, jk, jk, jk, jk, jk, jk, jk, jk, jk, jk, jk, jk, jk, jk, jk, jk, jk, jk, jk, jk, jk, jk, jk, jk, jk, jk, jk, jk, jk, jk, jk, jk, jk, jk, jk, jk, jk, jk, jk, jk, jk, jk, jk, jk, jk, jk, jk, jk, jk, jk, jk, jk, jk, jk, jk, jk, jk, jk, jk, jk, jk, jk, jk, jk, jk, jk, jk, jk, jk, jk, jk, jk, jk, jk, jk, jk, jk, jk, jk, jk, jk, jk, jk, jk, jk, jk, jk, jk, jk, jk, jk, jk, jk, jk, jk, jk, jk, jk, jk, jk, jk], [(4, [nt a.v, nt a.lo, nt a.hi, .v (tru a.bad)]), (5, [nt b.v, nt b.lo, nt b.hi, .v (tru b.bad)]), (6, [nt 0, nt 0, nt 0, .v (tru false)]), (7, [nt 0, nt 0, nt 0, .v (tru true)]), (11, [nt (F a.v b.v 0).1, nt (loK F ps k), nt (hiK F ps k), .v (tru false)])], [], [], [], 0, nomem⟩) ps.length ?_ ?_
      · simp -implicitDefEqProofs (maxSteps := 10000000) only [rkA, rkB, stepA, valA, simprocAttr]
        refine ⟨0, by omega, ?_⟩
        rw [List.take_zero, List.all_nil, Bool.and_true, hps]
        rfl
      have lps : (ps.map prS).length = ps.length := by simp
      rintro m s ⟨k, hk, rfl⟩
      simp -implicitDefEqProofs (maxSteps := 10000000) only [lps, rkA, rkB, stepA, valA, simprocAttr]
      refine gB_dec ?_ ?_ <;> intro hc <;> simp -implicitDefEqProofs (maxSteps := 10000000) only [hc, rkA, rkB, stepA, valA, simprocAttr]
      · have hlt : k < ps.length := by omega
        obtain ⟨p, hp⟩ : ∃ p, ps[k]? = some p := ⟨ps[k], List.getElem?_eq_getElem hlt⟩
        have hg : (ps.map prS)[k]? = some (prS p) := by rw [List.getElem?_map, hp]; rfl
        have h0 := nat0 k
        have hw := wrapped (x := (k : Int) + 1) (by omega) (by omega)
        have s1 := loK_succ (F := F) hp
        have s2 := hiK_succ (F := F) hp
        have s3 := all_succ (F := F) hp (F a.v b.v 0).2
        simp -implicitDefEqProofs (maxSteps := 10000000) only [h0, Int.toNat_natCast, hg, rkA, rkB, stepA, valA, simprocAttr]
        refine call_fn rfl rfl rfl (hF p.1 p.2 1 (by omega)) ?_
        simp -implicitDefEqProofs (maxSteps := 10000000) only [h0, Int.toNat_natCast, hg, rkA, rkB, stepA, valA, simprocAttr]
        refine call_fn rfl rfl rfl (hF p.1 p.2 2 (by omega)) ?_
        generalize ((F a.v b.v 0).2 && (ps.take k).all (okP F)) = B at *
        generalize hB' : ((F a.v b.v 0).2 && (ps.take (k + 1)).all (okP F)) = B' at s3
        generalize F p.1 p.2 1 = X at *
        generalize F p.1 p.2 2 = Y at *
        obtain ⟨x, is⟩ := X
        obtain ⟨y, has⟩ := Y
        simp only at s1 s2 s3
        obtain ⟨j, hj, hjm⟩ : ∃ j, k + 1 + j = ps.length ∧ j < m := ⟨m - 1, by omega, by omega⟩
        simp -implicitDefEqProofs (maxSteps := 10000000) only [rkA, rkB, stepA, valA, simprocAttr]
        refine guard_join (fun s => ∃ f : Nat → TV, s = ⟨[.v (num 3), jk, jk, jk, jk, jk, .ptr 6 0, .ptr 7 0, .v (.sl true (ps.map prS)), jk, .v (tru B'), .ptr 11 0, nt k, nt x, .v (tru is), nt y, .v (tru has), jk, jk, jk, jk, jk, jk, jk, jk, jk, jk, jk, jk, jk, jk, jk, jk, jk, jk, jk, jk, jk, jk, jk, jk, jk, jk, jk, jk, jk, jk, jk, jk, jk, jk, jk, jk, jk, jk, jk, jk, jk, jk, jk, jk, jk, jk, jk, jk, jk, jk, jk, jk, jk, jk, jk, jk, jk, jk, jk, jk, jk, jk, jk, jk, jk, jk, jk, jk, jk, jk, jk, jk, jk, jk, jk, jk, jk, jk, jk, jk, jk, jk, jk, jk, jk, jk, f 103, f 104, f 105, f 106, jk, jk, f 109, f 110, f 111, f 112, f 113, f 114, f 115, f 116, f 117, f 118, f 119, f 120, f 121, f 122, f 123, f 124, f 125, f 126, f 127, f 128, f 129, f 130, f 131, f 132, f 133, f 134, f 135, f 136, f 137, f 138, f 139, f 140, f 141, f 142, f 143, f 144, f 145, f 146, f 147, f 148, f 149, jk, jk, jk, jk, jk, jk, jk, jk, jk, jk, jk, jk, jk, jk, jk, jk, jk, jk, jk, jk, jk, jk, jk, jk], [(4, [nt a.v, nt a.lo, nt a.hi, .v (tru a.bad)]), (5, [nt b.v, nt b.lo, nt b.hi, .v (tru b.bad)]), (6, [nt 0, nt 0, nt 0, .v (tru false)]), (7, [nt 0, nt 0, nt 0, .v (tru true)]), (11, [nt (F a.v b.v 0).1, nt (loK F ps k), nt (hiK F ps k), .v (tru false)])], [], [], [], 0, nomem⟩) ?_ ?_
        rotate_left
        · cases B with
          | false =>
            simp only [Bool.false_and] at s3
            subst s3
            simp -implicitDefEqProofs (maxSteps := 10000000) only [rkA, rkB, stepA, valA, simprocAttr]
            exact slots_of rfl
          | true =>
            cases is with
            | false =>
              simp only [Bool.false_and, Bool.and_false] at s3
              subst s3
              simp -implicitDefEqProofs (maxSteps := 10000000) only [rkA, rkB, stepA, valA, simprocAttr]
              exact slots_of rfl
            | true =>
              simp only [Bool.true_and] at s3
              subst s3
              simp -implicitDefEqProofs (maxSteps := 10000000) only [rkA, rkB, stepA, valA, simprocAttr]
              exact slots_of rfl
        rintro s ⟨f, rfl⟩
        clear s3
        simp -implicitDefEqProofs (maxSteps := 10000000) only [rkA, rkB, stepA, valA, simprocAttr]
        by_cases hk0 : k = 0
        · subst hk0
          rw [if_pos rfl] at s1 s2
          have hw1 : IntKind.wrap .i64 1 = 1 := rfl
          simp -implicitDefEqProofs (maxSteps := 10000000) only [hw1, Int.natCast_zero, rkA, rkB, stepA, valA, simprocAttr]
          refine loopK_of (m' := j) hjm ?_
          simp -implicitDefEqProofs (maxSteps := 10000000) only [rkA, rkB, stepA, valA, simprocAttr]
          exact ⟨0 + 1, hj, by rw [s1, s2, hB']; rfl⟩
        · rw [if_neg hk0] at s1 s2
          have e0 : ((k : Int) == 0) = false := by simp; omega
          simp -implicitDefEqProofs (maxSteps := 10000000) only [e0, rkA, rkB, stepA, valA, simprocAttr]
          refine cond_join (fun s => ∃ f : Nat → TV, s = ⟨[.v (num 3), jk, jk, jk, jk, jk, .ptr 6 0, .ptr 7 0, .v (.sl true (ps.map prS)), jk, .v (tru B'), .ptr 11 0, nt k, nt x, .v (tru is), nt y, .v (tru has), jk, jk, jk, jk, jk, jk, jk, jk, jk, jk, jk, jk, jk, jk, jk, jk, jk, jk, jk, jk, jk, jk, jk, jk, jk, jk, jk, jk, jk, jk, jk, jk, jk, jk, jk, jk, jk, jk, jk, jk, jk, jk, jk, jk, jk, jk, jk, jk, jk, jk, jk, jk, jk, jk, jk, jk, jk, jk, jk, jk, jk, jk, jk, jk, jk, jk, jk, jk, jk, jk, jk, jk, jk, jk, jk, jk, jk, jk, jk, jk, jk, jk, jk, jk, jk, jk, f 103, f 104, f 105, f 106, jk, jk, f 109, f 110, f 111, f 112, f 113, f 114, f 115, f 116, f 117, f 118, f 119, f 120, f 121, f 122, f 123, f 124, f 125, f 126, f 127, f 128, f 129, f 130, f 131, f 132, f 133, f 134, f 135, f 136, f 137, f 138, f 139, f 140, f 141, f 142, f 143, f 144, f 145, f 146, f 147, f 148, f 149, f 150, f 151, f 152, f 153, f 154, f 155, f 156, f 157, f 158, f 159, jk, jk, jk, jk, jk, jk, jk, jk, jk, jk, jk, jk, jk, jk], [(4, [nt a.v, nt a.lo, nt a.hi, .v (tru a.bad)]), (5, [nt b.v, nt b.lo, nt b.hi, .v (tru b.bad)]), (6, [nt 0, nt 0, nt 0, .v (tru false)]), (7, [nt 0, nt 0, nt 0, .v (tru true)]), (11, [nt (F a.v b.v 0).1, nt (loK F ps (k + 1)), nt (hiK F ps k), .v (tru false)])], [], [], [], 0, nomem⟩) ?_ ?_ ?_
          rotate_left
          · intro h
            have h' := of_decide_eq_true h
            rw [if_pos h'] at s1
            rw [s1]
            simp -implicitDefEqProofs (maxSteps := 10000000) only [rkA, rkB, stepA, valA, simprocAttr]
            exact slots_of rfl
          · intro h
            have h' := of_decide_eq_false h
            rw [if_neg h'] at s1
            rw [s1]
            simp -implicitDefEqProofs (maxSteps := 10000000) only [rkA, rkB, stepA, valA, simprocAttr]
            exact slots_of rfl
          rintro s ⟨f, rfl⟩
          simp -implicitDefEqProofs (maxSteps := 10000000) only [e0, rkA, rkB, stepA, valA, simprocAttr]
          refine cond_join (fun s => ∃ f : Nat → TV, s = ⟨[.v (num 3), jk, jk, jk, jk, jk, .ptr 6 0, .ptr 7 0, .v (.sl true (ps.map prS)), jk, .v (tru B'), .ptr 11 0, nt k, nt x, .v (tru is), nt y, .v (tru has), jk, jk, jk, jk, jk, jk, jk, jk, jk, jk, jk, jk, jk, jk, jk, jk, jk, jk, jk, jk, jk, jk, jk, jk, jk, jk, jk, jk, jk, jk, jk, jk, jk, jk, jk, jk, jk, jk, jk, jk, jk, jk, jk, jk, jk, jk, jk, jk, jk, jk, jk, jk, jk, jk, jk, jk, jk, jk, jk, jk, jk, jk, jk, jk, jk, jk, jk, jk, jk, jk, jk, jk, jk, jk, jk, jk, jk, jk, jk, jk, jk, jk, jk, jk, jk, jk, f 103, f 104, f 105, f 106, jk, jk, f 109, f 110, f 111, f 112, f 113, f 114, f 115, f 116, f 117, f 118, f 119, f 120, f 121, f 122, f 123, f 124, f 125, f 126, f 127, f 128, f 129, f 130, f 131, f 132, f 133, f 134, f 135, f 136, f 137, f 138, f 139, f 140, f 141, f 142, f 143, f 144, f 145, f 146, f 147, f 148, f 149, f 150, f 151, f 152, f 153, f 154, f 155, f 156, f 157, f 158, f 159, f 160, f 161, f 162, f 163, f 164, f 165, f 166, f 167, f 168, f 169, jk, jk, jk, jk], [(4, [nt a.v, nt a.lo, nt a.hi, .v (tru a.bad)]), (5, [nt b.v, nt b.lo, nt b.hi, .v (tru b.bad)]), (6, [nt 0, nt 0, nt 0, .v (tru false)]), (7, [nt 0, nt 0, nt 0, .v (tru true)]), (11, [nt (F a.v b.v 0).1, nt (loK F ps (k + 1)), nt (hiK F ps (k + 1)), .v (tru false)])], [], [], [], 0, nomem⟩) ?_ ?_ ?_
          rotate_left
          · intro h
            have h' := of_decide_eq_true h
            rw [if_pos h'] at s2
            rw [s2]
            simp -implicitDefEqProofs (maxSteps := 10000000) only [rkA, rkB, stepA, valA, simprocAttr]
            exact slots_of rfl
          · intro h
            have h' := of_decide_eq_false h
            rw [if_neg h'] at s2
            rw [s2]
            simp -implicitDefEqProofs (maxSteps := 10000000) only [rkA, rkB, stepA, valA, simprocAttr]
            exact slots_of rfl
          rintro s ⟨f, rfl⟩
          simp -implicitDefEqProofs (maxSteps := 10000000) only [hw, rkA, rkB, stepA, valA, simprocAttr]
          refine loopK_of (m' := j) hjm ?_
          simp -implicitDefEqProofs (maxSteps := 10000000) only [rkA, rkB, stepA, valA, simprocAttr]
          exact ⟨k + 1, hj, by rw [hB']; simp only [Int.natCast_add, Int.natCast_one]⟩
      · have hkl : ps.take k = ps := List.take_of_length_le (by omega)
        rw [hkl]
        have hl : loK F ps k = minL (ps.map fun p => (F p.1 p.2 1).1) := by unfold loK; rw [hkl]
        have hh : hiK F ps k = maxL (ps.map fun p => (F p.1 p.2 2).1) := by unfold hiK; rw [hkl]
        cases hB : ((F a.v b.v 0).2 && ps.all (okP F)) with
        | false =>
          have hm : madeE F a b ps = .wrong := by unfold madeE; rw [if_neg (by rw [hB]; rintro ⟨h, _⟩; cases h)]
          rw [hm]
          simp -implicitDefEqProofs (maxSteps := 10000000) only [rkA, rkB, stepA, valA, simprocAttr]
        | true =>
          have hm : madeE F a b ps = ⟨(F a.v b.v 0).1, loK F ps k, hiK F ps k, false⟩ := by unfold madeE; rw [if_pos ⟨hB, ha, hb⟩, hl, hh]
          rw [hm]
          simp -implicitDefEqProofs (maxSteps := 10000000) only [rkA, rkB, stepA, valA, simprocAttr]
  · have hd : divF a b = madeE divX a b [(a.lo, b.lo), (a.lo, b.hi), (a.hi, b.lo), (a.hi, b.hi)] := if_neg (fun h => h1 h.1)
    rw [hd]
    simp -implicitDefEqProofs (maxSteps := 10000000) only [h1, rkA, rkB, stepA, valA, simprocAttr]
    obtain ⟨F, hFd⟩ : ∃ F : Int → Int → Int → Int × Bool, F = divX := ⟨_, rfl⟩
    have hF : ∀ x y m, 0 ≤ m ∧ m ≤ 2 → Ok Tryz.prog 157 [num 3, num x, num y, num m] (.tup [num (F x y m).1, tru (F x y m).2]) := fun x y m hm => by rw [hFd]; exact ok157d x y m
    obtain ⟨ps, hps⟩ : ∃ ps : List (Int × Int), ps = [(a.lo, b.lo), (a.lo, b.hi), (a.hi, b.lo), (a.hi, b.hi)] := ⟨_, rfl⟩
    have hpl : ps.length = 4 := by rw [hps]; rfl
    rw [← hFd, ← hps]
    clear hFd
    refine call_fn rfl rfl rfl (hF a.v b.v 0 (by omega)) ?_
    simp -implicitDefEqProofs (maxSteps := 10000000) only [rkA, rkB, stepA, valA, simprocAttr]
    refine wp_loop (fun m s => ∃ (k : Nat), k + m = ps.length ∧ s = ⟨[.v (num 3), jk, jk, jk, jk, jk, .ptr 6 0, .ptr 7 0, .v (.sl true (ps.map prS)), jk, .v (tru ((F a.v b.v 0).2 && (ps.take k).all (okP F))), .ptr 11 0, nt k, jk, jk, jk, jk, jk, jk, jk, jk, jk, jk, jk, jk, jk, jk, jk, jk, jk, jk, jk, jk, jk, jk, jk, jk, jk, jk, jk, jk, jk, jk, jk, jk, jk, jk, jk, jk, jk, jk, jk, jk, jk, jk, jk, jk, jk, jk, jk, jk, jk, jk, jk, jk, jk, jk, jk, jk, jk, jk, jk, jk, jk, jk, jk, jk, jk, jk, jk, jk, jk, jk, jk, jk, jk, jk, jk, jk, jk, jk, jk, jk, jk, jk, jk, jk, jk, jk, jk, jk, jk, jk, jk, jk, jk, jk, jk, jk, jk, jk, jk, jk, jk, jk, jk, jk, jk, jk, jk, jk, jk, jk, jk, jk, jk, jk, jk, jk, jk, jk, jk, jk, jk, jk, jk, jk, jk, jk, jk, jk, jk, jk, jk, jk, jk, jk, jk, jk, jk, jk, jk, jk, jk, jk, jk, jk, jk, jk, jk, jk, jk, jk, jk, jk, jk, jk, jk, jk, jk, jk, jk, jk, jk], [(4, [nt a.v, nt a.lo, nt a.hi, .v (tru a.bad)]), (5, [nt b.v, nt b.lo, nt b.hi, .v (tru b.bad)]), (6, [nt 0, nt 0, nt 0, .v (tru false)]), (7, [nt 0, nt 0, nt 0, .v (tru true)]), (11, [nt (F a.v b.v 0).1, nt (loK F ps k), nt (hiK F ps k), .v (tru false)])], [], [], [], 0, nomem⟩) ps.length ?_ ?_
    · simp -implicitDefEqProofs (maxSteps := 10000000) only [rkA, rkB, stepA, valA, simprocAttr]
      refine ⟨0, by omega, ?_⟩
      rw [List.take_zero, List.all_nil, Bool.and_true, hps]
      rfl
    have lps : (ps.map prS).length = ps.length := by simp
    rintro m s ⟨k, hk, rfl⟩
    simp -implicitDefEqProofs (maxSteps := 10000000) only [lps, rkA, rkB, stepA, valA, simprocAttr]
    refine gB_dec ?_ ?_ <;> intro hc <;> simp -implicitDefEqProofs (maxSteps := 10000000) only [hc, rkA, rkB, stepA, valA, simprocAttr]
    · have hlt : k < ps.length := by omega
      obtain ⟨p, hp⟩ : ∃ p, ps[k]? = some p := ⟨ps[k], List.getElem?_eq_getElem hlt⟩
      have hg : (ps.map prS)[k]? = some (prS p) := by rw [List.getElem?_map, hp]; rfl
      have h0 := nat0 k
      have hw := wrapped (x := (k : Int) + 1) (by omega) (by omega)
      have s1 := loK_succ (F := F) hp
      have s2 := hiK_succ (F := F) hp
      have s3 := all_succ (F := F) hp (F a.v b.v 0).2
      simp -implicitDefEqProofs (maxSteps := 10000000) only [h0, Int.toNat_natCast, hg, rkA, rkB, stepA, valA, simprocAttr]
      refine call_fn rfl rfl rfl (hF p.1 p.2 1 (by omega)) ?_
      simp -implicitDefEqProofs (maxSteps := 10000000) only [h0, Int.toNat_natCast, hg, rkA, rkB, stepA, valA, simprocAttr]
      refine call_fn rfl rfl rfl (hF p.1 p.2 2 (by omega)) ?_
      generalize ((F a.v b.v 0).2 && (ps.take k).all (okP F)) = B at *
      generalize hB' : ((F a.v b.v 0).2 && (ps.take (k + 1)).all (okP F)) = B' at s3
      generalize F p.1 p.2 1 = X at *
      generalize F p.1 p.2 2 = Y at *
      obtain ⟨x, is⟩ := X
      obtain ⟨y, has⟩ := Y
      simp only at s1 s2 s3
      obtain ⟨j, hj, hjm⟩ : ∃ j, k + 1 + j = ps.length ∧ j < m := ⟨m - 1, by omega, by omega⟩
      simp -implicitDefEqProofs (maxSteps := 10000000) only [rkA, rkB, stepA, valA, simprocAttr]
      refine guard_join (fun s => ∃ f : Nat → TV, s = ⟨[.v (num 3), jk, jk, jk, jk, jk, .ptr 6 0, .ptr 7 0, .v (.sl true (ps.map prS)), jk, .v (tru B'), .ptr 11 0, nt k, nt x, .v (tru is), nt y, .v (tru has), jk, jk, jk, jk, jk, jk, jk, jk, jk, jk, jk, jk, jk, jk, jk, jk, jk, jk, jk, jk, jk, jk, jk, jk, jk, jk, jk, jk, jk, jk, jk, jk, jk, jk, jk, jk, jk, jk, jk, jk, jk, jk, jk, jk, jk, jk, jk, jk, jk, jk, jk, jk, jk, jk, jk, jk, jk, jk, jk, jk, jk, jk, jk, jk, jk, jk, jk, jk, jk, jk, jk, jk, jk, jk, jk, jk, jk, jk, jk, jk, jk, jk, jk, jk, jk, jk, f 103, f 104, f 105, f 106, jk, jk, f 109, f 110, f 111, f 112, f 113, f 114, f 115, f 116, f 117, f 118, f 119, f 120, f 121, f 122, f 123, f 124, f 125, f 126, f 127, f 128, f 129, f 130, f 131, f 132, f 133, f 134, f 135, f 136, f 137, f 138, f 139, f 140, f 141, f 142, f 143, f 144, f 145, f 146, f 147, f 148, f 149, jk, jk, jk, jk, jk, jk, jk, jk, jk, jk, jk, jk, jk, jk, jk, jk, jk, jk, jk, jk, jk, jk, jk, jk], [(4, [nt a.v, nt a.lo, nt a.hi, .v (tru a.bad)]), (5, [nt b.v, nt b.lo, nt b.hi, .v (tru b.bad)]), (6, [nt 0, nt 0, nt 0, .v (tru false)]), (7, [nt 0, nt 0, nt 0, .v (tru true)]), (11, [nt (F a.v b.v 0).1, nt (loK F ps k), nt (hiK F ps k), .v (tru false)])], [], [], [], 0, nomem⟩) ?_ ?_
      rotate_left
      · cases B with
        | false =>
          simp only [Bool.false_and] at s3
          subst s3
          simp -implicitDefEqProofs (maxSteps := 10000000) only [rkA, rkB, stepA, valA, simprocAttr]
          exact slots_of rfl
        | true =>
          cases is with
          | false =>
            simp only [Bool.false_and, Bool.and_false] at s3
            subst s3
            simp -implicitDefEqProofs (maxSteps := 10000000) only [rkA, rkB, stepA, valA, simprocAttr]
            exact slots_of rfl
          | true =>
            simp only [Bool.true_and] at s3
            subst s3
            simp -implicitDefEqProofs (maxSteps := 10000000) only [rkA, rkB, stepA, valA, simprocAttr]
            exact slots_of rfl
      rintro s ⟨f, rfl⟩
      clear s3
      simp -implicitDefEqProofs (maxSteps := 10000000) only [rkA, rkB, stepA, valA, simprocAttr]
      by_cases hk0 : k = 0
      · subst hk0
        rw [if_pos rfl] at s1 s2
        have hw1 : IntKind.wrap .i64 1 = 1 := rfl
        simp -implicitDefEqProofs (maxSteps := 10000000) only [hw1, Int.natCast_zero, rkA, rkB, stepA, valA, simprocAttr]
        refine loopK_of (m' := j) hjm ?_
        simp -implicitDefEqProofs (maxSteps := 10000000) only [rkA, rkB, stepA, valA, simprocAttr]
        exact ⟨0 + 1, hj, by rw [s1, s2, hB']; rfl⟩
      · rw [if_neg hk0] at s1 s2
        have e0 : ((k : Int) == 0) = false := by simp; omega
        simp -implicitDefEqProofs (maxSteps := 10000000) only [e0, rkA, rkB, stepA, valA, simprocAttr]
        refine cond_join (fun s => ∃ f : Nat → TV, s = ⟨[.v (num 3), jk, jk, jk, jk, jk, .ptr 6 0, .ptr 7 0, .v (.sl true (ps.map prS)), jk, .v (tru B'), .ptr 11 0, nt k, nt x, .v (tru is), nt y, .v (tru has), jk, jk, jk, jk, jk, jk, jk, jk, jk, jk, jk, jk, jk, jk, jk, jk, jk, jk, jk, jk, jk, jk, jk, jk, jk, jk, jk, jk, jk, jk, jk, jk, jk, jk, jk, jk, jk, jk, jk, jk, jk, jk, jk, jk, jk, jk, jk, jk, jk, jk, jk, jk, jk, jk, jk, jk, jk, jk, jk, jk, jk, jk, jk, jk, jk, jk, jk, jk, jk, jk, jk, jk, jk, jk, jk, jk, jk, jk, jk, jk, jk, jk, jk, jk, jk, jk, f 103, f 104, f 105, f 106, jk, jk, f 109, f 110, f 111, f 112, f 113, f 114, f 115, f 116, f 117, f 118, f 119, f 120, f 121, f 122, f 123, f 124, f 125, f 126, f 127, f 128, f 129, f 130, f 131, f 132, f 133, f 134, f 135, f 136, f 137, f 138, f 139, f 140, f 141, f 142, f 143, f 144, f 145, f 146, f 147, f 148, f 149, f 150, f 151, f 152, f 153, f 154, f 155, f 156, f 157, f 158, f 159, jk, jk, jk, jk, jk, jk, jk, jk, jk, jk, jk, jk, jk, jk], [(4, [nt a.v, nt a.lo, nt a.hi, .v (tru a.bad)]), (5, [nt b.v, nt b.lo, nt b.hi, .v (tru b.bad)]), (6, [nt 0, nt 0, nt 0, .v (tru false)]), (7, [nt 0, nt 0, nt 0, .v (tru true)]), (11, [nt (F a.v b.v 0).1, nt (loK F ps (k + 1)), nt (hiK F ps k), .v (tru false)])], [], [], [], 0, nomem⟩) ?_ ?_ ?_
        rotate_left
        · intro h
          have h' := of_decide_eq_true h
          rw [if_pos h'] at s1
          rw [s1]
          simp -implicitDefEqProofs (maxSteps := 10000000) only [rkA, rkB, stepA, valA, simprocAttr]
          exact slots_of rfl
        · intro h
          have h' := of_decide_eq_false h
          rw [if_neg h'] at s1
          rw [s1]
          simp -implicitDefEqProofs (maxSteps := 10000000) only [rkA, rkB, stepA, valA, simprocAttr]
          exact slots_of rfl
        rintro s ⟨f, rfl⟩
        simp -implicitDefEqProofs (maxSteps := 10000000) only [e0, rkA, rkB, stepA, valA, simprocAttr]
        refine cond_join (fun s => ∃ f : Nat → TV, s = ⟨[.v (num 3), jk, jk, jk, jk, jk, .ptr 6 0, .ptr 7 0, .v (.sl true (ps.map prS)), jk, .v (tru B'), .ptr 11 0, nt k, nt x, .v (tru is), nt y, .v (tru has), jk, jk, jk, jk, jk, jk, jk, jk, jk, jk, jk, jk, jk, jk, jk, jk, jk, jk, jk, jk, jk, jk, jk, jk, jk, jk, jk, jk, jk, jk, jk, jk, jk, jk, jk, jk, jk, jk, jk, jk, jk, jk, jk, jk, jk, jk, jk, jk, jk, jk, jk, jk, jk, jk, jk, jk, jk, jk, jk, jk, jk, jk, jk, jk, jk, jk, jk, jk, jk, jk, jk, jk, jk, jk, jk, jk, jk, jk, jk, jk, jk, jk, jk, jk, jk, jk, f 103, f 104, f 105, f 106, jk, jk, f 109, f 110, f 111, f 112, f 113, f 114, f 115, f 116, f 117, f 118, f 119, f 120, f 121, f 122, f 123, f 124, f 125, f 126, f 127, f 128, f 129, f 130, f 131, f 132, f 133, f 134, f 135, f 136, f 137, f 138, f 139, f 140, f 141, f 142, f 143, f 144, f 145, f 146, f 147, f 148, f 149, f 150, f 151, f 152, f 153, f 154, f 155, f 156, f 157, f 158, f 159, f 160, f 161, f 162, f 163, f 164, f 165, f 166, f 167, f 168, f 169, jk, jk, jk, jk], [(4, [nt a.v, nt a.lo, nt a.hi, .v (tru a.bad)]), (5, [nt b.v, nt b.lo, nt b.hi, .v (tru b.bad)]), (6, [nt 0, nt 0, nt 0, .v (tru false)]), (7, [nt 0, nt 0, nt 0, .v (tru true)]), (11, [nt (F a.v b.v 0).1, nt (loK F ps (k + 1)), nt (hiK F ps (k + 1)), .v (tru false)])], [], [], [], 0, nomem⟩) ?_ ?_ ?_
        rotate_left
        · intro h
          have h' := of_decide_eq_true h
          rw [if_pos h'] at s2
          rw [s2]
          simp -implicitDefEqProofs (maxSteps := 10000000) only [rkA, rkB, stepA, valA, simprocAttr]
          exact slots_of rfl
        · intro h
          have h' := of_decide_eq_false h
          rw [if_neg h'] at s2
          rw [s2]
          simp -implicitDefEqProofs (maxSteps := 10000000) only [rkA, rkB, stepA, valA, simprocAttr]
          exact slots_of rfl
        rintro s ⟨f, rfl⟩
        simp -implicitDefEqProofs (maxSteps := 10000000) only [hw, rkA, rkB, stepA, valA, simprocAttr]
        refine loopK_of (m' := j) hjm ?_
        simp -implicitDefEqProofs (maxSteps := 10000000) only [rkA, rkB, stepA, valA, simprocAttr]
        exact ⟨k + 1, hj, by rw [hB']; simp only [Int.natCast_add, Int.natCast_one]⟩
    · have hkl : ps.take k = ps := List.take_of_length_le (by omega)
      rw [hkl]
      have hl : loK F ps k = minL (ps.map fun p => (F p.1 p.2 1).1) := by unfold loK; rw [hkl]
      have hh : hiK F ps k = maxL (ps.map fun p => (F p.1 p.2 2).1) := by unfold hiK; rw [hkl]
      cases hB : ((F a.v b.v 0).2 && ps.all (okP F)) with
      | false =>
        have hm : madeE F a b ps = .wrong := by unfold madeE; rw [if_neg (by rw [hB]; rintro ⟨h, _⟩; cases h)]
        rw [hm]
        simp -implicitDefEqProofs (maxSteps := 10000000) only [rkA, rkB, stepA, valA, simprocAttr]
      | true =>
        have hm : madeE F a b ps = ⟨(F a.v b.v 0).1, loK F ps k, hiK F ps k, false⟩ := by unfold madeE; rw [if_pos ⟨hB, ha, hb⟩, hl, hh]
        rw [hm]
        simp -implicitDefEqProofs (maxSteps := 10000000) only [rkA, rkB, stepA, valA, simprocAttr]
end Go.Proofs.YtambpjbpdackfaaGreat.A.E



set_option linter.unusedVariables false
set_option linter.unusedSimpArgs false
set_option maxRecDepth 100000
namespace Go.Proofs.YtambpjbpdackfaaGreat.A.E
open Go Go.RowKit Go.Shelf

set_option maxHeartbeats 8000000 in
theorem ok79e (a : Fr) : Ok Tryz.prog 79 [num 4, frV a, frV a] (frV (rootF a)) := by
  refine ok_fn mixed Tryz.func79 (code := ?_) (h := h79) ?_ k79 ?_
  rotate_left
  · exact rfl
  unfold h79 initS
  simp -implicitDefEqProofs (maxSteps := 10000000) only [rkA, rkB, stepA, valA, simprocAttr, Tryz.ntmps79, Tryz.results79]
  refine call_fn rfl rfl rfl (ok140 a) ?_
  cases ha : a.fine with
  | false => simp -implicitDefEqProofs (maxSteps := 10000000) only [rootF, madeE, ha, rkA, rkB, stepA, valA, simprocAttr]
  | true =>
  simp -implicitDefEqProofs (maxSteps := 10000000) only [rkA, rkB, stepA, valA, simprocAttr]
  have h980 := ok140 a
  rw [ha] at h980
  refine call_fn rfl rfl rfl (h980) ?_
  have hb := ha
  simp -implicitDefEqProofs (maxSteps := 10000000) only [rkA, rkB, stepA, valA, simprocAttr]
  obtain ⟨F, hFd⟩ : ∃ F : Int → Int → Int → Int × Bool, F = fun x y m => rtX x m := ⟨_, rfl⟩
  have hF : ∀ x y m, 0 ≤ m ∧ m ≤ 2 → Ok Tryz.prog 157 [num 4, num x, num y, num m] (.tup [num (F x y m).1, tru (F x y m).2]) := fun x y m hm => by rw [hFd]; exact ok157e x y m hm
  obtain ⟨ps, hps⟩ : ∃ ps : List (Int × Int), ps = [(a.lo, a.lo), (a.hi, a.hi)] := ⟨_, rfl⟩
  have hpl : ps.length = 2 := by rw [hps]; rfl
  have hr : rootF a = madeE F a a ps := by rw [hFd, hps]; rfl
  rw [hr]
  clear hFd
  refine call_fn rfl rfl rfl (hF a.v a.v 0 (by omega)) ?_
  simp -implicitDefEqProofs (maxSteps := 10000000) only [rkA, rkB, stepA, valA, simprocAttr]
  refine wp_loop (fun m s => ∃ (k : Nat), k + m = ps.length ∧ s = ⟨[.v (num 4), jk, jk, jk, jk, jk, .ptr 6 0, .ptr 7 0, .v (.sl true (ps.map prS)), jk, .v (tru ((F a.v a.v 0).2 && (ps.take k).all (okP F))), .ptr 11 0, nt k, jk, jk, jk, jk, jk, jk, jk, jk, jk, jk, jk, jk, jk, jk, jk, jk, jk, jk, jk, jk, jk, jk, jk, jk, jk, jk, jk, jk, jk, jk, jk, jk, jk, jk, jk, jk, jk, jk, jk, jk, jk, jk, jk, jk, jk, jk, jk, jk, jk, jk, jk, jk, jk, jk, jk, jk, jk, jk, jk, jk, jk, jk, jk, jk, jk, jk, jk, jk, jk, jk, jk, jk, jk, jk, jk, jk, jk, jk, jk, jk, jk, jk, jk, jk, jk, jk, jk, jk, jk, jk, jk, jk, jk, jk, jk, jk, jk, jk, jk, jk, jk, jk, jk, jk, jk, jk, jk, jk, jk, jk, jk, jk, jk, jk, jk, jk, jk, jk, jk, jk, jk, jk, jk, jk, jk, jk, jk, jk, jk, jk, jk, jk, jk, jk, jk, jk, jk, jk, jk, jk, jk, jk, jk, jk, jk, jk, jk, jk, jk, jk, jk, jk, jk, jk, jk, jk, jk, jk, jk, jk, jk], [(4, [nt a.v, nt a.lo, nt a.hi, .v (tru a.bad)]), (5, [nt a.v, nt a.lo, nt a.hi, .v (tru a.bad)]), (6, [nt 0, nt 0, nt 0, .v (tru false)]), (7, [nt 0, nt 0, nt 0, .v (tru true)]), (11, [nt (F a.v a.v 0).1, nt (loK F ps k), nt (hiK F ps k), .v (tru false)])], [], [], [], 0, nomem⟩) ps.length ?_ ?_
  · simp -implicitDefEqProofs (maxSteps := 10000000) only [rkA, rkB, stepA, valA, simprocAttr]
    refine ⟨0, by omega, ?_⟩
    rw [List.take_zero, List.all_nil, Bool.and_true, hps]
    rfl
  have lps : (ps.map prS).length = ps.length := by simp
  rintro m s ⟨k, hk, rfl⟩
  simp -implicitDefEqProofs (maxSteps := 10000000) only [lps, rkA, rkB, stepA, valA, simprocAttr]
  refine gB_dec ?_ ?_ <;> intro hc <;> simp -implicitDefEqProofs (maxSteps := 10000000) only [hc, rkA, rkB, stepA, valA, simprocAttr]
  · have hlt : k < ps.length := by omega
    obtain ⟨p, hp⟩ : ∃ p, ps[k]? = some p := ⟨ps[k], List.getElem?_eq_getElem hlt⟩
    have hg : (ps.map prS)[k]? = some (prS p) := by rw [List.getElem?_map, hp]; rfl
    have h0 := nat0 k
    have hw := wrapped (x := (k : Int) + 1) (by omega) (by omega)
    have s1 := loK_succ (F := F) hp
    have s2 := hiK_succ (F := F) hp
    have s3 := all_succ (F := F) hp (F a.v a.v 0).2
    simp -implicitDefEqProofs (maxSteps := 10000000) only [h0, Int.toNat_natCast, hg, rkA, rkB, stepA, valA, simprocAttr]
    refine call_fn rfl rfl rfl (hF p.1 p.2 1 (by omega)) ?_
    simp -implicitDefEqProofs (maxSteps := 10000000) only [h0, Int.toNat_natCast, hg, rkA, rkB, stepA, valA, simprocAttr]
    refine call_fn rfl rfl rfl (hF p.1 p.2 2 (by omega)) ?_
    generalize ((F a.v a.v 0).2 && (ps.take k).all (okP F)) = B at *
    generalize hB' : ((F a.v a.v 0).2 && (ps.take (k + 1)).all (okP F)) = B' at s3
    generalize F p.1 p.2 1 = X at *
    generalize F p.1 p.2 2 = Y at *
    obtain ⟨x, is⟩ := X
    obtain ⟨y, has⟩ := Y
    simp only at s1 s2 s3
    obtain ⟨j, hj, hjm⟩ : ∃ j, k + 1 + j = ps.length ∧ j < m := ⟨m - 1, by omega, by omega⟩
    simp -implicitDefEqProofs (maxSteps := 10000000) only [rkA, rkB, stepA, valA, simprocAttr]
    refine guard_join (fun s => ∃ f : Nat → TV, s = ⟨[.v (num 4), jk, jk, jk, jk, jk, .ptr 6 0, .ptr 7 0, .v (.sl true (ps.map prS)), jk, .v (tru B'), .ptr 11 0, nt k, nt x, .v (tru is), nt y, .v (tru has), jk, jk, jk, jk, jk, jk, jk, jk, jk, jk, jk, jk, jk, jk, jk, jk, jk, jk, jk, jk, jk, jk, jk, jk, jk, jk, jk, jk, jk, jk, jk, jk, jk, jk, jk, jk, jk, jk, jk, jk, jk, jk, jk, jk, jk, jk, jk, jk, jk, jk, jk, jk, jk, jk, jk, jk, jk, jk, jk, jk, jk, jk, jk, jk, jk, jk, jk, jk, jk, jk, jk, jk, jk, jk, jk, jk, jk, jk, jk, jk, jk, jk, jk, jk, jk, jk, f 103, f 104, f 105, f 106, jk, jk, f 109, f 110, f 111, f 112, f 113, f 114, f 115, f 116, f 117, f 118, f 119, f 120, f 121, f 122, f 123, f 124, f 125, f 126, f 127, f 128, f 129, f 130, f 131, f 132, f 133, f 134, f 135, f 136, f 137, f 138, f 139, f 140, f 141, f 142, f 143, f 144, f 145, f 146, f 147, f 148, f 149, jk, jk, jk, jk, jk, jk, jk, jk, jk, jk, jk, jk, jk, jk, jk, jk, jk, jk, jk, jk, jk, jk, jk, jk], [(4, [nt a.v, nt a.lo, nt a.hi, .v (tru a.bad)]), (5, [nt a.v, nt a.lo, nt a.hi, .v (tru a.bad)]), (6, [nt 0, nt 0, nt 0, .v (tru false)]), (7, [nt 0, nt 0, nt 0, .v (tru true)]), (11, [nt (F a.v a.v 0).1, nt (loK F ps k), nt (hiK F ps k), .v (tru false)])], [], [], [], 0, nomem⟩) ?_ ?_
    rotate_left
    · cases B with
      | false =>
        simp only [Bool.false_and] at s3
        subst s3
        simp -implicitDefEqProofs (maxSteps := 10000000) only [rkA, rkB, stepA, valA, simprocAttr]
        exact slots_of rfl
      | true =>
        cases is with
        | false =>
          simp only [Bool.false_and, Bool.and_false] at s3
          subst s3
          simp -implicitDefEqProofs (maxSteps := 10000000) only [rkA, rkB, stepA, valA, simprocAttr]
          exact slots_of rfl
        | true =>
          simp only [Bool.true_and] at s3
          subst s3
          simp -implicitDefEqProofs (maxSteps := 10000000) only [rkA, rkB, stepA, valA, simprocAttr]
          exact slots_of rfl
    rintro s ⟨f, rfl⟩
    clear s3
    simp -implicitDefEqProofs (maxSteps := 10000000) only [rkA, rkB, stepA, valA, simprocAttr]
    by_cases hk0 : k = 0
    · subst hk0
      rw [if_pos rfl] at s1 s2
      have hw1 : IntKind.wrap .i64 1 = 1 := rfl
      simp -implicitDefEqProofs (maxSteps := 10000000) only [hw1, Int.natCast_zero, rkA, rkB, stepA, valA, simprocAttr]
      refine loopK_of (m' := j) hjm ?_
      simp -implicitDefEqProofs (maxSteps := 10000000) only [rkA, rkB, stepA, valA, simprocAttr]
      exact ⟨0 + 1, hj, by rw [s1, s2, hB']; rfl⟩
    · rw [if_neg hk0] at s1 s2
      have e0 : ((k : Int) == 0) = false := by simp; omega
      simp -implicitDefEqProofs (maxSteps := 10000000) only [e0, rkA, rkB, stepA, valA, simprocAttr]
      refine cond_join (fun s => ∃ f : Nat → TV, s = ⟨[.v (num 4), jk, jk, jk, jk, jk, .ptr 6 0, .ptr 7 0, .v (.sl true (ps.map prS)), jk, .v (tru B'), .ptr 11 0, nt k, nt x, .v (tru is), nt y, .v (tru has), jk, jk, jk, jk, jk, jk, jk, jk, jk, jk, jk, jk, jk, jk, jk, jk, jk, jk, jk, jk, jk, jk, jk, jk, jk, jk, jk, jk, jk, jk, jk, jk, jk, jk, jk, jk, jk, jk, jk, jk, jk, jk, jk, jk, jk, jk, jk, jk, jk, jk, jk, jk, jk, jk, jk, jk, jk, jk, jk, jk, jk, jk, jk, jk, jk, jk, jk, jk, jk, jk, jk, jk, jk, jk, jk, jk, jk, jk, jk, jk, jk, jk, jk, jk, jk, jk, f 103, f 104, f 105, f 106, jk, jk, f 109, f 110, f 111, f 112, f 113, f 114, f 115, f 116, f 117, f 118, f 119, f 120, f 121, f 122, f 123, f 124, f 125, f 126, f 127, f 128, f 129, f 130, f 131, f 132, f 133, f 134, f 135, f 136, f 137, f 138, f 139, f 140, f 141, f 142, f 143, f 144, f 145, f 146, f 147, f 148, f 149, f 150, f 151, f 152, f 153, f 154, f 155, f 156, f 157, f 158, f 159, jk, jk, jk, jk, jk, jk, jk, jk, jk, jk, jk, jk, jk, jk], [(4, [nt a.v, nt a.lo, nt a.hi, .v (tru a.bad)]), (5, [nt a.v, nt a.lo, nt a.hi, .v (tru a.bad)]), (6, [nt 0, nt 0, nt 0, .v (tru false)]), (7, [nt 0, nt 0, nt 0, .v (tru true)]), (11, [nt (F a.v a.v 0).1, nt (loK F ps (k + 1)), nt (hiK F ps k), .v (tru false)])], [], [], [], 0, nomem⟩) ?_ ?_ ?_
      rotate_left
      · intro h
        have h' := of_decide_eq_true h
        rw [if_pos h'] at s1
        rw [s1]
        simp -implicitDefEqProofs (maxSteps := 10000000) only [rkA, rkB, stepA, valA, simprocAttr]
        exact slots_of rfl
      · intro h
        have h' := of_decide_eq_false h
        rw [if_neg h'] at s1
        rw [s1]
        simp -implicitDefEqProofs (maxSteps := 10000000) only [rkA, rkB, stepA, valA, simprocAttr]
        exact slots_of rfl
      rintro s ⟨f, rfl⟩
      simp -implicitDefEqProofs (maxSteps := 10000000) only [e0, rkA, rkB, stepA, valA, simprocAttr]
      refine cond_join (fun s => ∃ f : Nat → TV, s = ⟨[.v (num 4), jk, jk, jk, jk, jk, .ptr 6 0, .ptr 7 0, .v (.sl true (ps.map prS)), jk, .v (tru B'), .ptr 11 0, nt k, nt x, .v (tru is), nt y, .v (tru has), jk, jk, jk, jk, jk, jk, jk, jk, jk, jk, jk, jk, jk, jk, jk, jk, jk, jk, jk, jk, jk, jk, jk, jk, jk, jk, jk, jk, jk, jk, jk, jk, jk, jk, jk, jk, jk, jk, jk, jk, jk, jk, jk, jk, jk, jk, jk, jk, jk, jk, jk, jk, jk, jk, jk, jk, jk, jk, jk, jk, jk, jk, jk, jk, jk, jk, jk, jk, jk, jk, jk, jk, jk, jk, jk, jk, jk, jk, jk, jk, jk, jk, jk, jk, jk, jk, f 103, f 104, f 105, f 106, jk, jk, f 109, f 110, f 111, f 112, f 113, f 114, f 115, f 116, f 117, f 118, f 119, f 120, f 121, f 122, f 123, f 124, f 125, f 126, f 127, f 128, f 129, f 130, f 131, f 132, f 133, f 134, f 135, f 136, f 137, f 138, f 139, f 140, f 141, f 142, f 143, f 144, f 145, f 146, f 147, f 148, f 149, f 150, f 151, f 152, f 153, f 154, f 155, f 156, f 157, f 158, f 159, f 160, f 161, f 162, f 163, f 164, f 165, f 166, f 167, f 168, f 169, jk, jk, jk, jk], [(4, [nt a.v, nt a.lo, nt a.hi, .v (tru a.bad)]), (5, [nt a.v, nt a.lo, nt a.hi, .v (tru a.bad)]), (6, [nt 0, nt 0, nt 0, .v (tru false)]), (7, [nt 0, nt 0, nt 0, .v (tru true)]), (11, [nt (F a.v a.v 0).1, nt (loK F ps (k + 1)), nt (hiK F ps (k + 1)), .v (tru false)])], [], [], [], 0, nomem⟩) ?_ ?_ ?_
      rotate_left
      · intro h
        have h' := of_decide_eq_true h
        rw [if_pos h'] at s2
        rw [s2]
        simp -implicitDefEqProofs (maxSteps := 10000000) only [rkA, rkB, stepA, valA, simprocAttr]
        exact slots_of rfl
      · intro h
        have h' := of_decide_eq_false h
        rw [if_neg h'] at s2
        rw [s2]
        simp -implicitDefEqProofs (maxSteps := 10000000) only [rkA, rkB, stepA, valA, simprocAttr]
        exact slots_of rfl
      rintro s ⟨f, rfl⟩
      simp -implicitDefEqProofs (maxSteps := 10000000) only [hw, rkA, rkB, stepA, valA, simprocAttr]
      refine loopK_of (m' := j) hjm ?_
      simp -implicitDefEqProofs (maxSteps := 10000000) only [rkA, rkB, stepA, valA, simprocAttr]
      exact ⟨k + 1, hj, by rw [hB']; simp only [Int.natCast_add, Int.natCast_one]⟩
  · have hkl : ps.take k = ps := List.take_of_length_le (by omega)
    rw [hkl]
    have hl : loK F ps k = minL (ps.map fun p => (F p.1 p.2 1).1) := by unfold loK; rw [hkl]
    have hh : hiK F ps k = maxL (ps.map fun p => (F p.1 p.2 2).1) := by unfold hiK; rw [hkl]
    cases hB : ((F a.v a.v 0).2 && ps.all (okP F)) with
    | false =>
      have hm : madeE F a a ps = .wrong := by unfold madeE; rw [if_neg (by rw [hB]; rintro ⟨h, _⟩; cases h)]
      rw [hm]
      simp -implicitDefEqProofs (maxSteps := 10000000) only [rkA, rkB, stepA, valA, simprocAttr]
    | true =>
      have hm : madeE F a a ps = ⟨(F a.v a.v 0).1, loK F ps k, hiK F ps k, false⟩ := by unfold madeE; rw [if_pos ⟨hB, ha, hb⟩, hl, hh]
      rw [hm]
      simp -implicitDefEqProofs (maxSteps := 10000000) only [rkA, rkB, stepA, valA, simprocAttr]
end Go.Proofs.YtambpjbpdackfaaGreat.A.E


set_option linter.unusedVariables false
set_option linter.unusedSimpArgs false
set_option maxRecDepth 100000
namespace Go.Proofs.YtambpjbpdackfaaGreat.A.E
open Go Go.RowKit Go.Shelf

theorem ok143 (n : Int) : Ok Tryz.prog 143 [num n] (tru (decide (1 ≤ n ∧ n ≤ 16))) := by
  refine ok_fn mixed Tryz.func143 (code := ?_) (h := h143) ?_ k143 ?_
  rotate_left
  · exact rfl
  unfold h143 initS
  simp -implicitDefEqProofs only [rkA, rkB, stepA, valA, simprocAttr, Tryz.ntmps143, Tryz.results143]
  repeat' (refine gB_dec ?_ ?_ <;> intro hc <;> first | (exfalso; omega) | simp -implicitDefEqProofs only [hc, rkA, rkB, stepA, valA, simprocAttr])

end Go.Proofs.YtambpjbpdackfaaGreat.A.E


set_option linter.unusedVariables false
set_option linter.unusedSimpArgs false
set_option maxRecDepth 100000
namespace Go.Proofs.YtambpjbpdackfaaGreat.A.E
open Go Go.RowKit Go.Shelf

abbrev frs (l : List Fr) : List PV := l.map frV

theorem fits_frs {k l : List Fr} (h : k.length + l.length ≤ 4398046511104) : fits 4 32 (frs k) (frs l) = true := by
  simp [fits, PV.cells, PV.ok, PV.cell, Value.oneCell']
  omega

theorem ok71 (ex : Bool) (l : List Fr) (h : l.length ≤ 4398046511104) : Ok Tryz.prog 71 [.sl ex (frs l)] (.sl false (frs l)) := by
  have hfit : fits 4 32 [] (frs l) = true := fits_frs (k := []) (l := l) (by simpa using h)
  refine ok_fn mixed Tryz.func71 (code := ?_) (h := h71) ?_ k71 ?_
  rotate_left
  · exact rfl
  unfold h71 initS
  simp -implicitDefEqProofs only [rkA, rkB, stepA, valA, simprocAttr, Tryz.ntmps71, Tryz.results71]
  refine nilA_sl (some 4) (.tmp 3) rfl ?_
  intro b hb
  cases b with
  | true =>
    simp -implicitDefEqProofs only [rkA, rkB, stepA, valA, simprocAttr]
    have : l = [] := by
      cases l with
      | nil => rfl
      | cons x l => simp at hb
    subst this
    simp
  | false =>
    simp -implicitDefEqProofs only [hfit, rkA, rkB, stepA, valA, simprocAttr]

theorem ok72 (ex : Bool) (r c : Int) (l : List PV) : Ok Tryz.prog 72 [matV ex r c l] (tru (right r c l.length)) := by
  refine ok_fn mixed Tryz.func72 (code := ?_) (h := h72) ?_ k72 ?_
  rotate_left
  · exact rfl
  unfold h72 initS
  simp -implicitDefEqProofs only [rkA, rkB, stepA, valA, simprocAttr, Tryz.ntmps72, Tryz.results72]
  refine call_fn rfl rfl rfl (ok143 r) ?_
  by_cases hr : 1 ≤ r ∧ r ≤ 16
  · simp -implicitDefEqProofs only [hr, rkA, rkB, stepA, valA, simprocAttr]
    refine call_fn rfl rfl rfl (ok143 c) ?_
    by_cases hc : 1 ≤ c ∧ c ≤ 16
    · have hm : 0 ≤ r * c ∧ r * c ≤ 256 := by
        have h1 : (r * c).natAbs = r.natAbs * c.natAbs := Int.natAbs_mul r c
        have h2 : r.natAbs * c.natAbs ≤ 16 * 16 := Nat.mul_le_mul (by omega) (by omega)
        have h3 : 0 ≤ r * c := Int.mul_nonneg (by omega) (by omega)
        omega
      have w := wrapped (x := r * c) (by omega) (by omega)
      simp -implicitDefEqProofs only [hc, w, rkA, rkB, stepA, valA, simprocAttr]
      simp [right, hr, hc]
    · simp -implicitDefEqProofs only [hc, rkA, rkB, stepA, valA, simprocAttr]
      simp [right, hr, hc]
  · simp -implicitDefEqProofs only [hr, rkA, rkB, stepA, valA, simprocAttr]
    simp [right, hr]

theorem ok17 (r c : Int) (ex : Bool) (l : List Fr) (h : l.length ≤ 4398046511104) :
    Ok Tryz.prog 17 [num r, num c, .sl ex (frs l)] (if right r c l.length = true then .tup [matV false r c (frs l), tru true] else .tup [matNil, tru false]) := by
  refine ok_fn mixed Tryz.func17 (code := ?_) (h := h17) ?_ k17 ?_
  rotate_left
  · exact rfl
  unfold h17 initS
  simp -implicitDefEqProofs only [rkA, rkB, stepA, valA, simprocAttr, Tryz.ntmps17, Tryz.results17]
  refine call_fn rfl rfl rfl (ok71 ex l h) ?_
  simp -implicitDefEqProofs only [rkA, rkB, stepA, valA, simprocAttr]
  refine call_fn rfl rfl rfl (ok72 false r c (frs l)) ?_
  have e : (frs l).length = l.length := by simp
  rw [e]
  cases hr : right r c l.length with
  | true => simp -implicitDefEqProofs only [rkA, rkB, stepA, valA, simprocAttr]
  | false => simp -implicitDefEqProofs only [rkA, rkB, stepA, valA, simprocAttr]

theorem methOf : Meth Tryz.prog 28 "Of" 107 := by
  intro v xs w
  rfl

/-- What stands in a row, or 0 fraction. -/
def atF (r c : Int) (l : List Fr) (i k : Int) : Fr := if right r c l.length = true ∧ 0 ≤ i ∧ i < r ∧ 0 ≤ k ∧ k < c then l.getD (i * c + k).toNat ⟨0, 0, 0, false⟩ else ⟨0, 0, 0, false⟩

theorem ok89 (ex : Bool) (r c i k : Int) (l : List Fr) : Ok Tryz.prog 89 [matV ex r c (frs l), num i, num k] (frV (atF r c l i k)) := by
  refine ok_fn mixed Tryz.func89 (code := ?_) (h := h89) ?_ k89 ?_
  rotate_left
  · exact rfl
  unfold h89 initS
  simp -implicitDefEqProofs only [rkA, rkB, stepA, valA, simprocAttr, Tryz.ntmps89, Tryz.results89]
  refine call_fn rfl rfl rfl (ok72 ex r c (frs l)) ?_
  have e : (frs l).length = l.length := by simp
  rw [e]
  cases hr : right r c l.length with
  | false =>
    simp -implicitDefEqProofs only [rkA, rkB, stepA, valA, simprocAttr]
    simp [atF, hr]
  | true =>
    obtain ⟨r1, r2, c1, c2, hn⟩ := right_spec hr
    simp -implicitDefEqProofs only [rkA, rkB, stepA, valA, simprocAttr]
    repeat' (refine gB_dec ?_ ?_ <;> intro hc <;> first | (exfalso; omega) | simp -implicitDefEqProofs only [hc, rkA, rkB, stepA, valA, simprocAttr])
    · rw [show atF r c l i k = ⟨0, 0, 0, false⟩ from if_neg (fun ⟨_, _, _, _, _⟩ => by omega)]
    · rw [show atF r c l i k = ⟨0, 0, 0, false⟩ from if_neg (fun ⟨_, _, _, _, _⟩ => by omega)]
    · rw [show atF r c l i k = ⟨0, 0, 0, false⟩ from if_neg (fun ⟨_, _, _, _, _⟩ => by omega)]
    · rw [show atF r c l i k = ⟨0, 0, 0, false⟩ from if_neg (fun ⟨_, _, _, _, _⟩ => by omega)]
    · obtain ⟨b1, b2, b3, b4, b5⟩ := at_bound (i := i) (k := k) r2 ⟨c1, c2⟩ (by omega) (by omega)
      have w1 := wrapped (x := i * c) (by omega) (by omega)
      have w2 := wrapped (x := i * c + k) (by omega) (by omega)
      have hlt : (i * c + k).toNat < l.length := by omega
      have hg : (frs l)[(i * c + k).toNat]? = some (frV l[(i * c + k).toNat]) := by simp [hlt]
      have ha : atF r c l i k = l[(i * c + k).toNat] := by
        unfold atF
        rw [if_pos ⟨hr, by omega, by omega, by omega, by omega⟩, List.getD_eq_getElem?_getD, List.getElem?_eq_getElem hlt]
        rfl
      simp -implicitDefEqProofs only [w1, w2, b2, hg, ha, rkA, rkB, stepA, valA, simprocAttr]
end Go.Proofs.YtambpjbpdackfaaGreat.A.E


set_option linter.unusedVariables false
set_option linter.unusedSimpArgs false
set_option maxRecDepth 100000
namespace Go.Proofs.YtambpjbpdackfaaGreat.A.E
open Go Go.RowKit Go.Shelf

theorem methAdd : Meth Tryz.prog 28 "Add" 63 := by
  intro v xs w
  rfl
theorem methMul : Meth Tryz.prog 28 "Mul" 250 := by
  intro v xs w
  rfl

def sumF (l : List Fr) : Fr := l.foldl addF (newF 0 1)

theorem ok203 (ex : Bool) (l : List Fr) (h : l.length ≤ 4398046511104) : Ok Tryz.prog 203 [.sl ex (frs l)] (frV (sumF l)) := by
  refine ok_fn mixed Tryz.func203 (code := ?_) (h := h203) ?_ k203 ?_
  rotate_left
  · exact rfl
  unfold h203 initS
  simp -implicitDefEqProofs only [rkA, rkB, stepA, valA, simprocAttr, Tryz.ntmps203, Tryz.results203]
  refine call_meth rfl rfl methOf (ok107 ⟨0, 0, 0, false⟩ 0) ?_
  simp -implicitDefEqProofs only [rkA, rkB, stepA, valA, simprocAttr]
  refine wp_loop (fun m s => ∃ i, i + m = l.length ∧ s = ⟨[jk, jk, .ptr 2 0, jk, .ptr 4 0, jk, jk, jk, jk, jk, .v (.sl ex (frs l)), nt l.length, nt i, jk, jk, jk, jk, jk, jk, jk, jk, jk],
    [(2, [nt 0, nt 0, nt 0, .v (tru false)]), (3, [nt 0, nt 0, nt 0, .v (tru false)]), (4, [nt (sumF (l.take i)).v, nt (sumF (l.take i)).lo, nt (sumF (l.take i)).hi, .v (tru (sumF (l.take i)).bad)])], [], [], [], 0, nomem⟩) l.length ?_ ?_
  · simp -implicitDefEqProofs only [rkA, rkB, stepA, valA, simprocAttr]
    refine ⟨0, by simp, ?_⟩
    simp [sumF]
  rintro m s ⟨i, hi, rfl⟩
  simp -implicitDefEqProofs only [rkA, rkB, stepA, valA, simprocAttr]
  refine gB_dec ?_ ?_ <;> intro hc <;> simp -implicitDefEqProofs only [hc, rkA, rkB, stepA, valA, simprocAttr]
  · have hlt : i < l.length := by omega
    have h0 : (0 : Int) ≤ (i : Int) := by omega
    have hg : (frs l)[i]? = some (frV l[i]) := by simp [hlt]
    simp -implicitDefEqProofs only [h0, Int.toNat_natCast, hg, rkA, rkB, stepA, valA, simprocAttr]
    refine call_meth rfl rfl methAdd (ok63 (sumF (l.take i)) l[i]) ?_
    have hw := wrapped (x := (i : Int) + 1) (by omega) (by omega)
    simp -implicitDefEqProofs only [hw, rkA, rkB, stepA, valA, simprocAttr]
    refine loopK_of (m' := m - 1) (by omega) ?_
    simp -implicitDefEqProofs only [rkA, rkB, stepA, valA, simprocAttr]
    refine ⟨i + 1, by omega, ?_⟩
    have e : sumF (l.take (i + 1)) = addF (sumF (l.take i)) l[i] := by
      unfold sumF
      rw [List.take_succ_eq_append_getElem hlt, List.foldl_append]
      rfl
    rw [e]
    simp only [Int.natCast_add, Int.natCast_one]
  · have : l.length ≤ i := by omega
    rw [List.take_of_length_le this]

theorem ok205 (a b : Fr) : Ok Tryz.prog 205 [frV a, frV b] (frV (mulF a b)) := by
  refine ok_fn mixed Tryz.func205 (code := ?_) (h := h205) ?_ k205 ?_
  rotate_left
  · exact rfl
  unfold h205 initS
  simp -implicitDefEqProofs only [rkA, rkB, stepA, valA, simprocAttr, Tryz.ntmps205, Tryz.results205]
  refine call_meth rfl rfl methMul (ok250 a b) ?_
  simp -implicitDefEqProofs only [rkA, rkB, stepA, valA, simprocAttr]

theorem sl_frs {ex : Bool} {l : List Fr} {a b : Nat} (h1 : a ≤ b) (h2 : b ≤ l.length) : sliceA 4 (frs l) ex (some a) (some b) none = some (.sl (exA none ex b (frs l).length) (frs ((l.take b).drop a))) := by
  unfold sliceA
  simp only [Option.getD_some]
  rw [if_pos ⟨h1, by simpa using h2, by simp, by simp [PV.cells]⟩]
  simp

/-- A row. -/
def rowF (r c : Int) (l : List Fr) (i : Int) : List Fr := if right r c l.length = true ∧ 0 ≤ i ∧ i < r then (l.take ((i + 1) * c).toNat).drop (i * c).toNat else []

theorem ok150 (ex : Bool) (r c i : Int) (l : List Fr) : Ok Tryz.prog 150 [matV ex r c (frs l), num i] (.sl false (frs (rowF r c l i))) := by
  refine ok_fn mixed Tryz.func150 (code := ?_) (h := h150) ?_ k150 ?_
  rotate_left
  · exact rfl
  unfold h150 initS
  simp -implicitDefEqProofs only [rkA, rkB, stepA, valA, simprocAttr, Tryz.ntmps150, Tryz.results150]
  refine call_fn rfl rfl rfl (ok72 ex r c (frs l)) ?_
  have e : (frs l).length = l.length := by simp
  rw [e]
  cases hr : right r c l.length with
  | false =>
    simp -implicitDefEqProofs only [rkA, rkB, stepA, valA, simprocAttr]
    simp [rowF, hr]
  | true =>
    obtain ⟨r1, r2, c1, c2, hn⟩ := right_spec hr
    simp -implicitDefEqProofs only [rkA, rkB, stepA, valA, simprocAttr]
    repeat' (refine gB_dec ?_ ?_ <;> intro hc <;> first | (exfalso; omega) | simp -implicitDefEqProofs only [hc, rkA, rkB, stepA, valA, simprocAttr])
    · rw [show rowF r c l i = [] from if_neg (fun ⟨_, _, _⟩ => by omega)]; rfl
    · rw [show rowF r c l i = [] from if_neg (fun ⟨_, _, _⟩ => by omega)]; rfl
    · obtain ⟨b1, b2, b3, b4, b5⟩ := at_bound (i := i) (k := 0) r2 ⟨c1, c2⟩ (by omega) (by omega)
      have b6 : (i + 1) * c = i * c + c := by rw [Int.add_mul, Int.one_mul]
      have b7 : (i + 1) * c ≤ r * c := Int.mul_le_mul_of_nonneg_right (by omega) (by omega)
      have w1 := wrapped (x := i * c) (by omega) (by omega)
      have w2 := wrapped (x := i + 1) (by omega) (by omega)
      have w3 := wrapped (x := (i + 1) * c) (by omega) (by omega)
      have h3 : 0 ≤ (i + 1) * c := by omega
      have hs := sl_frs (ex := ex) (l := l) (a := (i * c).toNat) (b := ((i + 1) * c).toNat) (by omega) (by omega)
      have hrow : rowF r c l i = (l.take ((i + 1) * c).toNat).drop (i * c).toNat := if_pos ⟨hr, by omega, by omega⟩
      rw [hrow]
      simp -implicitDefEqProofs only [w1, w2, w3, b1, h3, hs, rkA, rkB, stepA, valA, simprocAttr]
      refine call_fn rfl rfl rfl (ok71 _ _ (by simp; omega)) ?_
      simp -implicitDefEqProofs only [rkA, rkB, stepA, valA, simprocAttr]
end Go.Proofs.YtambpjbpdackfaaGreat.A.E


set_option linter.unusedVariables false
set_option linter.unusedSimpArgs false
set_option maxRecDepth 100000
namespace Go.Proofs.YtambpjbpdackfaaGreat.A.E
open Go Go.RowKit Go.Shelf

def rowsF (r c : Int) (l : List Fr) : List (List PV) := if right r c l.length = true then (List.range r.toNat).map fun (i : Nat) => [num (i : Int), .sl false (frs (rowF r c l (i : Int)))] else []

theorem it149 (ex : Bool) (r c : Int) (l : List Fr) : IterOk Tryz.prog (.fn (.func 149) [.vp [num r, num c, .sl ex (frs l)]]) (rowsF r c l) := by
  refine iter_fn mixed Tryz.func149 (code := ?_) (h := h149) ?_ k149 ?_ ?_
  rotate_left
  · exact rfl
  · exact rfl
  intro yl
  unfold h149 initS
  simp -implicitDefEqProofs only [rkA, rkB, stepA, valA, simprocAttr, Tryz.ntmps149]
  refine wp_loop (fun m s => ∃ i : Nat, i + m = (rowsF r c l).length ∧ s = ⟨[.v (.fn (.yield yl) []), .v (.vp [num r, num c, .sl ex (frs l)]), jk, nt i, jk, jk, jk, jk, jk, jk, jk, jk, jk, jk, jk, jk, jk, jk, jk, jk, jk], [], [], [], [], i, nomem⟩) (rowsF r c l).length ?_ ?_
  · simp -implicitDefEqProofs only [rkA, rkB, stepA, valA, simprocAttr]
    exact ⟨0, by simp, rfl⟩
  rintro m s ⟨i, hi, rfl⟩
  simp -implicitDefEqProofs only [rkA, rkB, stepA, valA, simprocAttr]
  refine call_fn rfl rfl rfl (ok72 ex r c (frs l)) ?_
  have e : (frs l).length = l.length := by simp
  rw [e]
  cases hr : right r c l.length with
  | false =>
    simp -implicitDefEqProofs only [rkA, rkB, stepA, valA, simprocAttr]
    have hl : (rowsF r c l).length = 0 := by simp [rowsF, hr]
    omega
  | true =>
    obtain ⟨r1, r2, c1, c2, hn⟩ := right_spec hr
    have hl : (rowsF r c l).length = r.toNat := by simp [rowsF, hr]
    simp -implicitDefEqProofs only [rkA, rkB, stepA, valA, simprocAttr]
    refine gB_dec ?_ ?_ <;> intro hc <;> simp -implicitDefEqProofs only [hc, rkA, rkB, stepA, valA, simprocAttr]
    · refine call_fn rfl rfl rfl (ok150 ex r c i l) ?_
      simp -implicitDefEqProofs only [rkA, rkB, stepA, valA, simprocAttr]
      have hx : (rowsF r c l)[i]? = some [num (i : Int), .sl false (frs (rowF r c l i))] := by
        have : i < r.toNat := by omega
        simp [rowsF, hr, this]
      have hw := wrapped (x := (i : Int) + 1) (by omega) (by omega)
      refine call_yield rfl rfl rfl rfl rfl hx ?_ ?_
      · simp -implicitDefEqProofs only [hw, rkA, rkB, stepA, valA, simprocAttr]
        refine loopK_of (m' := m - 1) (by omega) ?_
        simp -implicitDefEqProofs only [rkA, rkB, stepA, valA, simprocAttr]
        exact ⟨i + 1, by omega, by simp only [Int.natCast_add, Int.natCast_one]⟩
      · simp -implicitDefEqProofs only [rkA, rkB, stepA, valA, simprocAttr]
        exact .inr trivial
    · omega

theorem ok75 (ex : Bool) (r c : Int) (l : List Fr) : Ok Tryz.prog 75 [matV ex r c (frs l)] (.fn (.func 149) [.vp [num r, num c, .sl ex (frs l)]]) := by
  refine ok_fn mixed Tryz.func75 (code := ?_) (h := h75) ?_ k75 ?_
  rotate_left
  · exact rfl
  unfold h75 initS
  simp -implicitDefEqProofs only [rkA, rkB, stepA, valA, simprocAttr, Tryz.ntmps75, Tryz.results75]

def pairsF (a b : List Fr) : List (List PV) := (List.zip a b).map fun p => [frV p.1, frV p.2]

theorem it229 (ea eb : Bool) (a b : List Fr) (ha : a.length ≤ 4398046511104) (hb : b.length ≤ 4398046511104) : IterOk Tryz.prog (.fn (.func 229) [.vp [.sl ea (frs a)], .vp [.sl eb (frs b)]]) (pairsF a b) := by
  refine iter_fn mixed Tryz.func229 (code := ?_) (h := h229) ?_ k229 ?_ ?_
  rotate_left
  · exact rfl
  · exact rfl
  intro yl
  unfold h229 initS
  simp -implicitDefEqProofs only [rkA, rkB, stepA, valA, simprocAttr, Tryz.ntmps229]
  have hl : (pairsF a b).length = min a.length b.length := by simp [pairsF]
  have hx0 : ∀ (i : Nat) (ha : i < a.length) (hb : i < b.length), (pairsF a b)[i]? = some [frV a[i], frV b[i]] := fun i h1 h2 => by
    rw [pairsF, List.getElem?_map, List.getElem?_eq_getElem (by simp; omega), Option.map_some, List.getElem_zip]
  have hmin : (if ((frs b).length : Int) < ((frs a).length : Int) then ((frs b).length : Int) else ((frs a).length : Int)) = ((min a.length b.length : Nat) : Int) := by
    simp only [List.length_map]
    split <;> omega
  simp only [hmin]
  refine wp_loop (fun m s => ∃ i : Nat, i + m = (pairsF a b).length ∧ s = ⟨[.v (.fn (.yield yl) []), .v (.vp [.sl ea (frs a)]), .v (.vp [.sl eb (frs b)]), jk, jk, jk, jk, jk, jk, nt ((min a.length b.length : Nat) : Int), nt i, jk, jk, jk, jk, jk, jk, jk, jk, jk, jk, jk, jk, jk, jk], [], [], [], [], i, nomem⟩) (pairsF a b).length ?_ ?_
  · simp -implicitDefEqProofs only [rkA, rkB, stepA, valA, simprocAttr]
    exact ⟨0, by simp, rfl⟩
  rintro m s ⟨i, hi, rfl⟩
  simp -implicitDefEqProofs only [rkA, rkB, stepA, valA, simprocAttr]
  refine gB_dec ?_ ?_ <;> intro hc <;> simp -implicitDefEqProofs only [hc, rkA, rkB, stepA, valA, simprocAttr]
  · have h1 : i < a.length := by omega
    have h2 : i < b.length := by omega
    have h0 : (0 : Int) ≤ (i : Int) := by omega
    have g1 : (frs a)[i]? = some (frV a[i]) := by simp [h1]
    have g2 : (frs b)[i]? = some (frV b[i]) := by simp [h2]
    simp -implicitDefEqProofs only [h0, Int.toNat_natCast, g1, g2, rkA, rkB, stepA, valA, simprocAttr]
    have hw := wrapped (x := (i : Int) + 1) (by omega) (by omega)
    refine call_yield rfl rfl rfl rfl rfl (hx0 i h1 h2) ?_ ?_
    · simp -implicitDefEqProofs only [hw, rkA, rkB, stepA, valA, simprocAttr]
      refine loopK_of (m' := m - 1) (by omega) ?_
      simp -implicitDefEqProofs only [rkA, rkB, stepA, valA, simprocAttr]
      exact ⟨i + 1, by omega, by simp only [Int.natCast_add, Int.natCast_one]⟩
    · simp -implicitDefEqProofs only [rkA, rkB, stepA, valA, simprocAttr]
      exact .inr trivial
  · omega

theorem ok221 (ea eb : Bool) (a b : List Fr) : Ok Tryz.prog 221 [.sl ea (frs a), .sl eb (frs b)] (.fn (.func 229) [.vp [.sl ea (frs a)], .vp [.sl eb (frs b)]]) := by
  refine ok_fn mixed Tryz.func221 (code := ?_) (h := h221) ?_ k221 ?_
  rotate_left
  · exact rfl
  unfold h221 initS
  simp -implicitDefEqProofs only [rkA, rkB, stepA, valA, simprocAttr, Tryz.ntmps221, Tryz.results221]
end Go.Proofs.YtambpjbpdackfaaGreat.A.E


set_option linter.unusedVariables false
set_option linter.unusedSimpArgs false
set_option maxRecDepth 100000
namespace Go.Proofs.YtambpjbpdackfaaGreat.A.E
open Go Go.RowKit Go.Shelf

theorem ok204 (k : Nat) (F : Fr → Fr → Fr) (hF : ∀ x y, Ok Tryz.prog k [frV x, frV y] (frV (F x y))) (ea eb : Bool) (a b : List Fr) (ha : a.length ≤ 4398046511104) (hb : b.length ≤ 4398046511104) :
    Ok Tryz.prog 204 [.sl ea (frs a), .sl eb (frs b), .fn (.func k) []] (.sl false (frs (List.zipWith F a b))) := by
  refine ok_fn mixed Tryz.func204 (code := ?_) (h := h204) ?_ k204 ?_
  rotate_left
  · exact rfl
  unfold h204 initS
  simp -implicitDefEqProofs only [rkA, rkB, stepA, valA, simprocAttr, Tryz.ntmps204, Tryz.results204]
  refine call_fn rfl rfl rfl (ok221 ea eb a b) ?_
  simp -implicitDefEqProofs only [rkA, rkB, stepA, valA, simprocAttr]
  have hlz : (List.zipWith F a b).length = min a.length b.length := by simp
  have hpl : (pairsF a b).length = min a.length b.length := by simp [pairsF]
  refine wp_rf (items := pairsF a b) rfl (it229 ea eb a b ha hb) (fun i s => i ≤ (pairsF a b).length ∧ s = ⟨[], [(5, [.v (.fn (.func k) [])]), (7, [.acc 1007 (frs ((List.zipWith F a b).take i))])], [], [(6, 0), (1007, i)],
    [[.v (.sl ea (frs a)), .v (.sl eb (frs b)), .v (.fn (.func k) []), jk, jk, .ptr 5 0, .acc 6 [], .ptr 7 0, jk, jk, .v (.sl ea (frs a)), .v (.sl eb (frs b)), .v (.fn (.func 229) [.vp [.sl ea (frs a)], .vp [.sl eb (frs b)]]), jk, jk, jk, jk, jk, jk, jk, jk, jk, jk]], 0, nomem⟩) ?_ ?_ ?_
  · simp -implicitDefEqProofs only [rkA, rkB, stepA, valA, simprocAttr]
    exact Nat.zero_le _
  · rintro i x' s' R hx ⟨hi, rfl⟩ hR
    have hlt : i < (pairsF a b).length := (List.getElem?_eq_some_iff.1 hx).1
    have h1 : i < a.length := by omega
    have h2 : i < b.length := by omega
    have hx' : x' = [frV a[i], frV b[i]] := by
      rw [pairsF, List.getElem?_map, List.getElem?_eq_getElem (by simp; omega), Option.map_some, List.getElem_zip] at hx
      exact (Option.some.inj hx).symm
    subst hx'
    refine ⟨rfl, ?_⟩
    simp -implicitDefEqProofs only [rkA, rkB, stepA, valA, simprocAttr]
    refine call_fn rfl rfl rfl (hF a[i] b[i]) ?_
    have hfit : fits 4 32 (frs ((List.zipWith F a b).take i)) [frV (F a[i] b[i])] = true := fits_frs (l := [F a[i] b[i]]) (by simp; omega)
    have hl : (frs ((List.zipWith F a b).take i)).length = i := by simp; omega
    simp -implicitDefEqProofs only [hfit, hl, rkA, rkB, stepA, valA, simprocAttr]
    refine hR _ ⟨by omega, ?_⟩
    rw [List.take_succ_eq_append_getElem (by simp; omega)]
    simp only [frs, List.map_append, List.map_cons, List.map_nil, List.getElem_zipWith]
  · rintro s' ⟨hi, rfl⟩
    simp -implicitDefEqProofs only [rkA, rkB, stepA, valA, simprocAttr]
    rw [List.take_of_length_le (by simp; omega)]

def dotF (a b : List Fr) : Fr := sumF (List.zipWith mulF a b)

theorem ok151 (ea eb : Bool) (a b : List Fr) (ha : a.length ≤ 4398046511104) (hb : b.length ≤ 4398046511104) : Ok Tryz.prog 151 [.sl ea (frs a), .sl eb (frs b)] (frV (dotF a b)) := by
  refine ok_fn mixed Tryz.func151 (code := ?_) (h := h151) ?_ k151 ?_
  rotate_left
  · exact rfl
  unfold h151 initS
  simp -implicitDefEqProofs only [rkA, rkB, stepA, valA, simprocAttr, Tryz.ntmps151, Tryz.results151]
  refine call_fn rfl rfl rfl (ok204 205 mulF ok205 ea eb a b ha hb) ?_
  simp -implicitDefEqProofs only [rkA, rkB, stepA, valA, simprocAttr]
  refine call_fn rfl rfl rfl (ok203 false (List.zipWith mulF a b) (by simp; omega)) ?_
  simp -implicitDefEqProofs only [rkA, rkB, stepA, valA, simprocAttr, dotF]

end Go.Proofs.YtambpjbpdackfaaGreat.A.E


set_option linter.unusedVariables false
set_option linter.unusedSimpArgs false
set_option maxRecDepth 100000
namespace Go.Proofs.YtambpjbpdackfaaGreat.A.E
open Go Go.RowKit Go.Shelf

section
variable {α β : Type} (f : α → α → β)
end

/-- All rows. -/
def allF (r c : Int) (l : List Fr) : List (List Fr) := (List.range r.toNat).map fun (i : Nat) => rowF r c l (i : Int)
theorem rowsF_all {r c : Int} {l : List Fr} (h : right r c l.length = true) {i : Nat} {x : List PV} (hx : (rowsF r c l)[i]? = some x) : i < r.toNat ∧ x = [num i, .sl false (frs (rowF r c l i))] ∧ (allF r c l)[i]? = some (rowF r c l i) := by
  obtain ⟨hi, rfl⟩ := List.getElem?_eq_some_iff.1 hx
  have hi' : i < r.toNat := by simpa [rowsF, h] using hi
  refine ⟨hi', by simp [rowsF, h], by simp [allF, hi']⟩
theorem rowsF_length {r c : Int} {l : List Fr} (h : right r c l.length = true) : (rowsF r c l).length = r.toNat := by simp [rowsF, h]
end Go.Proofs.YtambpjbpdackfaaGreat.A.E


set_option linter.unusedVariables false
set_option linter.unusedSimpArgs false
namespace Go.Proofs.YtambpjbpdackfaaGreat.A.E
open Go Go.RowKit Go.Shelf

theorem rowF_eq {r c : Int} {l : List Fr} (d : Fr) (h : right r c l.length = true) {i : Nat} (hi : i < r.toNat) : rowF r c l i = (List.range c.toNat).map fun j => l.getD (i * c.toNat + j) d := by
  obtain ⟨r1, r2, c1, c2, hn⟩ := right_spec h
  obtain ⟨R, rfl⟩ := Int.eq_ofNat_of_zero_le (show 0 ≤ r by omega)
  obtain ⟨K, rfl⟩ := Int.eq_ofNat_of_zero_le (show 0 ≤ c by omega)
  simp only [Int.toNat_natCast] at hi ⊢
  unfold rowF
  rw [if_pos ⟨h, by omega, by omega⟩]
  have e1 : (((i : Int) + 1) * (K : Int)).toNat = (i + 1) * K := by
    have : ((i : Int) + 1) * (K : Int) = (((i + 1) * K : Nat) : Int) := by simp
    rw [this, Int.toNat_natCast]
  have e2 : ((i : Int) * (K : Int)).toNat = i * K := by
    have : (i : Int) * (K : Int) = ((i * K : Nat) : Int) := by simp
    rw [this, Int.toNat_natCast]
  rw [e1, e2]
  refine stretch l d i K ?_
  have h1 : (i + 1) * K ≤ R * K := Nat.mul_le_mul_right _ hi
  have h2 : ((R * K : Nat) : Int) = (l.length : Int) := by rw [hn]; simp
  omega

theorem atF_eq {r c : Int} {l : List Fr} (h : right r c l.length = true) {i k : Nat} (hi : i < r.toNat) (hk : k < c.toNat) : atF r c l i k = l.getD (i * c.toNat + k) ⟨0, 0, 0, false⟩ := by
  obtain ⟨r1, r2, c1, c2, hn⟩ := right_spec h
  unfold atF
  rw [if_pos ⟨h, by omega, by omega, by omega, by omega⟩]
  congr 1
  obtain ⟨K, rfl⟩ := Int.eq_ofNat_of_zero_le (show 0 ≤ c by omega)
  have : (i : Int) * (K : Int) + (k : Int) = ((i * K + k : Nat) : Int) := by simp
  rw [this, Int.toNat_natCast, Int.toNat_natCast]

end Go.Proofs.YtambpjbpdackfaaGreat.A.E


set_option linter.unusedVariables false
set_option linter.unusedSimpArgs false
set_option maxRecDepth 100000
namespace Go.Proofs.YtambpjbpdackfaaGreat.A
open Go Go.RowKit Go.Shelf

end Go.Proofs.YtambpjbpdackfaaGreat.A


set_option linter.unusedVariables false
set_option linter.unusedSimpArgs false
set_option maxRecDepth 100000
namespace Go.Proofs.YtambpjbpdackfaaGreat.A
open Go Go.RowKit Go.Shelf

end Go.Proofs.YtambpjbpdackfaaGreat.A


set_option linter.unusedVariables false
set_option linter.unusedSimpArgs false
set_option maxRecDepth 100000
namespace Go.Proofs.YtambpjbpdackfaaGreat.A.E
open Go Go.RowKit Go.Shelf

end Go.Proofs.YtambpjbpdackfaaGreat.A.E


set_option linter.unusedVariables false
set_option linter.unusedSimpArgs false
set_option maxRecDepth 100000
namespace Go.Proofs.YtambpjbpdackfaaGreat.A
open Go Go.RowKit Go.Shelf

theorem methSub : Meth Tryz.prog 47 "Sub" 272 := by
  intro v xs w
  rfl

theorem ok216 (a b : Fr) : Ok Tryz.prog 216 [frV a, frV b] (frV (subF a b)) := by
  refine ok_fn mixed Tryz.func216 (code := ?_) (h := h216) ?_ k216 ?_
  rotate_left
  · exact rfl
  unfold h216 initS
  simp -implicitDefEqProofs only [rkA, rkB, stepA, valA, simprocAttr, Tryz.ntmps216, Tryz.results216]
  refine call_meth rfl rfl methSub (ok272 a b) ?_
  simp -implicitDefEqProofs only [rkA, rkB, stepA, valA, simprocAttr]
theorem right_le {r c : Int} {n : Nat} (h : right r c n = true) : n ≤ 256 := by
  obtain ⟨r1, r2, c1, c2, hn⟩ := right_spec h
  have : r * c ≤ 16 * 16 := Int.mul_le_mul r2 c2 (by omega) (by omega)
  omega

/-! ### Beside -/
theorem rowF_len {r c : Int} {l : List Fr} (h : right r c l.length = true) {i : Nat} (hi : i < r.toNat) : (rowF r c l i).length = c.toNat := by
  rw [rowF_eq ⟨0, 0, false⟩ h hi]
  simp
/-! ### Mirrored -/
/-! ### Alike -/
end Go.Proofs.YtambpjbpdackfaaGreat.A


set_option linter.unusedVariables false
set_option linter.unusedSimpArgs false
set_option maxRecDepth 100000
namespace Go.Proofs.YtambpjbpdackfaaGreat.A.E
open Go Go.RowKit Go.Shelf

theorem methSub : Meth Tryz.prog 28 "Sub" 254 := by
  intro v xs w
  rfl

theorem ok206 (a b : Fr) : Ok Tryz.prog 206 [frV a, frV b] (frV (subF a b)) := by
  refine ok_fn mixed Tryz.func206 (code := ?_) (h := h206) ?_ k206 ?_
  rotate_left
  · exact rfl
  unfold h206 initS
  simp -implicitDefEqProofs only [rkA, rkB, stepA, valA, simprocAttr, Tryz.ntmps206, Tryz.results206]
  refine call_meth rfl rfl methSub (ok254 a b) ?_
  simp -implicitDefEqProofs only [rkA, rkB, stepA, valA, simprocAttr]
theorem rowF_len {r c : Int} {l : List Fr} (h : right r c l.length = true) {i : Nat} (hi : i < r.toNat) : (rowF r c l i).length = c.toNat := by
  rw [rowF_eq ⟨0, 0, 0, false⟩ h hi]
  simp
end Go.Proofs.YtambpjbpdackfaaGreat.A.E


set_option linter.unusedVariables false
set_option linter.unusedSimpArgs false
set_option maxRecDepth 100000
namespace Go.Proofs.YtambpjbpdackfaaGreat.A
open Go Go.RowKit Go.Shelf

theorem grid_of {α : Type} {g : Nat → Nat → α} {n N : Nat} {l : List α} (hl : l.length = N * n) (h : ∀ i k, i < N → k < n → l[i * n + k]? = some (g i k)) : l = gridP g n N 0 := by
  have hg := gridP_length g n N 0
  apply List.ext_getElem?
  intro j
  by_cases hj : j < N * n
  · have hn : 0 < n := by
      rcases Nat.eq_zero_or_pos n with h0 | h0
      · subst h0; simp at hj
      · exact h0
    have h1 : j / n < N := Nat.div_lt_of_lt_mul (by rwa [Nat.mul_comm] at hj)
    have h2 : j % n < n := Nat.mod_lt _ hn
    have h3 : j / n * n + j % n = j := by rw [Nat.mul_comm]; exact Nat.div_add_mod j n
    have e1 := h _ _ h1 h2
    have e2 := gridP_get g n N _ _ h1 h2
    rw [h3] at e1 e2
    rw [e1, e2]
  · rw [List.getElem?_eq_none (by omega), List.getElem?_eq_none (by omega)]
theorem gridP_congr {α : Type} {g f : Nat → Nat → α} {n N : Nat} (h : ∀ i k, i < N → k < n → g i k = f i k) : gridP g n N 0 = gridP f n N 0 := by
  rw [gridP_zero, gridP_zero]
  apply flatMap_same
  intro i hi
  apply List.map_congr_left
  intro k hk
  exact h i k (List.mem_range.1 hi) (List.mem_range.1 hk)

section
variable (a b : List Int) (R K : Nat)
end

section
variable {a b : List Int} {R K : Nat}
theorem right_nat (hR : 1 ≤ R ∧ R ≤ 16) (hK : 1 ≤ K ∧ K ≤ 16) {n : Nat} (hl : n = R * K) : right (R : Int) (K : Int) n = true := by
  simp only [right, Bool.and_eq_true, decide_eq_true_eq, beq_iff_eq]
  refine ⟨by omega, by omega, ?_⟩
  rw [hl]
  simp
end
end Go.Proofs.YtambpjbpdackfaaGreat.A


set_option linter.unusedVariables false
set_option linter.unusedSimpArgs false
namespace Go.Proofs.YtambpjbpdackfaaGreat.A
open Go Go.RowKit Go.Shelf

/-- All numbers of a row lie within a bound. -/
def bnd (B : Nat) (l : List Int) : Prop := ∀ x ∈ l, x.natAbs ≤ B
theorem grid_getD {g : Nat → Nat → Int} {n N i k : Nat} (hi : i < N) (hk : k < n) : (gridP g n N 0).getD (i * n + k) 0 = g i k := by
  rw [List.getD_eq_getElem?_getD, gridP_get g n N i k hi hk, Option.getD_some]
end Go.Proofs.YtambpjbpdackfaaGreat.A


set_option linter.unusedVariables false
set_option linter.unusedSimpArgs false
set_option maxRecDepth 100000
namespace Go.Proofs.YtambpjbpdackfaaGreat.A
open Go Go.RowKit Go.Shelf

/-! ### The unit -/
end Go.Proofs.YtambpjbpdackfaaGreat.A


set_option linter.unusedVariables false
set_option linter.unusedSimpArgs false
set_option maxRecDepth 100000
namespace Go.Proofs.YtambpjbpdackfaaGreat.A.E
open Go Go.RowKit Go.Shelf

end Go.Proofs.YtambpjbpdackfaaGreat.A.E



set_option linter.unusedVariables false
set_option linter.unusedSimpArgs false
set_option maxRecDepth 100000
namespace Go.Proofs.YtambpjbpdackfaaGreat.A
open Go Go.RowKit Go.Shelf

/-! ### Plain laws of products -/
theorem dotI_sum (a b : List Int) (many cols i k : Nat) : ∀ j, dotI a b many cols i k j = ((List.range j).map fun j => a.getD (i * many + j) 0 * b.getD (j * cols + k) 0).sum
  | 0 => rfl
  | j + 1 => by
    simp only [dotI, List.range_succ, List.map_append, List.sum_append, List.map_cons, List.map_nil, List.sum_cons, List.sum_nil]
    rw [dotI_sum a b many cols i k j]
    omega

theorem sum_congr {f g : Nat → Int} {n : Nat} (h : ∀ j, j < n → f j = g j) : ((List.range n).map f).sum = ((List.range n).map g).sum := by
  congr 1
  apply List.map_congr_left
  intro j hj
  exact h j (List.mem_range.1 hj)
theorem sum_mul (f : Nat → Int) (c : Int) : ∀ n, ((List.range n).map f).sum * c = ((List.range n).map fun j => f j * c).sum
  | 0 => by simp
  | n + 1 => by
    simp only [List.range_succ, List.map_append, List.sum_append, List.map_cons, List.map_nil, List.sum_cons, List.sum_nil, Int.add_mul]
    rw [sum_mul f c n]
    omega
theorem mul_sum' (f : Nat → Int) (c : Int) (n : Nat) : c * ((List.range n).map f).sum = ((List.range n).map fun j => c * f j).sum := by
  rw [Int.mul_comm, sum_mul]
  exact sum_congr fun j _ => Int.mul_comm _ _
theorem sum_add (f g : Nat → Int) : ∀ n, ((List.range n).map fun j => f j + g j).sum = ((List.range n).map f).sum + ((List.range n).map g).sum
  | 0 => rfl
  | n + 1 => by
    simp only [List.range_succ, List.map_append, List.sum_append, List.map_cons, List.map_nil, List.sum_cons, List.sum_nil]
    rw [sum_add f g n]
    omega
theorem sum_swap (f : Nat → Nat → Int) : ∀ n m, ((List.range n).map fun i => ((List.range m).map fun j => f i j).sum).sum = ((List.range m).map fun j => ((List.range n).map fun i => f i j).sum).sum
  | 0, m => by
    have : ∀ m : Nat, ((List.range m).map fun _ => (0 : Int)).sum = 0 := fun m => by
      induction m with
      | zero => rfl
      | succ m ih => simp [List.range_succ, ih]
    simp [this]
  | n + 1, m => by
    simp only [List.range_succ, List.map_append, List.sum_append, List.map_cons, List.map_nil, List.sum_cons, List.sum_nil, Int.add_zero]
    rw [sum_swap f n m, sum_add]

/-- Brackets do not matter. -/
theorem mul_assoc {a b c : List Int} {N : Nat} : mulI (mulI a b N N N) c N N N = mulI a (mulI b c N N N) N N N := by
  have hg : ∀ {x y : List Int} {i k : Nat}, i < N → k < N → (mulI x y N N N).getD (i * N + k) 0 = dotI x y N N i k N := fun hi hk => grid_getD hi hk
  show gridP _ N N 0 = gridP _ N N 0
  refine gridP_congr fun i k hi hk => ?_
  rw [dotI_sum, dotI_sum]
  have e1 : ((List.range N).map fun j => (mulI a b N N N).getD (i * N + j) 0 * c.getD (j * N + k) 0).sum = ((List.range N).map fun j => ((List.range N).map fun l => a.getD (i * N + l) 0 * b.getD (l * N + j) 0 * c.getD (j * N + k) 0).sum).sum :=
    sum_congr fun j hj => by rw [hg hi hj, dotI_sum, sum_mul]
  have e2 : ((List.range N).map fun l => a.getD (i * N + l) 0 * (mulI b c N N N).getD (l * N + k) 0).sum = ((List.range N).map fun l => ((List.range N).map fun j => a.getD (i * N + l) 0 * b.getD (l * N + j) 0 * c.getD (j * N + k) 0).sum).sum :=
    sum_congr fun l hl => by
      rw [hg hl hk, dotI_sum, mul_sum']
      exact sum_congr fun j _ => by rw [Int.mul_assoc]
  rw [e1, e2, sum_swap]

end Go.Proofs.YtambpjbpdackfaaGreat.A


set_option linter.unusedVariables false
set_option linter.unusedSimpArgs false
set_option maxRecDepth 100000
namespace Go.Proofs.YtambpjbpdackfaaGreat.A
open Go Go.RowKit Go.Shelf

/-! ### Division -/
theorem methDiv : Meth Tryz.prog 47 "Div" 265 := by
  intro v xs w
  rfl

def divF (a b : Fr) : Fr := if a.fine = false ∨ b.fine = false then .wrong else newF (a.n * b.d) (a.d * b.n)
theorem ok274 (a b : Fr) (ha : a.fine = true) (hb : b.fine = true) : Ok Tryz.prog 274 [.vp [num a.n, num a.d, tru a.bad], .vp [num b.n, num b.d, tru b.bad]] (.tup [num (a.n * b.d), num (a.d * b.n)]) := by
  obtain ⟨a1, a2, a3, a4, a5⟩ := Fr.fine_spec ha
  obtain ⟨b1, b2, b3, b4, b5⟩ := Fr.fine_spec hb
  have p1 := prod_le (x := a.n) (y := b.d) ⟨a5, a4⟩ (by omega)
  have p3 := prod_le (x := a.d) (y := b.n) (by omega) ⟨b5, b4⟩
  have w1 := wrapped (x := a.n * b.d) (by omega) (by omega)
  have w3 := wrapped (x := a.d * b.n) (by omega) (by omega)
  refine ok_fn mixed Tryz.func274 (code := ?_) (h := h274) ?_ k274 ?_
  rotate_left
  · exact rfl
  unfold h274 initS
  simp -implicitDefEqProofs only [rkA, rkB, stepA, valA, simprocAttr, Tryz.ntmps274, Tryz.results274]
  simp -implicitDefEqProofs only [w1, w3, rkA, rkB, stepA, valA, simprocAttr]
theorem ok265 (a b : Fr) : Ok Tryz.prog 265 [frV a, frV b] (frV (divF a b)) := by
  refine ok_fn mixed Tryz.func265 (code := ?_) (h := h265) ?_ k265 ?_
  rotate_left
  · exact rfl
  unfold h265 initS
  simp -implicitDefEqProofs only [rkA, rkB, stepA, valA, simprocAttr, Tryz.ntmps265, Tryz.results265]
  refine call_fn rfl rfl rfl (ok273 a b 274 _ _ _ (fun ha hb => ok274 a b ha hb)) ?_
  simp -implicitDefEqProofs only [rkA, rkB, stepA, valA, simprocAttr]
  simp [divF]

/-! ### A row, scaled -/
/-! ### Squares -/
theorem ok165 (ex : Bool) (r c : Int) (l : List Fr) : Ok Tryz.prog 165 [matV ex r c (frs l)] (tru (right r c l.length && (r == c))) := by
  refine ok_fn mixed Tryz.func165 (code := ?_) (h := h165) ?_ k165 ?_
  rotate_left
  · exact rfl
  unfold h165 initS
  simp -implicitDefEqProofs only [rkA, rkB, stepA, valA, simprocAttr, Tryz.ntmps165, Tryz.results165]
  refine call_fn rfl rfl rfl (ok144 ex r c (frs l)) ?_
  have e : (frs l).length = l.length := by simp
  rw [e]
  cases hr : right r c l.length with
  | false => simp -implicitDefEqProofs only [rkA, rkB, stepA, valA, simprocAttr]
  | true => simp -implicitDefEqProofs only [rkA, rkB, stepA, valA, simprocAttr]

theorem right_sq {n : Nat} (hn : 1 ≤ n ∧ n ≤ 16) {l : List Fr} (h : l.length = n * n) : right (n : Int) (n : Int) l.length = true := right_nat hn hn h
end Go.Proofs.YtambpjbpdackfaaGreat.A


set_option linter.unusedVariables false
set_option linter.unusedSimpArgs false
set_option maxRecDepth 100000
namespace Go.Proofs.YtambpjbpdackfaaGreat.A.E
open Go Go.RowKit Go.Shelf

theorem methDiv : Meth Tryz.prog 28 "Div" 249 := by
  intro v xs w
  rfl

theorem ok154 (ex : Bool) (r c : Int) (l : List Fr) : Ok Tryz.prog 154 [matV ex r c (frs l)] (tru (right r c l.length && (r == c))) := by
  refine ok_fn mixed Tryz.func154 (code := ?_) (h := h154) ?_ k154 ?_
  rotate_left
  · exact rfl
  unfold h154 initS
  simp -implicitDefEqProofs only [rkA, rkB, stepA, valA, simprocAttr, Tryz.ntmps154, Tryz.results154]
  refine call_fn rfl rfl rfl (ok72 ex r c (frs l)) ?_
  have e : (frs l).length = l.length := by simp
  rw [e]
  cases hr : right r c l.length with
  | false => simp -implicitDefEqProofs only [rkA, rkB, stepA, valA, simprocAttr]
  | true => simp -implicitDefEqProofs only [rkA, rkB, stepA, valA, simprocAttr]

theorem right_sq {n : Nat} (hn : 1 ≤ n ∧ n ≤ 16) {l : List Fr} (h : l.length = n * n) : right (n : Int) (n : Int) l.length = true := right_nat hn hn h
end Go.Proofs.YtambpjbpdackfaaGreat.A.E



set_option linter.unusedVariables false
set_option linter.unusedSimpArgs false
set_option maxRecDepth 100000
namespace Go.Proofs.YtambpjbpdackfaaGreat.A
open Go Go.RowKit Go.Shelf

/-! ### States -/
/-! ### A new state -/
/-! ### Turned -/
end Go.Proofs.YtambpjbpdackfaaGreat.A



set_option linter.unusedVariables false
set_option linter.unusedSimpArgs false
set_option maxRecDepth 100000
namespace Go.Proofs.YtambpjbpdackfaaGreat.A.E
open Go Go.RowKit Go.Shelf

end Go.Proofs.YtambpjbpdackfaaGreat.A.E



set_option linter.unusedVariables false
set_option linter.unusedSimpArgs false
set_option maxRecDepth 100000
namespace Go.Proofs.YtambpjbpdackfaaGreat.A.E
open Go Go.RowKit Go.Shelf

end Go.Proofs.YtambpjbpdackfaaGreat.A.E



set_option linter.unusedVariables false
set_option linter.unusedSimpArgs false
set_option maxRecDepth 100000
namespace Go.Proofs.YtambpjbpdackfaaGreat.A.E
open Go Go.RowKit Go.Shelf

section
variable (n : Nat) (x p h : List Fr) (r z : Fr)
end
end Go.Proofs.YtambpjbpdackfaaGreat.A.E



set_option linter.unusedVariables false
set_option linter.unusedSimpArgs false
set_option maxRecDepth 100000
namespace Go.Proofs.YtambpjbpdackfaaGreat.A
open Go Go.RowKit Go.Shelf

/-! ### Predict -/
end Go.Proofs.YtambpjbpdackfaaGreat.A



set_option linter.unusedVariables false
set_option linter.unusedSimpArgs false
set_option maxRecDepth 100000
namespace Go.Proofs.YtambpjbpdackfaaGreat.A
open Go Go.RowKit Go.Shelf

/-! ### Update -/
section
variable (n : Nat) (x p h : List Fr) (r z : Fr)
end
end Go.Proofs.YtambpjbpdackfaaGreat.A


set_option linter.unusedVariables false
set_option linter.unusedSimpArgs false
set_option maxRecDepth 100000
namespace Go.Proofs.YtambpjbpdackfaaGreat.A
open Go Go.RowKit Go.Shelf

/-! ### Fractions as numbers -/
def Fr.val (x : Fr) : Rat := (x.n : Rat) / (x.d : Rat)
theorem cast_ne {d : Int} (h : d ≠ 0) : (d : Rat) ≠ 0 := by
  intro e
  exact h (Rat.intCast_inj.1 (by simpa using e))
theorem val_div {n d m e k : Int} (hd : d ≠ 0) (he : e ≠ 0) (h : n * e = m * d) : (n : Rat) / d = (m : Rat) / e := by
  have h1 := cast_ne hd
  have h2 := cast_ne he
  have h3 : (n : Rat) * e = (m : Rat) * d := by
    rw [← Rat.intCast_mul, ← Rat.intCast_mul, h]
  grind
theorem div_val {n d m e : Int} (hd : d ≠ 0) (he : e ≠ 0) (h : (n : Rat) / d = (m : Rat) / e) : n * e = m * d := by
  have h1 := cast_ne hd
  have h2 := cast_ne he
  have h3 : (n : Rat) * e = (m : Rat) * d := by grind
  rw [← Rat.intCast_mul, ← Rat.intCast_mul] at h3
  exact Rat.intCast_inj.1 h3

/-- What New tells, where it is not Bad. -/
theorem newF_spec {n d : Int} (h : (newF n d).bad = false) : d ≠ 0 ∧ 0 < (newF n d).d ∧ (newF n d).n * d = n * (newF n d).d ∧ Int.gcd (newF n d).n (newF n d).d = 1 ∧ (newF n d).d ≤ 1073741824 ∧ (newF n d).n ≤ 1073741824 ∧ -1073741824 ≤ (newF n d).n := by
  unfold newF at h ⊢
  by_cases h1 : n > 1152921504606846976 ∨ n < -1152921504606846976 ∨ d > 1152921504606846976 ∨ d < -1152921504606846976 ∨ d = 0
  · rw [if_pos h1] at h; cases h
  rw [if_neg h1] at h ⊢
  simp only at h ⊢
  have hd : d ≠ 0 := by omega
  have key : ∀ m e : Int, 0 < e → m * d = n * e → ∀ x : Fr, x = (if m.tdiv (Int.gcd m e : Int) > 1073741824 ∨ m.tdiv (Int.gcd m e : Int) < -1073741824 ∨ e.tdiv (Int.gcd m e : Int) > 1073741824 then Fr.wrong else ⟨m.tdiv (Int.gcd m e : Int), e.tdiv (Int.gcd m e : Int), false⟩) → x.bad = false →
      d ≠ 0 ∧ 0 < x.d ∧ x.n * d = n * x.d ∧ Int.gcd x.n x.d = 1 ∧ x.d ≤ 1073741824 ∧ x.n ≤ 1073741824 ∧ -1073741824 ≤ x.n := by
    intro m e he hme x hx hb
    have hg : 0 < Int.gcd m e := Int.gcd_pos_of_ne_zero_right m (by omega)
    obtain ⟨m', hm'⟩ := Int.gcd_dvd_left m e
    obtain ⟨e', he'⟩ := Int.gcd_dvd_right m e
    generalize hk : Int.gcd m e = k at *
    have hk0 : (k : Int) ≠ 0 := by omega
    have q1 : m.tdiv (k : Int) = m' := by rw [hm', Int.mul_tdiv_cancel_left _ hk0]
    have q2 : e.tdiv (k : Int) = e' := by rw [he', Int.mul_tdiv_cancel_left _ hk0]
    rw [q1, q2] at hx
    have hcop : Int.gcd m' e' = 1 := by
      have h3 : Int.gcd ((k : Int) * m') ((k : Int) * e') = k * Int.gcd m' e' := by
        rw [Int.gcd_mul_left]; simp
      rw [← hm', ← he', hk] at h3
      have : k * 1 = k * Int.gcd m' e' := by omega
      exact (Nat.eq_of_mul_eq_mul_left hg this).symm
    have he0 : 0 < e' := by
      have h4 : 0 < (k : Int) * e' := by rw [← he']; exact he
      exact Int.pos_of_mul_pos_right h4 (by omega)
    split at hx
    · rw [hx] at hb; cases hb
    · rename_i hns
      subst hx
      refine ⟨hd, he0, ?_, hcop, by simp only; omega, by simp only; omega, by simp only; omega⟩
      simp only
      rw [hm', he'] at hme
      have : (k : Int) * (m' * d) = (k : Int) * (n * e') := by
        rw [← Int.mul_assoc, hme, ← Int.mul_assoc, ← Int.mul_assoc, Int.mul_comm (k : Int) n]
      exact Int.eq_of_mul_eq_mul_left hk0 this
  by_cases hneg : d < 0
  · simp only [hneg, if_true] at h ⊢
    exact key (-n) (-d) (by omega) (by rw [Int.neg_mul, Int.mul_neg]) _ rfl h
  · simp only [hneg, if_false] at h ⊢
    exact key n d (by omega) rfl _ rfl h

theorem newF_low {n d : Int} (hd : 0 < d) (hg : Int.gcd n d = 1) (h1 : n ≤ 1073741824) (h2 : -1073741824 ≤ n) (h3 : d ≤ 1073741824) : newF n d = ⟨n, d, false⟩ := by
  unfold newF
  rw [if_neg (by omega)]
  simp only [show ¬ d < 0 by omega, if_false, hg]
  rw [if_neg (by simp; omega)]
  simp
theorem fine_of {x : Fr} (hb : x.bad = false) (hd : 0 < x.d) (hg : Int.gcd x.n x.d = 1) (h1 : x.n ≤ 1073741824) (h2 : -1073741824 ≤ x.n) (h3 : x.d ≤ 1073741824) : x.fine = true := by
  unfold Fr.fine
  rw [newF_low hd hg h1 h2 h3]
  simp [hb]
  omega
theorem fine_low {x : Fr} (h : x.fine = true) : x.bad = false ∧ 0 < x.d ∧ Int.gcd x.n x.d = 1 := by
  obtain ⟨h1, h2, h3, h4, h5⟩ := Fr.fine_spec h
  refine ⟨h1, by omega, ?_⟩
  have hn : newF x.n x.d = x := by
    unfold Fr.fine at h
    simp only [Bool.and_eq_true, beq_iff_eq, decide_eq_true_eq] at h
    obtain ⟨n, d, b⟩ := x
    obtain ⟨_, k1, k2, k3, _⟩ := h
    generalize newF n d = y at *
    obtain ⟨n', d', b'⟩ := y
    simp only at k1 k2 k3
    rw [k1, k2, k3]
  have hb : (newF x.n x.d).bad = false := by rw [hn]; exact h1
  obtain ⟨_, _, _, g, _⟩ := newF_spec hb
  rw [hn] at g
  exact g
theorem newF_fine {n d : Int} (h : (newF n d).bad = false) : (newF n d).fine = true ∧ (newF n d).val = (n : Rat) / (d : Rat) ∧ d ≠ 0 := by
  obtain ⟨h1, h2, h3, h4, h5, h6, h7⟩ := newF_spec h
  exact ⟨fine_of h h2 h4 h6 h7 h5, val_div (k := 0) (by omega) h1 h3, h1⟩
theorem dvd_cop {a b c : Int} (h : a ∣ b * c) (g : Int.gcd b a = 1) : a ∣ c := by
  rw [← Int.natAbs_dvd_natAbs] at h ⊢
  rw [Int.natAbs_mul] at h
  refine Nat.Coprime.dvd_of_dvd_mul_left ?_ h
  rw [Int.gcd_comm] at g
  exact g
/-- What stands for the same number is the same. -/
theorem fine_inj {a b : Fr} (ha : a.fine = true) (hb : b.fine = true) (h : a.val = b.val) : a = b := by
  obtain ⟨a1, a2, a3⟩ := fine_low ha
  obtain ⟨b1, b2, b3⟩ := fine_low hb
  have e := div_val (by omega) (by omega) h
  have c1 : a.d ∣ b.d := by
    have : a.d ∣ a.n * b.d := ⟨b.n, by rw [e, Int.mul_comm]⟩
    exact dvd_cop this a3
  have c2 : b.d ∣ a.d := by
    have : b.d ∣ b.n * a.d := ⟨a.n, by rw [← e, Int.mul_comm]⟩
    exact dvd_cop this b3
  have hd : a.d = b.d := Int.dvd_antisymm (by omega) (by omega) c1 c2
  rw [hd] at e
  have hn : a.n = b.n := Int.eq_of_mul_eq_mul_right (by omega) e
  obtain ⟨n, d, x⟩ := a
  obtain ⟨n', d', x'⟩ := b
  simp only at hd hn a1 b1
  rw [hd, hn, a1, b1]
theorem fine_bad {a : Fr} (h : a.fine = true) : a.bad = false := (Fr.fine_spec h).1

/-- x stands for the number v. -/
def Is (x : Fr) (v : Rat) : Prop := x.fine = true ∧ x.val = v
theorem Is.inj {a b : Fr} {v : Rat} (ha : Is a v) (hb : Is b v) : a = b := fine_inj ha.1 hb.1 (ha.2.trans hb.2.symm)
theorem fine_ne {a : Fr} (h : a.fine = true) : (a.d : Rat) ≠ 0 := cast_ne (by have := (Fr.fine_spec h).2.1; omega)
theorem two_fine {a b : Fr} {x : Fr} (h : (if a.fine = false ∨ b.fine = false then Fr.wrong else x).bad = false) : a.fine = true ∧ b.fine = true ∧ x.bad = false := by
  by_cases h1 : a.fine = false ∨ b.fine = false
  · rw [if_pos h1] at h; cases h
  · rw [if_neg h1] at h
    simp only [not_or, Bool.not_eq_false] at h1
    exact ⟨h1.1, h1.2, h⟩
theorem mulF_is {a b : Fr} (h : (mulF a b).bad = false) : a.fine = true ∧ b.fine = true ∧ Is (mulF a b) (a.val * b.val) := by
  have h0 := h
  unfold mulF at h
  obtain ⟨ha, hb, hx⟩ := two_fine h
  obtain ⟨f1, f2, f3⟩ := newF_fine hx
  have e : mulF a b = newF (a.n * b.n) (a.d * b.d) := by unfold mulF; rw [if_neg (by simp [ha, hb])]
  refine ⟨ha, hb, by rw [e]; exact f1, ?_⟩
  rw [e, f2]
  have h1 := fine_ne ha
  have h2 := fine_ne hb
  simp only [Fr.val, Rat.intCast_mul]
  grind
theorem addF_is {a b : Fr} (h : (addF a b).bad = false) : a.fine = true ∧ b.fine = true ∧ Is (addF a b) (a.val + b.val) := by
  unfold addF at h
  obtain ⟨ha, hb, hx⟩ := two_fine h
  obtain ⟨f1, f2, f3⟩ := newF_fine hx
  have e : addF a b = newF ((a.n * b.d + b.n * a.d).tdiv (Int.gcd (a.n * b.d + b.n * a.d) (a.d * b.d))) ((a.d * b.d).tdiv (Int.gcd (a.n * b.d + b.n * a.d) (a.d * b.d))) := by
    unfold addF; rw [if_neg (by simp [ha, hb])]
  have h1 := fine_ne ha
  have h2 := fine_ne hb
  refine ⟨ha, hb, by rw [e]; exact f1, ?_⟩
  rw [e, f2]
  have hd1 := (Fr.fine_spec ha).2.1
  have hd2 := (Fr.fine_spec hb).2.1
  have hdd : 0 < a.d * b.d := Int.mul_pos (by omega) (by omega)
  generalize hD : a.d * b.d = D at *
  generalize hN : a.n * b.d + b.n * a.d = Nn at *
  have hg : 0 < Int.gcd Nn D := Int.gcd_pos_of_ne_zero_right _ (by omega)
  obtain ⟨m', hm'⟩ := Int.gcd_dvd_left Nn D
  obtain ⟨e', he'⟩ := Int.gcd_dvd_right Nn D
  have hk0 : ((Int.gcd Nn D : Nat) : Int) ≠ 0 := by omega
  generalize hk : ((Int.gcd Nn D : Nat) : Int) = k at *
  have q1 : Nn.tdiv k = m' := by rw [hm', Int.mul_tdiv_cancel_left _ hk0]
  have q2 : D.tdiv k = e' := by rw [he', Int.mul_tdiv_cancel_left _ hk0]
  rw [q1, q2]
  have he0 : e' ≠ 0 := fun e0 => by rw [e0, Int.mul_zero] at he'; omega
  have h3 : (m' : Rat) / (e' : Rat) = (Nn : Rat) / (D : Rat) := by
    refine val_div (k := 0) he0 (by omega) ?_
    rw [hm', he', Int.mul_comm k e', ← Int.mul_assoc, Int.mul_comm k m']
    rw [Int.mul_assoc, Int.mul_assoc, Int.mul_comm e' k, Int.mul_comm k e']
  rw [h3, ← hN, ← hD]
  simp only [Fr.val, Rat.intCast_mul, Rat.intCast_add]
  grind
theorem negF_is {a : Fr} (h : (negF a).bad = false) : a.fine = true ∧ Is (negF a) (-a.val) := by
  unfold negF at h
  by_cases ha : a.fine = false
  · rw [if_pos ha] at h; cases h
  · rw [if_neg ha] at h
    simp only [Bool.not_eq_false] at ha
    obtain ⟨f1, f2, f3⟩ := newF_fine h
    have e : negF a = newF (-a.n) a.d := by unfold negF; rw [if_neg (by simp [ha])]
    refine ⟨ha, by rw [e]; exact f1, ?_⟩
    rw [e, f2]
    simp only [Fr.val, Rat.intCast_neg]
    grind
theorem subF_is {a b : Fr} (h : (subF a b).bad = false) : a.fine = true ∧ b.fine = true ∧ Is (subF a b) (a.val - b.val) := by
  unfold subF at h
  obtain ⟨h1, h2, h3⟩ := addF_is h
  obtain ⟨h4, h5⟩ := negF_is (fine_bad h2)
  refine ⟨h1, h4, h3.1, ?_⟩
  have e : (subF a b).val = a.val + (negF b).val := h3.2
  rw [e, h5.2]
  grind
theorem whole_is {n : Int} (h : few n) : Is (newF n 1) (n : Rat) := by
  rw [newF_whole h]
  refine ⟨fine_whole h, ?_⟩
  simp only [Fr.val]
  have : ((1 : Int) : Rat) = 1 := rfl
  rw [this]
  grind
end Go.Proofs.YtambpjbpdackfaaGreat.A


set_option linter.unusedVariables false
set_option linter.unusedSimpArgs false
set_option maxRecDepth 100000
namespace Go.Proofs.YtambpjbpdackfaaGreat.A
open Go Go.RowKit Go.Shelf

/-! ### Sums of numbers -/
def sumR : Nat → (Nat → Rat) → Rat
  | 0, _ => 0
  | n + 1, f => sumR n f + f n
/-! ### Dots -/
abbrev dz : Fr := ⟨0, 0, false⟩
/-! ### Products, entry by entry -/
theorem grid_at {g : Nat → Nat → Fr} {n N i k : Nat} (hi : i < N) (hk : k < n) : (gridP g n N 0).getD (i * n + k) dz = g i k := by
  rw [List.getD_eq_getElem?_getD, gridP_get _ _ _ _ _ hi hk, Option.getD_some]
end Go.Proofs.YtambpjbpdackfaaGreat.A


set_option linter.unusedVariables false
set_option linter.unusedSimpArgs false
set_option maxRecDepth 100000
namespace Go.Proofs.YtambpjbpdackfaaGreat.A.E
open Go Go.RowKit Go.Shelf

abbrev dz : Fr := ⟨0, 0, 0, false⟩
theorem grid_at {g : Nat → Nat → Fr} {n N i k : Nat} (hi : i < N) (hk : k < n) : (gridP g n N 0).getD (i * n + k) dz = g i k := by
  rw [List.getD_eq_getElem?_getD, gridP_get _ _ _ _ _ hi hk, Option.getD_some]
end Go.Proofs.YtambpjbpdackfaaGreat.A.E


set_option linter.unusedVariables false
set_option linter.unusedSimpArgs false
set_option maxRecDepth 100000
namespace Go.Proofs.YtambpjbpdackfaaGreat.A
open Go Go.RowKit Go.Shelf

/-! ### Functions that hand new rows back -/
theorem frs_cells (l : List Fr) : ∀ e ∈ frs l, e.cells.length = 3 := fun e he => by
  obtain ⟨x, _, rfl⟩ := List.mem_map.1 he
  rfl
theorem RFs_frs : ∀ (l : List Fr), RFs (flat (frs l)) = true
  | [] => rfl
  | x :: l => by
    have h := RFs_frs l
    simp only [frs, List.map_cons, flat, List.flatMap_cons, PV.cells, List.cons_append, List.nil_append, RFs, RF, Bool.true_and] at h ⊢
    exact h

theorem okn158 (ex : Bool) (l : List Fr) (hl : l ≠ []) (h : l.length ≤ 5864062014805) : OkN Tryz.prog 158 [.sl ex (frs l)] (frs l) := by
  have hfit : fits 3 24 [] (frs l) = true := by
    have := fits_frs (k := []) (l := l) (by simpa using h)
    simpa using this
  have he : (frs l).isEmpty = false := by cases l <;> simp_all
  refine okn_fn mixed Tryz.func158 (code := ?_) (h := hN158) ?_ kN158 rfl (RFs_frs l) ?_
  rotate_left
  · exact rfl
  unfold hN158 initS
  simp -implicitDefEqProofs only [rkA, rkB, stepA, valA, simprocAttr, Tryz.ntmps158, Tryz.results158]
  refine nilA_sl _ _ rfl fun b hb => ?_
  have hb' := hb he
  subst hb'
  simp -implicitDefEqProofs only [hfit, he, rkA, rkB, stepA, valA, simprocAttr]
  refine .inl ⟨7, ?_⟩
  simp -implicitDefEqProofs only [rkA, rkB, stepA, valA, simprocAttr]

/-- A new matrix: its numbers lie in memory of their own. -/
def NewMat (r c : Int) (l : List PV) (x : PV) (m : Mem) : Prop := ∃ b cap q, l.length ≤ cap ∧ x = .tup [.agg [num r, num c, .s (.slice (some ⟨b, 0, none⟩) l.length cap)], tru true] ∧ m = nomem.put b (flat l ++ List.replicate q .junk)

theorem tell_row {m : Mem} {b cap q : Nat} {l : List Fr} (hm : m b = some (flat (frs l) ++ List.replicate q .junk)) (hc : (frs l).length ≤ cap) : Tell m (.s (.slice (some ⟨b, 0, none⟩) (frs l).length cap)) (.sl false (frs l)) := by
  refine .row hm (frs_cells l) rfl (by simp) hc (fun h => by cases h) ?_
  rw [List.drop_zero, List.take_left]
  exact Tells.same _ _

theorem okm91 (r c : Int) (ex : Bool) (l : List Fr) (hr : right r c l.length = true) : OkM Tryz.prog 91 [num r, num c, .sl ex (frs l)] nomem (NewMat r c (frs l)) := by
  have hn := right_le hr
  have hpos := right_spec hr
  have hl : l ≠ [] := by
    intro h
    subst h
    have h1 : r * c = 0 := by have := hpos.2.2.2.2; simpa using this.symm
    rcases Int.mul_eq_zero.1 h1 with h | h <;> omega
  refine okm_fn mixed Tryz.func91 (code := ?_) (h := hN91) ?_ kN91 ?_
  rotate_left
  · exact rfl
  unfold hN91 initS
  simp -implicitDefEqProofs only [rkA, rkB, stepA, valA, simprocAttr, Tryz.ntmps91, Tryz.results91]
  refine newRow_fn rfl rfl (Tells.same _ _) (okn158 ex l hl (by omega)) (RFs_frs l) (by simpa using hl) ?_
  intro b cap q hb hcap
  simp -implicitDefEqProofs only [rkA, rkB, stepA, valA, simprocAttr]
  have e : (frs l).length = l.length := by simp
  have h17 := ok144 false r c (frs l)
  rw [e, hr] at h17
  refine lend_fn rfl rfl (.cons (.agg (.cons (.same _) (.cons (.same _) (.cons (tell_row (Mem.put_same _ _ _) hcap) .nil)))) .nil) (h17) rfl ?_
  simp -implicitDefEqProofs only [rkA, rkB, stepA, valA, simprocAttr]
  exact ⟨_, rfl, b, cap, q, hcap, rfl, rfl⟩
end Go.Proofs.YtambpjbpdackfaaGreat.A


set_option linter.unusedVariables false
set_option linter.unusedSimpArgs false
set_option maxRecDepth 100000
namespace Go.Proofs.YtambpjbpdackfaaGreat.A.E
open Go Go.RowKit Go.Shelf

theorem frs_cells (l : List Fr) : ∀ e ∈ frs l, e.cells.length = 4 := fun e he => by
  obtain ⟨x, _, rfl⟩ := List.mem_map.1 he
  rfl
theorem RFs_frs : ∀ (l : List Fr), RFs (flat (frs l)) = true
  | [] => rfl
  | x :: l => by
    have h := RFs_frs l
    simp only [frs, List.map_cons, flat, List.flatMap_cons, PV.cells, List.cons_append, List.nil_append, RFs, RF, Bool.true_and] at h ⊢
    exact h

theorem okn71 (ex : Bool) (l : List Fr) (hl : l ≠ []) (h : l.length ≤ 4398046511104) : OkN Tryz.prog 71 [.sl ex (frs l)] (frs l) := by
  have hfit : fits 4 32 [] (frs l) = true := by
    have := fits_frs (k := []) (l := l) (by simpa using h)
    simpa using this
  have he : (frs l).isEmpty = false := by cases l <;> simp_all
  refine okn_fn mixed Tryz.func71 (code := ?_) (h := hN71) ?_ kN71 rfl (RFs_frs l) ?_
  rotate_left
  · exact rfl
  unfold hN71 initS
  simp -implicitDefEqProofs only [rkA, rkB, stepA, valA, simprocAttr, Tryz.ntmps71, Tryz.results71]
  refine nilA_sl _ _ rfl fun b hb => ?_
  have hb' := hb he
  subst hb'
  simp -implicitDefEqProofs only [hfit, he, rkA, rkB, stepA, valA, simprocAttr]
  refine .inl ⟨7, ?_⟩
  simp -implicitDefEqProofs only [rkA, rkB, stepA, valA, simprocAttr]

theorem tell_row {m : Mem} {b cap q : Nat} {l : List Fr} (hm : m b = some (flat (frs l) ++ List.replicate q .junk)) (hc : (frs l).length ≤ cap) : Tell m (.s (.slice (some ⟨b, 0, none⟩) (frs l).length cap)) (.sl false (frs l)) := by
  refine .row hm (frs_cells l) rfl (by simp) hc (fun h => by cases h) ?_
  rw [List.drop_zero, List.take_left]
  exact Tells.same _ _

theorem okm17 (r c : Int) (ex : Bool) (l : List Fr) (hr : right r c l.length = true) : OkM Tryz.prog 17 [num r, num c, .sl ex (frs l)] nomem (NewMat r c (frs l)) := by
  have hn := right_le hr
  have hpos := right_spec hr
  have hl : l ≠ [] := by
    intro h
    subst h
    have h1 : r * c = 0 := by have := hpos.2.2.2.2; simpa using this.symm
    rcases Int.mul_eq_zero.1 h1 with h | h <;> omega
  refine okm_fn mixed Tryz.func17 (code := ?_) (h := hN17) ?_ kN17 ?_
  rotate_left
  · exact rfl
  unfold hN17 initS
  simp -implicitDefEqProofs only [rkA, rkB, stepA, valA, simprocAttr, Tryz.ntmps17, Tryz.results17]
  refine newRow_fn rfl rfl (Tells.same _ _) (okn71 ex l hl (by omega)) (RFs_frs l) (by simpa using hl) ?_
  intro b cap q hb hcap
  simp -implicitDefEqProofs only [rkA, rkB, stepA, valA, simprocAttr]
  have e : (frs l).length = l.length := by simp
  have h17 := ok72 false r c (frs l)
  rw [e, hr] at h17
  refine lend_fn rfl rfl (.cons (.agg (.cons (.same _) (.cons (.same _) (.cons (tell_row (Mem.put_same _ _ _) hcap) .nil)))) .nil) (h17) rfl ?_
  simp -implicitDefEqProofs only [rkA, rkB, stepA, valA, simprocAttr]
  exact ⟨_, rfl, b, cap, q, hcap, rfl, rfl⟩
end Go.Proofs.YtambpjbpdackfaaGreat.A.E


set_option linter.unusedVariables false
set_option linter.unusedSimpArgs false
set_option maxRecDepth 100000
namespace Go.Proofs.YtambpjbpdackfaaGreat.A
open Go Go.RowKit Go.Shelf

/-- A square matrix, number by number. -/
theorem okm201 (n : Nat) (hn : 1 ≤ n ∧ n ≤ 16) (K : Nat) (caps : List PV) (g : Nat → Nat → Fr) (hg : ∀ i k : Nat, i < n → k < n → Ok Tryz.prog K (num i :: num k :: caps) (frV (g i k))) :
    OkM Tryz.prog 201 [num n, .fn (.func K) caps] nomem (NewMat n n (frs (gridP g n n 0))) := by
  have hlen := gridP_length g n
  have hbig : ∀ i k, i ≤ n → k ≤ n → i * n + k ≤ 272 := fun i k h1 h2 => by
    have : i * n ≤ 16 * 16 := Nat.mul_le_mul (by omega) (by omega)
    omega
  refine okm_fn mixed Tryz.func201 (code := ?_) (h := h201) ?_ k201 ?_
  rotate_left
  · exact rfl
  unfold h201 initS
  simp -implicitDefEqProofs only [rkA, rkB, stepA, valA, simprocAttr, Tryz.ntmps201, Tryz.results201]
  refine wp_loop (fun m s => ∃ i : Nat, i + m = n ∧ s = ⟨[.v (num n), .v (.fn (.func K) caps), jk, jk, .ptr 4 0, jk, .acc 6 (frs (gridP g n i 0)), jk, jk, .v (num n), nt i, jk, jk, jk, jk, jk, jk, jk, jk, jk, jk, jk, jk, jk, jk, jk, jk, jk, jk, jk, jk, jk], [(4, [nt 0, nt 0, .acc 3004 []])], [],
    [(6, (gridP g n i 0).length), (3004, 0)], [], 0, nomem⟩) n ?_ ?_
  · simp -implicitDefEqProofs only [rkA, rkB, stepA, valA, simprocAttr]
    exact ⟨0, by simp, rfl⟩
  rintro m s ⟨i, hi, rfl⟩
  simp -implicitDefEqProofs only [rkA, rkB, stepA, valA, simprocAttr]
  refine gB_dec ?_ ?_ <;> intro hc <;> simp -implicitDefEqProofs only [hc, rkA, rkB, stepA, valA, simprocAttr]
  · refine wp_loop (fun m s => ∃ k : Nat, k + m = n ∧ s = ⟨[.v (num n), .v (.fn (.func K) caps), jk, jk, .ptr 4 0, jk, .acc 6 (frs (gridP g n i k)), nt i, jk, .v (num n), nt i, jk, jk, .v (num n), nt k, jk, jk, jk, jk, jk, jk, jk, jk, jk, jk, jk, jk, jk, jk, jk, jk, jk], [(4, [nt 0, nt 0, .acc 3004 []])], [],
      [(6, (gridP g n i k).length), (3004, 0)], [], 0, nomem⟩) n ?_ ?_
    · simp -implicitDefEqProofs only [rkA, rkB, stepA, valA, simprocAttr]
      exact ⟨0, by simp, rfl⟩
    rintro m' s ⟨k, hk, rfl⟩
    simp -implicitDefEqProofs only [rkA, rkB, stepA, valA, simprocAttr]
    refine gB_dec ?_ ?_ <;> intro hc2 <;> simp -implicitDefEqProofs only [hc2, rkA, rkB, stepA, valA, simprocAttr]
    · refine call_fn rfl rfl rfl (hg i k (by omega) (by omega)) ?_
      have hl1 := hlen i k
      have hb := hbig i k (by omega) (by omega)
      have hfit : fits 3 24 (frs (gridP g n i k)) [frV (g i k)] = true := fits_frs (l := [g i k]) (by simp only [List.length_cons, List.length_nil]; omega)
      have hl : (frs (gridP g n i k)).length = (gridP g n i k).length := by simp
      have hw := wrapped (x := (k : Int) + 1) (by omega) (by omega)
      simp -implicitDefEqProofs only [hfit, hl, hw, rkA, rkB, stepA, valA, simprocAttr]
      refine loopK_of (m' := m' - 1) (by omega) ?_
      simp -implicitDefEqProofs only [rkA, rkB, stepA, valA, simprocAttr]
      refine ⟨k + 1, by omega, ?_⟩
      rw [gridP_succ]
      simp only [frs, List.map_append, List.map_cons, List.map_nil, List.length_append, List.length_cons, List.length_nil, Int.natCast_add, Int.natCast_one]
    · have hkr : k = n := by omega
      have hw := wrapped (x := (i : Int) + 1) (by omega) (by omega)
      simp -implicitDefEqProofs only [hw, rkA, rkB, stepA, valA, simprocAttr]
      refine loopK_of (m' := m - 1) (by omega) ?_
      simp -implicitDefEqProofs only [rkA, rkB, stepA, valA, simprocAttr]
      refine ⟨i + 1, by omega, ?_⟩
      rw [hkr, gridP_next]
      simp only [Int.natCast_add, Int.natCast_one]
  · have : i = n := by omega
    subst this
    have hr : right (i : Int) (i : Int) (gridP g i i 0).length = true := by
      rw [hlen, Nat.add_zero]
      simp only [right, Bool.and_eq_true, decide_eq_true_eq, beq_iff_eq]
      exact ⟨⟨by omega, by omega⟩, ⟨by omega, by omega⟩, Int.natCast_mul i i⟩
    refine lendNew_fn rfl rfl (Tells.same _ _) (okm91 i i false (gridP g i i 0) hr) ?_ ?_
    · rintro r m' ⟨b, cap, q, h1, rfl, rfl⟩
      refine ⟨rfl, fun c cells hc => ?_⟩
      by_cases e : c = b
      · subst e
        rw [Mem.put_same] at hc
        cases hc
        exact RFs_append (RFs_frs _) (RFs_junk q)
      · rw [Mem.put_other _ _ e] at hc
        cases hc
    · rintro r m' ⟨b, cap, q, h1, rfl, rfl⟩ hfr
      simp -implicitDefEqProofs only [rkA, rkB, stepA, valA, simprocAttr]
      exact ⟨_, rfl, b, cap, q, h1, rfl, rfl⟩
end Go.Proofs.YtambpjbpdackfaaGreat.A


set_option linter.unusedVariables false
set_option linter.unusedSimpArgs false
set_option maxRecDepth 100000
namespace Go.Proofs.YtambpjbpdackfaaGreat.A.E
open Go Go.RowKit Go.Shelf

/-- A square matrix, number by number. -/
theorem okm155 (n : Nat) (hn : 1 ≤ n ∧ n ≤ 16) (K : Nat) (caps : List PV) (g : Nat → Nat → Fr) (hg : ∀ i k : Nat, i < n → k < n → Ok Tryz.prog K (num i :: num k :: caps) (frV (g i k))) :
    OkM Tryz.prog 155 [num n, .fn (.func K) caps] nomem (NewMat n n (frs (gridP g n n 0))) := by
  have hlen := gridP_length g n
  have hbig : ∀ i k, i ≤ n → k ≤ n → i * n + k ≤ 272 := fun i k h1 h2 => by
    have : i * n ≤ 16 * 16 := Nat.mul_le_mul (by omega) (by omega)
    omega
  refine okm_fn mixed Tryz.func155 (code := ?_) (h := h155) ?_ k155 ?_
  rotate_left
  · exact rfl
  unfold h155 initS
  simp -implicitDefEqProofs only [rkA, rkB, stepA, valA, simprocAttr, Tryz.ntmps155, Tryz.results155]
  refine wp_loop (fun m s => ∃ i : Nat, i + m = n ∧ s = ⟨[.v (num n), .v (.fn (.func K) caps), jk, jk, .ptr 4 0, jk, .acc 6 (frs (gridP g n i 0)), jk, jk, .v (num n), nt i, jk, jk, jk, jk, jk, jk, jk, jk, jk, jk, jk, jk, jk, jk, jk, jk, jk, jk, jk, jk, jk], [(4, [nt 0, nt 0, .acc 3004 []])], [],
    [(6, (gridP g n i 0).length), (3004, 0)], [], 0, nomem⟩) n ?_ ?_
  · simp -implicitDefEqProofs only [rkA, rkB, stepA, valA, simprocAttr]
    exact ⟨0, by simp, rfl⟩
  rintro m s ⟨i, hi, rfl⟩
  simp -implicitDefEqProofs only [rkA, rkB, stepA, valA, simprocAttr]
  refine gB_dec ?_ ?_ <;> intro hc <;> simp -implicitDefEqProofs only [hc, rkA, rkB, stepA, valA, simprocAttr]
  · refine wp_loop (fun m s => ∃ k : Nat, k + m = n ∧ s = ⟨[.v (num n), .v (.fn (.func K) caps), jk, jk, .ptr 4 0, jk, .acc 6 (frs (gridP g n i k)), nt i, jk, .v (num n), nt i, jk, jk, .v (num n), nt k, jk, jk, jk, jk, jk, jk, jk, jk, jk, jk, jk, jk, jk, jk, jk, jk, jk], [(4, [nt 0, nt 0, .acc 3004 []])], [],
      [(6, (gridP g n i k).length), (3004, 0)], [], 0, nomem⟩) n ?_ ?_
    · simp -implicitDefEqProofs only [rkA, rkB, stepA, valA, simprocAttr]
      exact ⟨0, by simp, rfl⟩
    rintro m' s ⟨k, hk, rfl⟩
    simp -implicitDefEqProofs only [rkA, rkB, stepA, valA, simprocAttr]
    refine gB_dec ?_ ?_ <;> intro hc2 <;> simp -implicitDefEqProofs only [hc2, rkA, rkB, stepA, valA, simprocAttr]
    · refine call_fn rfl rfl rfl (hg i k (by omega) (by omega)) ?_
      have hl1 := hlen i k
      have hb := hbig i k (by omega) (by omega)
      have hfit : fits 4 32 (frs (gridP g n i k)) [frV (g i k)] = true := fits_frs (l := [g i k]) (by simp only [List.length_cons, List.length_nil]; omega)
      have hl : (frs (gridP g n i k)).length = (gridP g n i k).length := by simp
      have hw := wrapped (x := (k : Int) + 1) (by omega) (by omega)
      simp -implicitDefEqProofs only [hfit, hl, hw, rkA, rkB, stepA, valA, simprocAttr]
      refine loopK_of (m' := m' - 1) (by omega) ?_
      simp -implicitDefEqProofs only [rkA, rkB, stepA, valA, simprocAttr]
      refine ⟨k + 1, by omega, ?_⟩
      rw [gridP_succ]
      simp only [frs, List.map_append, List.map_cons, List.map_nil, List.length_append, List.length_cons, List.length_nil, Int.natCast_add, Int.natCast_one]
    · have hkr : k = n := by omega
      have hw := wrapped (x := (i : Int) + 1) (by omega) (by omega)
      simp -implicitDefEqProofs only [hw, rkA, rkB, stepA, valA, simprocAttr]
      refine loopK_of (m' := m - 1) (by omega) ?_
      simp -implicitDefEqProofs only [rkA, rkB, stepA, valA, simprocAttr]
      refine ⟨i + 1, by omega, ?_⟩
      rw [hkr, gridP_next]
      simp only [Int.natCast_add, Int.natCast_one]
  · have : i = n := by omega
    subst this
    have hr : right (i : Int) (i : Int) (gridP g i i 0).length = true := by
      rw [hlen, Nat.add_zero]
      simp only [right, Bool.and_eq_true, decide_eq_true_eq, beq_iff_eq]
      exact ⟨⟨by omega, by omega⟩, ⟨by omega, by omega⟩, Int.natCast_mul i i⟩
    refine lendNew_fn rfl rfl (Tells.same _ _) (okm17 i i false (gridP g i i 0) hr) ?_ ?_
    · rintro r m' ⟨b, cap, q, h1, rfl, rfl⟩
      refine ⟨rfl, fun c cells hc => ?_⟩
      by_cases e : c = b
      · subst e
        rw [Mem.put_same] at hc
        cases hc
        exact RFs_append (RFs_frs _) (RFs_junk q)
      · rw [Mem.put_other _ _ e] at hc
        cases hc
    · rintro r m' ⟨b, cap, q, h1, rfl, rfl⟩ hfr
      simp -implicitDefEqProofs only [rkA, rkB, stepA, valA, simprocAttr]
      exact ⟨_, rfl, b, cap, q, h1, rfl, rfl⟩
end Go.Proofs.YtambpjbpdackfaaGreat.A.E


set_option linter.unusedVariables false
set_option linter.unusedSimpArgs false
set_option maxRecDepth 100000
namespace Go.Proofs.YtambpjbpdackfaaGreat.A
open Go Go.RowKit Go.Shelf

/-! ### Squares in memory, row by row -/
def rowM (n : Nat) (M : Nat → Nat → Fr) (i : Nat) : List Fr := (List.range n).map (M i)
def setM (M : Nat → Nat → Fr) (i k : Nat) (x : Fr) : Nat → Nat → Fr := fun a b => if a = i ∧ b = k then x else M a b
theorem rowM_length (n : Nat) (M : Nat → Nat → Fr) (i : Nat) : (rowM n M i).length = n := by simp [rowM]
theorem rowM_get {n : Nat} {M : Nat → Nat → Fr} {i k : Nat} (h : k < n) : (rowM n M i)[k]? = some (M i k) := by simp [rowM, h]
theorem rowM_set {n : Nat} {M : Nat → Nat → Fr} {i k : Nat} {x : Fr} (h : k < n) : (rowM n M i).set k x = rowM n (setM M i k x) i := by
  apply List.ext_getElem?
  intro j
  rw [List.getElem?_set]
  by_cases hj : j < n
  · by_cases e : k = j
    · subst e
      rw [if_pos rfl, if_pos (by rw [rowM_length]; exact h), rowM_get h]
      simp [setM]
    · rw [if_neg e, rowM_get hj, rowM_get hj]
      have : ¬ (j = k) := fun h => e h.symm
      simp [setM, this]
  · rw [if_neg (by omega), List.getElem?_eq_none (by rw [rowM_length]; omega), List.getElem?_eq_none (by rw [rowM_length]; omega)]
theorem rowM_other {n : Nat} {M : Nat → Nat → Fr} {i j k : Nat} {x : Fr} (h : j ≠ i) : rowM n (setM M i k x) j = rowM n M j := by
  simp [rowM, setM, h]

abbrev rawRow (c n : Nat) : PV := .s (.slice (some ⟨c, 0, none⟩) n n)
abbrev nilRow : PV := .s (.slice none 0 0)
/-- The rows' row: b of n are there. -/
def headR (n b : Nat) (c : Nat → Nat) : List PV := (List.range n).map fun j => if j < b then rawRow (c j) n else nilRow
theorem headR_length (n b : Nat) (c : Nat → Nat) : (headR n b c).length = n := by simp [headR]
structure RowsIn (m : Mem) (R : Nat) (c : Nat → Nat) (n b : Nat) (M : Nat → Nat → Fr) : Prop where
  head : m R = some (headR n b c)
  row : ∀ i, i < b → m (c i) = some (flat (frs (rowM n M i)))
  ne : ∀ i, i < b → c i ≠ R
  inj : ∀ i j, i < b → j < b → c i = c j → i = j

theorem RowsIn.store {m : Mem} {R : Nat} {c : Nat → Nat} {n b : Nat} {M : Nat → Nat → Fr} (h : RowsIn m R c n b M) {i k : Nat} (hi : i < b) (hk : k < n) (x : Fr) :
    RowsIn (m.put (c i) (flat (frs ((rowM n M i).set k x)))) R c n b (setM M i k x) where
  head := by rw [Mem.put_other _ _ (fun e => h.ne i hi e.symm)]; exact h.head
  row := fun j hj => by
    by_cases e : j = i
    · subst e
      rw [Mem.put_same, rowM_set hk]
    · rw [Mem.put_other _ _ (fun e' => e (h.inj j i hj hi e')), rowM_other e]
      exact h.row j hj
  ne := h.ne
  inj := h.inj

theorem tells_map {α : Type} {m : Mem} {f g : α → PV} : ∀ {l : List α}, (∀ x ∈ l, Tell m (f x) (g x)) → Tells m (l.map f) (l.map g)
  | [], _ => .nil
  | x :: l, h => .cons (h x (by simp)) (tells_map fun y hy => h y (by simp [hy]))

/-- The rows, as values. -/
abbrev rowsV (n : Nat) (M : Nat → Nat → Fr) : PV := .sl true ((List.range n).map fun i => .sl false (frs (rowM n M i)))
theorem flat_one {l : List PV} (h : ∀ x ∈ l, x.cells = [x]) : flat l = l := by
  induction l with
  | nil => rfl
  | cons x l ih =>
    have e1 := h x (by simp)
    have e2 := ih fun y hy => h y (by simp [hy])
    simp only [flat, List.flatMap_cons, e1] at e2 ⊢
    rw [e2]
    rfl
theorem RowsIn.tell {m : Mem} {R : Nat} {c : Nat → Nat} {n : Nat} {M : Nat → Nat → Fr} (h : RowsIn m R c n n M) : Tell m (rawRow R n) (rowsV n M) := by
  have hf : flat ((List.range n).map fun i => PV.sl false (frs (rowM n M i))) = (List.range n).map fun i => PV.sl false (frs (rowM n M i)) := flat_one fun x hx => by
    obtain ⟨i, _, rfl⟩ := List.mem_map.1 hx
    rfl
  refine .row (sz := 1) h.head (fun x hx => ?_) (by simp) (by rw [hf, headR_length]; simp) (Nat.le_refl _) (fun _ => rfl) ?_
  · obtain ⟨i, _, rfl⟩ := List.mem_map.1 hx
    rfl
  · rw [hf, List.drop_zero, List.take_of_length_le (by rw [headR_length]; simp)]
    refine tells_map fun i hi => ?_
    have hi' := List.mem_range.1 hi
    rw [if_pos hi']
    have e := h.row i hi'
    rw [← List.append_nil (flat _)] at e
    have := tell_row (m := m) (b := c i) (cap := n) (q := 0) (l := rowM n M i) e (by simp [rowM_length])
    simpa [rowM_length] using this

/-! ### The root of a square -/
def leftM (n : Nat) (p : List Fr) (M : Nat → Nat → Fr) (i k : Nat) : Fr := subF (atF n n p i k) (dotF ((rowM n M i).take k) ((rowM n M k).take k))

theorem methRoot : Meth Tryz.prog 47 "Root" 270 := by
  intro v xs w
  rfl

def stepD (n : Nat) (p : List Fr) (M : Nat → Nat → Fr) (k : Nat) : Nat → Nat → Fr := setM M k k (rootF (leftM n p M k k))
/-- One column: k + 1 rows below its diagonal are done for every one counted. -/
def colS (n : Nat) (p : List Fr) (k : Nat) (M : Nat → Nat → Fr) : Nat → Nat → Nat → Fr
  | 0 => stepD n p M k
  | j + 1 => setM (colS n p k M j) (k + 1 + j) k (divF (leftM n p (colS n p k M j) (k + 1 + j) k) (colS n p k M j k k))
def rootS (n : Nat) (p : List Fr) : Nat → Nat → Nat → Fr
  | 0 => fun _ _ => newF 0 1
  | k + 1 => colS n p k (rootS n p k) (n - (k + 1))
/-- While the rows are made: noughts so far, zero values behind. -/
def zeroM (i k : Nat) : Nat → Nat → Fr := fun a b => if a < i ∨ a = i ∧ b < k then newF 0 1 else ⟨0, 0, false⟩

theorem flat_zeros : ∀ (n : Nat), (List.replicate n [num 0, num 0, tru false]).flatten = flat (frs (List.replicate n (⟨0, 0, false⟩ : Fr)))
  | 0 => rfl
  | n + 1 => by
    rw [List.replicate_succ, List.flatten_cons, flat_zeros n]
    rfl
theorem zero_row (n i : Nat) : rowM n (zeroM i 0) i = List.replicate n ⟨0, 0, false⟩ := by
  apply List.ext_getElem?
  intro j
  by_cases h : j < n
  · rw [rowM_get h]; simp [zeroM, h]
  · rw [List.getElem?_eq_none (by rw [rowM_length]; omega), List.getElem?_eq_none (by simp; omega)]
theorem RowsIn.grow {m : Mem} {R : Nat} {c : Nat → Nat} {n i b : Nat} (h : RowsIn m R c n i (zeroM i 0)) (hi : i < n) (hb : m b = none) :
    RowsIn ((m.put b (flat (frs (List.replicate n (⟨0, 0, false⟩ : Fr))))).put R (headR n (i + 1) (fun j => if j = i then b else c j))) R (fun j => if j = i then b else c j) n (i + 1) (zeroM i 0) := by
  have hRb : R ≠ b := fun e => by have := h.head; rw [e, hb] at this; cases this
  have hcb : ∀ j, j < i → c j ≠ b := fun j hj e => by have := h.row j hj; rw [e, hb] at this; cases this
  refine ⟨Mem.put_same _ _ _, fun j hj => ?_, fun j hj => ?_, fun j k hj hk => ?_⟩
  · by_cases e : j = i
    · subst e
      rw [if_pos rfl, Mem.put_other _ _ (fun e => hRb e.symm), Mem.put_same, zero_row]
    · rw [if_neg e, Mem.put_other _ _ (h.ne j (by omega)), Mem.put_other _ _ (hcb j (by omega))]
      exact h.row j (by omega)
  · by_cases e : j = i
    · rw [if_pos e]; exact fun e => hRb e.symm
    · rw [if_neg e]; exact h.ne j (by omega)
  · by_cases e : j = i <;> by_cases e' : k = i
    · intro _; omega
    · rw [if_pos e, if_neg e']
      exact fun h1 => absurd h1.symm (hcb k (by omega))
    · rw [if_neg e, if_pos e']
      exact fun h1 => absurd h1 (hcb j (by omega))
    · rw [if_neg e, if_neg e']
      exact h.inj j k (by omega) (by omega)
theorem RowsIn.congr {m : Mem} {R : Nat} {c : Nat → Nat} {n b : Nat} {M N : Nat → Nat → Fr} (h : RowsIn m R c n b M) (hMN : ∀ i k, i < b → k < n → M i k = N i k) : RowsIn m R c n b N :=
  ⟨h.head, fun i hi => by
    have e : rowM n N i = rowM n M i := by
      unfold rowM
      exact List.map_congr_left fun k hk => (hMN i k hi (List.mem_range.1 hk)).symm
    rw [e]
    exact h.row i hi, h.ne, h.inj⟩

end Go.Proofs.YtambpjbpdackfaaGreat.A


set_option linter.unusedVariables false
set_option linter.unusedSimpArgs false
set_option maxRecDepth 100000
namespace Go.Proofs.YtambpjbpdackfaaGreat.A.E
open Go Go.RowKit Go.Shelf

def rowM (n : Nat) (M : Nat → Nat → Fr) (i : Nat) : List Fr := (List.range n).map (M i)
def setM (M : Nat → Nat → Fr) (i k : Nat) (x : Fr) : Nat → Nat → Fr := fun a b => if a = i ∧ b = k then x else M a b
theorem rowM_length (n : Nat) (M : Nat → Nat → Fr) (i : Nat) : (rowM n M i).length = n := by simp [rowM]
theorem rowM_get {n : Nat} {M : Nat → Nat → Fr} {i k : Nat} (h : k < n) : (rowM n M i)[k]? = some (M i k) := by simp [rowM, h]
theorem rowM_set {n : Nat} {M : Nat → Nat → Fr} {i k : Nat} {x : Fr} (h : k < n) : (rowM n M i).set k x = rowM n (setM M i k x) i := by
  apply List.ext_getElem?
  intro j
  rw [List.getElem?_set]
  by_cases hj : j < n
  · by_cases e : k = j
    · subst e
      rw [if_pos rfl, if_pos (by rw [rowM_length]; exact h), rowM_get h]
      simp [setM]
    · rw [if_neg e, rowM_get hj, rowM_get hj]
      have : ¬ (j = k) := fun h => e h.symm
      simp [setM, this]
  · rw [if_neg (by omega), List.getElem?_eq_none (by rw [rowM_length]; omega), List.getElem?_eq_none (by rw [rowM_length]; omega)]
theorem rowM_other {n : Nat} {M : Nat → Nat → Fr} {i j k : Nat} {x : Fr} (h : j ≠ i) : rowM n (setM M i k x) j = rowM n M j := by
  simp [rowM, setM, h]

structure RowsIn (m : Mem) (R : Nat) (c : Nat → Nat) (n b : Nat) (M : Nat → Nat → Fr) : Prop where
  head : m R = some (headR n b c)
  row : ∀ i, i < b → m (c i) = some (flat (frs (rowM n M i)))
  ne : ∀ i, i < b → c i ≠ R
  inj : ∀ i j, i < b → j < b → c i = c j → i = j

theorem RowsIn.store {m : Mem} {R : Nat} {c : Nat → Nat} {n b : Nat} {M : Nat → Nat → Fr} (h : RowsIn m R c n b M) {i k : Nat} (hi : i < b) (hk : k < n) (x : Fr) :
    RowsIn (m.put (c i) (flat (frs ((rowM n M i).set k x)))) R c n b (setM M i k x) where
  head := by rw [Mem.put_other _ _ (fun e => h.ne i hi e.symm)]; exact h.head
  row := fun j hj => by
    by_cases e : j = i
    · subst e
      rw [Mem.put_same, rowM_set hk]
    · rw [Mem.put_other _ _ (fun e' => e (h.inj j i hj hi e')), rowM_other e]
      exact h.row j hj
  ne := h.ne
  inj := h.inj

/-- The rows, as values. -/
abbrev rowsV (n : Nat) (M : Nat → Nat → Fr) : PV := .sl true ((List.range n).map fun i => .sl false (frs (rowM n M i)))
theorem RowsIn.tell {m : Mem} {R : Nat} {c : Nat → Nat} {n : Nat} {M : Nat → Nat → Fr} (h : RowsIn m R c n n M) : Tell m (rawRow R n) (rowsV n M) := by
  have hf : flat ((List.range n).map fun i => PV.sl false (frs (rowM n M i))) = (List.range n).map fun i => PV.sl false (frs (rowM n M i)) := flat_one fun x hx => by
    obtain ⟨i, _, rfl⟩ := List.mem_map.1 hx
    rfl
  refine .row (sz := 1) h.head (fun x hx => ?_) (by simp) (by rw [hf, headR_length]; simp) (Nat.le_refl _) (fun _ => rfl) ?_
  · obtain ⟨i, _, rfl⟩ := List.mem_map.1 hx
    rfl
  · rw [hf, List.drop_zero, List.take_of_length_le (by rw [headR_length]; simp)]
    refine tells_map fun i hi => ?_
    have hi' := List.mem_range.1 hi
    rw [if_pos hi']
    have e := h.row i hi'
    rw [← List.append_nil (flat _)] at e
    have := tell_row (m := m) (b := c i) (cap := n) (q := 0) (l := rowM n M i) e (by simp [rowM_length])
    simpa [rowM_length] using this

def leftM (n : Nat) (p : List Fr) (M : Nat → Nat → Fr) (i k : Nat) : Fr := subF (atF n n p i k) (dotF ((rowM n M i).take k) ((rowM n M k).take k))

def stepD (n : Nat) (p : List Fr) (M : Nat → Nat → Fr) (k : Nat) : Nat → Nat → Fr := setM M k k (rootF (leftM n p M k k))
/-- One column: k + 1 rows below its diagonal are done for every one counted. -/
def colS (n : Nat) (p : List Fr) (k : Nat) (M : Nat → Nat → Fr) : Nat → Nat → Nat → Fr
  | 0 => stepD n p M k
  | j + 1 => setM (colS n p k M j) (k + 1 + j) k (divF (leftM n p (colS n p k M j) (k + 1 + j) k) (colS n p k M j k k))
def rootS (n : Nat) (p : List Fr) : Nat → Nat → Nat → Fr
  | 0 => fun _ _ => newF 0 1
  | k + 1 => colS n p k (rootS n p k) (n - (k + 1))
/-- While the rows are made: noughts so far, zero values behind. -/
def zeroM (i k : Nat) : Nat → Nat → Fr := fun a b => if a < i ∨ a = i ∧ b < k then newF 0 1 else ⟨0, 0, 0, false⟩

theorem flat_zeros : ∀ (n : Nat), (List.replicate n [num 0, num 0, num 0, tru false]).flatten = flat (frs (List.replicate n (⟨0, 0, 0, false⟩ : Fr)))
  | 0 => rfl
  | n + 1 => by
    rw [List.replicate_succ, List.flatten_cons, flat_zeros n]
    rfl
theorem zero_row (n i : Nat) : rowM n (zeroM i 0) i = List.replicate n ⟨0, 0, 0, false⟩ := by
  apply List.ext_getElem?
  intro j
  by_cases h : j < n
  · rw [rowM_get h]; simp [zeroM, h]
  · rw [List.getElem?_eq_none (by rw [rowM_length]; omega), List.getElem?_eq_none (by simp; omega)]
theorem RowsIn.grow {m : Mem} {R : Nat} {c : Nat → Nat} {n i b : Nat} (h : RowsIn m R c n i (zeroM i 0)) (hi : i < n) (hb : m b = none) :
    RowsIn ((m.put b (flat (frs (List.replicate n (⟨0, 0, 0, false⟩ : Fr))))).put R (headR n (i + 1) (fun j => if j = i then b else c j))) R (fun j => if j = i then b else c j) n (i + 1) (zeroM i 0) := by
  have hRb : R ≠ b := fun e => by have := h.head; rw [e, hb] at this; cases this
  have hcb : ∀ j, j < i → c j ≠ b := fun j hj e => by have := h.row j hj; rw [e, hb] at this; cases this
  refine ⟨Mem.put_same _ _ _, fun j hj => ?_, fun j hj => ?_, fun j k hj hk => ?_⟩
  · by_cases e : j = i
    · subst e
      rw [if_pos rfl, Mem.put_other _ _ (fun e => hRb e.symm), Mem.put_same, zero_row]
    · rw [if_neg e, Mem.put_other _ _ (h.ne j (by omega)), Mem.put_other _ _ (hcb j (by omega))]
      exact h.row j (by omega)
  · by_cases e : j = i
    · rw [if_pos e]; exact fun e => hRb e.symm
    · rw [if_neg e]; exact h.ne j (by omega)
  · by_cases e : j = i <;> by_cases e' : k = i
    · intro _; omega
    · rw [if_pos e, if_neg e']
      exact fun h1 => absurd h1.symm (hcb k (by omega))
    · rw [if_neg e, if_pos e']
      exact fun h1 => absurd h1 (hcb j (by omega))
    · rw [if_neg e, if_neg e']
      exact h.inj j k (by omega) (by omega)
theorem RowsIn.congr {m : Mem} {R : Nat} {c : Nat → Nat} {n b : Nat} {M N : Nat → Nat → Fr} (h : RowsIn m R c n b M) (hMN : ∀ i k, i < b → k < n → M i k = N i k) : RowsIn m R c n b N :=
  ⟨h.head, fun i hi => by
    have e : rowM n N i = rowM n M i := by
      unfold rowM
      exact List.map_congr_left fun k hk => (hMN i k hi (List.mem_range.1 hk)).symm
    rw [e]
    exact h.row i hi, h.ne, h.inj⟩

end Go.Proofs.YtambpjbpdackfaaGreat.A.E


set_option linter.unusedVariables false
set_option linter.unusedSimpArgs false
set_option maxRecDepth 100000
namespace Go.Proofs.YtambpjbpdackfaaGreat.A.E
open Go Go.RowKit Go.Shelf

theorem ok155 (n : Nat) (hn : 1 ≤ n ∧ n ≤ 16) (K : Nat) (caps : List PV) (g : Nat → Nat → Fr) (hg : ∀ i k : Nat, i < n → k < n → Ok Tryz.prog K (num i :: num k :: caps) (frV (g i k))) :
    Ok Tryz.prog 155 [num n, .fn (.func K) caps] (.tup [matV false n n (frs (gridP g n n 0)), tru true]) := by
  refine Ok.ofM (okm155 n hn K caps g hg) ?_
  rintro r m ⟨b, cap, q, h1, rfl, rfl⟩
  have hl : (frs (gridP g n n 0)).length = (gridP g n n 0).length := by simp
  exact .tup (.cons (.agg (.cons (.same _) (.cons (.same _) (.cons (tell_row (Mem.put_same _ _ _) h1) .nil)))) (.cons (.same _) .nil))

def clearG (n : Nat) (l : List Fr) (i k : Nat) : Fr := if i < k then newF 0 1 else atF n n l i k
def clearF (n : Nat) (l : List Fr) : List Fr := gridP (clearG n l) n n 0
theorem ok156 (e : Bool) (n : Nat) (l : List Fr) (i k : Nat) : Ok Tryz.prog 156 [num i, num k, .vp [num 0, num 0, num 0, tru false], .vp [num n, num n, .sl e (frs l)]] (frV (clearG n l i k)) := by
  refine ok_fn mixed Tryz.func156 (code := ?_) (h := h156) ?_ k156 ?_
  rotate_left
  · exact rfl
  unfold h156 initS
  simp -implicitDefEqProofs only [rkA, rkB, stepA, valA, simprocAttr, Tryz.ntmps156, Tryz.results156]
  unfold clearG
  refine gB_dec ?_ ?_ <;> intro hc <;> simp -implicitDefEqProofs only [hc, rkA, rkB, stepA, valA, simprocAttr]
  · have : i < k := by omega
    refine call_meth rfl rfl methOf (ok107 ⟨0, 0, 0, false⟩ 0) ?_
    rw [if_pos this]
    simp -implicitDefEqProofs only [rkA, rkB, stepA, valA, simprocAttr]
  · have : ¬ i < k := by omega
    refine call_fn rfl rfl rfl (ok89 e n n i k l) ?_
    rw [if_neg this]
    simp -implicitDefEqProofs only [rkA, rkB, stepA, valA, simprocAttr]

theorem ok78 (n : Nat) (hn : 1 ≤ n ∧ n ≤ 16) (e : Bool) (l : List Fr) (h : l.length = n * n) : Ok Tryz.prog 78 [matV e n n (frs l)] (.tup [matV false n n (frs (clearF n l)), tru true]) := by
  have hr := right_sq hn h
  refine ok_fn mixed Tryz.func78 (code := ?_) (h := h78) ?_ k78 ?_
  rotate_left
  · exact rfl
  unfold h78 initS
  simp -implicitDefEqProofs only [rkA, rkB, stepA, valA, simprocAttr, Tryz.ntmps78, Tryz.results78]
  refine call_fn rfl rfl rfl (ok154 e n n l) ?_
  simp -implicitDefEqProofs only [hr, beq_self_eq_true, rkA, rkB, stepA, valA, simprocAttr]
  refine call_fn rfl rfl rfl (ok155 n hn _ _ (clearG n l) (fun i k _ _ => ok156 e n l i k)) ?_
  simp -implicitDefEqProofs only [rkA, rkB, stepA, valA, simprocAttr, clearF]

theorem rowF_get {r c : Int} {l : List Fr} (hr : right r c l.length = true) {i k : Nat} (hi : i < r.toNat) (hk : k < c.toNat) : (frs (rowF r c l i))[k]? = some (frV (atF r c l i k)) := by
  have h0 := rowF_eq ⟨0, 0, 0, false⟩ hr (i := i) hi
  have h1 := atF_eq hr (i := i) (k := k) hi hk
  rw [h0, List.getElem?_map, List.getElem?_map, List.getElem?_range hk, h1]
  rfl
end Go.Proofs.YtambpjbpdackfaaGreat.A.E



set_option linter.unusedVariables false
set_option linter.unusedSimpArgs false
set_option maxRecDepth 100000
namespace Go.Proofs.YtambpjbpdackfaaGreat.A.E
open Go Go.RowKit Go.Shelf

/-! ### The reference's rows and tables -/
theorem fr_get {l : List Fr} {i : Nat} (h : i < l.length) : (frs l)[i]? = some (frV (l.getD i dz)) := by
  rw [List.getElem?_map, List.getD_eq_getElem?_getD, List.getElem?_eq_getElem h]
  rfl
theorem sumF_snoc (l : List Fr) (x : Fr) : sumF (l ++ [x]) = addF (sumF l) x := by
  unfold sumF
  rw [List.foldl_append]
  rfl
theorem dot_take {a b : List Fr} {k : Nat} (ha : k < a.length) (hb : k < b.length) : dotF (a.take (k + 1)) (b.take (k + 1)) = addF (dotF (a.take k) (b.take k)) (mulF (a.getD k dz) (b.getD k dz)) := by
  unfold dotF
  rw [List.take_succ_eq_append_getElem ha, List.take_succ_eq_append_getElem hb, List.zipWith_append (by simp; omega)]
  simp only [List.zipWith_cons_cons, List.zipWith_nil_left]
  rw [sumF_snoc, List.getD_eq_getElem?_getD, List.getD_eq_getElem?_getD, List.getElem?_eq_getElem ha, List.getElem?_eq_getElem hb]
  rfl
theorem ok80 (ea eb : Bool) (a b : List Fr) (ha : a.length ≤ 4398046511104) (hb : b.length ≤ 4398046511104) : Ok Tryz.prog 80 [.sl ea (frs a), .sl eb (frs b)] (frV (dotF a b)) := by
  have la : (frs a).length = a.length := by simp
  have lb : (frs b).length = b.length := by simp
  refine ok_fn mixed Tryz.func80 (code := ?_) (h := h80) ?_ k80 ?_
  rotate_left
  · exact rfl
  unfold h80 initS
  simp -implicitDefEqProofs (maxSteps := 10000000) only [rkA, rkB, stepA, valA, simprocAttr, Tryz.ntmps80, Tryz.results80]
  refine wp_loop (fun m s => ∃ (k : Nat) (o : Fr), k + m = a.length ∧ k ≤ b.length ∧ o = dotF (a.take k) (b.take k) ∧ s = ⟨[.v (.sl ea (frs a)), .v (.sl eb (frs b)), jk, jk, .ptr 4 0, .ptr 5 0, nt k, jk, jk, jk, jk, jk, jk, jk, jk, jk, jk, jk, jk, jk, jk, jk, jk, jk, jk, jk, jk, jk, jk, jk, jk], [(4, [nt 0, nt 0, nt 0, .v (tru false)]), (5, [nt o.v, nt o.lo, nt o.hi, .v (tru o.bad)])], [], [], [], 0, nomem⟩) a.length ?_ ?_
  · simp -implicitDefEqProofs (maxSteps := 10000000) only [rkA, rkB, stepA, valA, simprocAttr]
    exact ⟨0, ⟨0, 0, 0, false⟩, by omega, by omega, by rw [List.take_zero, List.take_zero]; decide, rfl⟩
  rintro m s ⟨k, o, hk, hkb, ho, rfl⟩
  simp -implicitDefEqProofs (maxSteps := 10000000) only [la, lb, rkA, rkB, stepA, valA, simprocAttr]
  have h0 := nat0 k
  have hw := wrapped (x := (k : Int) + 1) (by omega) (by omega)
  by_cases h1 : k < a.length
  · have h1' : (k : Int) < (a.length : Int) := by omega
    by_cases h2 : k < b.length
    · have h2' : (k : Int) < (b.length : Int) := by omega
      have ga := fr_get h1
      have gb := fr_get h2
      simp -implicitDefEqProofs (maxSteps := 10000000) only [la, lb, h1', h2', h0, Int.toNat_natCast, ga, gb, rkA, rkB, stepA, valA, simprocAttr]
      refine call_fn rfl rfl rfl (ok79c (a.getD k dz) (b.getD k dz)) ?_
      simp -implicitDefEqProofs (maxSteps := 10000000) only [rkA, rkB, stepA, valA, simprocAttr]
      refine call_fn rfl rfl rfl (ok79a o (mulF (a.getD k dz) (b.getD k dz))) ?_
      simp -implicitDefEqProofs (maxSteps := 10000000) only [hw, rkA, rkB, stepA, valA, simprocAttr]
      refine loopK_of (m' := m - 1) (by omega) ?_
      simp -implicitDefEqProofs (maxSteps := 10000000) only [rkA, rkB, stepA, valA, simprocAttr]
      exact ⟨k + 1, addF o (mulF (a.getD k dz) (b.getD k dz)), by omega, by omega, by rw [dot_take h1 h2, ho], by simp only [Int.natCast_add, Int.natCast_one]⟩
    · have h2' : ¬ (k : Int) < (b.length : Int) := by omega
      simp -implicitDefEqProofs (maxSteps := 10000000) only [la, lb, h1', h2', rkA, rkB, stepA, valA, simprocAttr]
      have hd : dotF a b = o := by
        rw [ho]
        unfold dotF
        congr 1
        apply List.ext_getElem?
        intro i
        rw [List.getElem?_zipWith, List.getElem?_zipWith]
        by_cases hi : i < k
        · rw [List.getElem?_take_of_lt hi, List.getElem?_take_of_lt hi]
        · rw [List.getElem?_eq_none (l := b) (by omega), List.getElem?_eq_none (l := b.take k) (by simp; omega)]
          cases a[i]? <;> cases (a.take k)[i]? <;> rfl
      rw [hd]
  · have h1' : ¬ (k : Int) < (a.length : Int) := by omega
    simp -implicitDefEqProofs (maxSteps := 10000000) only [h1', rkA, rkB, stepA, valA, simprocAttr]
    have hd : dotF a b = o := by
      rw [ho]
      unfold dotF
      congr 1
      apply List.ext_getElem?
      intro i
      rw [List.getElem?_zipWith, List.getElem?_zipWith]
      by_cases hi : i < k
      · rw [List.getElem?_take_of_lt hi, List.getElem?_take_of_lt hi]
      · rw [List.getElem?_eq_none (l := a) (by omega), List.getElem?_eq_none (l := a.take k) (by simp; omega)]
    rw [hd]
end Go.Proofs.YtambpjbpdackfaaGreat.A.E



set_option linter.unusedVariables false
set_option linter.unusedSimpArgs false
set_option maxRecDepth 100000
namespace Go.Proofs.YtambpjbpdackfaaGreat.A.E
open Go Go.RowKit Go.Shelf

/-! ### The reference's tables are the program's -/
theorem ok68 (x : Fr) : Ok Tryz.prog 68 [frV x] (frV x) := by
  refine ok_fn mixed Tryz.func68 (code := ?_) (h := h68) ?_ k68 ?_
  rotate_left
  · exact rfl
  unfold h68 initS
  simp -implicitDefEqProofs (maxSteps := 10000000) only [rkA, rkB, stepA, valA, simprocAttr, Tryz.ntmps68, Tryz.results68]
theorem ok22 (e : Bool) (r c : Int) (l : List Fr) (hl : l.length ≤ 256) : Ok Tryz.prog 22 [matV e r c (frs l)] (.sl false (frs l)) := by
  have la : (frs l).length = l.length := by simp
  refine ok_fn mixed Tryz.func22 (code := ?_) (h := h22) ?_ k22 ?_
  rotate_left
  · exact rfl
  unfold h22 initS
  simp -implicitDefEqProofs (maxSteps := 10000000) only [rkA, rkB, stepA, valA, simprocAttr, Tryz.ntmps22, Tryz.results22]
  refine wp_loop (fun m s => ∃ k : Nat, k + m = l.length ∧ s = ⟨[jk, jk, jk, .acc 3 (frs (l.take k)), jk, jk, jk, .v (.sl e (frs l)), nt l.length, nt k, jk, jk, jk, jk, jk, jk, jk, jk, jk, jk], [(1, [.v (num r), .v (num c), .v (.sl e (frs l))])], [], [(2, 0), (3, k)], [], 0, nomem⟩) l.length ?_ ?_
  · simp -implicitDefEqProofs (maxSteps := 10000000) only [la, rkA, rkB, stepA, valA, simprocAttr]
    exact ⟨0, by omega, rfl⟩
  rintro m s ⟨k, hk, rfl⟩
  simp -implicitDefEqProofs (maxSteps := 10000000) only [rkA, rkB, stepA, valA, simprocAttr]
  refine gB_dec ?_ ?_ <;> intro hc <;> simp -implicitDefEqProofs (maxSteps := 10000000) only [hc, rkA, rkB, stepA, valA, simprocAttr]
  · have hka : k < l.length := by omega
    have h0 := nat0 k
    have ga := fr_get hka
    have hw := wrapped (x := (k : Int) + 1) (by omega) (by omega)
    simp -implicitDefEqProofs (maxSteps := 10000000) only [h0, Int.toNat_natCast, ga, rkA, rkB, stepA, valA, simprocAttr]
    refine call_fn rfl rfl rfl (ok68 (l.getD k dz)) ?_
    have hll : (frs (l.take k)).length = k := by simp; omega
    have hfit : fits 4 32 (frs (l.take k)) [frV (l.getD k dz)] = true := fits_frs (l := [l.getD k dz]) (by simp; omega)
    simp -implicitDefEqProofs (maxSteps := 10000000) only [hfit, hll, hw, rkA, rkB, stepA, valA, simprocAttr]
    refine loopK_of (m' := m - 1) (by omega) ?_
    simp -implicitDefEqProofs (maxSteps := 10000000) only [rkA, rkB, stepA, valA, simprocAttr]
    refine ⟨k + 1, by omega, ?_⟩
    rw [List.take_succ_eq_append_getElem hka, List.getD_eq_getElem?_getD, List.getElem?_eq_getElem hka]
    simp only [frs, List.map_append, List.map_cons, List.map_nil, Int.natCast_add, Int.natCast_one, Option.getD_some]
  · have : k = l.length := by omega
    subst this
    rw [List.take_length]
theorem eq_frE (x y : Fr) : cellsEq [some .i64, some .i64, some .i64, none] [num x.v, num x.lo, num x.hi, tru x.bad] [num y.v, num y.lo, num y.hi, tru y.bad] = some (decide (x = y)) := by
  obtain ⟨n, d, e, b⟩ := x
  obtain ⟨n', d', e', b'⟩ := y
  simp only [cellsEq, Fr.mk.injEq]
  cases b <;> cases b' <;> simp <;> rfl
theorem ok20 (ea eb : Bool) (r c : Int) (l : List Fr) (hl : l.length ≤ 256) : Ok Tryz.prog 20 [matV ea r c (frs l), .sl eb (frs l)] (tru true) := by
  have la : (frs l).length = l.length := by simp
  refine ok_fn mixed Tryz.func20 (code := ?_) (h := h20) ?_ k20 ?_
  rotate_left
  · exact rfl
  unfold h20 initS
  simp -implicitDefEqProofs (maxSteps := 10000000) only [rkA, rkB, stepA, valA, simprocAttr, Tryz.ntmps20, Tryz.results20]
  refine call_fn rfl rfl rfl (ok22 ea r c l hl) ?_
  simp -implicitDefEqProofs (maxSteps := 10000000) only [la, bne_self_eq_false, rkA, rkB, stepA, valA, simprocAttr]
  refine wp_loop (fun m s => ∃ k : Nat, k + m = l.length ∧ s = ⟨[jk, .v (.sl eb (frs l)), jk, jk, jk, .v (.sl false (frs l)), jk, jk, jk, jk, jk, jk, jk, jk, jk, nt l.length, nt k, jk, jk, jk, jk, jk, jk, jk, jk, jk, jk, jk, jk], [(2, [.v (num r), .v (num c), .v (.sl ea (frs l))])], [], [], [], 0, nomem⟩) l.length ?_ ?_
  · simp -implicitDefEqProofs (maxSteps := 10000000) only [rkA, rkB, stepA, valA, simprocAttr]
    exact ⟨0, by omega, rfl⟩
  rintro m s ⟨k, hk, rfl⟩
  simp -implicitDefEqProofs (maxSteps := 10000000) only [rkA, rkB, stepA, valA, simprocAttr]
  refine gB_dec ?_ ?_ <;> intro hc <;> simp -implicitDefEqProofs (maxSteps := 10000000) only [hc, rkA, rkB, stepA, valA, simprocAttr]
  · have hka : k < l.length := by omega
    have h0 := nat0 k
    have ga := fr_get hka
    have hw := wrapped (x := (k : Int) + 1) (by omega) (by omega)
    have hne := eq_frE (l.getD k dz) (l.getD k dz)
    rw [decide_eq_true rfl] at hne
    simp -implicitDefEqProofs (maxSteps := 10000000) only [h0, Int.toNat_natCast, ga, hne, hw, rkA, rkB, stepA, valA, simprocAttr]
    refine loopK_of (m' := m - 1) (by omega) ?_
    simp -implicitDefEqProofs (maxSteps := 10000000) only [rkA, rkB, stepA, valA, simprocAttr]
    exact ⟨k + 1, by omega, by simp only [Int.natCast_add, Int.natCast_one]⟩
end Go.Proofs.YtambpjbpdackfaaGreat.A.E


set_option linter.unusedVariables false
set_option linter.unusedSimpArgs false
set_option maxRecDepth 100000
namespace Go.Proofs.YtambpjbpdackfaaGreat.A
open Go Go.RowKit Go.Shelf

theorem ok201 (n : Nat) (hn : 1 ≤ n ∧ n ≤ 16) (K : Nat) (caps : List PV) (g : Nat → Nat → Fr) (hg : ∀ i k : Nat, i < n → k < n → Ok Tryz.prog K (num i :: num k :: caps) (frV (g i k))) :
    Ok Tryz.prog 201 [num n, .fn (.func K) caps] (.tup [matV false n n (frs (gridP g n n 0)), tru true]) := by
  refine Ok.ofM (okm201 n hn K caps g hg) ?_
  rintro r m ⟨b, cap, q, h1, rfl, rfl⟩
  have hl : (frs (gridP g n n 0)).length = (gridP g n n 0).length := by simp
  exact .tup (.cons (.agg (.cons (.same _) (.cons (.same _) (.cons (tell_row (Mem.put_same _ _ _) h1) .nil)))) (.cons (.same _) .nil))

/-! ### Cleared -/
def clearG (n : Nat) (l : List Fr) (i k : Nat) : Fr := if i < k then newF 0 1 else atF n n l i k
def clearF (n : Nat) (l : List Fr) : List Fr := gridP (clearG n l) n n 0
theorem ok202 (e : Bool) (n : Nat) (l : List Fr) (i k : Nat) : Ok Tryz.prog 202 [num i, num k, .vp [num 0, num 0, tru false], .vp [num n, num n, .sl e (frs l)]] (frV (clearG n l i k)) := by
  refine ok_fn mixed Tryz.func202 (code := ?_) (h := h202) ?_ k202 ?_
  rotate_left
  · exact rfl
  unfold h202 initS
  simp -implicitDefEqProofs only [rkA, rkB, stepA, valA, simprocAttr, Tryz.ntmps202, Tryz.results202]
  unfold clearG
  refine gB_dec ?_ ?_ <;> intro hc <;> simp -implicitDefEqProofs only [hc, rkA, rkB, stepA, valA, simprocAttr]
  · have : i < k := by omega
    refine call_meth rfl rfl methOf (ok269 ⟨0, 0, false⟩ 0) ?_
    rw [if_pos this]
    simp -implicitDefEqProofs only [rkA, rkB, stepA, valA, simprocAttr]
  · have : ¬ i < k := by omega
    refine call_fn rfl rfl rfl (ok74 e n n i k l) ?_
    rw [if_neg this]
    simp -implicitDefEqProofs only [rkA, rkB, stepA, valA, simprocAttr]

theorem ok148 (n : Nat) (hn : 1 ≤ n ∧ n ≤ 16) (e : Bool) (l : List Fr) (h : l.length = n * n) : Ok Tryz.prog 148 [matV e n n (frs l)] (.tup [matV false n n (frs (clearF n l)), tru true]) := by
  have hr := right_sq hn h
  refine ok_fn mixed Tryz.func148 (code := ?_) (h := h148) ?_ k148 ?_
  rotate_left
  · exact rfl
  unfold h148 initS
  simp -implicitDefEqProofs only [rkA, rkB, stepA, valA, simprocAttr, Tryz.ntmps148, Tryz.results148]
  refine call_fn rfl rfl rfl (ok165 e n n l) ?_
  simp -implicitDefEqProofs only [hr, beq_self_eq_true, rkA, rkB, stepA, valA, simprocAttr]
  refine call_fn rfl rfl rfl (ok201 n hn _ _ (clearG n l) (fun i k _ _ => ok202 e n l i k)) ?_
  simp -implicitDefEqProofs only [rkA, rkB, stepA, valA, simprocAttr, clearF]

/-! ### The diagonal -/
theorem rowF_get {r c : Int} {l : List Fr} (hr : right r c l.length = true) {i k : Nat} (hi : i < r.toNat) (hk : k < c.toNat) : (frs (rowF r c l i))[k]? = some (frV (atF r c l i k)) := by
  have h0 := rowF_eq ⟨0, 0, false⟩ hr (i := i) hi
  have h1 := atF_eq hr (i := i) (k := k) hi hk
  rw [h0, List.getElem?_map, List.getElem?_map, List.getElem?_range hk, h1]
  rfl
/-! ### Is it a triangle? -/
end Go.Proofs.YtambpjbpdackfaaGreat.A


set_option linter.unusedVariables false
set_option linter.unusedSimpArgs false
set_option maxRecDepth 100000
namespace Go.Proofs.YtambpjbpdackfaaGreat.A
open Go Go.RowKit Go.Shelf

/-! ### Rows in memory of their own -/
theorem okn200 (ex : Bool) (r c : Int) (i : Nat) (l : List Fr) (hr : right r c l.length = true) (hi : i < r.toNat) : OkN Tryz.prog 200 [matV ex r c (frs l), num i] (frs (rowF r c l i)) := by
  obtain ⟨r1, r2, c1, c2, hn⟩ := right_spec hr
  have hlen := rowF_len hr hi
  have hrow : rowF r c l i = (l.take (((i : Int) + 1) * c).toNat).drop ((i : Int) * c).toNat := if_pos ⟨hr, by omega, by omega⟩
  have hne : rowF r c l i ≠ [] := fun h => by rw [h] at hlen; simp at hlen; omega
  rw [hrow] at hne ⊢
  refine okn_fn mixed Tryz.func200 (code := ?_) (h := hN200) ?_ kN200 rfl (RFs_frs _) ?_
  rotate_left
  · exact rfl
  unfold hN200 initS
  simp -implicitDefEqProofs only [rkA, rkB, stepA, valA, simprocAttr, Tryz.ntmps200, Tryz.results200]
  refine call_fn rfl rfl rfl (ok144 ex r c (frs l)) ?_
  have e : (frs l).length = l.length := by simp
  have g1 : ¬ (i : Int) < 0 := by omega
  have g2 : ¬ (i : Int) ≥ r := by omega
  obtain ⟨b1, b2, b3, b4, b5⟩ := at_bound (i := i) (k := 0) r2 ⟨c1, c2⟩ (by omega) (by omega)
  have b6 : ((i : Int) + 1) * c = i * c + c := by rw [Int.add_mul, Int.one_mul]
  have b7 : ((i : Int) + 1) * c ≤ r * c := Int.mul_le_mul_of_nonneg_right (by omega) (by omega)
  have w1 := wrapped (x := (i : Int) * c) (by omega) (by omega)
  have w2 := wrapped (x := (i : Int) + 1) (by omega) (by omega)
  have w3 := wrapped (x := ((i : Int) + 1) * c) (by omega) (by omega)
  have h3 : 0 ≤ ((i : Int) + 1) * c := by omega
  have hs := sl_frs (ex := ex) (l := l) (a := ((i : Int) * c).toNat) (b := (((i : Int) + 1) * c).toNat) (by omega) (by omega)
  simp -implicitDefEqProofs only [e, hr, g1, g2, w1, w2, w3, b1, h3, hs, rkA, rkB, stepA, valA, simprocAttr]
  refine newRow_fn rfl rfl (Tells.same _ _) (okn158 _ _ hne (by simp; omega)) (RFs_frs _) (by simpa using hne) ?_
  intro b cap q hb hcap
  simp -implicitDefEqProofs only [rkA, rkB, stepA, valA, simprocAttr]
  exact .inr ⟨_, rfl, .inr ⟨by simpa using hne, b, cap, q, hcap, rfl, rfl⟩⟩

/-- Row i, in memory of its own. -/
def rowItem (r c : Int) (l : List Fr) (i : Nat) : Item := fun p m => ∃ b cap q, (frs (rowF r c l i)).length ≤ cap ∧ p = [num i, .s (.slice (some ⟨b, 0, none⟩) (frs (rowF r c l i)).length cap)] ∧ m = nomem.put b (flat (frs (rowF r c l i)) ++ List.replicate q .junk)
def rowItems (r c : Int) (l : List Fr) : List Item := (List.range r.toNat).map (rowItem r c l)
theorem itm199 (ex : Bool) (r c : Int) (l : List Fr) (hr : right r c l.length = true) : IterOkM Tryz.prog (.fn (.func 199) [.vp [num r, num c, .sl ex (frs l)]]) (rowItems r c l) := by
  obtain ⟨r1, r2, c1, c2, hn⟩ := right_spec hr
  have hl : (rowItems r c l).length = r.toNat := by simp [rowItems]
  have e : (frs l).length = l.length := by simp
  have h17 := ok144 ex r c (frs l)
  rw [e, hr] at h17
  refine iterM_fn mixed Tryz.func199 (code := ?_) (h := hN199) ?_ kN199 ?_ ?_
  rotate_left
  · exact rfl
  · exact rfl
  intro yl
  unfold hN199 initS
  simp -implicitDefEqProofs only [rkA, rkB, stepA, valA, simprocAttr, Tryz.ntmps199]
  refine wp_loop (fun m s => ∃ i : Nat, i + m = (rowItems r c l).length ∧ s = ⟨[.v (.fn (.yield yl) []), .v (.vp [num r, num c, .sl ex (frs l)]), jk, nt i, jk, jk, jk, jk, jk, jk, jk, jk, jk, jk, jk, jk, jk, jk, jk, jk, jk], [], [], [], [], i, nomem⟩) (rowItems r c l).length ?_ ?_
  · simp -implicitDefEqProofs only [rkA, rkB, stepA, valA, simprocAttr]
    exact ⟨0, by simp, rfl⟩
  rintro m s ⟨i, hi, rfl⟩
  simp -implicitDefEqProofs only [rkA, rkB, stepA, valA, simprocAttr]
  refine call_fn rfl rfl rfl (h17) ?_
  simp -implicitDefEqProofs only [rkA, rkB, stepA, valA, simprocAttr]
  refine gB_dec ?_ ?_ <;> intro hc <;> simp -implicitDefEqProofs only [hc, rkA, rkB, stepA, valA, simprocAttr]
  · have hlt : i < r.toNat := by omega
    have hlen := rowF_len hr hlt
    have hne : frs (rowF r c l i) ≠ [] := fun h => by
      have := congrArg List.length h
      rw [List.length_map, hlen, List.length_nil] at this
      omega
    refine newRow_fn rfl rfl (Tells.same _ _) (okn200 ex r c i l hr hlt) (RFs_frs _) hne ?_
    intro b cap q hb hcap
    simp -implicitDefEqProofs only [rkA, rkB, stepA, valA, simprocAttr]
    have hx : (rowItems r c l)[i]? = some (rowItem r c l i) := by simp [rowItems, hlt]
    have hw := wrapped (x := (i : Int) + 1) (by omega) (by omega)
    refine call_yieldM rfl rfl rfl rfl hx ⟨b, cap, q, hcap, rfl, rfl⟩ ?_ ?_
    · simp -implicitDefEqProofs only [hw, rkA, rkB, stepA, valA, simprocAttr]
      refine loopK_of (m' := m - 1) (by omega) ?_
      simp -implicitDefEqProofs only [rkA, rkB, stepA, valA, simprocAttr]
      exact ⟨i + 1, by omega, by simp only [Int.natCast_add, Int.natCast_one]⟩
    · simp -implicitDefEqProofs only [rkA, rkB, stepA, valA, simprocAttr]
      exact .inr trivial
  · omega

theorem okn101 (ex : Bool) (l : List Fr) (y : Fr) (h : l.length ≤ 5864062014805) : OkN Tryz.prog 101 [.sl ex (frs l), frV y] (frs (l.map (mulF · y))) := by
  refine okn_fn mixed Tryz.func101 (code := ?_) (h := hN101) ?_ kN101 rfl (RFs_frs _) ?_
  rotate_left
  · exact rfl
  unfold hN101 initS
  simp -implicitDefEqProofs only [rkA, rkB, stepA, valA, simprocAttr, Tryz.ntmps101, Tryz.results101]
  refine wp_loop (fun m s => ∃ i : Nat, i + m = l.length ∧ s = ⟨[jk, jk, jk, .ptr 3 0, jk, .acc 5 (frs ((l.take i).map (mulF · y))), jk, jk, .v (.sl ex (frs l)), nt (frs l).length, nt i, jk, jk, jk, jk, jk, jk, jk, jk, jk, jk, jk, jk], [(3, [nt y.n, nt y.d, .v (tru y.bad)])], [], [(4, 0), (5, i)], [], 0, nomem⟩) l.length ?_ ?_
  · simp -implicitDefEqProofs only [rkA, rkB, stepA, valA, simprocAttr]
    exact ⟨0, by simp, rfl⟩
  rintro m s ⟨i, hi, rfl⟩
  simp -implicitDefEqProofs only [rkA, rkB, stepA, valA, simprocAttr]
  refine gB_dec ?_ ?_ <;> intro hc <;> simp -implicitDefEqProofs only [hc, rkA, rkB, stepA, valA, simprocAttr]
  · have hlt : i < l.length := by simpa using hc
    have h0 : (0 : Int) ≤ (i : Int) := by omega
    have hg : (frs l)[i]? = some (frV l[i]) := by simp [hlt]
    simp -implicitDefEqProofs only [h0, Int.toNat_natCast, hg, rkA, rkB, stepA, valA, simprocAttr]
    refine call_meth rfl rfl methMul (ok267 l[i] y) ?_
    have hfit : fits 3 24 (frs ((l.take i).map (mulF · y))) [frV (mulF l[i] y)] = true := fits_frs (l := [mulF l[i] y]) (by simp; omega)
    have hw := wrapped (x := (i : Int) + 1) (by omega) (by omega)
    have hl : (frs ((l.take i).map (mulF · y))).length = i := by simp; omega
    simp -implicitDefEqProofs only [hfit, hl, hw, rkA, rkB, stepA, valA, simprocAttr]
    refine loopK_of (m' := m - 1) (by omega) ?_
    simp -implicitDefEqProofs only [rkA, rkB, stepA, valA, simprocAttr]
    refine ⟨i + 1, by omega, ?_⟩
    rw [List.take_succ_eq_append_getElem hlt]
    simp only [frs, List.map_append, List.map_cons, List.map_nil, Int.natCast_add, Int.natCast_one]
  · have : i = l.length := by simp only [List.length_map] at hc; omega
    rw [List.take_of_length_le (by omega)]
    refine .inl ⟨5, ?_⟩
    simp -implicitDefEqProofs only [rkA, rkB, stepA, valA, simprocAttr]
    simp [this]
theorem okn169 (k : Nat) (F : Fr → Fr → Fr) (hF : ∀ x y, Ok Tryz.prog k [frV x, frV y] (frV (F x y))) (ea eb : Bool) (a b : List Fr) (ha : a.length ≤ 5864062014805) (hb : b.length ≤ 5864062014805) :
    OkN Tryz.prog 169 [.sl ea (frs a), .sl eb (frs b), .fn (.func k) []] (frs (List.zipWith F a b)) := by
  refine okn_fn mixed Tryz.func169 (code := ?_) (h := hN169) ?_ kN169 rfl (RFs_frs _) ?_
  rotate_left
  · exact rfl
  unfold hN169 initS
  simp -implicitDefEqProofs only [rkA, rkB, stepA, valA, simprocAttr, Tryz.ntmps169, Tryz.results169]
  refine call_fn rfl rfl rfl (ok215 ea eb a b) ?_
  simp -implicitDefEqProofs only [rkA, rkB, stepA, valA, simprocAttr]
  have hlz : (List.zipWith F a b).length = min a.length b.length := by simp
  have hpl : (pairsF a b).length = min a.length b.length := by simp [pairsF]
  refine wp_rf (items := pairsF a b) rfl (it227 ea eb a b ha hb) (fun i s => i ≤ (pairsF a b).length ∧ s = ⟨[], [(5, [.v (.fn (.func k) [])]), (7, [.acc 1007 (frs ((List.zipWith F a b).take i))])], [], [(6, 0), (1007, i)],
    [[.v (.sl ea (frs a)), .v (.sl eb (frs b)), .v (.fn (.func k) []), jk, jk, .ptr 5 0, .acc 6 [], .ptr 7 0, jk, jk, .v (.sl ea (frs a)), .v (.sl eb (frs b)), .v (.fn (.func 227) [.vp [.sl ea (frs a)], .vp [.sl eb (frs b)]]), jk, jk, jk, jk, jk, jk, jk, jk, jk, jk]], 0, nomem⟩) ?_ ?_ ?_
  · simp -implicitDefEqProofs only [rkA, rkB, stepA, valA, simprocAttr]
    exact Nat.zero_le _
  · rintro i x' s' R hx ⟨hi, rfl⟩ hR
    have hlt : i < (pairsF a b).length := (List.getElem?_eq_some_iff.1 hx).1
    have h1 : i < a.length := by omega
    have h2 : i < b.length := by omega
    have hx' : x' = [frV a[i], frV b[i]] := by
      rw [pairsF, List.getElem?_map, List.getElem?_eq_getElem (by simp; omega), Option.map_some, List.getElem_zip] at hx
      exact (Option.some.inj hx).symm
    subst hx'
    refine ⟨rfl, ?_⟩
    simp -implicitDefEqProofs only [rkA, rkB, stepA, valA, simprocAttr]
    refine call_fn rfl rfl rfl (hF a[i] b[i]) ?_
    have hfit : fits 3 24 (frs ((List.zipWith F a b).take i)) [frV (F a[i] b[i])] = true := fits_frs (l := [F a[i] b[i]]) (by simp; omega)
    have hl : (frs ((List.zipWith F a b).take i)).length = i := by simp; omega
    simp -implicitDefEqProofs only [hfit, hl, rkA, rkB, stepA, valA, simprocAttr]
    refine hR _ ⟨by omega, ?_⟩
    rw [List.take_succ_eq_append_getElem (by simp; omega)]
    simp only [frs, List.map_append, List.map_cons, List.map_nil, List.getElem_zipWith]
  · rintro s' ⟨hi, rfl⟩
    simp -implicitDefEqProofs only [rkA, rkB, stepA, valA, simprocAttr]
    rw [List.take_of_length_le (by simp; omega)]
    refine .inl ⟨1007, ?_⟩
    simp -implicitDefEqProofs only [rkA, rkB, stepA, valA, simprocAttr]
    simp [pairsF]
theorem okn172 (ea eb : Bool) (a b : List Fr) (ha : a.length ≤ 5864062014805) (hb : b.length ≤ 5864062014805) (h0 : 0 < a.length) (h1 : 0 < b.length) : OkN Tryz.prog 172 [.sl ea (frs a), .sl eb (frs b)] (frs (List.zipWith subF a b)) := by
  have hne : frs (List.zipWith subF a b) ≠ [] := fun h => by
    have := congrArg List.length h
    simp only [List.length_map, List.length_zipWith, List.length_nil] at this
    omega
  refine okn_fn mixed Tryz.func172 (code := ?_) (h := hN172) ?_ kN172 rfl (RFs_frs _) ?_
  rotate_left
  · exact rfl
  unfold hN172 initS
  simp -implicitDefEqProofs only [rkA, rkB, stepA, valA, simprocAttr, Tryz.ntmps172, Tryz.results172]
  refine newRow_fn rfl rfl (Tells.same _ _) (okn169 216 subF ok216 ea eb a b ha hb) (RFs_frs _) hne ?_
  intro c cap q hc hcap
  simp -implicitDefEqProofs only [rkA, rkB, stepA, valA, simprocAttr]
  exact .inr ⟨_, rfl, .inr ⟨hne, c, cap, q, hcap, rfl, rfl⟩⟩
end Go.Proofs.YtambpjbpdackfaaGreat.A


set_option linter.unusedVariables false
set_option linter.unusedSimpArgs false
set_option maxRecDepth 100000
namespace Go.Proofs.YtambpjbpdackfaaGreat.A.E
open Go Go.RowKit Go.Shelf

theorem okn150 (ex : Bool) (r c : Int) (i : Nat) (l : List Fr) (hr : right r c l.length = true) (hi : i < r.toNat) : OkN Tryz.prog 150 [matV ex r c (frs l), num i] (frs (rowF r c l i)) := by
  obtain ⟨r1, r2, c1, c2, hn⟩ := right_spec hr
  have hlen := rowF_len hr hi
  have hrow : rowF r c l i = (l.take (((i : Int) + 1) * c).toNat).drop ((i : Int) * c).toNat := if_pos ⟨hr, by omega, by omega⟩
  have hne : rowF r c l i ≠ [] := fun h => by rw [h] at hlen; simp at hlen; omega
  rw [hrow] at hne ⊢
  refine okn_fn mixed Tryz.func150 (code := ?_) (h := hN150) ?_ kN150 rfl (RFs_frs _) ?_
  rotate_left
  · exact rfl
  unfold hN150 initS
  simp -implicitDefEqProofs only [rkA, rkB, stepA, valA, simprocAttr, Tryz.ntmps150, Tryz.results150]
  refine call_fn rfl rfl rfl (ok72 ex r c (frs l)) ?_
  have e : (frs l).length = l.length := by simp
  have g1 : ¬ (i : Int) < 0 := by omega
  have g2 : ¬ (i : Int) ≥ r := by omega
  obtain ⟨b1, b2, b3, b4, b5⟩ := at_bound (i := i) (k := 0) r2 ⟨c1, c2⟩ (by omega) (by omega)
  have b6 : ((i : Int) + 1) * c = i * c + c := by rw [Int.add_mul, Int.one_mul]
  have b7 : ((i : Int) + 1) * c ≤ r * c := Int.mul_le_mul_of_nonneg_right (by omega) (by omega)
  have w1 := wrapped (x := (i : Int) * c) (by omega) (by omega)
  have w2 := wrapped (x := (i : Int) + 1) (by omega) (by omega)
  have w3 := wrapped (x := ((i : Int) + 1) * c) (by omega) (by omega)
  have h3 : 0 ≤ ((i : Int) + 1) * c := by omega
  have hs := sl_frs (ex := ex) (l := l) (a := ((i : Int) * c).toNat) (b := (((i : Int) + 1) * c).toNat) (by omega) (by omega)
  simp -implicitDefEqProofs only [e, hr, g1, g2, w1, w2, w3, b1, h3, hs, rkA, rkB, stepA, valA, simprocAttr]
  refine newRow_fn rfl rfl (Tells.same _ _) (okn71 _ _ hne (by simp; omega)) (RFs_frs _) (by simpa using hne) ?_
  intro b cap q hb hcap
  simp -implicitDefEqProofs only [rkA, rkB, stepA, valA, simprocAttr]
  exact .inr ⟨_, rfl, .inr ⟨by simpa using hne, b, cap, q, hcap, rfl, rfl⟩⟩

/-- Row i, in memory of its own. -/
def rowItem (r c : Int) (l : List Fr) (i : Nat) : Item := fun p m => ∃ b cap q, (frs (rowF r c l i)).length ≤ cap ∧ p = [num i, .s (.slice (some ⟨b, 0, none⟩) (frs (rowF r c l i)).length cap)] ∧ m = nomem.put b (flat (frs (rowF r c l i)) ++ List.replicate q .junk)
def rowItems (r c : Int) (l : List Fr) : List Item := (List.range r.toNat).map (rowItem r c l)
theorem itm149 (ex : Bool) (r c : Int) (l : List Fr) (hr : right r c l.length = true) : IterOkM Tryz.prog (.fn (.func 149) [.vp [num r, num c, .sl ex (frs l)]]) (rowItems r c l) := by
  obtain ⟨r1, r2, c1, c2, hn⟩ := right_spec hr
  have hl : (rowItems r c l).length = r.toNat := by simp [rowItems]
  have e : (frs l).length = l.length := by simp
  have h17 := ok72 ex r c (frs l)
  rw [e, hr] at h17
  refine iterM_fn mixed Tryz.func149 (code := ?_) (h := hN149) ?_ kN149 ?_ ?_
  rotate_left
  · exact rfl
  · exact rfl
  intro yl
  unfold hN149 initS
  simp -implicitDefEqProofs only [rkA, rkB, stepA, valA, simprocAttr, Tryz.ntmps149]
  refine wp_loop (fun m s => ∃ i : Nat, i + m = (rowItems r c l).length ∧ s = ⟨[.v (.fn (.yield yl) []), .v (.vp [num r, num c, .sl ex (frs l)]), jk, nt i, jk, jk, jk, jk, jk, jk, jk, jk, jk, jk, jk, jk, jk, jk, jk, jk, jk], [], [], [], [], i, nomem⟩) (rowItems r c l).length ?_ ?_
  · simp -implicitDefEqProofs only [rkA, rkB, stepA, valA, simprocAttr]
    exact ⟨0, by simp, rfl⟩
  rintro m s ⟨i, hi, rfl⟩
  simp -implicitDefEqProofs only [rkA, rkB, stepA, valA, simprocAttr]
  refine call_fn rfl rfl rfl (h17) ?_
  simp -implicitDefEqProofs only [rkA, rkB, stepA, valA, simprocAttr]
  refine gB_dec ?_ ?_ <;> intro hc <;> simp -implicitDefEqProofs only [hc, rkA, rkB, stepA, valA, simprocAttr]
  · have hlt : i < r.toNat := by omega
    have hlen := rowF_len hr hlt
    have hne : frs (rowF r c l i) ≠ [] := fun h => by
      have := congrArg List.length h
      rw [List.length_map, hlen, List.length_nil] at this
      omega
    refine newRow_fn rfl rfl (Tells.same _ _) (okn150 ex r c i l hr hlt) (RFs_frs _) hne ?_
    intro b cap q hb hcap
    simp -implicitDefEqProofs only [rkA, rkB, stepA, valA, simprocAttr]
    have hx : (rowItems r c l)[i]? = some (rowItem r c l i) := by simp [rowItems, hlt]
    have hw := wrapped (x := (i : Int) + 1) (by omega) (by omega)
    refine call_yieldM rfl rfl rfl rfl hx ⟨b, cap, q, hcap, rfl, rfl⟩ ?_ ?_
    · simp -implicitDefEqProofs only [hw, rkA, rkB, stepA, valA, simprocAttr]
      refine loopK_of (m' := m - 1) (by omega) ?_
      simp -implicitDefEqProofs only [rkA, rkB, stepA, valA, simprocAttr]
      exact ⟨i + 1, by omega, by simp only [Int.natCast_add, Int.natCast_one]⟩
    · simp -implicitDefEqProofs only [rkA, rkB, stepA, valA, simprocAttr]
      exact .inr trivial
  · omega

theorem okn153 (ex : Bool) (l : List Fr) (y : Fr) (h : l.length ≤ 4398046511104) : OkN Tryz.prog 153 [.sl ex (frs l), frV y] (frs (l.map (mulF · y))) := by
  refine okn_fn mixed Tryz.func153 (code := ?_) (h := hN153) ?_ kN153 rfl (RFs_frs _) ?_
  rotate_left
  · exact rfl
  unfold hN153 initS
  simp -implicitDefEqProofs only [rkA, rkB, stepA, valA, simprocAttr, Tryz.ntmps153, Tryz.results153]
  refine wp_loop (fun m s => ∃ i : Nat, i + m = l.length ∧ s = ⟨[jk, jk, jk, .ptr 3 0, jk, .acc 5 (frs ((l.take i).map (mulF · y))), jk, jk, .v (.sl ex (frs l)), nt (frs l).length, nt i, jk, jk, jk, jk, jk, jk, jk, jk, jk, jk, jk, jk], [(3, [nt y.v, nt y.lo, nt y.hi, .v (tru y.bad)])], [], [(4, 0), (5, i)], [], 0, nomem⟩) l.length ?_ ?_
  · simp -implicitDefEqProofs only [rkA, rkB, stepA, valA, simprocAttr]
    exact ⟨0, by simp, rfl⟩
  rintro m s ⟨i, hi, rfl⟩
  simp -implicitDefEqProofs only [rkA, rkB, stepA, valA, simprocAttr]
  refine gB_dec ?_ ?_ <;> intro hc <;> simp -implicitDefEqProofs only [hc, rkA, rkB, stepA, valA, simprocAttr]
  · have hlt : i < l.length := by simpa using hc
    have h0 : (0 : Int) ≤ (i : Int) := by omega
    have hg : (frs l)[i]? = some (frV l[i]) := by simp [hlt]
    simp -implicitDefEqProofs only [h0, Int.toNat_natCast, hg, rkA, rkB, stepA, valA, simprocAttr]
    refine call_meth rfl rfl methMul (ok250 l[i] y) ?_
    have hfit : fits 4 32 (frs ((l.take i).map (mulF · y))) [frV (mulF l[i] y)] = true := fits_frs (l := [mulF l[i] y]) (by simp; omega)
    have hw := wrapped (x := (i : Int) + 1) (by omega) (by omega)
    have hl : (frs ((l.take i).map (mulF · y))).length = i := by simp; omega
    simp -implicitDefEqProofs only [hfit, hl, hw, rkA, rkB, stepA, valA, simprocAttr]
    refine loopK_of (m' := m - 1) (by omega) ?_
    simp -implicitDefEqProofs only [rkA, rkB, stepA, valA, simprocAttr]
    refine ⟨i + 1, by omega, ?_⟩
    rw [List.take_succ_eq_append_getElem hlt]
    simp only [frs, List.map_append, List.map_cons, List.map_nil, Int.natCast_add, Int.natCast_one]
  · have : i = l.length := by simp only [List.length_map] at hc; omega
    rw [List.take_of_length_le (by omega)]
    refine .inl ⟨5, ?_⟩
    simp -implicitDefEqProofs only [rkA, rkB, stepA, valA, simprocAttr]
    simp [this]
theorem okn204 (k : Nat) (F : Fr → Fr → Fr) (hF : ∀ x y, Ok Tryz.prog k [frV x, frV y] (frV (F x y))) (ea eb : Bool) (a b : List Fr) (ha : a.length ≤ 4398046511104) (hb : b.length ≤ 4398046511104) :
    OkN Tryz.prog 204 [.sl ea (frs a), .sl eb (frs b), .fn (.func k) []] (frs (List.zipWith F a b)) := by
  refine okn_fn mixed Tryz.func204 (code := ?_) (h := hN204) ?_ kN204 rfl (RFs_frs _) ?_
  rotate_left
  · exact rfl
  unfold hN204 initS
  simp -implicitDefEqProofs only [rkA, rkB, stepA, valA, simprocAttr, Tryz.ntmps204, Tryz.results204]
  refine call_fn rfl rfl rfl (ok221 ea eb a b) ?_
  simp -implicitDefEqProofs only [rkA, rkB, stepA, valA, simprocAttr]
  have hlz : (List.zipWith F a b).length = min a.length b.length := by simp
  have hpl : (pairsF a b).length = min a.length b.length := by simp [pairsF]
  refine wp_rf (items := pairsF a b) rfl (it229 ea eb a b ha hb) (fun i s => i ≤ (pairsF a b).length ∧ s = ⟨[], [(5, [.v (.fn (.func k) [])]), (7, [.acc 1007 (frs ((List.zipWith F a b).take i))])], [], [(6, 0), (1007, i)],
    [[.v (.sl ea (frs a)), .v (.sl eb (frs b)), .v (.fn (.func k) []), jk, jk, .ptr 5 0, .acc 6 [], .ptr 7 0, jk, jk, .v (.sl ea (frs a)), .v (.sl eb (frs b)), .v (.fn (.func 229) [.vp [.sl ea (frs a)], .vp [.sl eb (frs b)]]), jk, jk, jk, jk, jk, jk, jk, jk, jk, jk]], 0, nomem⟩) ?_ ?_ ?_
  · simp -implicitDefEqProofs only [rkA, rkB, stepA, valA, simprocAttr]
    exact Nat.zero_le _
  · rintro i x' s' R hx ⟨hi, rfl⟩ hR
    have hlt : i < (pairsF a b).length := (List.getElem?_eq_some_iff.1 hx).1
    have h1 : i < a.length := by omega
    have h2 : i < b.length := by omega
    have hx' : x' = [frV a[i], frV b[i]] := by
      rw [pairsF, List.getElem?_map, List.getElem?_eq_getElem (by simp; omega), Option.map_some, List.getElem_zip] at hx
      exact (Option.some.inj hx).symm
    subst hx'
    refine ⟨rfl, ?_⟩
    simp -implicitDefEqProofs only [rkA, rkB, stepA, valA, simprocAttr]
    refine call_fn rfl rfl rfl (hF a[i] b[i]) ?_
    have hfit : fits 4 32 (frs ((List.zipWith F a b).take i)) [frV (F a[i] b[i])] = true := fits_frs (l := [F a[i] b[i]]) (by simp; omega)
    have hl : (frs ((List.zipWith F a b).take i)).length = i := by simp; omega
    simp -implicitDefEqProofs only [hfit, hl, rkA, rkB, stepA, valA, simprocAttr]
    refine hR _ ⟨by omega, ?_⟩
    rw [List.take_succ_eq_append_getElem (by simp; omega)]
    simp only [frs, List.map_append, List.map_cons, List.map_nil, List.getElem_zipWith]
  · rintro s' ⟨hi, rfl⟩
    simp -implicitDefEqProofs only [rkA, rkB, stepA, valA, simprocAttr]
    rw [List.take_of_length_le (by simp; omega)]
    refine .inl ⟨1007, ?_⟩
    simp -implicitDefEqProofs only [rkA, rkB, stepA, valA, simprocAttr]
    simp [pairsF]
theorem okn152 (ea eb : Bool) (a b : List Fr) (ha : a.length ≤ 4398046511104) (hb : b.length ≤ 4398046511104) (h0 : 0 < a.length) (h1 : 0 < b.length) : OkN Tryz.prog 152 [.sl ea (frs a), .sl eb (frs b)] (frs (List.zipWith subF a b)) := by
  have hne : frs (List.zipWith subF a b) ≠ [] := fun h => by
    have := congrArg List.length h
    simp only [List.length_map, List.length_zipWith, List.length_nil] at this
    omega
  refine okn_fn mixed Tryz.func152 (code := ?_) (h := hN152) ?_ kN152 rfl (RFs_frs _) ?_
  rotate_left
  · exact rfl
  unfold hN152 initS
  simp -implicitDefEqProofs only [rkA, rkB, stepA, valA, simprocAttr, Tryz.ntmps152, Tryz.results152]
  refine newRow_fn rfl rfl (Tells.same _ _) (okn204 206 subF ok206 ea eb a b ha hb) (RFs_frs _) hne ?_
  intro c cap q hc hcap
  simp -implicitDefEqProofs only [rkA, rkB, stepA, valA, simprocAttr]
  exact .inr ⟨_, rfl, .inr ⟨hne, c, cap, q, hcap, rfl, rfl⟩⟩
end Go.Proofs.YtambpjbpdackfaaGreat.A.E


set_option linter.unusedVariables false
set_option linter.unusedSimpArgs false
set_option maxRecDepth 100000
namespace Go.Proofs.YtambpjbpdackfaaGreat.A
open Go Go.RowKit Go.Shelf

/-! ### Rows in memory: each in a block of its own -/
abbrev rawC (c cap : Nat → Nat) (w i : Nat) : PV := .s (.slice (some ⟨c i, 0, none⟩) w (cap i))
abbrev jnk (q : Nat) : List PV := List.replicate q .junk
structure RowsC (m : Mem) (c q : Nat → Nat) (n w : Nat) (M : Nat → Nat → Fr) : Prop where
  row : ∀ i, i < n → m (c i) = some (flat (frs (rowM w M i)) ++ jnk (q i))
  inj : ∀ i j, i < n → j < n → c i = c j → i = j
theorem flat_frs_drop {l : List Fr} {k : Nat} (post : List PV) (h : k ≤ l.length) : (flat (frs l) ++ post).drop (k * 3) = flat (frs (l.drop k)) ++ post := by
  have e : frs l = frs (l.take k) ++ frs (l.drop k) := by rw [← List.map_append, List.take_append_drop]
  have hl : (flat (frs (l.take k))).length = k * 3 := by
    rw [flat_length (frs_cells _), List.length_map, List.length_take, Nat.min_eq_left h]
  rw [e, flat_append, List.append_assoc, ← hl, List.drop_left]
theorem flat_frs_take {l : List Fr} {k : Nat} (post : List PV) (h : k ≤ l.length) : (flat (frs l) ++ post).take (k * 3) = flat (frs (l.take k)) := by
  have e : frs l = frs (l.take k) ++ frs (l.drop k) := by rw [← List.map_append, List.take_append_drop]
  have hl : (flat (frs (l.take k))).length = k * 3 := by
    rw [flat_length (frs_cells _), List.length_map, List.length_take, Nat.min_eq_left h]
  conv => lhs; rw [e, flat_append, List.append_assoc, ← hl, List.take_left]
/-- The rest of a row in memory, told as a value. -/
theorem tell_rest {m : Mem} {b cap k : Nat} {l : List Fr} {post : List PV} (hm : m b = some (flat (frs l) ++ post)) (hk : k ≤ l.length) (hc : l.length ≤ cap) : Tell m (.s (.slice (some ⟨b, k * 3, none⟩) (l.length - k) (cap - k))) (.sl false (frs (l.drop k))) := by
  have hd := flat_frs_drop (l := l) (k := k) post hk
  have hl3 : (flat (frs (l.drop k))).length = (l.length - k) * 3 := by rw [flat_length (frs_cells _), List.length_map, List.length_drop]
  refine .row hm (frs_cells _) (by simp) ?_ (by omega) (fun h => by cases h) ?_
  · rw [List.length_append, hl3, flat_length (frs_cells _), List.length_map, Nat.sub_mul]
    have : k * 3 ≤ l.length * 3 := Nat.mul_le_mul_right _ hk
    omega
  · rw [hd, List.take_left]
    exact Tells.same _ _

theorem ldM_frj {l : List Fr} {k : Nat} {x : Fr} {post : List PV} (h : l[k]? = some x) : ldM true 3 (k * 3) (flat (frs l) ++ post) = some (.v (frV x)) :=
  ldM_elem (els := frs l) (sz := 3) (k := k) (e := frV x) (frs_cells l) (by simp [h]) post
theorem stM_frj {l : List Fr} {k : Nat} {x : Fr} {post : List PV} (h : k < l.length) : stM 3 (k * 3) (flat (frs l) ++ post) (frV x) = some (flat (frs (l.set k x)) ++ post) := by
  have := stM_elem (els := frs l) (sz := 3) (k := k) (e := frV x) (frs_cells l) (by simpa using h) rfl rfl post
  rw [this]
  simp [frs, List.map_set]
theorem frs_ok (l : List Fr) : (frs l).all (fun e => e.ok && e.cells.length == 3) = true := by
  rw [List.all_eq_true]
  intro e he
  obtain ⟨x, _, rfl⟩ := List.mem_map.1 he
  rfl
theorem methSign : Meth Tryz.prog 47 "Sign" 271 := by
  intro v xs w
  rfl
theorem methNeg : Meth Tryz.prog 47 "Neg" 268 := by
  intro v xs w
  rfl

/-! ### One column folded -/
def xF (w : Nat) (M : Nat → Nat → Fr) (k : Nat) : List Fr := (rowM w M k).drop k
def normF (w : Nat) (M : Nat → Nat → Fr) (k : Nat) : Fr := if 0 ≤ signF (M k k) then negF (rootF (dotF (xF w M k) (xF w M k))) else rootF (dotF (xF w M k) (xF w M k))
def vA (w : Nat) (M : Nat → Nat → Fr) (k c : Nat) : Fr := if c = k then subF (M k k) (normF w M k) else M k c
def vF (w : Nat) (M : Nat → Nat → Fr) (k : Nat) : List Fr := ((List.range w).map (vA w M k)).drop k
def tF (w : Nat) (M : Nat → Nat → Fr) (k i : Nat) : Fr := divF (addF (dotF ((rowM w M i).drop k) (vF w M k)) (dotF ((rowM w M i).drop k) (vF w M k))) (dotF (vF w M k) (vF w M k))
def foldTo (w : Nat) (M : Nat → Nat → Fr) (k j : Nat) : Nat → Nat → Fr := fun a c => if k < a ∧ a < j ∧ k ≤ c then subF (M a c) (mulF (vA w M k c) (tF w M k a)) else M a c
/-- Row k's first numbers are noughts: so many of them. -/
def foldZ (w : Nat) (M : Nat → Nat → Fr) (k n z : Nat) : Nat → Nat → Fr := fun a c => if a = k then (if k ≤ c ∧ c < k + z then newF 0 1 else M k c) else foldTo w M k n a c
def foldF (w : Nat) (M : Nat → Nat → Fr) (k n : Nat) : Nat → Nat → Fr := fun a c => if a = k then (if c < k then M k c else if c = k then normF w M k else newF 0 1) else foldTo w M k n a c
theorem vF_set {w k : Nat} (hk : k < w) (M : Nat → Nat → Fr) : (xF w M k).set 0 (subF (M k k) (normF w M k)) = vF w M k := by
  unfold xF vF rowM
  apply List.ext_getElem?
  intro j
  rw [List.getElem?_set]
  by_cases hj : k + j < w
  · by_cases e : 0 = j
    · subst e
      rw [if_pos rfl, if_pos (by simp; omega)]
      simp [vA, hk]
    · rw [if_neg e]
      simp only [List.getElem?_drop, List.getElem?_map, List.getElem?_range hj, Option.map_some, vA]
      rw [if_neg (by omega)]
  · rw [if_neg (by omega), List.getElem?_eq_none (by simp; omega), List.getElem?_eq_none (by simp; omega)]
theorem vF_len {w k : Nat} (M : Nat → Nat → Fr) : (vF w M k).length = w - k := by simp [vF]
theorem xF_len {w k : Nat} (M : Nat → Nat → Fr) : (xF w M k).length = w - k := by simp [xF, rowM_length]
/-- One row folded. -/
theorem foldTo_row (w : Nat) (M : Nat → Nat → Fr) (k i : Nat) : rowM w (foldTo w M k i) i = rowM w M i := by
  unfold rowM
  refine List.map_congr_left fun j _ => ?_
  unfold foldTo
  rw [if_neg (by omega)]
theorem row_fold {w k i : Nat} (hki : k < i) (M : Nat → Nat → Fr) : (rowM w M i).take k ++ List.zipWith subF ((rowM w M i).drop k) ((vF w M k).map (mulF · (tF w M k i))) = rowM w (foldTo w M k (i + 1)) i := by
  apply List.ext_getElem?
  intro j
  by_cases hj : j < w
  · rw [rowM_get hj]
    by_cases hjk : j < k
    · rw [List.getElem?_append_left (by rw [List.length_take, rowM_length]; omega), List.getElem?_take_of_lt hjk, rowM_get hj]
      unfold foldTo
      rw [if_neg (by omega)]
    · have hl : ((rowM w M i).take k).length = k := by rw [List.length_take, rowM_length]; omega
      rw [List.getElem?_append_right (by omega), hl, List.getElem?_zipWith]
      simp only [vF, List.getElem?_map, List.getElem?_drop, show k + (j - k) = j by omega, rowM_get hj, List.getElem?_range hj, Option.map_some]
      unfold foldTo
      rw [if_pos (by omega)]
  · rw [List.getElem?_eq_none (by simp [rowM_length, vF_len]; omega), List.getElem?_eq_none (by rw [rowM_length]; omega)]
/-- One row more is folded. -/
theorem RowsC.fold {mm : Mem} {c q : Nat → Nat} {n w k i : Nat} {M : Nat → Nat → Fr} (h : RowsC mm c q n w (foldTo w M k i)) (hi : i < n) (hki : k < i) :
    RowsC (mm.put (c i) (flat (frs (rowM w (foldTo w M k (i + 1)) i)) ++ jnk (q i))) c q n w (foldTo w M k (i + 1)) := ⟨fun a ha => by
  by_cases e : a = i
  · subst e
    rw [Mem.put_same]
  · rw [Mem.put_other _ _ (fun e' => e (h.inj a i ha hi e')), h.row a ha]
    congr 3
    unfold rowM
    congr 1
    refine List.map_congr_left fun j _ => ?_
    unfold foldTo
    by_cases h1 : k < a ∧ a < i ∧ k ≤ j
    · rw [if_pos h1, if_pos (by omega)]
    · rw [if_neg h1, if_neg (by omega)], h.inj⟩
theorem foldTo_first (w : Nat) (M : Nat → Nat → Fr) (k : Nat) : foldTo w M k (k + 1) = M := by
  funext a c
  unfold foldTo
  rw [if_neg (by omega)]
theorem RowsC.congr {mm : Mem} {c q : Nat → Nat} {n w : Nat} {M N : Nat → Nat → Fr} (h : RowsC mm c q n w M) (hMN : ∀ a j, a < n → j < w → M a j = N a j) : RowsC mm c q n w N := ⟨fun a ha => by
  have e : rowM w N a = rowM w M a := by
    unfold rowM
    exact List.map_congr_left fun j hj => (hMN a j ha (List.mem_range.1 hj)).symm
  rw [e]
  exact h.row a ha, h.inj⟩
theorem RowsC.store {mm : Mem} {c q : Nat → Nat} {n w : Nat} {M : Nat → Nat → Fr} (h : RowsC mm c q n w M) {i k : Nat} (hi : i < n) (hk : k < w) (x : Fr) :
    RowsC (mm.put (c i) (flat (frs ((rowM w M i).set k x)) ++ jnk (q i))) c q n w (setM M i k x) := ⟨fun j hj => by
  by_cases e : j = i
  · subst e
    rw [Mem.put_same, rowM_set hk]
  · rw [Mem.put_other _ _ (fun e' => e (h.inj j i hj hi e')), rowM_other e]
    exact h.row j hj, h.inj⟩
theorem foldZ_step (w : Nat) (M : Nat → Nat → Fr) (k n z : Nat) : setM (foldZ w M k n z) k (k + z) (newF 0 1) = foldZ w M k n (z + 1) := by
  funext a j
  unfold setM foldZ
  by_cases e : a = k
  · subst e
    by_cases e2 : j = a + z
    · subst e2
      rw [if_pos ⟨rfl, rfl⟩, if_pos rfl, if_pos ⟨by omega, by omega⟩]
    · rw [if_neg (fun h => e2 h.2), if_pos rfl, if_pos rfl]
      by_cases h : a ≤ j ∧ j < a + z
      · rw [if_pos h, if_pos (by omega)]
      · rw [if_neg h, if_neg (by omega)]
  · rw [if_neg (fun h => e h.1), if_neg e, if_neg e]
set_option maxHeartbeats 4000000 in
theorem okm146 (ex : Bool) (n w k : Nat) (hkn : k < n) (hnw : n ≤ w) (hw : w ≤ 16) (M : Nat → Nat → Fr) (c cap q : Nat → Nat) (hcap : ∀ i, i < n → w ≤ cap i) (m : Mem) (hm : RowsC m c q n w M) :
    OkM Tryz.prog 146 [.sl ex ((List.range n).map (rawC c cap w)), num k] m (fun _ m' => RowsC m' c q n w (foldF w M k n)) := by
  have h0 : (0 : Int) ≤ (k : Int) := by omega
  have g1 : ((List.range n).map (rawC c cap w))[k]? = some (rawC c cap w k) := by simp [hkn]
  have ck := hcap k hkn
  have ne : (cap k = k) = False := by simp; omega
  have s1 : (k ≤ w) = True := by simp; omega
  have s2 : (w ≤ cap k) = True := by simp; omega
  refine okm_fn mixed Tryz.func146 (code := ?_) (h := h146) ?_ k146 ?_
  rotate_left
  · exact rfl
  unfold h146 initS
  simp -implicitDefEqProofs only [rkA, rkB, stepA, valA, simprocAttr, Tryz.ntmps146, Tryz.results146]
  have im : (False → False) = True := by simp
  simp -implicitDefEqProofs only [h0, Int.toNat_natCast, g1, ne, s1, s2, im, addr_add, rkA, rkB, stepA, valA, simprocAttr]
  have hl : (rowM w M k).length = w := rowM_length _ _ _
  have hx : Tell m (.s (.slice (some ⟨c k, k * 3, none⟩) (w - k) (cap k - k))) (.sl false (frs (xF w M k))) := by
    have := tell_rest (m := m) (b := c k) (cap := cap k) (k := k) (l := rowM w M k) (hm.row k hkn) (by omega) (by omega)
    rwa [hl] at this
  have lx := xF_len (w := w) (k := k) M
  refine lend_fn rfl rfl (.cons hx (.cons hx .nil)) (ok97 false false _ _ (by omega) (by omega)) rfl ?_
  simp -implicitDefEqProofs only [rkA, rkB, stepA, valA, simprocAttr]
  refine call_meth rfl rfl methRoot (ok270 _) ?_
  have hw0 : (0 < ((w - k : Nat) : Int)) = True := by simp; omega
  have hrk := hm.row k hkn
  have hld := ldM_frj (post := jnk (q k)) (rowM_get (n := w) (M := M) (i := k) (k := k) (by omega))
  simp -implicitDefEqProofs only [hw0, Nat.add_zero, hrk, hld, rkA, rkB, stepA, valA, simprocAttr]
  refine call_meth rfl rfl methSign (ok271 _) ?_
  simp -implicitDefEqProofs only [rkA, rkB, stepA, valA, simprocAttr]
  refine gB_dec ?_ ?_ <;> intro hs <;> simp -implicitDefEqProofs only [hs, rkA, rkB, stepA, valA, simprocAttr]
  rotate_left
  have hp : rootF (dotF (xF w M k) (xF w M k)) = normF w M k := (if_neg hs).symm
  simp -implicitDefEqProofs only [hp, rkA, rkB, stepA, valA, simprocAttr]
  rotate_left
  refine call_meth rfl rfl methNeg (ok268 _) ?_
  have hp : negF (rootF (dotF (xF w M k) (xF w M k))) = normF w M k := (if_pos hs).symm
  simp -implicitDefEqProofs only [hp, rkA, rkB, stepA, valA, simprocAttr]
  all_goals
    refine new_make (T := 24) (N := 3) rfl rfl rfl rfl rfl (by omega) (by omega) (by omega) ?_
    intro b hb
    have hb' : m b = none := hb
    have hcb : ∀ i, i < n → c i ≠ b := fun i hi e => by have := hm.row i hi; rw [e, hb'] at this; cases this
    simp -implicitDefEqProofs only [Int.toNat_natCast, flat_zeros, rkA, rkB, stepA, valA, simprocAttr]
    have hxb := hx.mono (MemLe.put (flat (frs (List.replicate (w - k) (⟨0, 0, false⟩ : Fr)))) hb')
    have lz : (flat (frs (List.replicate (w - k) (⟨0, 0, false⟩ : Fr)))).length = (w - k) * 3 := by rw [flat_length (frs_cells _)]; simp
    have lfx : (flat (frs (xF w M k))).length = (w - k) * 3 := by rw [flat_length (frs_cells _)]; simp [lx]
    refine copy_of rfl rfl hxb (RFs_frs _) (Mem.put_same _ _ _) (frs_ok _) (by simp [lx]) (by rw [lz, lfx]; omega) ?_
    have hdr : (flat (frs (List.replicate (w - k) (⟨0, 0, false⟩ : Fr)))).drop (flat (frs (xF w M k))).length = [] := List.drop_of_length_le (by rw [lz, lfx]; omega)
    have h00 : (0 : Int) < ((w - k : Nat) : Int) := by omega
    have gx0 : (xF w M k)[0]? = some (M k k) := by
      unfold xF
      rw [List.getElem?_drop]
      exact rowM_get (by omega)
    have hl0 := ldM_frj (post := []) (k := 0) gx0
    have hs0 := stM_frj (l := xF w M k) (k := 0) (x := subF (M k k) (normF w M k)) (post := []) (by omega)
    rw [Nat.zero_mul, List.append_nil] at hl0 hs0
    rw [List.append_nil, vF_set (by omega)] at hs0
    simp -implicitDefEqProofs only [hdr, Mem.put_same, h00, hl0, List.length_map, lx, rkA, rkB, stepA, valA, simprocAttr]
    refine call_meth rfl rfl methSub (ok272 _ _) ?_
    simp -implicitDefEqProofs only [Mem.put_same, h00, hs0, rkA, rkB, stepA, valA, simprocAttr]
    have hbm : (((m.put b (flat (frs (List.replicate (w - k) (⟨0, 0, false⟩ : Fr))))).put b (flat (frs (xF w M k)))).put b (flat (frs (vF w M k)))) b = some (flat (frs (vF w M k))) := Mem.put_same _ _ _
    have hM1 : RowsC (((m.put b (flat (frs (List.replicate (w - k) (⟨0, 0, false⟩ : Fr))))).put b (flat (frs (xF w M k)))).put b (flat (frs (vF w M k)))) c q n w (foldTo w M k (k + 1)) :=
      ⟨fun i hi => by
        rw [Mem.put_other _ _ (hcb i hi), Mem.put_other _ _ (hcb i hi), Mem.put_other _ _ (hcb i hi), foldTo_first]
        exact hm.row i hi, hm.inj⟩
    clear hxb hs0 hl0
    generalize ((m.put b _).put b _).put b _ = mm at hbm hM1 ⊢
    have hv : ∀ mm : Mem, mm b = some (flat (frs (vF w M k))) → Tell mm (.s (.slice (some ⟨b, 0, none⟩) (w - k) (w - k))) (.sl false (frs (vF w M k))) := fun mm hbm => by
      have := tell_row (m := mm) (b := b) (cap := w - k) (q := 0) (l := vF w M k) (by rw [hbm, List.replicate_zero, List.append_nil]) (by rw [List.length_map, vF_len]; omega)
      rwa [List.length_map, vF_len] at this
    have lv := vF_len (w := w) (k := k) M
    refine lend_fn rfl rfl (.cons (hv mm hbm) (.cons (hv mm hbm) .nil)) (ok97 false false _ _ (by omega) (by omega)) rfl ?_
    have hw1 := wrapped (x := ((k + 1 : Nat) : Int)) (by omega) (by omega)
    have hk1 : (k : Int) + 1 = ((k + 1 : Nat) : Int) := by simp
    simp -implicitDefEqProofs only [hw1, hk1, rkA, rkB, stepA, valA, simprocAttr]
    refine wp_loop (fun m s => ∃ (i : Nat) (mm : Mem), k < i ∧ i + m = n ∧ RowsC mm c q n w (foldTo w M k i) ∧ mm b = some (flat (frs (vF w M k))) ∧ s = ⟨[.v (.sl ex ((List.range n).map (rawC c cap w))), .v (num k), jk, jk, .v (.s (.slice (some ⟨c k, k * 3, none⟩) (w - k) (cap k - k))), .ptr 5 0, .v (.s (.slice (some ⟨b, 0, none⟩) (w - k) (w - k))), .ptr 7 0, nt i, jk, jk, jk, jk, jk, jk, jk, jk, jk, jk, jk, jk, jk, jk, jk, jk, jk, jk, jk, jk, jk, jk, jk, jk, jk, jk, jk, jk, jk, jk, jk, jk, jk, jk, jk, jk, jk, jk, jk, jk, jk, jk, jk, jk, jk, jk, jk, jk, jk, jk, jk, jk, jk, jk, jk, jk, jk, jk, jk, jk, jk, jk, jk, jk, jk, jk, jk, jk, jk, jk, jk, jk, jk, jk, jk, jk, jk, jk, jk, jk, jk, jk, jk, jk, jk, jk],
      [(5, [.v (num (normF w M k).n), .v (num (normF w M k).d), .v (tru (normF w M k).bad)]), (7, [.v (num (dotF (vF w M k) (vF w M k)).n), .v (num (dotF (vF w M k) (vF w M k)).d), .v (tru (dotF (vF w M k) (vF w M k)).bad)])], [], [], [], 0, mm⟩) (n - (k + 1)) ?_ ?_
    · simp -implicitDefEqProofs only [rkA, rkB, stepA, valA, simprocAttr]
      exact ⟨k + 1, mm, by omega, by omega, hM1, hbm, rfl⟩
    clear hM1 hbm mm
    rintro m' s ⟨i, mm, hki, him, hM, hbm, rfl⟩
    have li : ((List.range n).map (rawC c cap w)).length = n := by simp
    simp -implicitDefEqProofs only [li, rkA, rkB, stepA, valA, simprocAttr]
    refine gB_dec ?_ ?_ <;> intro hc <;> simp -implicitDefEqProofs only [hc, rkA, rkB, stepA, valA, simprocAttr]
    · have hi : i < n := by omega
      have h0i : (0 : Int) ≤ (i : Int) := by omega
      have gi : ((List.range n).map (rawC c cap w))[i]? = some (rawC c cap w i) := by simp [hi]
      have ci := hcap i hi
      have nei : (cap i = k) = False := by simp; omega
      have s2i : (w ≤ cap i) = True := by simp; omega
      simp -implicitDefEqProofs only [h0i, h0, Int.toNat_natCast, gi, nei, s1, s2i, im, addr_add, rkA, rkB, stepA, valA, simprocAttr]
      have hri := hM.row i hi
      rw [foldTo_row] at hri
      have hli : (rowM w M i).length = w := rowM_length _ _ _
      have hxi := tell_rest (m := mm) (b := c i) (cap := cap i) (k := k) (l := rowM w M i) hri (by omega) (by omega)
      rw [hli] at hxi
      have hdl : ((rowM w M i).drop k).length = w - k := by rw [List.length_drop, hli]
      refine lend_fn rfl rfl (.cons hxi (.cons (hv mm hbm) .nil)) (ok97 false false _ _ (by omega) (by omega)) rfl ?_
      simp -implicitDefEqProofs only [rkA, rkB, stepA, valA, simprocAttr]
      refine call_meth rfl rfl methAdd (ok264 _ _) ?_
      simp -implicitDefEqProofs only [rkA, rkB, stepA, valA, simprocAttr]
      refine call_meth rfl rfl methDiv (ok265 _ _) ?_
      have et : divF (addF (dotF ((rowM w M i).drop k) (vF w M k)) (dotF ((rowM w M i).drop k) (vF w M k))) (dotF (vF w M k) (vF w M k)) = tF w M k i := rfl
      simp -implicitDefEqProofs only [et, rkA, rkB, stepA, valA, simprocAttr]
      have ne2 : frs ((vF w M k).map (mulF · (tF w M k i))) ≠ [] := fun h => by
        have := congrArg List.length h
        simp only [List.length_map, lv, List.length_nil] at this
        omega
      have ne3 : frs (List.zipWith subF ((rowM w M i).drop k) ((vF w M k).map (mulF · (tF w M k i)))) ≠ [] := fun h => by
        have := congrArg List.length h
        simp only [List.length_map, List.length_zipWith, lv, hdl, List.length_nil] at this
        omega
      refine newRow_fn rfl rfl (.cons (hv mm hbm) (.cons (.same _) .nil)) (okn101 false _ _ (by omega)) (RFs_frs _) ne2 ?_
      intro b2 cap2 q2 hb2 hcap2
      have hb2' : mm b2 = none := hb2
      simp -implicitDefEqProofs only [rkA, rkB, stepA, valA, simprocAttr]
      refine newRow_fn rfl rfl (.cons (hxi.mono (MemLe.put _ hb2')) (.cons (tell_row (Mem.put_same _ _ _) hcap2) .nil)) (okn172 false false _ _ (by omega) (by rw [List.length_map]; omega) (by omega) (by rw [List.length_map]; omega)) (RFs_frs _) ne3 ?_
      intro b3 cap3 q3 hb3 hcap3
      simp -implicitDefEqProofs only [rkA, rkB, stepA, valA, simprocAttr]
      have hb3' : (mm.put b2 (flat (frs ((vF w M k).map (mulF · (tF w M k i)))) ++ List.replicate q2 .junk)) b3 = none := hb3
      have hle : ∀ x y, mm x = some y → ((mm.put b2 (flat (frs ((vF w M k).map (mulF · (tF w M k i)))) ++ List.replicate q2 .junk)).put b3 (flat (frs (List.zipWith subF ((rowM w M i).drop k) ((vF w M k).map (mulF · (tF w M k i))))) ++ List.replicate q3 PV.junk)) x = some y := fun x y h =>
        MemLe.put _ hb3' _ _ (MemLe.put _ hb2' _ _ h)
      have hrow3 : ((mm.put b2 (flat (frs ((vF w M k).map (mulF · (tF w M k i)))) ++ List.replicate q2 .junk)).put b3 (flat (frs (List.zipWith subF ((rowM w M i).drop k) ((vF w M k).map (mulF · (tF w M k i))))) ++ List.replicate q3 PV.junk)) b3 = some (flat (frs (List.zipWith subF ((rowM w M i).drop k) ((vF w M k).map (mulF · (tF w M k i))))) ++ List.replicate q3 PV.junk) := Mem.put_same _ _ _
      clear hb2 hb3 hb2' hb3' hxi
      generalize ((mm.put b2 _).put b3 _) = mm2 at hle hrow3 ⊢
      have hM2 : RowsC mm2 c q n w (foldTo w M k i) := ⟨fun a ha => hle _ _ (hM.row a ha), hM.inj⟩
      have hbm2 := hle _ _ hbm
      have hri2 := hle _ _ hri
      have lz : (List.zipWith subF ((rowM w M i).drop k) ((vF w M k).map (mulF · (tF w M k i)))).length = w - k := by rw [List.length_zipWith, List.length_map, hdl, lv, Nat.min_self]
      have lfz : (flat (frs (List.zipWith subF ((rowM w M i).drop k) ((vF w M k).map (mulF · (tF w M k i)))))).length = (w - k) * 3 := by rw [flat_length (frs_cells _), List.length_map, lz]
      have lfr : (flat (frs (rowM w M i))).length = w * 3 := by rw [flat_length (frs_cells _), List.length_map, hli]
      refine copy_of rfl rfl (tell_row hrow3 hcap3) (RFs_frs _) hri2 (frs_ok _) (by rw [List.length_map, lz]; omega) (by rw [List.length_append, lfz, lfr]; omega) ?_
      have hcells : (flat (frs (rowM w M i)) ++ jnk (q i)).take (k * 3) ++ flat (frs (List.zipWith subF ((rowM w M i).drop k) ((vF w M k).map (mulF · (tF w M k i))))) ++ (flat (frs (rowM w M i)) ++ jnk (q i)).drop (k * 3 + (flat (frs (List.zipWith subF ((rowM w M i).drop k) ((vF w M k).map (mulF · (tF w M k i)))))).length) = flat (frs (rowM w (foldTo w M k (i + 1)) i)) ++ jnk (q i) := by
        rw [flat_frs_take _ (by omega), lfz, ← flat_append, ← List.map_append, row_fold hki, show k * 3 + (w - k) * 3 = w * 3 by omega, ← lfr, List.drop_left]
      have hM3 := hM2.fold hi hki
      have hcb2 := hcb i hi
      have hbm3 : (mm2.put (c i) (flat (frs (rowM w (foldTo w M k (i + 1)) i)) ++ jnk (q i))) b = some (flat (frs (vF w M k))) := by rw [Mem.put_other _ _ (fun e => hcb2 e.symm)]; exact hbm2
      have hw2 := wrapped (x := (i : Int) + 1) (by omega) (by omega)
      simp -implicitDefEqProofs only [hcells, hw2, rkA, rkB, stepA, valA, simprocAttr]
      refine loopK_of (m' := m' - 1) (by omega) ?_
      simp -implicitDefEqProofs only [rkA, rkB, stepA, valA, simprocAttr]
      exact ⟨i + 1, _, by omega, by omega, hM3, hbm3, by simp only [Int.natCast_add, Int.natCast_one]⟩
    · have hin : i = n := by omega
      subst hin
      have hM0 : RowsC mm c q i w (foldZ w M k i 0) := hM.congr fun a j ha hj => by
        unfold foldZ
        by_cases e : a = k
        · subst e
          rw [if_pos rfl, if_neg (by omega)]
          unfold foldTo
          rw [if_neg (by omega)]
        · rw [if_neg e]
      clear hM hbm
      refine wp_loop (fun m s => ∃ (z : Nat) (mm : Mem), z + m = w - k ∧ RowsC mm c q i w (foldZ w M k i z) ∧ s = ⟨[jk, jk, jk, jk, .v (.s (.slice (some ⟨c k, k * 3, none⟩) (w - k) (cap k - k))), .ptr 5 0, jk, jk, jk, jk, jk, jk, jk, jk, jk, jk, jk, jk, jk, jk, jk, jk, jk, jk, jk, jk, jk, jk, jk, jk, jk, jk, jk, jk, jk, jk, jk, jk, jk, jk, jk, jk, jk, jk, jk, jk, jk, jk, jk, jk, jk, jk, jk, jk, jk, jk, jk, jk, jk, jk, jk, jk, jk, jk, jk, jk, jk, jk, jk, jk, jk, jk, jk, jk, jk, jk, jk, jk, jk, jk, jk, nt ((w - k : Nat) : Int), nt z, jk, jk, jk, jk, jk, jk, jk, jk, jk, jk, jk, jk],
        [(5, [.v (num (normF w M k).n), .v (num (normF w M k).d), .v (tru (normF w M k).bad)]), (7, [.v (num (dotF (vF w M k) (vF w M k)).n), .v (num (dotF (vF w M k) (vF w M k)).d), .v (tru (dotF (vF w M k) (vF w M k)).bad)])], [], [], [], 0, mm⟩) (w - k) ?_ ?_
      · simp -implicitDefEqProofs only [rkA, rkB, stepA, valA, simprocAttr]
        exact ⟨0, mm, by omega, hM0, rfl⟩
      clear hM0 mm
      rintro m' s ⟨z, mm, hzm, hM, rfl⟩
      simp -implicitDefEqProofs only [rkA, rkB, stepA, valA, simprocAttr]
      refine gB_dec ?_ ?_ <;> intro hc2 <;> simp -implicitDefEqProofs only [hc2, rkA, rkB, stepA, valA, simprocAttr]
      · refine call_meth rfl rfl methOf (ok269 _ 0) ?_
        have h0z : (0 : Int) ≤ (z : Int) := by omega
        have hrz := hM.row k hkn
        have hst := stM_frj (l := rowM w (foldZ w M k i z) k) (k := k + z) (x := newF 0 1) (post := jnk (q k)) (by rw [rowM_length]; omega)
        rw [Nat.add_mul] at hst
        have hsto := hM.store hkn (show k + z < w by omega) (newF 0 1)
        have hw2 := wrapped (x := (z : Int) + 1) (by omega) (by omega)
        simp -implicitDefEqProofs only [h0z, hc2, Int.toNat_natCast, addr_add, hrz, hst, hw2, rkA, rkB, stepA, valA, simprocAttr]
        refine loopK_of (m' := m' - 1) (by omega) ?_
        simp -implicitDefEqProofs only [rkA, rkB, stepA, valA, simprocAttr]
        rw [foldZ_step] at hsto
        exact ⟨z + 1, _, by omega, hsto, by simp only [Int.natCast_add, Int.natCast_one]⟩
      · have hz : z = w - k := by omega
        subst hz
        have hrz := hM.row k hkn
        have hst := stM_frj (l := rowM w (foldZ w M k i (w - k)) k) (k := k) (x := normF w M k) (post := jnk (q k)) (by rw [rowM_length]; omega)
        have hsto := hM.store hkn (show k < w by omega) (normF w M k)
        simp -implicitDefEqProofs only [hw0, Nat.add_zero, addr_add, hrz, hst, rkA, rkB, stepA, valA, simprocAttr]
        refine ⟨_, rfl, hsto.congr fun a j ha hj => ?_⟩
        unfold setM foldZ foldF
        by_cases e : a = k
        · subst e
          by_cases e2 : j = a
          · subst e2
            rw [if_pos ⟨rfl, rfl⟩, if_pos rfl, if_neg (by omega), if_pos rfl]
          · rw [if_neg (fun h => e2 h.2), if_pos rfl, if_pos rfl, if_neg e2]
            by_cases h : j < a
            · rw [if_neg (by omega), if_pos h]
            · rw [if_pos (by omega), if_neg h]
        · rw [if_neg (fun h => e h.1), if_neg e, if_neg e]
end Go.Proofs.YtambpjbpdackfaaGreat.A


set_option linter.unusedVariables false
set_option linter.unusedSimpArgs false
set_option maxRecDepth 100000
namespace Go.Proofs.YtambpjbpdackfaaGreat.A.E
open Go Go.RowKit Go.Shelf

structure RowsC (m : Mem) (c q : Nat → Nat) (n w : Nat) (M : Nat → Nat → Fr) : Prop where
  row : ∀ i, i < n → m (c i) = some (flat (frs (rowM w M i)) ++ jnk (q i))
  inj : ∀ i j, i < n → j < n → c i = c j → i = j
theorem flat_frs_drop {l : List Fr} {k : Nat} (post : List PV) (h : k ≤ l.length) : (flat (frs l) ++ post).drop (k * 4) = flat (frs (l.drop k)) ++ post := by
  have e : frs l = frs (l.take k) ++ frs (l.drop k) := by rw [← List.map_append, List.take_append_drop]
  have hl : (flat (frs (l.take k))).length = k * 4 := by
    rw [flat_length (frs_cells _), List.length_map, List.length_take, Nat.min_eq_left h]
  rw [e, flat_append, List.append_assoc, ← hl, List.drop_left]
theorem flat_frs_take {l : List Fr} {k : Nat} (post : List PV) (h : k ≤ l.length) : (flat (frs l) ++ post).take (k * 4) = flat (frs (l.take k)) := by
  have e : frs l = frs (l.take k) ++ frs (l.drop k) := by rw [← List.map_append, List.take_append_drop]
  have hl : (flat (frs (l.take k))).length = k * 4 := by
    rw [flat_length (frs_cells _), List.length_map, List.length_take, Nat.min_eq_left h]
  conv => lhs; rw [e, flat_append, List.append_assoc, ← hl, List.take_left]
/-- The rest of a row in memory, told as a value. -/
theorem tell_rest {m : Mem} {b cap k : Nat} {l : List Fr} {post : List PV} (hm : m b = some (flat (frs l) ++ post)) (hk : k ≤ l.length) (hc : l.length ≤ cap) : Tell m (.s (.slice (some ⟨b, k * 4, none⟩) (l.length - k) (cap - k))) (.sl false (frs (l.drop k))) := by
  have hd := flat_frs_drop (l := l) (k := k) post hk
  have hl3 : (flat (frs (l.drop k))).length = (l.length - k) * 4 := by rw [flat_length (frs_cells _), List.length_map, List.length_drop]
  refine .row hm (frs_cells _) (by simp) ?_ (by omega) (fun h => by cases h) ?_
  · rw [List.length_append, hl3, flat_length (frs_cells _), List.length_map, Nat.sub_mul]
    have : k * 4 ≤ l.length * 4 := Nat.mul_le_mul_right _ hk
    omega
  · rw [hd, List.take_left]
    exact Tells.same _ _

theorem ldM_frj {l : List Fr} {k : Nat} {x : Fr} {post : List PV} (h : l[k]? = some x) : ldM true 4 (k * 4) (flat (frs l) ++ post) = some (.v (frV x)) :=
  ldM_elem (els := frs l) (sz := 4) (k := k) (e := frV x) (frs_cells l) (by simp [h]) post
theorem stM_frj {l : List Fr} {k : Nat} {x : Fr} {post : List PV} (h : k < l.length) : stM 4 (k * 4) (flat (frs l) ++ post) (frV x) = some (flat (frs (l.set k x)) ++ post) := by
  have := stM_elem (els := frs l) (sz := 4) (k := k) (e := frV x) (frs_cells l) (by simpa using h) rfl rfl post
  rw [this]
  simp [frs, List.map_set]
theorem frs_ok (l : List Fr) : (frs l).all (fun e => e.ok && e.cells.length == 4) = true := by
  rw [List.all_eq_true]
  intro e he
  obtain ⟨x, _, rfl⟩ := List.mem_map.1 he
  rfl
theorem methSign : Meth Tryz.prog 28 "Sign" 253 := by
  intro v xs w
  rfl
theorem methNeg : Meth Tryz.prog 28 "Neg" 251 := by
  intro v xs w
  rfl

def xF (w : Nat) (M : Nat → Nat → Fr) (k : Nat) : List Fr := (rowM w M k).drop k
def normF (w : Nat) (M : Nat → Nat → Fr) (k : Nat) : Fr := if 0 ≤ signF (M k k) then negF (rootF (dotF (xF w M k) (xF w M k))) else rootF (dotF (xF w M k) (xF w M k))
def vA (w : Nat) (M : Nat → Nat → Fr) (k c : Nat) : Fr := if c = k then subF (M k k) (normF w M k) else M k c
def vF (w : Nat) (M : Nat → Nat → Fr) (k : Nat) : List Fr := ((List.range w).map (vA w M k)).drop k
def tF (w : Nat) (M : Nat → Nat → Fr) (k i : Nat) : Fr := divF (addF (dotF ((rowM w M i).drop k) (vF w M k)) (dotF ((rowM w M i).drop k) (vF w M k))) (dotF (vF w M k) (vF w M k))
def foldTo (w : Nat) (M : Nat → Nat → Fr) (k j : Nat) : Nat → Nat → Fr := fun a c => if k < a ∧ a < j ∧ k ≤ c then subF (M a c) (mulF (vA w M k c) (tF w M k a)) else M a c
/-- Row k's first numbers are noughts: so many of them. -/
def foldZ (w : Nat) (M : Nat → Nat → Fr) (k n z : Nat) : Nat → Nat → Fr := fun a c => if a = k then (if k ≤ c ∧ c < k + z then newF 0 1 else M k c) else foldTo w M k n a c
def foldF (w : Nat) (M : Nat → Nat → Fr) (k n : Nat) : Nat → Nat → Fr := fun a c => if a = k then (if c < k then M k c else if c = k then normF w M k else newF 0 1) else foldTo w M k n a c
theorem vF_set {w k : Nat} (hk : k < w) (M : Nat → Nat → Fr) : (xF w M k).set 0 (subF (M k k) (normF w M k)) = vF w M k := by
  unfold xF vF rowM
  apply List.ext_getElem?
  intro j
  rw [List.getElem?_set]
  by_cases hj : k + j < w
  · by_cases e : 0 = j
    · subst e
      rw [if_pos rfl, if_pos (by simp; omega)]
      simp [vA, hk]
    · rw [if_neg e]
      simp only [List.getElem?_drop, List.getElem?_map, List.getElem?_range hj, Option.map_some, vA]
      rw [if_neg (by omega)]
  · rw [if_neg (by omega), List.getElem?_eq_none (by simp; omega), List.getElem?_eq_none (by simp; omega)]
theorem vF_len {w k : Nat} (M : Nat → Nat → Fr) : (vF w M k).length = w - k := by simp [vF]
theorem xF_len {w k : Nat} (M : Nat → Nat → Fr) : (xF w M k).length = w - k := by simp [xF, rowM_length]
/-- One row folded. -/
theorem foldTo_row (w : Nat) (M : Nat → Nat → Fr) (k i : Nat) : rowM w (foldTo w M k i) i = rowM w M i := by
  unfold rowM
  refine List.map_congr_left fun j _ => ?_
  unfold foldTo
  rw [if_neg (by omega)]
theorem row_fold {w k i : Nat} (hki : k < i) (M : Nat → Nat → Fr) : (rowM w M i).take k ++ List.zipWith subF ((rowM w M i).drop k) ((vF w M k).map (mulF · (tF w M k i))) = rowM w (foldTo w M k (i + 1)) i := by
  apply List.ext_getElem?
  intro j
  by_cases hj : j < w
  · rw [rowM_get hj]
    by_cases hjk : j < k
    · rw [List.getElem?_append_left (by rw [List.length_take, rowM_length]; omega), List.getElem?_take_of_lt hjk, rowM_get hj]
      unfold foldTo
      rw [if_neg (by omega)]
    · have hl : ((rowM w M i).take k).length = k := by rw [List.length_take, rowM_length]; omega
      rw [List.getElem?_append_right (by omega), hl, List.getElem?_zipWith]
      simp only [vF, List.getElem?_map, List.getElem?_drop, show k + (j - k) = j by omega, rowM_get hj, List.getElem?_range hj, Option.map_some]
      unfold foldTo
      rw [if_pos (by omega)]
  · rw [List.getElem?_eq_none (by simp [rowM_length, vF_len]; omega), List.getElem?_eq_none (by rw [rowM_length]; omega)]
/-- One row more is folded. -/
theorem RowsC.fold {mm : Mem} {c q : Nat → Nat} {n w k i : Nat} {M : Nat → Nat → Fr} (h : RowsC mm c q n w (foldTo w M k i)) (hi : i < n) (hki : k < i) :
    RowsC (mm.put (c i) (flat (frs (rowM w (foldTo w M k (i + 1)) i)) ++ jnk (q i))) c q n w (foldTo w M k (i + 1)) := ⟨fun a ha => by
  by_cases e : a = i
  · subst e
    rw [Mem.put_same]
  · rw [Mem.put_other _ _ (fun e' => e (h.inj a i ha hi e')), h.row a ha]
    congr 3
    unfold rowM
    congr 1
    refine List.map_congr_left fun j _ => ?_
    unfold foldTo
    by_cases h1 : k < a ∧ a < i ∧ k ≤ j
    · rw [if_pos h1, if_pos (by omega)]
    · rw [if_neg h1, if_neg (by omega)], h.inj⟩
theorem foldTo_first (w : Nat) (M : Nat → Nat → Fr) (k : Nat) : foldTo w M k (k + 1) = M := by
  funext a c
  unfold foldTo
  rw [if_neg (by omega)]
theorem RowsC.congr {mm : Mem} {c q : Nat → Nat} {n w : Nat} {M N : Nat → Nat → Fr} (h : RowsC mm c q n w M) (hMN : ∀ a j, a < n → j < w → M a j = N a j) : RowsC mm c q n w N := ⟨fun a ha => by
  have e : rowM w N a = rowM w M a := by
    unfold rowM
    exact List.map_congr_left fun j hj => (hMN a j ha (List.mem_range.1 hj)).symm
  rw [e]
  exact h.row a ha, h.inj⟩
theorem RowsC.store {mm : Mem} {c q : Nat → Nat} {n w : Nat} {M : Nat → Nat → Fr} (h : RowsC mm c q n w M) {i k : Nat} (hi : i < n) (hk : k < w) (x : Fr) :
    RowsC (mm.put (c i) (flat (frs ((rowM w M i).set k x)) ++ jnk (q i))) c q n w (setM M i k x) := ⟨fun j hj => by
  by_cases e : j = i
  · subst e
    rw [Mem.put_same, rowM_set hk]
  · rw [Mem.put_other _ _ (fun e' => e (h.inj j i hj hi e')), rowM_other e]
    exact h.row j hj, h.inj⟩
theorem foldZ_step (w : Nat) (M : Nat → Nat → Fr) (k n z : Nat) : setM (foldZ w M k n z) k (k + z) (newF 0 1) = foldZ w M k n (z + 1) := by
  funext a j
  unfold setM foldZ
  by_cases e : a = k
  · subst e
    by_cases e2 : j = a + z
    · subst e2
      rw [if_pos ⟨rfl, rfl⟩, if_pos rfl, if_pos ⟨by omega, by omega⟩]
    · rw [if_neg (fun h => e2 h.2), if_pos rfl, if_pos rfl]
      by_cases h : a ≤ j ∧ j < a + z
      · rw [if_pos h, if_pos (by omega)]
      · rw [if_neg h, if_neg (by omega)]
  · rw [if_neg (fun h => e h.1), if_neg e, if_neg e]
set_option maxHeartbeats 4000000 in
theorem okm76 (ex : Bool) (n w k : Nat) (hkn : k < n) (hnw : n ≤ w) (hw : w ≤ 16) (M : Nat → Nat → Fr) (c cap q : Nat → Nat) (hcap : ∀ i, i < n → w ≤ cap i) (m : Mem) (hm : RowsC m c q n w M) :
    OkM Tryz.prog 76 [.sl ex ((List.range n).map (rawC c cap w)), num k] m (fun _ m' => RowsC m' c q n w (foldF w M k n)) := by
  have h0 : (0 : Int) ≤ (k : Int) := by omega
  have g1 : ((List.range n).map (rawC c cap w))[k]? = some (rawC c cap w k) := by simp [hkn]
  have ck := hcap k hkn
  have ne : (cap k = k) = False := by simp; omega
  have s1 : (k ≤ w) = True := by simp; omega
  have s2 : (w ≤ cap k) = True := by simp; omega
  refine okm_fn mixed Tryz.func76 (code := ?_) (h := h76) ?_ k76 ?_
  rotate_left
  · exact rfl
  unfold h76 initS
  simp -implicitDefEqProofs only [rkA, rkB, stepA, valA, simprocAttr, Tryz.ntmps76, Tryz.results76]
  have im : (False → False) = True := by simp
  simp -implicitDefEqProofs only [h0, Int.toNat_natCast, g1, ne, s1, s2, im, addr_add, rkA, rkB, stepA, valA, simprocAttr]
  have hl : (rowM w M k).length = w := rowM_length _ _ _
  have hx : Tell m (.s (.slice (some ⟨c k, k * 4, none⟩) (w - k) (cap k - k))) (.sl false (frs (xF w M k))) := by
    have := tell_rest (m := m) (b := c k) (cap := cap k) (k := k) (l := rowM w M k) (hm.row k hkn) (by omega) (by omega)
    rwa [hl] at this
  have lx := xF_len (w := w) (k := k) M
  refine lend_fn rfl rfl (.cons hx (.cons hx .nil)) (ok151 false false _ _ (by omega) (by omega)) rfl ?_
  simp -implicitDefEqProofs only [rkA, rkB, stepA, valA, simprocAttr]
  refine call_meth rfl rfl methRoot (ok252 _) ?_
  have hw0 : (0 < ((w - k : Nat) : Int)) = True := by simp; omega
  have hrk := hm.row k hkn
  have hld := ldM_frj (post := jnk (q k)) (rowM_get (n := w) (M := M) (i := k) (k := k) (by omega))
  simp -implicitDefEqProofs only [hw0, Nat.add_zero, hrk, hld, rkA, rkB, stepA, valA, simprocAttr]
  refine call_meth rfl rfl methSign (ok253 _) ?_
  simp -implicitDefEqProofs only [rkA, rkB, stepA, valA, simprocAttr]
  refine gB_dec ?_ ?_ <;> intro hs <;> simp -implicitDefEqProofs only [hs, rkA, rkB, stepA, valA, simprocAttr]
  rotate_left
  have hp : rootF (dotF (xF w M k) (xF w M k)) = normF w M k := (if_neg hs).symm
  simp -implicitDefEqProofs only [hp, rkA, rkB, stepA, valA, simprocAttr]
  rotate_left
  refine call_meth rfl rfl methNeg (ok251 _) ?_
  have hp : negF (rootF (dotF (xF w M k) (xF w M k))) = normF w M k := (if_pos hs).symm
  simp -implicitDefEqProofs only [hp, rkA, rkB, stepA, valA, simprocAttr]
  all_goals
    refine new_make (T := 32) (N := 4) rfl rfl rfl rfl rfl (by omega) (by omega) (by omega) ?_
    intro b hb
    have hb' : m b = none := hb
    have hcb : ∀ i, i < n → c i ≠ b := fun i hi e => by have := hm.row i hi; rw [e, hb'] at this; cases this
    simp -implicitDefEqProofs only [Int.toNat_natCast, flat_zeros, rkA, rkB, stepA, valA, simprocAttr]
    have hxb := hx.mono (MemLe.put (flat (frs (List.replicate (w - k) (⟨0, 0, 0, false⟩ : Fr)))) hb')
    have lz : (flat (frs (List.replicate (w - k) (⟨0, 0, 0, false⟩ : Fr)))).length = (w - k) * 4 := by rw [flat_length (frs_cells _)]; simp
    have lfx : (flat (frs (xF w M k))).length = (w - k) * 4 := by rw [flat_length (frs_cells _)]; simp [lx]
    refine copy_of rfl rfl hxb (RFs_frs _) (Mem.put_same _ _ _) (frs_ok _) (by simp [lx]) (by rw [lz, lfx]; omega) ?_
    have hdr : (flat (frs (List.replicate (w - k) (⟨0, 0, 0, false⟩ : Fr)))).drop (flat (frs (xF w M k))).length = [] := List.drop_of_length_le (by rw [lz, lfx]; omega)
    have h00 : (0 : Int) < ((w - k : Nat) : Int) := by omega
    have gx0 : (xF w M k)[0]? = some (M k k) := by
      unfold xF
      rw [List.getElem?_drop]
      exact rowM_get (by omega)
    have hl0 := ldM_frj (post := []) (k := 0) gx0
    have hs0 := stM_frj (l := xF w M k) (k := 0) (x := subF (M k k) (normF w M k)) (post := []) (by omega)
    rw [Nat.zero_mul, List.append_nil] at hl0 hs0
    rw [List.append_nil, vF_set (by omega)] at hs0
    simp -implicitDefEqProofs only [hdr, Mem.put_same, h00, hl0, List.length_map, lx, rkA, rkB, stepA, valA, simprocAttr]
    refine call_meth rfl rfl methSub (ok254 _ _) ?_
    simp -implicitDefEqProofs only [Mem.put_same, h00, hs0, rkA, rkB, stepA, valA, simprocAttr]
    have hbm : (((m.put b (flat (frs (List.replicate (w - k) (⟨0, 0, 0, false⟩ : Fr))))).put b (flat (frs (xF w M k)))).put b (flat (frs (vF w M k)))) b = some (flat (frs (vF w M k))) := Mem.put_same _ _ _
    have hM1 : RowsC (((m.put b (flat (frs (List.replicate (w - k) (⟨0, 0, 0, false⟩ : Fr))))).put b (flat (frs (xF w M k)))).put b (flat (frs (vF w M k)))) c q n w (foldTo w M k (k + 1)) :=
      ⟨fun i hi => by
        rw [Mem.put_other _ _ (hcb i hi), Mem.put_other _ _ (hcb i hi), Mem.put_other _ _ (hcb i hi), foldTo_first]
        exact hm.row i hi, hm.inj⟩
    clear hxb hs0 hl0
    generalize ((m.put b _).put b _).put b _ = mm at hbm hM1 ⊢
    have hv : ∀ mm : Mem, mm b = some (flat (frs (vF w M k))) → Tell mm (.s (.slice (some ⟨b, 0, none⟩) (w - k) (w - k))) (.sl false (frs (vF w M k))) := fun mm hbm => by
      have := tell_row (m := mm) (b := b) (cap := w - k) (q := 0) (l := vF w M k) (by rw [hbm, List.replicate_zero, List.append_nil]) (by rw [List.length_map, vF_len]; omega)
      rwa [List.length_map, vF_len] at this
    have lv := vF_len (w := w) (k := k) M
    refine lend_fn rfl rfl (.cons (hv mm hbm) (.cons (hv mm hbm) .nil)) (ok151 false false _ _ (by omega) (by omega)) rfl ?_
    have hw1 := wrapped (x := ((k + 1 : Nat) : Int)) (by omega) (by omega)
    have hk1 : (k : Int) + 1 = ((k + 1 : Nat) : Int) := by simp
    simp -implicitDefEqProofs only [hw1, hk1, rkA, rkB, stepA, valA, simprocAttr]
    refine wp_loop (fun m s => ∃ (i : Nat) (mm : Mem), k < i ∧ i + m = n ∧ RowsC mm c q n w (foldTo w M k i) ∧ mm b = some (flat (frs (vF w M k))) ∧ s = ⟨[.v (.sl ex ((List.range n).map (rawC c cap w))), .v (num k), jk, jk, .v (.s (.slice (some ⟨c k, k * 4, none⟩) (w - k) (cap k - k))), .ptr 5 0, .v (.s (.slice (some ⟨b, 0, none⟩) (w - k) (w - k))), .ptr 7 0, nt i, jk, jk, jk, jk, jk, jk, jk, jk, jk, jk, jk, jk, jk, jk, jk, jk, jk, jk, jk, jk, jk, jk, jk, jk, jk, jk, jk, jk, jk, jk, jk, jk, jk, jk, jk, jk, jk, jk, jk, jk, jk, jk, jk, jk, jk, jk, jk, jk, jk, jk, jk, jk, jk, jk, jk, jk, jk, jk, jk, jk, jk, jk, jk, jk, jk, jk, jk, jk, jk, jk, jk, jk, jk, jk, jk, jk, jk, jk, jk, jk, jk, jk, jk, jk, jk, jk],
      [(5, [.v (num (normF w M k).v), .v (num (normF w M k).lo), .v (num (normF w M k).hi), .v (tru (normF w M k).bad)]), (7, [.v (num (dotF (vF w M k) (vF w M k)).v), .v (num (dotF (vF w M k) (vF w M k)).lo), .v (num (dotF (vF w M k) (vF w M k)).hi), .v (tru (dotF (vF w M k) (vF w M k)).bad)])], [], [], [], 0, mm⟩) (n - (k + 1)) ?_ ?_
    · simp -implicitDefEqProofs only [rkA, rkB, stepA, valA, simprocAttr]
      exact ⟨k + 1, mm, by omega, by omega, hM1, hbm, rfl⟩
    clear hM1 hbm mm
    rintro m' s ⟨i, mm, hki, him, hM, hbm, rfl⟩
    have li : ((List.range n).map (rawC c cap w)).length = n := by simp
    simp -implicitDefEqProofs only [li, rkA, rkB, stepA, valA, simprocAttr]
    refine gB_dec ?_ ?_ <;> intro hc <;> simp -implicitDefEqProofs only [hc, rkA, rkB, stepA, valA, simprocAttr]
    · have hi : i < n := by omega
      have h0i : (0 : Int) ≤ (i : Int) := by omega
      have gi : ((List.range n).map (rawC c cap w))[i]? = some (rawC c cap w i) := by simp [hi]
      have ci := hcap i hi
      have nei : (cap i = k) = False := by simp; omega
      have s2i : (w ≤ cap i) = True := by simp; omega
      simp -implicitDefEqProofs only [h0i, h0, Int.toNat_natCast, gi, nei, s1, s2i, im, addr_add, rkA, rkB, stepA, valA, simprocAttr]
      have hri := hM.row i hi
      rw [foldTo_row] at hri
      have hli : (rowM w M i).length = w := rowM_length _ _ _
      have hxi := tell_rest (m := mm) (b := c i) (cap := cap i) (k := k) (l := rowM w M i) hri (by omega) (by omega)
      rw [hli] at hxi
      have hdl : ((rowM w M i).drop k).length = w - k := by rw [List.length_drop, hli]
      refine lend_fn rfl rfl (.cons hxi (.cons (hv mm hbm) .nil)) (ok151 false false _ _ (by omega) (by omega)) rfl ?_
      simp -implicitDefEqProofs only [rkA, rkB, stepA, valA, simprocAttr]
      refine call_meth rfl rfl methAdd (ok63 _ _) ?_
      simp -implicitDefEqProofs only [rkA, rkB, stepA, valA, simprocAttr]
      refine call_meth rfl rfl methDiv (ok249 _ _) ?_
      have et : divF (addF (dotF ((rowM w M i).drop k) (vF w M k)) (dotF ((rowM w M i).drop k) (vF w M k))) (dotF (vF w M k) (vF w M k)) = tF w M k i := rfl
      simp -implicitDefEqProofs only [et, rkA, rkB, stepA, valA, simprocAttr]
      have ne2 : frs ((vF w M k).map (mulF · (tF w M k i))) ≠ [] := fun h => by
        have := congrArg List.length h
        simp only [List.length_map, lv, List.length_nil] at this
        omega
      have ne3 : frs (List.zipWith subF ((rowM w M i).drop k) ((vF w M k).map (mulF · (tF w M k i)))) ≠ [] := fun h => by
        have := congrArg List.length h
        simp only [List.length_map, List.length_zipWith, lv, hdl, List.length_nil] at this
        omega
      refine newRow_fn rfl rfl (.cons (hv mm hbm) (.cons (.same _) .nil)) (okn153 false _ _ (by omega)) (RFs_frs _) ne2 ?_
      intro b2 cap2 q2 hb2 hcap2
      have hb2' : mm b2 = none := hb2
      simp -implicitDefEqProofs only [rkA, rkB, stepA, valA, simprocAttr]
      refine newRow_fn rfl rfl (.cons (hxi.mono (MemLe.put _ hb2')) (.cons (tell_row (Mem.put_same _ _ _) hcap2) .nil)) (okn152 false false _ _ (by omega) (by rw [List.length_map]; omega) (by omega) (by rw [List.length_map]; omega)) (RFs_frs _) ne3 ?_
      intro b3 cap3 q3 hb3 hcap3
      simp -implicitDefEqProofs only [rkA, rkB, stepA, valA, simprocAttr]
      have hb3' : (mm.put b2 (flat (frs ((vF w M k).map (mulF · (tF w M k i)))) ++ List.replicate q2 .junk)) b3 = none := hb3
      have hle : ∀ x y, mm x = some y → ((mm.put b2 (flat (frs ((vF w M k).map (mulF · (tF w M k i)))) ++ List.replicate q2 .junk)).put b3 (flat (frs (List.zipWith subF ((rowM w M i).drop k) ((vF w M k).map (mulF · (tF w M k i))))) ++ List.replicate q3 PV.junk)) x = some y := fun x y h =>
        MemLe.put _ hb3' _ _ (MemLe.put _ hb2' _ _ h)
      have hrow3 : ((mm.put b2 (flat (frs ((vF w M k).map (mulF · (tF w M k i)))) ++ List.replicate q2 .junk)).put b3 (flat (frs (List.zipWith subF ((rowM w M i).drop k) ((vF w M k).map (mulF · (tF w M k i))))) ++ List.replicate q3 PV.junk)) b3 = some (flat (frs (List.zipWith subF ((rowM w M i).drop k) ((vF w M k).map (mulF · (tF w M k i))))) ++ List.replicate q3 PV.junk) := Mem.put_same _ _ _
      clear hb2 hb3 hb2' hb3' hxi
      generalize ((mm.put b2 _).put b3 _) = mm2 at hle hrow3 ⊢
      have hM2 : RowsC mm2 c q n w (foldTo w M k i) := ⟨fun a ha => hle _ _ (hM.row a ha), hM.inj⟩
      have hbm2 := hle _ _ hbm
      have hri2 := hle _ _ hri
      have lz : (List.zipWith subF ((rowM w M i).drop k) ((vF w M k).map (mulF · (tF w M k i)))).length = w - k := by rw [List.length_zipWith, List.length_map, hdl, lv, Nat.min_self]
      have lfz : (flat (frs (List.zipWith subF ((rowM w M i).drop k) ((vF w M k).map (mulF · (tF w M k i)))))).length = (w - k) * 4 := by rw [flat_length (frs_cells _), List.length_map, lz]
      have lfr : (flat (frs (rowM w M i))).length = w * 4 := by rw [flat_length (frs_cells _), List.length_map, hli]
      refine copy_of rfl rfl (tell_row hrow3 hcap3) (RFs_frs _) hri2 (frs_ok _) (by rw [List.length_map, lz]; omega) (by rw [List.length_append, lfz, lfr]; omega) ?_
      have hcells : (flat (frs (rowM w M i)) ++ jnk (q i)).take (k * 4) ++ flat (frs (List.zipWith subF ((rowM w M i).drop k) ((vF w M k).map (mulF · (tF w M k i))))) ++ (flat (frs (rowM w M i)) ++ jnk (q i)).drop (k * 4 + (flat (frs (List.zipWith subF ((rowM w M i).drop k) ((vF w M k).map (mulF · (tF w M k i)))))).length) = flat (frs (rowM w (foldTo w M k (i + 1)) i)) ++ jnk (q i) := by
        rw [flat_frs_take _ (by omega), lfz, ← flat_append, ← List.map_append, row_fold hki, show k * 4 + (w - k) * 4 = w * 4 by omega, ← lfr, List.drop_left]
      have hM3 := hM2.fold hi hki
      have hcb2 := hcb i hi
      have hbm3 : (mm2.put (c i) (flat (frs (rowM w (foldTo w M k (i + 1)) i)) ++ jnk (q i))) b = some (flat (frs (vF w M k))) := by rw [Mem.put_other _ _ (fun e => hcb2 e.symm)]; exact hbm2
      have hw2 := wrapped (x := (i : Int) + 1) (by omega) (by omega)
      simp -implicitDefEqProofs only [hcells, hw2, rkA, rkB, stepA, valA, simprocAttr]
      refine loopK_of (m' := m' - 1) (by omega) ?_
      simp -implicitDefEqProofs only [rkA, rkB, stepA, valA, simprocAttr]
      exact ⟨i + 1, _, by omega, by omega, hM3, hbm3, by simp only [Int.natCast_add, Int.natCast_one]⟩
    · have hin : i = n := by omega
      subst hin
      have hM0 : RowsC mm c q i w (foldZ w M k i 0) := hM.congr fun a j ha hj => by
        unfold foldZ
        by_cases e : a = k
        · subst e
          rw [if_pos rfl, if_neg (by omega)]
          unfold foldTo
          rw [if_neg (by omega)]
        · rw [if_neg e]
      clear hM hbm
      refine wp_loop (fun m s => ∃ (z : Nat) (mm : Mem), z + m = w - k ∧ RowsC mm c q i w (foldZ w M k i z) ∧ s = ⟨[jk, jk, jk, jk, .v (.s (.slice (some ⟨c k, k * 4, none⟩) (w - k) (cap k - k))), .ptr 5 0, jk, jk, jk, jk, jk, jk, jk, jk, jk, jk, jk, jk, jk, jk, jk, jk, jk, jk, jk, jk, jk, jk, jk, jk, jk, jk, jk, jk, jk, jk, jk, jk, jk, jk, jk, jk, jk, jk, jk, jk, jk, jk, jk, jk, jk, jk, jk, jk, jk, jk, jk, jk, jk, jk, jk, jk, jk, jk, jk, jk, jk, jk, jk, jk, jk, jk, jk, jk, jk, jk, jk, jk, jk, jk, jk, nt ((w - k : Nat) : Int), nt z, jk, jk, jk, jk, jk, jk, jk, jk, jk, jk, jk, jk],
        [(5, [.v (num (normF w M k).v), .v (num (normF w M k).lo), .v (num (normF w M k).hi), .v (tru (normF w M k).bad)]), (7, [.v (num (dotF (vF w M k) (vF w M k)).v), .v (num (dotF (vF w M k) (vF w M k)).lo), .v (num (dotF (vF w M k) (vF w M k)).hi), .v (tru (dotF (vF w M k) (vF w M k)).bad)])], [], [], [], 0, mm⟩) (w - k) ?_ ?_
      · simp -implicitDefEqProofs only [rkA, rkB, stepA, valA, simprocAttr]
        exact ⟨0, mm, by omega, hM0, rfl⟩
      clear hM0 mm
      rintro m' s ⟨z, mm, hzm, hM, rfl⟩
      simp -implicitDefEqProofs only [rkA, rkB, stepA, valA, simprocAttr]
      refine gB_dec ?_ ?_ <;> intro hc2 <;> simp -implicitDefEqProofs only [hc2, rkA, rkB, stepA, valA, simprocAttr]
      · refine call_meth rfl rfl methOf (ok107 _ 0) ?_
        have h0z : (0 : Int) ≤ (z : Int) := by omega
        have hrz := hM.row k hkn
        have hst := stM_frj (l := rowM w (foldZ w M k i z) k) (k := k + z) (x := newF 0 1) (post := jnk (q k)) (by rw [rowM_length]; omega)
        rw [Nat.add_mul] at hst
        have hsto := hM.store hkn (show k + z < w by omega) (newF 0 1)
        have hw2 := wrapped (x := (z : Int) + 1) (by omega) (by omega)
        simp -implicitDefEqProofs only [h0z, hc2, Int.toNat_natCast, addr_add, hrz, hst, hw2, rkA, rkB, stepA, valA, simprocAttr]
        refine loopK_of (m' := m' - 1) (by omega) ?_
        simp -implicitDefEqProofs only [rkA, rkB, stepA, valA, simprocAttr]
        rw [foldZ_step] at hsto
        exact ⟨z + 1, _, by omega, hsto, by simp only [Int.natCast_add, Int.natCast_one]⟩
      · have hz : z = w - k := by omega
        subst hz
        have hrz := hM.row k hkn
        have hst := stM_frj (l := rowM w (foldZ w M k i (w - k)) k) (k := k) (x := normF w M k) (post := jnk (q k)) (by rw [rowM_length]; omega)
        have hsto := hM.store hkn (show k < w by omega) (normF w M k)
        simp -implicitDefEqProofs only [hw0, Nat.add_zero, addr_add, hrz, hst, rkA, rkB, stepA, valA, simprocAttr]
        refine ⟨_, rfl, hsto.congr fun a j ha hj => ?_⟩
        unfold setM foldZ foldF
        by_cases e : a = k
        · subst e
          by_cases e2 : j = a
          · subst e2
            rw [if_pos ⟨rfl, rfl⟩, if_pos rfl, if_neg (by omega), if_pos rfl]
          · rw [if_neg (fun h => e2 h.2), if_pos rfl, if_pos rfl, if_neg e2]
            by_cases h : j < a
            · rw [if_neg (by omega), if_pos h]
            · rw [if_pos (by omega), if_neg h]
        · rw [if_neg (fun h => e h.1), if_neg e, if_neg e]
end Go.Proofs.YtambpjbpdackfaaGreat.A.E


set_option linter.unusedVariables false
set_option linter.unusedSimpArgs false
set_option maxRecDepth 100000
namespace Go.Proofs.YtambpjbpdackfaaGreat.A
open Go Go.RowKit Go.Shelf

/-- What is saved is named. -/
theorem gen_sv {P : Program} {its : Option (Nat × List Item)} {c : AC} {Q : XA → St → Prop} {tm : List TV} {bx : List (Nat × List TV)} {ro : List (Nat × List PV)} {tk : List (Nat × Nat)} {sv : List (List TV)} {it : Nat} {mm : Mem}
    (h : ∀ SV, SV = sv → wpA P its c Q ⟨tm, bx, ro, tk, SV, it, mm⟩) : wpA P its c Q ⟨tm, bx, ro, tk, sv, it, mm⟩ := h sv rfl

/-! ### No diagonal below 0 -/
def signG (n : Nat) (l : List Fr) (i k : Nat) : Fr := if k ≤ i ∧ signF (atF n n l k k) < 0 then negF (atF n n l i k) else atF n n l i k
def signsF (n : Nat) (l : List Fr) : List Fr := gridP (signG n l) n n 0
set_option maxHeartbeats 1000000 in
theorem ok147 (n : Nat) (hn : 1 ≤ n ∧ n ≤ 16) (e : Bool) (l : List Fr) (h : l.length = n * n) : Ok Tryz.prog 147 [matV e n n (frs l)] (.tup [matV false n n (frs (signsF n l)), tru true]) := by
  have hr := right_sq hn h
  refine ok_fn mixed Tryz.func147 (code := ?_) (h := h147) ?_ k147 ?_
  rotate_left
  · exact rfl
  unfold h147 initS
  simp -implicitDefEqProofs only [rkA, rkB, stepA, valA, simprocAttr, Tryz.ntmps147, Tryz.results147]
  have h17 := ok144 e n n (frs l)
  have el : (frs l).length = l.length := by simp
  rw [el, hr] at h17
  refine call_fn rfl rfl rfl (h17) ?_
  simp -implicitDefEqProofs only [bne_self_eq_false, rkA, rkB, stepA, valA, simprocAttr]
  refine call_fn rfl rfl rfl (ok145 e n n l) ?_
  simp -implicitDefEqProofs only [rkA, rkB, stepA, valA, simprocAttr]
  have hlen := gridP_length (signG n l) n
  refine wp_rf' (items := rowsF n n l) rfl (it199 e n n l) (fun sv i s => i ≤ n ∧ s = ⟨[], [(1, [nt n, nt n, .v (.sl e (frs l))]), (2, [nt 0, nt 0, .acc 3002 []]), (4, [.acc 1004 (frs (gridP (signG n l) n i 0))])], [], [(1004, (gridP (signG n l) n i 0).length), (3002, 0)], sv, 0, nomem⟩) ?_ ?_ ?_
  · simp -implicitDefEqProofs only [rkA, rkB, stepA, valA, simprocAttr]
    exact ⟨Nat.zero_le _, rfl⟩
  · rintro i x' s' R hx ⟨hi, rfl⟩ hR
    obtain ⟨hlt, rfl, hxi⟩ := rowsF_all hr hx
    have hlt' : i < n := by simpa using hlt
    refine ⟨rfl, ?_⟩
    simp -implicitDefEqProofs only [rkA, rkB, stepA, valA, simprocAttr]
    refine gen_sv fun SV hSV => ?_
    have hkill : List.map (fun l => List.map (TV.killPtr 8) l) SV = SV := by rw [hSV]; rfl
    have lr : (frs (rowF n n l i)).length = n := by rw [List.length_map, rowF_len hr hlt, Int.toNat_natCast]
    rw [lr]
    refine wp_loop (fun m s => ∃ k : Nat, k + m = n ∧ s = ⟨[jk, .ptr 1 0, jk, jk, .ptr 4 0, .v (num i), jk, jk, jk, jk, jk, jk, jk, jk, jk, jk, jk, jk, jk, jk, jk, jk, jk, jk, .v (.sl false (frs (rowF n n l i))), nt n, nt k, jk, jk, jk, jk, jk, jk, jk, jk, jk, jk, jk, jk, jk, jk, jk, jk, jk, jk, jk, jk, jk, jk, jk, jk, jk, jk, jk, jk, jk, jk, jk, jk],
      [(1, [nt n, nt n, .v (.sl e (frs l))]), (2, [nt 0, nt 0, .acc 3002 []]), (4, [.acc 1004 (frs (gridP (signG n l) n i k))])], [], [(1004, (gridP (signG n l) n i k).length), (3002, 0)], SV, 0, nomem⟩) n ?_ ?_
    · simp -implicitDefEqProofs only [rkA, rkB, stepA, valA, simprocAttr]
      exact ⟨0, by simp, rfl⟩
    rintro m s ⟨k, hk, rfl⟩
    simp -implicitDefEqProofs only [rkA, rkB, stepA, valA, simprocAttr]
    refine gB_dec ?_ ?_ <;> intro hc <;> simp -implicitDefEqProofs only [hc, rkA, rkB, stepA, valA, simprocAttr]
    · have hk' : k < n := by omega
      have h0k : (0 : Int) ≤ (k : Int) := by omega
      have hgk := rowF_get hr hlt (k := k) (by simpa using hk')
      have hfit : ∀ x : Fr, fits 3 24 (frs (gridP (signG n l) n i k)) [frV x] = true := fun x => fits_frs (l := [x]) (by
        have := hlen i k
        have := side16 (n := i) (m := n) (by omega) (by omega)
        simp only [List.length_cons, List.length_nil]
        omega)
      have hlg : (frs (gridP (signG n l) n i k)).length = (gridP (signG n l) n i k).length := by simp
      have hw := wrapped (x := (k : Int) + 1) (by omega) (by omega)
      simp -implicitDefEqProofs only [h0k, hc, Int.toNat_natCast, hgk, hkill, rkA, rkB, stepA, valA, simprocAttr]
      have fin : ∀ x : Fr, x = signG n l i k → frs (gridP (signG n l) n i k) ++ [frV x] = frs (gridP (signG n l) n i (k + 1)) ∧ (gridP (signG n l) n i k).length + 1 = (gridP (signG n l) n i (k + 1)).length := fun x hx => by
        rw [gridP_succ, hx]
        simp only [frs, List.map_append, List.map_cons, List.map_nil, List.length_append, List.length_cons, List.length_nil, and_self]
      refine gB_dec ?_ ?_ <;> intro hik
      · simp -implicitDefEqProofs only [hik, rkA, rkB, stepA, valA, simprocAttr]
        refine call_fn rfl rfl rfl (ok74 e n n k k l) ?_
        simp -implicitDefEqProofs only [rkA, rkB, stepA, valA, simprocAttr]
        refine call_meth rfl rfl methSign (ok271 _) ?_
        simp -implicitDefEqProofs only [rkA, rkB, stepA, valA, simprocAttr]
        refine gB_dec ?_ ?_ <;> intro hsg <;> simp -implicitDefEqProofs only [hsg, rkA, rkB, stepA, valA, simprocAttr]
        · refine call_meth rfl rfl methNeg (ok268 _) ?_
          obtain ⟨f1, f2⟩ := fin (negF (atF n n l i k)) (if_pos ⟨by omega, hsg⟩).symm
          simp -implicitDefEqProofs only [hfit, hlg, f1, f2, hw, rkA, rkB, stepA, valA, simprocAttr]
          refine loopK_of (m' := m - 1) (by omega) ?_
          simp -implicitDefEqProofs only [rkA, rkB, stepA, valA, simprocAttr]
          exact ⟨k + 1, by omega, by simp only [Int.natCast_add, Int.natCast_one]⟩
        · obtain ⟨f1, f2⟩ := fin (atF n n l i k) (if_neg (fun h => hsg h.2)).symm
          simp -implicitDefEqProofs only [hfit, hlg, f1, f2, hw, rkA, rkB, stepA, valA, simprocAttr]
          refine loopK_of (m' := m - 1) (by omega) ?_
          simp -implicitDefEqProofs only [rkA, rkB, stepA, valA, simprocAttr]
          exact ⟨k + 1, by omega, by simp only [Int.natCast_add, Int.natCast_one]⟩
      · simp -implicitDefEqProofs only [hik, rkA, rkB, stepA, valA, simprocAttr]
        obtain ⟨f1, f2⟩ := fin (atF n n l i k) (if_neg (fun h => hik (by omega))).symm
        simp -implicitDefEqProofs only [hfit, hlg, f1, f2, hw, rkA, rkB, stepA, valA, simprocAttr]
        refine loopK_of (m' := m - 1) (by omega) ?_
        simp -implicitDefEqProofs only [rkA, rkB, stepA, valA, simprocAttr]
        exact ⟨k + 1, by omega, by simp only [Int.natCast_add, Int.natCast_one]⟩
    · have hkn : k = n := by omega
      subst hSV
      refine hR _ ⟨by omega, ?_⟩
      rw [hkn, gridP_next]
  · rintro s' ⟨hi, rfl⟩
    simp -implicitDefEqProofs only [rkA, rkB, stepA, valA, simprocAttr]
    have hL : (gridP (signG n l) n n 0).length = n * n := by rw [hlen, Nat.add_zero]
    rw [rowsF_length hr, Int.toNat_natCast]
    have h34 := ok91 n n false (gridP (signG n l) n n 0) (by rw [hL]; have := side16 (n := n) (m := n) (by omega) (by omega); omega)
    rw [right_sq hn hL, if_pos rfl] at h34
    refine call_fn rfl rfl rfl (h34) ?_
    simp -implicitDefEqProofs only [rkA, rkB, stepA, valA, simprocAttr, signsF]
end Go.Proofs.YtambpjbpdackfaaGreat.A


set_option linter.unusedVariables false
set_option linter.unusedSimpArgs false
set_option maxRecDepth 100000
namespace Go.Proofs.YtambpjbpdackfaaGreat.A.E
open Go Go.RowKit Go.Shelf

def signG (n : Nat) (l : List Fr) (i k : Nat) : Fr := if k ≤ i ∧ signF (atF n n l k k) < 0 then negF (atF n n l i k) else atF n n l i k
def signsF (n : Nat) (l : List Fr) : List Fr := gridP (signG n l) n n 0
set_option maxHeartbeats 1000000 in
theorem ok77 (n : Nat) (hn : 1 ≤ n ∧ n ≤ 16) (e : Bool) (l : List Fr) (h : l.length = n * n) : Ok Tryz.prog 77 [matV e n n (frs l)] (.tup [matV false n n (frs (signsF n l)), tru true]) := by
  have hr := right_sq hn h
  refine ok_fn mixed Tryz.func77 (code := ?_) (h := h77) ?_ k77 ?_
  rotate_left
  · exact rfl
  unfold h77 initS
  simp -implicitDefEqProofs only [rkA, rkB, stepA, valA, simprocAttr, Tryz.ntmps77, Tryz.results77]
  have h17 := ok72 e n n (frs l)
  have el : (frs l).length = l.length := by simp
  rw [el, hr] at h17
  refine call_fn rfl rfl rfl (h17) ?_
  simp -implicitDefEqProofs only [bne_self_eq_false, rkA, rkB, stepA, valA, simprocAttr]
  refine call_fn rfl rfl rfl (ok75 e n n l) ?_
  simp -implicitDefEqProofs only [rkA, rkB, stepA, valA, simprocAttr]
  have hlen := gridP_length (signG n l) n
  refine wp_rf' (items := rowsF n n l) rfl (it149 e n n l) (fun sv i s => i ≤ n ∧ s = ⟨[], [(1, [nt n, nt n, .v (.sl e (frs l))]), (2, [nt 0, nt 0, .acc 3002 []]), (4, [.acc 1004 (frs (gridP (signG n l) n i 0))])], [], [(1004, (gridP (signG n l) n i 0).length), (3002, 0)], sv, 0, nomem⟩) ?_ ?_ ?_
  · simp -implicitDefEqProofs only [rkA, rkB, stepA, valA, simprocAttr]
    exact ⟨Nat.zero_le _, rfl⟩
  · rintro i x' s' R hx ⟨hi, rfl⟩ hR
    obtain ⟨hlt, rfl, hxi⟩ := rowsF_all hr hx
    have hlt' : i < n := by simpa using hlt
    refine ⟨rfl, ?_⟩
    simp -implicitDefEqProofs only [rkA, rkB, stepA, valA, simprocAttr]
    refine gen_sv fun SV hSV => ?_
    have hkill : List.map (fun l => List.map (TV.killPtr 8) l) SV = SV := by rw [hSV]; rfl
    have lr : (frs (rowF n n l i)).length = n := by rw [List.length_map, rowF_len hr hlt, Int.toNat_natCast]
    rw [lr]
    refine wp_loop (fun m s => ∃ k : Nat, k + m = n ∧ s = ⟨[jk, .ptr 1 0, jk, jk, .ptr 4 0, .v (num i), jk, jk, jk, jk, jk, jk, jk, jk, jk, jk, jk, jk, jk, jk, jk, jk, jk, jk, .v (.sl false (frs (rowF n n l i))), nt n, nt k, jk, jk, jk, jk, jk, jk, jk, jk, jk, jk, jk, jk, jk, jk, jk, jk, jk, jk, jk, jk, jk, jk, jk, jk, jk, jk, jk, jk, jk, jk, jk, jk],
      [(1, [nt n, nt n, .v (.sl e (frs l))]), (2, [nt 0, nt 0, .acc 3002 []]), (4, [.acc 1004 (frs (gridP (signG n l) n i k))])], [], [(1004, (gridP (signG n l) n i k).length), (3002, 0)], SV, 0, nomem⟩) n ?_ ?_
    · simp -implicitDefEqProofs only [rkA, rkB, stepA, valA, simprocAttr]
      exact ⟨0, by simp, rfl⟩
    rintro m s ⟨k, hk, rfl⟩
    simp -implicitDefEqProofs only [rkA, rkB, stepA, valA, simprocAttr]
    refine gB_dec ?_ ?_ <;> intro hc <;> simp -implicitDefEqProofs only [hc, rkA, rkB, stepA, valA, simprocAttr]
    · have hk' : k < n := by omega
      have h0k : (0 : Int) ≤ (k : Int) := by omega
      have hgk := rowF_get hr hlt (k := k) (by simpa using hk')
      have hfit : ∀ x : Fr, fits 4 32 (frs (gridP (signG n l) n i k)) [frV x] = true := fun x => fits_frs (l := [x]) (by
        have := hlen i k
        have := side16 (n := i) (m := n) (by omega) (by omega)
        simp only [List.length_cons, List.length_nil]
        omega)
      have hlg : (frs (gridP (signG n l) n i k)).length = (gridP (signG n l) n i k).length := by simp
      have hw := wrapped (x := (k : Int) + 1) (by omega) (by omega)
      simp -implicitDefEqProofs only [h0k, hc, Int.toNat_natCast, hgk, hkill, rkA, rkB, stepA, valA, simprocAttr]
      have fin : ∀ x : Fr, x = signG n l i k → frs (gridP (signG n l) n i k) ++ [frV x] = frs (gridP (signG n l) n i (k + 1)) ∧ (gridP (signG n l) n i k).length + 1 = (gridP (signG n l) n i (k + 1)).length := fun x hx => by
        rw [gridP_succ, hx]
        simp only [frs, List.map_append, List.map_cons, List.map_nil, List.length_append, List.length_cons, List.length_nil, and_self]
      refine gB_dec ?_ ?_ <;> intro hik
      · simp -implicitDefEqProofs only [hik, rkA, rkB, stepA, valA, simprocAttr]
        refine call_fn rfl rfl rfl (ok89 e n n k k l) ?_
        simp -implicitDefEqProofs only [rkA, rkB, stepA, valA, simprocAttr]
        refine call_meth rfl rfl methSign (ok253 _) ?_
        simp -implicitDefEqProofs only [rkA, rkB, stepA, valA, simprocAttr]
        refine gB_dec ?_ ?_ <;> intro hsg <;> simp -implicitDefEqProofs only [hsg, rkA, rkB, stepA, valA, simprocAttr]
        · refine call_meth rfl rfl methNeg (ok251 _) ?_
          obtain ⟨f1, f2⟩ := fin (negF (atF n n l i k)) (if_pos ⟨by omega, hsg⟩).symm
          simp -implicitDefEqProofs only [hfit, hlg, f1, f2, hw, rkA, rkB, stepA, valA, simprocAttr]
          refine loopK_of (m' := m - 1) (by omega) ?_
          simp -implicitDefEqProofs only [rkA, rkB, stepA, valA, simprocAttr]
          exact ⟨k + 1, by omega, by simp only [Int.natCast_add, Int.natCast_one]⟩
        · obtain ⟨f1, f2⟩ := fin (atF n n l i k) (if_neg (fun h => hsg h.2)).symm
          simp -implicitDefEqProofs only [hfit, hlg, f1, f2, hw, rkA, rkB, stepA, valA, simprocAttr]
          refine loopK_of (m' := m - 1) (by omega) ?_
          simp -implicitDefEqProofs only [rkA, rkB, stepA, valA, simprocAttr]
          exact ⟨k + 1, by omega, by simp only [Int.natCast_add, Int.natCast_one]⟩
      · simp -implicitDefEqProofs only [hik, rkA, rkB, stepA, valA, simprocAttr]
        obtain ⟨f1, f2⟩ := fin (atF n n l i k) (if_neg (fun h => hik (by omega))).symm
        simp -implicitDefEqProofs only [hfit, hlg, f1, f2, hw, rkA, rkB, stepA, valA, simprocAttr]
        refine loopK_of (m' := m - 1) (by omega) ?_
        simp -implicitDefEqProofs only [rkA, rkB, stepA, valA, simprocAttr]
        exact ⟨k + 1, by omega, by simp only [Int.natCast_add, Int.natCast_one]⟩
    · have hkn : k = n := by omega
      subst hSV
      refine hR _ ⟨by omega, ?_⟩
      rw [hkn, gridP_next]
  · rintro s' ⟨hi, rfl⟩
    simp -implicitDefEqProofs only [rkA, rkB, stepA, valA, simprocAttr]
    have hL : (gridP (signG n l) n n 0).length = n * n := by rw [hlen, Nat.add_zero]
    rw [rowsF_length hr, Int.toNat_natCast]
    have h34 := ok17 n n false (gridP (signG n l) n n 0) (by rw [hL]; have := side16 (n := n) (m := n) (by omega) (by omega); omega)
    rw [right_sq hn hL, if_pos rfl] at h34
    refine call_fn rfl rfl rfl (h34) ?_
    simp -implicitDefEqProofs only [rkA, rkB, stepA, valA, simprocAttr, signsF]
end Go.Proofs.YtambpjbpdackfaaGreat.A.E


