import Derived.Test.YtambpjbpdackfaaM4
import Derived.Test.YtambpjbpdackfaaM3
set_option linter.unusedVariables false
set_option linter.unusedSimpArgs false
set_option maxRecDepth 100000
namespace Go.Proofs.Ytambpjbpdackfaa.A.E
open Go Go.RowKit Go.Shelf

theorem ok74 (k : Nat) (F : Fr → Fr → Fr) (hF : ∀ x y, Ok Try.prog k [frV x, frV y] (frV (F x y))) (ea eb : Bool) (a b : List Fr) (ha : a.length ≤ 4398046511104) (hb : b.length ≤ 4398046511104) :
    Ok Try.prog 74 [.sl ea (frs a), .sl eb (frs b), .fn (.func k) []] (.sl false (frs (List.zipWith F a b))) := by
  refine ok_fn mixed Try.func74 (code := ?_) (h := h74) ?_ k74 ?_
  rotate_left
  · exact rfl
  unfold h74 initS
  simp -implicitDefEqProofs only [rkA, rkB, stepA, valA, simprocAttr, Try.ntmps74, Try.results74]
  refine call_fn rfl rfl rfl (ok76 ea eb a b) ?_
  simp -implicitDefEqProofs only [rkA, rkB, stepA, valA, simprocAttr]
  have hlz : (List.zipWith F a b).length = min a.length b.length := by simp
  have hpl : (pairsF a b).length = min a.length b.length := by simp [pairsF]
  refine wp_rf (items := pairsF a b) rfl (it77 ea eb a b ha hb) (fun i s => i ≤ (pairsF a b).length ∧ s = ⟨[], [(5, [.v (.fn (.func k) [])]), (7, [.acc 1007 (frs ((List.zipWith F a b).take i))])], [], [(6, 0), (1007, i)],
    [[.v (.sl ea (frs a)), .v (.sl eb (frs b)), .v (.fn (.func k) []), jk, jk, .ptr 5 0, .acc 6 [], .ptr 7 0, jk, jk, .v (.sl ea (frs a)), .v (.sl eb (frs b)), .v (.fn (.func 77) [.vp [.sl ea (frs a)], .vp [.sl eb (frs b)]]), jk, jk, jk, jk, jk, jk, jk, jk, jk, jk]], 0, nomem⟩) ?_ ?_ ?_
  · simp -implicitDefEqProofs only [rkA, rkB, stepA, valA, simprocAttr]
    exact Nat.zero_le _
  · rintro i x' s' R hx ⟨hi, rfl⟩ hR
    have hlt : i < (pairsF a b).length := (List.getElem?_eq_some_iff.1 hx).1
    have h1 : i < a.length := by omega
    have h2 : i < b.length := by omega
    have hx' : x' = [frV a[i], frV b[i]] := by
      rw [pairsF, List.getElem?_map, List.getElem?_eq_getElem (by simp; omega), Option.map_some, List.getElem_zip] at hx
      exact (Option.some.inj hx).symm
    subst hx'
    refine ⟨rfl, ?_⟩
    simp -implicitDefEqProofs only [rkA, rkB, stepA, valA, simprocAttr]
    refine call_fn rfl rfl rfl (hF a[i] b[i]) ?_
    have hfit : fits 4 32 (frs ((List.zipWith F a b).take i)) [frV (F a[i] b[i])] = true := fits_frs (l := [F a[i] b[i]]) (by simp; omega)
    have hl : (frs ((List.zipWith F a b).take i)).length = i := by simp; omega
    simp -implicitDefEqProofs only [hfit, hl, rkA, rkB, stepA, valA, simprocAttr]
    refine hR _ ⟨by omega, ?_⟩
    rw [List.take_succ_eq_append_getElem (by simp; omega)]
    simp only [frs, List.map_append, List.map_cons, List.map_nil, List.getElem_zipWith]
  · rintro s' ⟨hi, rfl⟩
    simp -implicitDefEqProofs only [rkA, rkB, stepA, valA, simprocAttr]
    rw [List.take_of_length_le (by simp; omega)]

def dotF (a b : List Fr) : Fr := sumF (List.zipWith mulF a b)

theorem ok69 (ea eb : Bool) (a b : List Fr) (ha : a.length ≤ 4398046511104) (hb : b.length ≤ 4398046511104) : Ok Try.prog 69 [.sl ea (frs a), .sl eb (frs b)] (frV (dotF a b)) := by
  refine ok_fn mixed Try.func69 (code := ?_) (h := h69) ?_ k69 ?_
  rotate_left
  · exact rfl
  unfold h69 initS
  simp -implicitDefEqProofs only [rkA, rkB, stepA, valA, simprocAttr, Try.ntmps69, Try.results69]
  refine call_fn rfl rfl rfl (ok74 75 mulF ok75 ea eb a b ha hb) ?_
  simp -implicitDefEqProofs only [rkA, rkB, stepA, valA, simprocAttr]
  refine call_fn rfl rfl rfl (ok73 false (List.zipWith mulF a b) (by simp; omega)) ?_
  simp -implicitDefEqProofs only [rkA, rkB, stepA, valA, simprocAttr, dotF]

/-- A matrix, turned. -/
def turnF (r c : Int) (l : List Fr) : List Fr := if right r c l.length = true then (List.range c.toNat).flatMap fun (k : Nat) => (List.range r.toNat).map fun (i : Nat) => atF r c l i k else []

/-- Of a turned matrix, what is told so far. -/
def turnP (r c : Int) (l : List Fr) (k i : Nat) : List Fr := (List.range k).flatMap (fun (k : Nat) => (List.range r.toNat).map fun (i : Nat) => atF r c l i k) ++ (List.range i).map fun (i : Nat) => atF r c l i k
theorem turnP_succ (r c : Int) (l : List Fr) (k i : Nat) : turnP r c l k (i + 1) = turnP r c l k i ++ [atF r c l i k] := by
  simp [turnP, List.range_succ]
theorem turnP_next (r c : Int) (l : List Fr) (k : Nat) : turnP r c l k r.toNat = turnP r c l (k + 1) 0 := by
  simp [turnP, List.range_succ]
theorem turnP_length (r c : Int) (l : List Fr) (k i : Nat) : (turnP r c l k i).length = k * r.toNat + i := by
  simp [turnP, List.length_flatMap, List.map_const', List.sum_replicate_nat]

theorem ok63 (ex : Bool) (r c : Int) (l : List Fr) : Ok Try.prog 63 [matV ex r c (frs l)] (if right r c l.length = true then matV false c r (frs (turnF r c l)) else matNil) := by
  refine ok_fn mixed Try.func63 (code := ?_) (h := h63) ?_ k63 ?_
  rotate_left
  · exact rfl
  unfold h63 initS
  simp -implicitDefEqProofs only [rkA, rkB, stepA, valA, simprocAttr, Try.ntmps63, Try.results63]
  refine call_fn rfl rfl rfl (ok57 ex r c (frs l)) ?_
  have e : (frs l).length = l.length := by simp
  rw [e]
  cases hr : right r c l.length with
  | false => simp -implicitDefEqProofs only [rkA, rkB, stepA, valA, simprocAttr]
  | true =>
    obtain ⟨r1, r2, c1, c2, hn⟩ := right_spec hr
    simp -implicitDefEqProofs only [rkA, rkB, stepA, valA, simprocAttr]
    refine wp_loop (fun m s => ∃ k : Nat, k + m = c.toNat ∧ s = ⟨[jk, .ptr 1 0, .ptr 2 0, .ptr 3 0, jk, jk, jk, jk, jk, jk, jk, jk, jk, jk, jk, jk, .v (num c), nt k, jk, jk, jk, jk, jk, jk, jk, jk, jk, jk, jk, jk, jk, jk, jk, jk, jk, jk, jk], [(1, [.v (num r), .v (num c), .v (.sl ex (frs l))]), (2, [nt 0, nt 0, .acc 3002 []]), (3, [nt c, nt r, .acc 15003 (frs (turnP r c l k 0))])], [],
      [(3002, 0), (3003, 0), (15003, (turnP r c l k 0).length)], [], 0, nomem⟩) c.toNat ?_ ?_
    · simp -implicitDefEqProofs only [rkA, rkB, stepA, valA, simprocAttr]
      exact ⟨0, by simp, rfl⟩
    rintro m s ⟨k, hk, rfl⟩
    simp -implicitDefEqProofs only [rkA, rkB, stepA, valA, simprocAttr]
    refine gB_dec ?_ ?_ <;> intro hc <;> simp -implicitDefEqProofs only [hc, rkA, rkB, stepA, valA, simprocAttr]
    · refine wp_loop (fun m s => ∃ i : Nat, i + m = r.toNat ∧ s = ⟨[jk, .ptr 1 0, .ptr 2 0, .ptr 3 0, nt k, jk, jk, jk, jk, jk, jk, jk, jk, jk, jk, jk, .v (num c), nt k, jk, jk, jk, nt r, nt i, jk, jk, jk, jk, jk, jk, jk, jk, jk, jk, jk, jk, jk, jk], [(1, [.v (num r), .v (num c), .v (.sl ex (frs l))]), (2, [nt 0, nt 0, .acc 3002 []]), (3, [nt c, nt r, .acc 15003 (frs (turnP r c l k i))])], [],
        [(3002, 0), (3003, 0), (15003, (turnP r c l k i).length)], [], 0, nomem⟩) r.toNat ?_ ?_
      · simp -implicitDefEqProofs only [rkA, rkB, stepA, valA, simprocAttr]
        exact ⟨0, by simp, rfl⟩
      rintro m' s ⟨i, hi, rfl⟩
      simp -implicitDefEqProofs only [rkA, rkB, stepA, valA, simprocAttr]
      have hlen := turnP_length r c l k i
      have hb : k * r.toNat + i ≤ 256 := by
        have : (k + 1) * r.toNat ≤ 16 * 16 := Nat.mul_le_mul (by omega) (by omega)
        rw [Nat.add_mul] at this
        omega
      refine gB_dec ?_ ?_ <;> intro hc2 <;> simp -implicitDefEqProofs only [hc2, rkA, rkB, stepA, valA, simprocAttr]
      · refine call_fn rfl rfl rfl (ok61 ex r c i k l) ?_
        have hfit : fits 4 32 (frs (turnP r c l k i)) [frV (atF r c l i k)] = true := fits_frs (l := [atF r c l i k]) (by simp only [List.length_cons, List.length_nil]; omega)
        have hl : (frs (turnP r c l k i)).length = (turnP r c l k i).length := by simp
        have hw := wrapped (x := (i : Int) + 1) (by omega) (by omega)
        simp -implicitDefEqProofs only [hfit, hl, hw, rkA, rkB, stepA, valA, simprocAttr]
        refine loopK_of (m' := m' - 1) (by omega) ?_
        simp -implicitDefEqProofs only [rkA, rkB, stepA, valA, simprocAttr]
        refine ⟨i + 1, by omega, ?_⟩
        rw [turnP_succ]
        simp only [frs, List.map_append, List.map_cons, List.map_nil, List.length_append, List.length_cons, List.length_nil, Int.natCast_add, Int.natCast_one]
      · have hw := wrapped (x := (k : Int) + 1) (by omega) (by omega)
        simp -implicitDefEqProofs only [hw, rkA, rkB, stepA, valA, simprocAttr]
        refine loopK_of (m' := m - 1) (by omega) ?_
        simp -implicitDefEqProofs only [rkA, rkB, stepA, valA, simprocAttr]
        refine ⟨k + 1, by omega, ?_⟩
        have hi2 : i = r.toNat := by omega
        rw [hi2, turnP_next]
        simp only [Int.natCast_add, Int.natCast_one]
    · have hk2 : k = c.toNat := by omega
      have : turnF r c l = turnP r c l k 0 := by
        rw [hk2]
        simp [turnF, hr, turnP]
      rw [this]
end Go.Proofs.Ytambpjbpdackfaa.A.E


set_option linter.unusedVariables false
set_option linter.unusedSimpArgs false
set_option maxRecDepth 100000
namespace Go.Proofs.Ytambpjbpdackfaa.A.E
open Go Go.RowKit Go.Shelf

theorem turnF_length {r c : Int} {l : List Fr} (h : right r c l.length = true) : (turnF r c l).length = c.toNat * r.toNat := by
  have : turnF r c l = turnP r c l c.toNat 0 := by simp [turnF, h, turnP]
  rw [this, turnP_length, Nat.add_zero]

theorem right_turn {r c : Int} {l : List Fr} (h : right r c l.length = true) : right c r (turnF r c l).length = true := by
  obtain ⟨r1, r2, c1, c2, hn⟩ := right_spec h
  rw [turnF_length h]
  simp only [right, Bool.and_eq_true, decide_eq_true_eq, beq_iff_eq]
  refine ⟨by omega, by omega, ?_⟩
  rw [Int.natCast_mul, Int.toNat_of_nonneg (by omega), Int.toNat_of_nonneg (by omega)]

section
variable {α β : Type} (f : α → α → β)
end

/-- All rows. -/
def allF (r c : Int) (l : List Fr) : List (List Fr) := (List.range r.toNat).map fun (i : Nat) => rowF r c l (i : Int)
def prodF (r m c : Int) (a b : List Fr) : List Fr := (allF r m a).flatMap fun x => (allF c m (turnF m c b)).map (dotF x)

theorem allF_length (r c : Int) (l : List Fr) : (allF r c l).length = r.toNat := by simp [allF]
theorem rowsF_all {r c : Int} {l : List Fr} (h : right r c l.length = true) {i : Nat} {x : List PV} (hx : (rowsF r c l)[i]? = some x) : i < r.toNat ∧ x = [num i, .sl false (frs (rowF r c l i))] ∧ (allF r c l)[i]? = some (rowF r c l i) := by
  obtain ⟨hi, rfl⟩ := List.getElem?_eq_some_iff.1 hx
  have hi' : i < r.toNat := by simpa [rowsF, h] using hi
  refine ⟨hi', by simp [rowsF, h], by simp [allF, hi']⟩
theorem rowsF_length {r c : Int} {l : List Fr} (h : right r c l.length = true) : (rowsF r c l).length = r.toNat := by simp [rowsF, h]
theorem rowF_length {r c : Int} {l : List Fr} (i : Int) : (rowF r c l i).length ≤ l.length := by
  unfold rowF
  split <;> simp <;> omega

theorem ok62 (ea eb : Bool) (r m m2 c : Int) (a b : List Fr) : Ok Try.prog 62 [matV ea r m (frs a), matV eb m2 c (frs b)]
    (if right r m a.length = true ∧ right m2 c b.length = true ∧ m = m2 then .tup [matV false r c (frs (prodF r m c a b)), tru true] else .tup [matNil, tru false]) := by
  refine ok_fn mixed Try.func62 (code := ?_) (h := h62) ?_ k62 ?_
  rotate_left
  · exact rfl
  unfold h62 initS
  simp -implicitDefEqProofs only [rkA, rkB, stepA, valA, simprocAttr, Try.ntmps62, Try.results62]
  refine call_fn rfl rfl rfl (ok57 ea r m (frs a)) ?_
  have e : (frs a).length = a.length := by simp
  have e' : (frs b).length = b.length := by simp
  rw [e]
  cases hr : right r m a.length with
  | false =>
    simp -implicitDefEqProofs only [rkA, rkB, stepA, valA, simprocAttr]
  | true =>
    simp -implicitDefEqProofs only [rkA, rkB, stepA, valA, simprocAttr]
    refine call_fn rfl rfl rfl (ok57 eb m2 c (frs b)) ?_
    rw [e']
    cases hr2 : right m2 c b.length with
    | false => simp -implicitDefEqProofs only [rkA, rkB, stepA, valA, simprocAttr]
    | true =>
      obtain ⟨r1, r2, c1, c2, hn⟩ := right_spec hr
      obtain ⟨m1, m3, d1, d2, hn2⟩ := right_spec hr2
      simp -implicitDefEqProofs only [rkA, rkB, stepA, valA, simprocAttr]
      refine gB_bool ?_ ?_ <;> intro hb
      · have hm : m ≠ m2 := by simpa using hb
        simp -implicitDefEqProofs only [hm, rkA, rkB, stepA, valA, simprocAttr]
      · have hm : m = m2 := by simpa using hb
        clear hb
        subst hm
        simp -implicitDefEqProofs only [rkA, rkB, stepA, valA, simprocAttr]
        have h25 := ok63 eb m c b
        rw [if_pos hr2] at h25
        refine call_fn rfl rfl rfl (h25) ?_
        simp -implicitDefEqProofs only [rkA, rkB, stepA, valA, simprocAttr]
        refine call_fn rfl rfl rfl (ok68 ea r m a) ?_
        simp -implicitDefEqProofs only [rkA, rkB, stepA, valA, simprocAttr]
        have hrt := right_turn hr2
        have hpl : ∀ i k, i < r.toNat → k ≤ c.toNat → (prodP dotF (allF r m a) (allF c m (turnF m c b)) i k).length = i * c.toNat + k := fun i k hi hk => by
          rw [prodP_length dotF (by rw [allF_length]; exact hi) (by rw [allF_length]; exact hk), allF_length]
        have hbig : ∀ i k, i < r.toNat → k ≤ c.toNat → i * c.toNat + k ≤ 256 := fun i k hi hk => by
          have : (i + 1) * c.toNat ≤ 16 * 16 := Nat.mul_le_mul (by omega) (by omega)
          rw [Nat.add_mul] at this
          omega
        have hal : a.length ≤ 256 := by
          have : r * m ≤ 16 * 16 := Int.mul_le_mul r2 c2 (by omega) (by omega)
          omega
        have hbl : (turnF m c b).length ≤ 256 := by
          have h1 := turnF_length hr2
          have : c.toNat * m.toNat ≤ 16 * 16 := Nat.mul_le_mul (by omega) (by omega)
          omega
        refine wp_rf' (items := rowsF r m a) rfl (it71 ea r m a) (fun sv i s => i ≤ r.toNat ∧ s = ⟨[], [(2, [nt r, nt m, .v (.sl ea (frs a))]), (3, [nt m, nt c, .v (.sl eb (frs b))]), (4, [nt 0, nt 0, .acc 3004 []]), (6, [nt r, nt c, .acc 15006 (frs (prodP dotF (allF r m a) (allF c m (turnF m c b)) i 0))]),
          (7, [nt c, nt m, .v (.sl false (frs (turnF m c b)))])], [], [(1009, 0), (3004, 0), (3006, 0), (3007, 0), (15006, (prodP dotF (allF r m a) (allF c m (turnF m c b)) i 0).length)], sv, 0, nomem⟩) ?_ ?_ ?_
        · simp -implicitDefEqProofs only [rkA, rkB, stepA, valA, simprocAttr]
          exact ⟨Nat.zero_le _, by rw [prodP_zero]; exact rfl⟩
        · rintro i x' s' R hx ⟨hi, rfl⟩ hR
          obtain ⟨hlt, rfl, hxi⟩ := rowsF_all hr hx
          refine ⟨rfl, ?_⟩
          simp -implicitDefEqProofs only [rkA, rkB, stepA, valA, simprocAttr]
          refine call_fn rfl rfl rfl (ok68 false c m (turnF m c b)) ?_
          simp -implicitDefEqProofs only [rkA, rkB, stepA, valA, simprocAttr]
          refine wp_rf' (items := rowsF c m (turnF m c b)) rfl (it71 false c m (turnF m c b)) (fun sv k s => k ≤ c.toNat ∧ s = ⟨[], [(2, [nt r, nt m, .v (.sl ea (frs a))]), (3, [nt m, nt c, .v (.sl eb (frs b))]), (4, [nt 0, nt 0, .acc 3004 []]), (6, [nt r, nt c, .acc 15006 (frs (prodP dotF (allF r m a) (allF c m (turnF m c b)) i k))]),
            (7, [nt c, nt m, .v (.sl false (frs (turnF m c b)))]), (9, [.v (.sl false (frs (rowF r m a i)))])], [], [(1009, 0), (3004, 0), (3006, 0), (3007, 0), (15006, (prodP dotF (allF r m a) (allF c m (turnF m c b)) i k).length)], sv, 0, nomem⟩) ?_ ?_ ?_
          · simp -implicitDefEqProofs only [rkA, rkB, stepA, valA, simprocAttr]
            exact Nat.zero_le _
          · rintro k x' s' R2 hx2 ⟨hk, rfl⟩ hR2
            obtain ⟨hlt2, rfl, hyk⟩ := rowsF_all hrt hx2
            refine ⟨rfl, ?_⟩
            simp -implicitDefEqProofs only [rkA, rkB, stepA, valA, simprocAttr]
            have hra := rowF_length (r := r) (c := m) (l := a) i
            have hrb := rowF_length (r := c) (c := m) (l := turnF m c b) k
            refine call_fn rfl rfl rfl (ok69 false false (rowF r m a i) (rowF c m (turnF m c b) k) (by omega) (by omega)) ?_
            have h1 := hpl i k hlt (by omega)
            have h2 := hbig i k hlt (by omega)
            have hfit : fits 4 32 (frs (prodP dotF (allF r m a) (allF c m (turnF m c b)) i k)) [frV (dotF (rowF r m a i) (rowF c m (turnF m c b) k))] = true := fits_frs (l := [dotF (rowF r m a i) (rowF c m (turnF m c b) k)]) (by simp only [List.length_cons, List.length_nil]; omega)
            have hl : (frs (prodP dotF (allF r m a) (allF c m (turnF m c b)) i k)).length = (prodP dotF (allF r m a) (allF c m (turnF m c b)) i k).length := by simp
            simp -implicitDefEqProofs only [hfit, hl, rkA, rkB, stepA, valA, simprocAttr]
            refine hR2 _ ⟨by omega, ?_⟩
            rw [prodP_succ dotF hxi hyk]
            simp only [frs, List.map_append, List.map_cons, List.map_nil, List.length_append, List.length_cons, List.length_nil]
          · rintro s' ⟨hk, rfl⟩
            simp -implicitDefEqProofs only [rkA, rkB, stepA, valA, simprocAttr]
            refine hR _ ⟨by omega, ?_⟩
            have hnx := prodP_next dotF (xs := allF r m a) (ys := allF c m (turnF m c b)) (i := i) (by rw [allF_length]; exact hlt)
            rw [allF_length] at hnx
            rw [rowsF_length hrt, hnx]
        · rintro s' ⟨hi, rfl⟩
          simp -implicitDefEqProofs only [rkA, rkB, stepA, valA, simprocAttr]
          have : prodF r m c a b = prodP dotF (allF r m a) (allF c m (turnF m c b)) (rowsF r m a).length 0 := by
            rw [prodP_zero, rowsF_length hr, ← allF_length r m a, List.take_length]
            rfl
          rw [this]
end Go.Proofs.Ytambpjbpdackfaa.A.E


set_option linter.unusedVariables false
set_option linter.unusedSimpArgs false
namespace Go.Proofs.Ytambpjbpdackfaa.A.E
open Go Go.RowKit Go.Shelf

end Go.Proofs.Ytambpjbpdackfaa.A.E


set_option linter.unusedVariables false
set_option linter.unusedSimpArgs false
set_option maxRecDepth 100000
namespace Go.Proofs.Ytambpjbpdackfaa.A
open Go Go.RowKit Go.Shelf

end Go.Proofs.Ytambpjbpdackfaa.A


set_option linter.unusedVariables false
set_option linter.unusedSimpArgs false
set_option maxRecDepth 100000
namespace Go.Proofs.Ytambpjbpdackfaa.A.E
open Go Go.RowKit Go.Shelf

end Go.Proofs.Ytambpjbpdackfaa.A.E


set_option linter.unusedVariables false
set_option linter.unusedSimpArgs false
set_option maxRecDepth 100000
namespace Go.Proofs.Ytambpjbpdackfaa.A.E
open Go Go.RowKit Go.Shelf

def mirF (r : Int) (l : List Fr) : List Fr := gridP (fun i k => atF r r l (max i k : Nat) (min i k : Nat)) r.toNat r.toNat 0
theorem ok64 (ex : Bool) (r c : Int) (l : List Fr) : Ok Try.prog 64 [matV ex r c (frs l)] (if right r c l.length = true ∧ r = c then .tup [matV false r c (frs (mirF r l)), tru true] else .tup [matNil, tru false]) := by
  refine ok_fn mixed Try.func64 (code := ?_) (h := h64) ?_ k64 ?_
  rotate_left
  · exact rfl
  unfold h64 initS
  simp -implicitDefEqProofs only [rkA, rkB, stepA, valA, simprocAttr, Try.ntmps64, Try.results64]
  refine call_fn rfl rfl rfl (ok57 ex r c (frs l)) ?_
  have e : (frs l).length = l.length := by simp
  rw [e]
  cases hr : right r c l.length with
  | false => simp -implicitDefEqProofs only [rkA, rkB, stepA, valA, simprocAttr]
  | true =>
    obtain ⟨r1, r2, c1, c2, hn⟩ := right_spec hr
    simp -implicitDefEqProofs only [rkA, rkB, stepA, valA, simprocAttr]
    by_cases h1 : r = c
    · subst h1
      simp -implicitDefEqProofs only [bne_self_eq_false, rkA, rkB, stepA, valA, simprocAttr]
      have hlen := gridP_length (fun i k => atF r r l (max i k : Nat) (min i k : Nat)) r.toNat
      refine wp_loop (fun m s => ∃ i : Nat, i + m = r.toNat ∧ s = ⟨[jk, .ptr 1 0, .ptr 2 0, jk, .ptr 4 0, jk, jk, jk, jk, jk, jk, jk, jk, jk, jk, jk, jk, jk, jk, jk, jk, jk, jk, jk, nt r, nt i, jk, jk, jk, jk, jk, jk, jk, jk, jk, jk, jk, jk, jk, jk, jk, jk, jk, jk, jk, jk, jk, jk, jk], [(1, [nt r, nt r, .v (.sl ex (frs l))]), (2, [nt 0, nt 0, .acc 3002 []]), (4, [nt r, nt r, .acc 15004 (frs (gridP (fun i k => atF r r l (max i k : Nat) (min i k : Nat)) r.toNat i 0))])], [],
        [(3002, 0), (3004, 0), (15004, (gridP (fun i k => atF r r l (max i k : Nat) (min i k : Nat)) r.toNat i 0).length)], [], 0, nomem⟩) r.toNat ?_ ?_
      · simp -implicitDefEqProofs only [rkA, rkB, stepA, valA, simprocAttr]
        exact ⟨0, by simp, rfl⟩
      rintro m s ⟨i, hi, rfl⟩
      simp -implicitDefEqProofs only [rkA, rkB, stepA, valA, simprocAttr]
      refine gB_dec ?_ ?_ <;> intro hc <;> simp -implicitDefEqProofs only [hc, rkA, rkB, stepA, valA, simprocAttr]
      · refine wp_loop (fun m s => ∃ k : Nat, k + m = r.toNat ∧ s = ⟨[jk, .ptr 1 0, .ptr 2 0, jk, .ptr 4 0, nt i, jk, jk, jk, jk, jk, jk, jk, jk, jk, jk, jk, jk, jk, jk, jk, jk, jk, jk, nt r, nt i, jk, jk, jk, nt r, nt k, jk, jk, jk, jk, jk, jk, jk, jk, jk, jk, jk, jk, jk, jk, jk, jk, jk, jk], [(1, [nt r, nt r, .v (.sl ex (frs l))]), (2, [nt 0, nt 0, .acc 3002 []]), (4, [nt r, nt r, .acc 15004 (frs (gridP (fun i k => atF r r l (max i k : Nat) (min i k : Nat)) r.toNat i k))])], [],
          [(3002, 0), (3004, 0), (15004, (gridP (fun i k => atF r r l (max i k : Nat) (min i k : Nat)) r.toNat i k).length)], [], 0, nomem⟩) r.toNat ?_ ?_
        · simp -implicitDefEqProofs only [rkA, rkB, stepA, valA, simprocAttr]
          exact ⟨0, by simp, rfl⟩
        rintro m' s ⟨k, hk, rfl⟩
        simp -implicitDefEqProofs only [rkA, rkB, stepA, valA, simprocAttr]
        refine gB_dec ?_ ?_ <;> intro hc2 <;> simp -implicitDefEqProofs only [hc2, rkA, rkB, stepA, valA, simprocAttr]
        · have hb : i * r.toNat + k ≤ 256 := by
            have : (i + 1) * r.toNat ≤ 16 * 16 := Nat.mul_le_mul (by omega) (by omega)
            rw [Nat.add_mul] at this
            omega
          have m1 : (if (i : Int) < (k : Int) then (k : Int) else (i : Int)) = ((max i k : Nat) : Int) := by split <;> omega
          have m2 : (if (k : Int) < (i : Int) then (k : Int) else (i : Int)) = ((min i k : Nat) : Int) := by split <;> omega
          simp only [m1, m2]
          refine call_fn rfl rfl rfl (ok61 ex r r (max i k : Nat) (min i k : Nat) l) ?_
          have hl1 := hlen i k
          have hfit : fits 4 32 (frs (gridP (fun i k => atF r r l (max i k : Nat) (min i k : Nat)) r.toNat i k)) [frV (atF r r l (max i k : Nat) (min i k : Nat))] = true := fits_frs (l := [atF r r l (max i k : Nat) (min i k : Nat)]) (by simp only [List.length_cons, List.length_nil]; omega)
          have hl : (frs (gridP (fun i k => atF r r l (max i k : Nat) (min i k : Nat)) r.toNat i k)).length = (gridP (fun i k => atF r r l (max i k : Nat) (min i k : Nat)) r.toNat i k).length := by simp
          have hw := wrapped (x := (k : Int) + 1) (by omega) (by omega)
          simp -implicitDefEqProofs only [hfit, hl, hw, rkA, rkB, stepA, valA, simprocAttr]
          refine loopK_of (m' := m' - 1) (by omega) ?_
          simp -implicitDefEqProofs only [rkA, rkB, stepA, valA, simprocAttr]
          refine ⟨k + 1, by omega, ?_⟩
          rw [gridP_succ]
          simp only [frs, List.map_append, List.map_cons, List.map_nil, List.length_append, List.length_cons, List.length_nil, Int.natCast_add, Int.natCast_one]
        · have hkr : k = r.toNat := by omega
          have hw := wrapped (x := (i : Int) + 1) (by omega) (by omega)
          simp -implicitDefEqProofs only [hw, rkA, rkB, stepA, valA, simprocAttr]
          refine loopK_of (m' := m - 1) (by omega) ?_
          simp -implicitDefEqProofs only [rkA, rkB, stepA, valA, simprocAttr]
          refine ⟨i + 1, by omega, ?_⟩
          rw [hkr, gridP_next]
          simp only [Int.natCast_add, Int.natCast_one]
      · have : i = r.toNat := by omega
        subst this
        simp only [mirF]
    · have hne : (r != c) = true := by simp [h1]
      simp -implicitDefEqProofs only [hne, h1, rkA, rkB, stepA, valA, simprocAttr]

end Go.Proofs.Ytambpjbpdackfaa.A.E


set_option linter.unusedVariables false
set_option linter.unusedSimpArgs false
set_option maxRecDepth 100000
namespace Go.Proofs.Ytambpjbpdackfaa.A
open Go Go.RowKit Go.Shelf

/-! ### Functions that hand new rows back -/
theorem frs_cells (l : List Fr) : ∀ e ∈ frs l, e.cells.length = 3 := fun e he => by
  obtain ⟨x, _, rfl⟩ := List.mem_map.1 he
  rfl
theorem RFs_frs : ∀ (l : List Fr), RFs (flat (frs l)) = true
  | [] => rfl
  | x :: l => by
    have h := RFs_frs l
    simp only [frs, List.map_cons, flat, List.flatMap_cons, PV.cells, List.cons_append, List.nil_append, RFs, RF, Bool.true_and] at h ⊢
    exact h

/-- A new matrix: its numbers lie in memory of their own. -/
def NewMat (r c : Int) (l : List PV) (x : PV) (m : Mem) : Prop := ∃ b cap q, l.length ≤ cap ∧ x = .tup [.agg [num r, num c, .s (.slice (some ⟨b, 0, none⟩) l.length cap)], tru true] ∧ m = nomem.put b (flat l ++ List.replicate q .junk)

theorem tell_row {m : Mem} {b cap q : Nat} {l : List Fr} (hm : m b = some (flat (frs l) ++ List.replicate q .junk)) (hc : (frs l).length ≤ cap) : Tell m (.s (.slice (some ⟨b, 0, none⟩) (frs l).length cap)) (.sl false (frs l)) := by
  refine .row hm (frs_cells l) rfl (by simp) hc (fun h => by cases h) ?_
  rw [List.drop_zero, List.take_left]
  exact Tells.same _ _

end Go.Proofs.Ytambpjbpdackfaa.A


set_option linter.unusedVariables false
set_option linter.unusedSimpArgs false
set_option maxRecDepth 100000
namespace Go.Proofs.Ytambpjbpdackfaa.A.E
open Go Go.RowKit Go.Shelf

theorem frs_cells (l : List Fr) : ∀ e ∈ frs l, e.cells.length = 4 := fun e he => by
  obtain ⟨x, _, rfl⟩ := List.mem_map.1 he
  rfl
theorem RFs_frs : ∀ (l : List Fr), RFs (flat (frs l)) = true
  | [] => rfl
  | x :: l => by
    have h := RFs_frs l
    simp only [frs, List.map_cons, flat, List.flatMap_cons, PV.cells, List.cons_append, List.nil_append, RFs, RF, Bool.true_and] at h ⊢
    exact h

theorem okn33 (ex : Bool) (l : List Fr) (hl : l ≠ []) (h : l.length ≤ 4398046511104) : OkN Try.prog 33 [.sl ex (frs l)] (frs l) := by
  have hfit : fits 4 32 [] (frs l) = true := by
    have := fits_frs (k := []) (l := l) (by simpa using h)
    simpa using this
  have he : (frs l).isEmpty = false := by cases l <;> simp_all
  refine okn_fn mixed Try.func33 (code := ?_) (h := hN33) ?_ kN33 rfl (RFs_frs l) ?_
  rotate_left
  · exact rfl
  unfold hN33 initS
  simp -implicitDefEqProofs only [rkA, rkB, stepA, valA, simprocAttr, Try.ntmps33, Try.results33]
  refine nilA_sl _ _ rfl fun b hb => ?_
  have hb' := hb he
  subst hb'
  simp -implicitDefEqProofs only [hfit, he, rkA, rkB, stepA, valA, simprocAttr]
  refine .inl ⟨7, ?_⟩
  simp -implicitDefEqProofs only [rkA, rkB, stepA, valA, simprocAttr]

theorem tell_row {m : Mem} {b cap q : Nat} {l : List Fr} (hm : m b = some (flat (frs l) ++ List.replicate q .junk)) (hc : (frs l).length ≤ cap) : Tell m (.s (.slice (some ⟨b, 0, none⟩) (frs l).length cap)) (.sl false (frs l)) := by
  refine .row hm (frs_cells l) rfl (by simp) hc (fun h => by cases h) ?_
  rw [List.drop_zero, List.take_left]
  exact Tells.same _ _

theorem okm31 (r c : Int) (ex : Bool) (l : List Fr) (hr : right r c l.length = true) : OkM Try.prog 31 [num r, num c, .sl ex (frs l)] nomem (NewMat r c (frs l)) := by
  have hn := right_le hr
  have hpos := right_spec hr
  have hl : l ≠ [] := by
    intro h
    subst h
    have h1 : r * c = 0 := by have := hpos.2.2.2.2; simpa using this.symm
    rcases Int.mul_eq_zero.1 h1 with h | h <;> omega
  refine okm_fn mixed Try.func31 (code := ?_) (h := hN31) ?_ kN31 ?_
  rotate_left
  · exact rfl
  unfold hN31 initS
  simp -implicitDefEqProofs only [rkA, rkB, stepA, valA, simprocAttr, Try.ntmps31, Try.results31]
  refine newRow_fn rfl rfl (Tells.same _ _) (okn33 ex l hl (by omega)) (RFs_frs l) (by simpa using hl) ?_
  intro b cap q hb hcap
  simp -implicitDefEqProofs only [rkA, rkB, stepA, valA, simprocAttr]
  have e : (frs l).length = l.length := by simp
  have h17 := ok57 false r c (frs l)
  rw [e, hr] at h17
  refine lend_fn rfl rfl (.cons (.agg (.cons (.same _) (.cons (.same _) (.cons (tell_row (Mem.put_same _ _ _) hcap) .nil)))) .nil) (h17) rfl ?_
  simp -implicitDefEqProofs only [rkA, rkB, stepA, valA, simprocAttr]
  exact ⟨_, rfl, b, cap, q, hcap, rfl, rfl⟩
end Go.Proofs.Ytambpjbpdackfaa.A.E


set_option linter.unusedVariables false
set_option linter.unusedSimpArgs false
set_option maxRecDepth 100000
namespace Go.Proofs.Ytambpjbpdackfaa.A
open Go Go.RowKit Go.Shelf

end Go.Proofs.Ytambpjbpdackfaa.A


set_option linter.unusedVariables false
set_option linter.unusedSimpArgs false
set_option maxRecDepth 100000
namespace Go.Proofs.Ytambpjbpdackfaa.A.E
open Go Go.RowKit Go.Shelf

/-- A square matrix, number by number. -/
theorem okm59 (n : Nat) (hn : 1 ≤ n ∧ n ≤ 16) (K : Nat) (caps : List PV) (g : Nat → Nat → Fr) (hg : ∀ i k : Nat, i < n → k < n → Ok Try.prog K (num i :: num k :: caps) (frV (g i k))) :
    OkM Try.prog 59 [num n, .fn (.func K) caps] nomem (NewMat n n (frs (gridP g n n 0))) := by
  have hlen := gridP_length g n
  have hbig : ∀ i k, i ≤ n → k ≤ n → i * n + k ≤ 272 := fun i k h1 h2 => by
    have : i * n ≤ 16 * 16 := Nat.mul_le_mul (by omega) (by omega)
    omega
  refine okm_fn mixed Try.func59 (code := ?_) (h := h59) ?_ k59 ?_
  rotate_left
  · exact rfl
  unfold h59 initS
  simp -implicitDefEqProofs only [rkA, rkB, stepA, valA, simprocAttr, Try.ntmps59, Try.results59]
  refine wp_loop (fun m s => ∃ i : Nat, i + m = n ∧ s = ⟨[.v (num n), .v (.fn (.func K) caps), jk, jk, .ptr 4 0, jk, .acc 6 (frs (gridP g n i 0)), jk, jk, .v (num n), nt i, jk, jk, jk, jk, jk, jk, jk, jk, jk, jk, jk, jk, jk, jk, jk, jk, jk, jk, jk, jk, jk], [(4, [nt 0, nt 0, .acc 3004 []])], [],
    [(6, (gridP g n i 0).length), (3004, 0)], [], 0, nomem⟩) n ?_ ?_
  · simp -implicitDefEqProofs only [rkA, rkB, stepA, valA, simprocAttr]
    exact ⟨0, by simp, rfl⟩
  rintro m s ⟨i, hi, rfl⟩
  simp -implicitDefEqProofs only [rkA, rkB, stepA, valA, simprocAttr]
  refine gB_dec ?_ ?_ <;> intro hc <;> simp -implicitDefEqProofs only [hc, rkA, rkB, stepA, valA, simprocAttr]
  · refine wp_loop (fun m s => ∃ k : Nat, k + m = n ∧ s = ⟨[.v (num n), .v (.fn (.func K) caps), jk, jk, .ptr 4 0, jk, .acc 6 (frs (gridP g n i k)), nt i, jk, .v (num n), nt i, jk, jk, .v (num n), nt k, jk, jk, jk, jk, jk, jk, jk, jk, jk, jk, jk, jk, jk, jk, jk, jk, jk], [(4, [nt 0, nt 0, .acc 3004 []])], [],
      [(6, (gridP g n i k).length), (3004, 0)], [], 0, nomem⟩) n ?_ ?_
    · simp -implicitDefEqProofs only [rkA, rkB, stepA, valA, simprocAttr]
      exact ⟨0, by simp, rfl⟩
    rintro m' s ⟨k, hk, rfl⟩
    simp -implicitDefEqProofs only [rkA, rkB, stepA, valA, simprocAttr]
    refine gB_dec ?_ ?_ <;> intro hc2 <;> simp -implicitDefEqProofs only [hc2, rkA, rkB, stepA, valA, simprocAttr]
    · refine call_fn rfl rfl rfl (hg i k (by omega) (by omega)) ?_
      have hl1 := hlen i k
      have hb := hbig i k (by omega) (by omega)
      have hfit : fits 4 32 (frs (gridP g n i k)) [frV (g i k)] = true := fits_frs (l := [g i k]) (by simp only [List.length_cons, List.length_nil]; omega)
      have hl : (frs (gridP g n i k)).length = (gridP g n i k).length := by simp
      have hw := wrapped (x := (k : Int) + 1) (by omega) (by omega)
      simp -implicitDefEqProofs only [hfit, hl, hw, rkA, rkB, stepA, valA, simprocAttr]
      refine loopK_of (m' := m' - 1) (by omega) ?_
      simp -implicitDefEqProofs only [rkA, rkB, stepA, valA, simprocAttr]
      refine ⟨k + 1, by omega, ?_⟩
      rw [gridP_succ]
      simp only [frs, List.map_append, List.map_cons, List.map_nil, List.length_append, List.length_cons, List.length_nil, Int.natCast_add, Int.natCast_one]
    · have hkr : k = n := by omega
      have hw := wrapped (x := (i : Int) + 1) (by omega) (by omega)
      simp -implicitDefEqProofs only [hw, rkA, rkB, stepA, valA, simprocAttr]
      refine loopK_of (m' := m - 1) (by omega) ?_
      simp -implicitDefEqProofs only [rkA, rkB, stepA, valA, simprocAttr]
      refine ⟨i + 1, by omega, ?_⟩
      rw [hkr, gridP_next]
      simp only [Int.natCast_add, Int.natCast_one]
  · have : i = n := by omega
    subst this
    have hr : right (i : Int) (i : Int) (gridP g i i 0).length = true := by
      rw [hlen, Nat.add_zero]
      simp only [right, Bool.and_eq_true, decide_eq_true_eq, beq_iff_eq]
      exact ⟨⟨by omega, by omega⟩, ⟨by omega, by omega⟩, Int.natCast_mul i i⟩
    refine lendNew_fn rfl rfl (Tells.same _ _) (okm31 i i false (gridP g i i 0) hr) ?_ ?_
    · rintro r m' ⟨b, cap, q, h1, rfl, rfl⟩
      refine ⟨rfl, fun c cells hc => ?_⟩
      by_cases e : c = b
      · subst e
        rw [Mem.put_same] at hc
        cases hc
        exact RFs_append (RFs_frs _) (RFs_junk q)
      · rw [Mem.put_other _ _ e] at hc
        cases hc
    · rintro r m' ⟨b, cap, q, h1, rfl, rfl⟩ hfr
      simp -implicitDefEqProofs only [rkA, rkB, stepA, valA, simprocAttr]
      exact ⟨_, rfl, b, cap, q, h1, rfl, rfl⟩
end Go.Proofs.Ytambpjbpdackfaa.A.E



set_option linter.unusedVariables false
set_option linter.unusedSimpArgs false
set_option maxRecDepth 100000
namespace Go.Proofs.Ytambpjbpdackfaa.A
open Go Go.RowKit Go.Shelf

/-! ### Products of two words, compared -/
abbrev prW (p : Nat) : PV := .agg [uw (p / 18446744073709551616), uw (p % 18446744073709551616)]
theorem eq_prW (p q : Nat) : cellsEq [some .u64, some .u64] [uw (p / 18446744073709551616), uw (p % 18446744073709551616)] [uw (q / 18446744073709551616), uw (q % 18446744073709551616)] = some (decide (p = q)) := by
  have e : (p = q) ↔ (((p / 18446744073709551616 : Nat) : Int) = ((q / 18446744073709551616 : Nat) : Int) ∧ ((p % 18446744073709551616 : Nat) : Int) = ((q % 18446744073709551616 : Nat) : Int)) := by omega
  unfold uw
  generalize ((p / 18446744073709551616 : Nat) : Int) = A at *
  generalize ((q / 18446744073709551616 : Nat) : Int) = B at *
  generalize ((p % 18446744073709551616 : Nat) : Int) = C at *
  generalize ((q % 18446744073709551616 : Nat) : Int) = D at *
  simp only [cellsEq, e]
  by_cases h1 : A = B <;> by_cases h2 : C = D <;> simp [h1, h2]
theorem ok43 (p q : Nat) : Ok Try.prog 43 [prW p, prW q] (tru (decide (p < q))) := by
  refine ok_fn mixed Try.func43 (code := ?_) (h := h43) ?_ k43 ?_
  rotate_left
  · exact rfl
  unfold h43 initS
  simp -implicitDefEqProofs (maxSteps := 10000000) only [rkA, rkB, stepA, valA, simprocAttr, Try.ntmps43, Try.results43]
  have e1 := Nat.div_add_mod p 18446744073709551616
  have e2 := Nat.div_add_mod q 18446744073709551616
  have l1 := Nat.mod_lt p (show 0 < 18446744073709551616 by omega)
  have l2 := Nat.mod_lt q (show 0 < 18446744073709551616 by omega)
  refine gB_dec ?_ ?_ <;> intro h1
  · have : p < q := by omega
    simp -implicitDefEqProofs (maxSteps := 10000000) only [this, h1, rkA, rkB, stepA, valA, simprocAttr]
  · simp -implicitDefEqProofs (maxSteps := 10000000) only [h1, rkA, rkB, stepA, valA, simprocAttr]
    refine gB_bool ?_ ?_ <;> intro h2 <;> simp -implicitDefEqProofs (maxSteps := 10000000) only [h2, rkA, rkB, stepA, valA, simprocAttr]
    · have h3 : ((p / 18446744073709551616 : Nat) : Int) = ((q / 18446744073709551616 : Nat) : Int) := by simpa using h2
      have : (((p % 18446744073709551616 : Nat) : Int) < ((q % 18446744073709551616 : Nat) : Int)) = (p < q) := by apply propext; omega
      simp only [this]
    · have h3 : ¬ ((p / 18446744073709551616 : Nat) : Int) = ((q / 18446744073709551616 : Nat) : Int) := by simpa using h2
      have : ¬ p < q := by omega
      simp -implicitDefEqProofs (maxSteps := 10000000) only [this, rkA, rkB, stepA, valA, simprocAttr]

def sgn2 (a b : Int) : Int := if a = 0 ∨ b = 0 then 0 else if (decide (a < 0) != decide (b < 0)) = true then -1 else 1
theorem ok42 (a b : Int) : Ok Try.prog 42 [num a, num b] (num (sgn2 a b)) := by
  refine ok_fn mixed Try.func42 (code := ?_) (h := h42) ?_ k42 ?_
  rotate_left
  · exact rfl
  unfold h42 initS
  simp -implicitDefEqProofs (maxSteps := 10000000) only [rkA, rkB, stepA, valA, simprocAttr, Try.ntmps42, Try.results42]
  unfold sgn2
  refine gB_bool ?_ ?_ <;> intro h1 <;> simp -implicitDefEqProofs (maxSteps := 10000000) only [h1, rkA, rkB, stepA, valA, simprocAttr]
  · have h1' : a = 0 := by simpa using h1
    rw [if_pos (.inl h1')]
  · have h1' : ¬ a = 0 := by simpa using h1
    refine gB_bool ?_ ?_ <;> intro h2 <;> simp -implicitDefEqProofs (maxSteps := 10000000) only [h2, rkA, rkB, stepA, valA, simprocAttr]
    · have h2' : b = 0 := by simpa using h2
      rw [if_pos (.inr h2')]
    · have h2' : ¬ b = 0 := by simpa using h2
      rw [if_neg (by omega)]
      refine gB_bool ?_ ?_ <;> intro h3 <;> simp -implicitDefEqProofs (maxSteps := 10000000) only [h3, rkA, rkB, stepA, valA, simprocAttr]
      · rw [show (decide (a < 0) != decide (b < 0)) = true from h3, if_pos rfl]
      · rw [show (decide (a < 0) != decide (b < 0)) = false from h3, if_neg (by simp)]

def cmpF (a b c d : Int) : Int :=
  if sgn2 a b < sgn2 c d ∨ (sgn2 a b = sgn2 c d ∧ 0 < sgn2 a b ∧ a.natAbs * b.natAbs < c.natAbs * d.natAbs) ∨ (sgn2 a b = sgn2 c d ∧ sgn2 a b < 0 ∧ c.natAbs * d.natAbs < a.natAbs * b.natAbs) then -1
  else if sgn2 c d < sgn2 a b ∨ (a.natAbs * b.natAbs ≠ c.natAbs * d.natAbs ∧ sgn2 a b ≠ 0) then 1 else 0
theorem sgn2_of (a b : Int) : (sgn2 a b = 0 ∧ a * b = 0) ∨ (sgn2 a b = 1 ∧ 0 < a * b) ∨ (sgn2 a b = -1 ∧ a * b < 0) := by
  unfold sgn2
  by_cases h0 : a = 0 ∨ b = 0
  · left
    rw [if_pos h0]
    rcases h0 with rfl | rfl <;> simp
  · rw [if_neg h0]
    right
    rcases Int.lt_or_lt_of_ne (show a ≠ 0 from fun h => h0 (.inl h)) with ha | ha <;> rcases Int.lt_or_lt_of_ne (show b ≠ 0 from fun h => h0 (.inr h)) with hb | hb
    · left
      refine ⟨?_, Int.mul_pos_of_neg_of_neg ha hb⟩
      simp [ha, hb]
    · right
      refine ⟨?_, Int.mul_neg_of_neg_of_pos ha hb⟩
      have : ¬ b < 0 := by omega
      simp [ha, this]
    · right
      refine ⟨?_, Int.mul_neg_of_pos_of_neg ha hb⟩
      have : ¬ a < 0 := by omega
      simp [hb, this]
    · left
      refine ⟨?_, Int.mul_pos ha hb⟩
      have h1 : ¬ b < 0 := by omega
      have h2 : ¬ a < 0 := by omega
      simp [h1, h2]
theorem cmpF_is (a b c d : Int) : cmpF a b c d = if a * b < c * d then -1 else if c * d < a * b then 1 else 0 := by
  unfold cmpF
  have h1 := sgn2_of a b
  have h2 := sgn2_of c d
  rw [← Int.natAbs_mul, ← Int.natAbs_mul]
  generalize a * b = X at *
  generalize c * d = Y at *
  generalize sgn2 a b = x at *
  generalize sgn2 c d = y at *
  by_cases l1 : X < Y
  · rw [if_pos l1, if_pos (by omega)]
  · rw [if_neg l1, if_neg (by omega)]
    by_cases l2 : Y < X
    · rw [if_pos l2, if_pos (by omega)]
    · rw [if_neg l2, if_neg (by omega)]
theorem natAbs_lt {n : Int} (h : rightW n = true) : n.natAbs < 18446744073709551616 := by
  unfold rightW at h
  rw [decide_eq_true_eq] at h
  omega
set_option maxHeartbeats 4000000 in
theorem ok22 (a b c d : Int) (ha : rightW a = true) (hb : rightW b = true) (hc : rightW c = true) (hd : rightW d = true) : Ok Try.prog 22 [num a, num b, num c, num d] (num (cmpF a b c d)) := by
  have w0 : IntKind.wrap .i64 ((0 : Int) + 1) = 1 := by decide
  have w1 : IntKind.wrap .i64 ((1 : Int) + 1) = 2 := by decide
  have w2 : IntKind.wrap .i64 ((2 : Int) + 1) = 3 := by decide
  have w3 : IntKind.wrap .i64 ((3 : Int) + 1) = 4 := by decide
  have n4 : ((4 : Nat) : Int) = 4 := rfl
  refine ok_fn mixed Try.func22 (code := ?_) (h := h22) ?_ k22 ?_
  rotate_left
  · exact rfl
  unfold h22 initS
  simp -implicitDefEqProofs (maxSteps := 10000000) only [rkA, rkB, stepA, valA, simprocAttr, Try.ntmps22, Try.results22]
  refine wp_loop (fun m s => ∃ k : Int, ((k = 0 ∧ m = 4) ∨ (k = 1 ∧ m = 3) ∨ (k = 2 ∧ m = 2) ∨ (k = 3 ∧ m = 1) ∨ (k = 4 ∧ m = 0)) ∧ s = ⟨[.v (num a), .v (num b), .v (num c), .v (num d), jk, jk, jk, jk, jk, jk, jk, jk, jk, jk, jk, jk, jk, jk, jk, jk, .v (.agg [num a, num b, num c, num d]), nt k, jk, jk, jk, jk, jk, jk, jk, jk, jk, jk, jk, jk, jk, jk, jk, jk, jk, jk, jk, jk, jk, jk, jk, jk, jk, jk, jk, jk, jk, jk, jk, jk, jk, jk, jk, jk, jk, jk, jk, jk, jk, jk, jk, jk, jk, jk, jk, jk, jk, jk, jk, jk, jk, jk, jk, jk, jk, jk, jk, jk, jk, jk, jk], [], [], [], [], 0, nomem⟩) 4 ?_ ?_
  · simp -implicitDefEqProofs (maxSteps := 10000000) only [rkA, rkB, stepA, valA, simprocAttr]
    exact ⟨0, by omega, rfl⟩
  rintro m s ⟨k, ⟨rfl, rfl⟩ | ⟨rfl, rfl⟩ | ⟨rfl, rfl⟩ | ⟨rfl, rfl⟩ | ⟨rfl, rfl⟩, rfl⟩
  · simp -implicitDefEqProofs (maxSteps := 10000000) only [n4, rkA, rkB, stepA, valA, simprocAttr]
    refine call_fn rfl rfl rfl (ok37' a) ?_
    simp -implicitDefEqProofs (maxSteps := 10000000) only [ha, w0, rkA, rkB, stepA, valA, simprocAttr]
    refine loopK_of (m' := 3) (by omega) ?_
    simp -implicitDefEqProofs (maxSteps := 10000000) only [rkA, rkB, stepA, valA, simprocAttr]
    exact ⟨1, by omega, rfl⟩
  · simp -implicitDefEqProofs (maxSteps := 10000000) only [n4, rkA, rkB, stepA, valA, simprocAttr]
    refine call_fn rfl rfl rfl (ok37' b) ?_
    simp -implicitDefEqProofs (maxSteps := 10000000) only [hb, w1, rkA, rkB, stepA, valA, simprocAttr]
    refine loopK_of (m' := 2) (by omega) ?_
    simp -implicitDefEqProofs (maxSteps := 10000000) only [rkA, rkB, stepA, valA, simprocAttr]
    exact ⟨2, by omega, rfl⟩
  · simp -implicitDefEqProofs (maxSteps := 10000000) only [n4, rkA, rkB, stepA, valA, simprocAttr]
    refine call_fn rfl rfl rfl (ok37' c) ?_
    simp -implicitDefEqProofs (maxSteps := 10000000) only [hc, w2, rkA, rkB, stepA, valA, simprocAttr]
    refine loopK_of (m' := 1) (by omega) ?_
    simp -implicitDefEqProofs (maxSteps := 10000000) only [rkA, rkB, stepA, valA, simprocAttr]
    exact ⟨3, by omega, rfl⟩
  · simp -implicitDefEqProofs (maxSteps := 10000000) only [n4, rkA, rkB, stepA, valA, simprocAttr]
    refine call_fn rfl rfl rfl (ok37' d) ?_
    simp -implicitDefEqProofs (maxSteps := 10000000) only [hd, w3, rkA, rkB, stepA, valA, simprocAttr]
    refine loopK_of (m' := 0) (by omega) ?_
    simp -implicitDefEqProofs (maxSteps := 10000000) only [rkA, rkB, stepA, valA, simprocAttr]
    exact ⟨4, by omega, rfl⟩
  · simp -implicitDefEqProofs (maxSteps := 10000000) only [rkA, rkB, stepA, valA, simprocAttr]
    refine call_fn rfl rfl rfl (ok42 a b) ?_
    simp -implicitDefEqProofs (maxSteps := 10000000) only [rkA, rkB, stepA, valA, simprocAttr]
    refine call_fn rfl rfl rfl (ok42 c d) ?_
    simp -implicitDefEqProofs (maxSteps := 10000000) only [rkA, rkB, stepA, valA, simprocAttr]
    refine call_fn rfl rfl rfl (ok40 a ha) ?_
    simp -implicitDefEqProofs (maxSteps := 10000000) only [rkA, rkB, stepA, valA, simprocAttr]
    refine call_fn rfl rfl rfl (ok40 b hb) ?_
    simp -implicitDefEqProofs (maxSteps := 10000000) only [rkA, rkB, stepA, valA, simprocAttr]
    refine call_fn rfl rfl rfl (ok39 _ _ (natAbs_lt ha) (natAbs_lt hb)) ?_
    simp -implicitDefEqProofs (maxSteps := 10000000) only [rkA, rkB, stepA, valA, simprocAttr]
    refine call_fn rfl rfl rfl (ok40 c hc) ?_
    simp -implicitDefEqProofs (maxSteps := 10000000) only [rkA, rkB, stepA, valA, simprocAttr]
    refine call_fn rfl rfl rfl (ok40 d hd) ?_
    simp -implicitDefEqProofs (maxSteps := 10000000) only [rkA, rkB, stepA, valA, simprocAttr]
    refine call_fn rfl rfl rfl (ok39 _ _ (natAbs_lt hc) (natAbs_lt hd)) ?_
    unfold cmpF
    generalize sgn2 a b = x
    generalize sgn2 c d = y
    generalize a.natAbs * b.natAbs = p
    generalize c.natAbs * d.natAbs = q
    generalize hF : (if x < y ∨ (x = y ∧ 0 < x ∧ p < q) ∨ (x = y ∧ x < 0 ∧ q < p) then (-1 : Int) else if y < x ∨ (p ≠ q ∧ x ≠ 0) then 1 else 0) = r
    simp -implicitDefEqProofs (maxSteps := 10000000) only [rkA, rkB, stepA, valA, simprocAttr]
    repeat' (first
      | (refine gB_bool ?_ ?_ <;> intro hx <;> simp -implicitDefEqProofs (maxSteps := 10000000) only [hx, eq_prW, rkA, rkB, stepA, valA, simprocAttr])
      | (refine call_fn rfl rfl rfl (ok43 p q) ?_; simp -implicitDefEqProofs (maxSteps := 10000000) only [rkA, rkB, stepA, valA, simprocAttr])
      | (refine call_fn rfl rfl rfl (ok43 q p) ?_; simp -implicitDefEqProofs (maxSteps := 10000000) only [rkA, rkB, stepA, valA, simprocAttr]))
    all_goals clear ha hb hc hd w0 w1 w2 w3 n4
    all_goals simp only [decide_eq_true_eq, decide_eq_false_iff_not, beq_iff_eq, beq_eq_false_iff_ne, bne_iff_ne, bne_eq_false_iff_eq, Bool.not_eq_true', Bool.not_eq_false'] at *
    all_goals first
      | (rw [← hF, if_pos (by omega)]; done)
      | (rw [← hF, if_neg (by omega), if_pos (by omega)]; done)
      | (rw [← hF, if_neg (by omega), if_neg (by omega)]; done)
      | (exfalso; omega)
end Go.Proofs.Ytambpjbpdackfaa.A


set_option linter.unusedVariables false
set_option linter.unusedSimpArgs false
set_option maxRecDepth 100000
namespace Go.Proofs.Ytambpjbpdackfaa.A
open Go Go.RowKit Go.Shelf

/-! ### Roots of whole numbers, bit by bit -/
end Go.Proofs.Ytambpjbpdackfaa.A



set_option linter.unusedVariables false
set_option linter.unusedSimpArgs false
set_option maxRecDepth 100000
namespace Go.Proofs.Ytambpjbpdackfaa.A
open Go Go.RowKit Go.Shelf

/-! ### Roots of products, bit by bit -/
end Go.Proofs.Ytambpjbpdackfaa.A



set_option linter.unusedVariables false
set_option linter.unusedSimpArgs false
set_option maxRecDepth 100000
namespace Go.Proofs.Ytambpjbpdackfaa.A
open Go Go.RowKit Go.Shelf

/-! ### Roots of rounded numbers -/
end Go.Proofs.Ytambpjbpdackfaa.A
namespace Go.Proofs.Ytambpjbpdackfaa.A.E
open Go Go.RowKit Go.Shelf

/-! ### Roots, signs of enclosed numbers -/
end Go.Proofs.Ytambpjbpdackfaa.A.E


set_option linter.unusedVariables false
set_option linter.unusedSimpArgs false
namespace Go.Proofs.Ytambpjbpdackfaa.A
open Go Go.RowKit Go.Shelf

theorem grid_getD {g : Nat → Nat → Int} {n N i k : Nat} (hi : i < N) (hk : k < n) : (gridP g n N 0).getD (i * n + k) 0 = g i k := by
  rw [List.getD_eq_getElem?_getD, gridP_get g n N i k hi hk, Option.getD_some]
end Go.Proofs.Ytambpjbpdackfaa.A


set_option linter.unusedVariables false
set_option linter.unusedSimpArgs false
set_option maxRecDepth 100000
namespace Go.Proofs.Ytambpjbpdackfaa.A
open Go Go.RowKit Go.Shelf

/-! ### The unit -/
end Go.Proofs.Ytambpjbpdackfaa.A


set_option linter.unusedVariables false
set_option linter.unusedSimpArgs false
set_option maxRecDepth 100000
namespace Go.Proofs.Ytambpjbpdackfaa.A.E
open Go Go.RowKit Go.Shelf

end Go.Proofs.Ytambpjbpdackfaa.A.E



set_option linter.unusedVariables false
set_option linter.unusedSimpArgs false
set_option maxRecDepth 100000
namespace Go.Proofs.Ytambpjbpdackfaa.A
open Go Go.RowKit Go.Shelf

/-! ### Plain laws of products -/
theorem dotI_sum (a b : List Int) (many cols i k : Nat) : ∀ j, dotI a b many cols i k j = ((List.range j).map fun j => a.getD (i * many + j) 0 * b.getD (j * cols + k) 0).sum
  | 0 => rfl
  | j + 1 => by
    simp only [dotI, List.range_succ, List.map_append, List.sum_append, List.map_cons, List.map_nil, List.sum_cons, List.sum_nil]
    rw [dotI_sum a b many cols i k j]
    omega

theorem sum_congr {f g : Nat → Int} {n : Nat} (h : ∀ j, j < n → f j = g j) : ((List.range n).map f).sum = ((List.range n).map g).sum := by
  congr 1
  apply List.map_congr_left
  intro j hj
  exact h j (List.mem_range.1 hj)
theorem sum_mul (f : Nat → Int) (c : Int) : ∀ n, ((List.range n).map f).sum * c = ((List.range n).map fun j => f j * c).sum
  | 0 => by simp
  | n + 1 => by
    simp only [List.range_succ, List.map_append, List.sum_append, List.map_cons, List.map_nil, List.sum_cons, List.sum_nil, Int.add_mul]
    rw [sum_mul f c n]
    omega
theorem mul_sum' (f : Nat → Int) (c : Int) (n : Nat) : c * ((List.range n).map f).sum = ((List.range n).map fun j => c * f j).sum := by
  rw [Int.mul_comm, sum_mul]
  exact sum_congr fun j _ => Int.mul_comm _ _
theorem sum_add (f g : Nat → Int) : ∀ n, ((List.range n).map fun j => f j + g j).sum = ((List.range n).map f).sum + ((List.range n).map g).sum
  | 0 => rfl
  | n + 1 => by
    simp only [List.range_succ, List.map_append, List.sum_append, List.map_cons, List.map_nil, List.sum_cons, List.sum_nil]
    rw [sum_add f g n]
    omega
theorem sum_swap (f : Nat → Nat → Int) : ∀ n m, ((List.range n).map fun i => ((List.range m).map fun j => f i j).sum).sum = ((List.range m).map fun j => ((List.range n).map fun i => f i j).sum).sum
  | 0, m => by
    have : ∀ m : Nat, ((List.range m).map fun _ => (0 : Int)).sum = 0 := fun m => by
      induction m with
      | zero => rfl
      | succ m ih => simp [List.range_succ, ih]
    simp [this]
  | n + 1, m => by
    simp only [List.range_succ, List.map_append, List.sum_append, List.map_cons, List.map_nil, List.sum_cons, List.sum_nil, Int.add_zero]
    rw [sum_swap f n m, sum_add]

/-- Brackets do not matter. -/
theorem mul_assoc {a b c : List Int} {N : Nat} : mulI (mulI a b N N N) c N N N = mulI a (mulI b c N N N) N N N := by
  have hg : ∀ {x y : List Int} {i k : Nat}, i < N → k < N → (mulI x y N N N).getD (i * N + k) 0 = dotI x y N N i k N := fun hi hk => grid_getD hi hk
  show gridP _ N N 0 = gridP _ N N 0
  refine gridP_congr fun i k hi hk => ?_
  rw [dotI_sum, dotI_sum]
  have e1 : ((List.range N).map fun j => (mulI a b N N N).getD (i * N + j) 0 * c.getD (j * N + k) 0).sum = ((List.range N).map fun j => ((List.range N).map fun l => a.getD (i * N + l) 0 * b.getD (l * N + j) 0 * c.getD (j * N + k) 0).sum).sum :=
    sum_congr fun j hj => by rw [hg hi hj, dotI_sum, sum_mul]
  have e2 : ((List.range N).map fun l => a.getD (i * N + l) 0 * (mulI b c N N N).getD (l * N + k) 0).sum = ((List.range N).map fun l => ((List.range N).map fun j => a.getD (i * N + l) 0 * b.getD (l * N + j) 0 * c.getD (j * N + k) 0).sum).sum :=
    sum_congr fun l hl => by
      rw [hg hl hk, dotI_sum, mul_sum']
      exact sum_congr fun j _ => by rw [Int.mul_assoc]
  rw [e1, e2, sum_swap]

end Go.Proofs.Ytambpjbpdackfaa.A


set_option linter.unusedVariables false
set_option linter.unusedSimpArgs false
set_option maxRecDepth 100000
namespace Go.Proofs.Ytambpjbpdackfaa.A
open Go Go.RowKit Go.Shelf

/-! ### Division -/
/-! ### A row, scaled -/
/-! ### Squares -/
/-- A square. -/
def sqF (r : Int) (l : List Fr) : List Fr := mirF r (prodF r r r l (turnF r r l))
theorem prodF_len {r m c : Int} {a b : List Fr} : (prodF r m c a b).length = r.toNat * c.toNat := by
  unfold prodF
  simp only [List.length_flatMap, List.length_map, allF, List.length_range, List.map_map]
  have e : ∀ l : List Nat, (l.map ((fun _ => c.toNat) ∘ fun (i : Nat) => rowF r m a (i : Int))).sum = l.length * c.toNat := fun l => by
    induction l with
    | nil => simp
    | cons x l ih => rw [List.map_cons, List.sum_cons, ih, List.length_cons, Nat.add_mul, Nat.one_mul, Nat.add_comm]; rfl
  rw [e, List.length_range]
theorem right_sq {n : Nat} (hn : 1 ≤ n ∧ n ≤ 16) {l : List Fr} (h : l.length = n * n) : right (n : Int) (n : Int) l.length = true := right_nat hn hn h
end Go.Proofs.Ytambpjbpdackfaa.A


set_option linter.unusedVariables false
set_option linter.unusedSimpArgs false
set_option maxRecDepth 100000
namespace Go.Proofs.Ytambpjbpdackfaa.A.E
open Go Go.RowKit Go.Shelf

theorem ok58 (ex : Bool) (r c : Int) (l : List Fr) : Ok Try.prog 58 [matV ex r c (frs l)] (tru (right r c l.length && (r == c))) := by
  refine ok_fn mixed Try.func58 (code := ?_) (h := h58) ?_ k58 ?_
  rotate_left
  · exact rfl
  unfold h58 initS
  simp -implicitDefEqProofs only [rkA, rkB, stepA, valA, simprocAttr, Try.ntmps58, Try.results58]
  refine call_fn rfl rfl rfl (ok57 ex r c (frs l)) ?_
  have e : (frs l).length = l.length := by simp
  rw [e]
  cases hr : right r c l.length with
  | false => simp -implicitDefEqProofs only [rkA, rkB, stepA, valA, simprocAttr]
  | true => simp -implicitDefEqProofs only [rkA, rkB, stepA, valA, simprocAttr]

/-- A square. -/
def sqF (r : Int) (l : List Fr) : List Fr := mirF r (prodF r r r l (turnF r r l))
theorem prodF_len {r m c : Int} {a b : List Fr} : (prodF r m c a b).length = r.toNat * c.toNat := by
  unfold prodF
  simp only [List.length_flatMap, List.length_map, allF, List.length_range, List.map_map]
  have e : ∀ l : List Nat, (l.map ((fun _ => c.toNat) ∘ fun (i : Nat) => rowF r m a (i : Int))).sum = l.length * c.toNat := fun l => by
    induction l with
    | nil => simp
    | cons x l ih => rw [List.map_cons, List.sum_cons, ih, List.length_cons, Nat.add_mul, Nat.one_mul, Nat.add_comm]; rfl
  rw [e, List.length_range]
theorem right_sq {n : Nat} (hn : 1 ≤ n ∧ n ≤ 16) {l : List Fr} (h : l.length = n * n) : right (n : Int) (n : Int) l.length = true := right_nat hn hn h
theorem ok35 (n : Nat) (hn : 1 ≤ n ∧ n ≤ 16) (ex : Bool) (l : List Fr) (h : l.length = n * n) : Ok Try.prog 35 [matV ex n n (frs l)] (.tup [matV false n n (frs (sqF n l)), tru true]) := by
  have hr := right_sq hn h
  refine ok_fn mixed Try.func35 (code := ?_) (h := h35) ?_ k35 ?_
  rotate_left
  · exact rfl
  unfold h35 initS
  simp -implicitDefEqProofs only [rkA, rkB, stepA, valA, simprocAttr, Try.ntmps35, Try.results35]
  refine call_fn rfl rfl rfl (ok58 ex n n l) ?_
  simp -implicitDefEqProofs only [hr, beq_self_eq_true, rkA, rkB, stepA, valA, simprocAttr]
  have h25 := ok63 ex n n l
  rw [if_pos hr] at h25
  refine call_fn rfl rfl rfl (h25) ?_
  simp -implicitDefEqProofs only [rkA, rkB, stepA, valA, simprocAttr]
  have hrt := right_turn hr
  have h13 := ok62 ex false n n n n l (turnF n n l)
  rw [if_pos ⟨hr, hrt, rfl⟩] at h13
  refine call_fn rfl rfl rfl (h13) ?_
  simp -implicitDefEqProofs only [rkA, rkB, stepA, valA, simprocAttr]
  have h33 := ok64 false n n (prodF n n n l (turnF n n l))
  have hp : right (n : Int) (n : Int) (prodF n n n l (turnF n n l)).length = true := right_sq hn (by rw [prodF_len]; simp)
  rw [if_pos ⟨hp, rfl⟩] at h33
  refine call_fn rfl rfl rfl (h33) ?_
  simp -implicitDefEqProofs only [rkA, rkB, stepA, valA, simprocAttr, sqF]
end Go.Proofs.Ytambpjbpdackfaa.A.E


set_option linter.unusedVariables false
set_option linter.unusedSimpArgs false
set_option maxRecDepth 100000
namespace Go.Proofs.Ytambpjbpdackfaa.A
open Go Go.RowKit Go.Shelf

/-! ### Squares in memory, row by row -/
def rowM (n : Nat) (M : Nat → Nat → Fr) (i : Nat) : List Fr := (List.range n).map (M i)
def setM (M : Nat → Nat → Fr) (i k : Nat) (x : Fr) : Nat → Nat → Fr := fun a b => if a = i ∧ b = k then x else M a b
theorem rowM_length (n : Nat) (M : Nat → Nat → Fr) (i : Nat) : (rowM n M i).length = n := by simp [rowM]
theorem rowM_get {n : Nat} {M : Nat → Nat → Fr} {i k : Nat} (h : k < n) : (rowM n M i)[k]? = some (M i k) := by simp [rowM, h]
theorem rowM_set {n : Nat} {M : Nat → Nat → Fr} {i k : Nat} {x : Fr} (h : k < n) : (rowM n M i).set k x = rowM n (setM M i k x) i := by
  apply List.ext_getElem?
  intro j
  rw [List.getElem?_set]
  by_cases hj : j < n
  · by_cases e : k = j
    · subst e
      rw [if_pos rfl, if_pos (by rw [rowM_length]; exact h), rowM_get h]
      simp [setM]
    · rw [if_neg e, rowM_get hj, rowM_get hj]
      have : ¬ (j = k) := fun h => e h.symm
      simp [setM, this]
  · rw [if_neg (by omega), List.getElem?_eq_none (by rw [rowM_length]; omega), List.getElem?_eq_none (by rw [rowM_length]; omega)]
theorem rowM_other {n : Nat} {M : Nat → Nat → Fr} {i j k : Nat} {x : Fr} (h : j ≠ i) : rowM n (setM M i k x) j = rowM n M j := by
  simp [rowM, setM, h]

abbrev rawRow (c n : Nat) : PV := .s (.slice (some ⟨c, 0, none⟩) n n)
abbrev nilRow : PV := .s (.slice none 0 0)
/-- The rows' row: b of n are there. -/
def headR (n b : Nat) (c : Nat → Nat) : List PV := (List.range n).map fun j => if j < b then rawRow (c j) n else nilRow
theorem headR_length (n b : Nat) (c : Nat → Nat) : (headR n b c).length = n := by simp [headR]
structure RowsIn (m : Mem) (R : Nat) (c : Nat → Nat) (n b : Nat) (M : Nat → Nat → Fr) : Prop where
  head : m R = some (headR n b c)
  row : ∀ i, i < b → m (c i) = some (flat (frs (rowM n M i)))
  ne : ∀ i, i < b → c i ≠ R
  inj : ∀ i j, i < b → j < b → c i = c j → i = j

theorem RowsIn.store {m : Mem} {R : Nat} {c : Nat → Nat} {n b : Nat} {M : Nat → Nat → Fr} (h : RowsIn m R c n b M) {i k : Nat} (hi : i < b) (hk : k < n) (x : Fr) :
    RowsIn (m.put (c i) (flat (frs ((rowM n M i).set k x)))) R c n b (setM M i k x) where
  head := by rw [Mem.put_other _ _ (fun e => h.ne i hi e.symm)]; exact h.head
  row := fun j hj => by
    by_cases e : j = i
    · subst e
      rw [Mem.put_same, rowM_set hk]
    · rw [Mem.put_other _ _ (fun e' => e (h.inj j i hj hi e')), rowM_other e]
      exact h.row j hj
  ne := h.ne
  inj := h.inj

theorem tells_map {α : Type} {m : Mem} {f g : α → PV} : ∀ {l : List α}, (∀ x ∈ l, Tell m (f x) (g x)) → Tells m (l.map f) (l.map g)
  | [], _ => .nil
  | x :: l, h => .cons (h x (by simp)) (tells_map fun y hy => h y (by simp [hy]))

/-- The rows, as values. -/
abbrev rowsV (n : Nat) (M : Nat → Nat → Fr) : PV := .sl true ((List.range n).map fun i => .sl false (frs (rowM n M i)))
theorem flat_one {l : List PV} (h : ∀ x ∈ l, x.cells = [x]) : flat l = l := by
  induction l with
  | nil => rfl
  | cons x l ih =>
    have e1 := h x (by simp)
    have e2 := ih fun y hy => h y (by simp [hy])
    simp only [flat, List.flatMap_cons, e1] at e2 ⊢
    rw [e2]
    rfl
theorem RowsIn.tell {m : Mem} {R : Nat} {c : Nat → Nat} {n : Nat} {M : Nat → Nat → Fr} (h : RowsIn m R c n n M) : Tell m (rawRow R n) (rowsV n M) := by
  have hf : flat ((List.range n).map fun i => PV.sl false (frs (rowM n M i))) = (List.range n).map fun i => PV.sl false (frs (rowM n M i)) := flat_one fun x hx => by
    obtain ⟨i, _, rfl⟩ := List.mem_map.1 hx
    rfl
  refine .row (sz := 1) h.head (fun x hx => ?_) (by simp) (by rw [hf, headR_length]; simp) (Nat.le_refl _) (fun _ => rfl) ?_
  · obtain ⟨i, _, rfl⟩ := List.mem_map.1 hx
    rfl
  · rw [hf, List.drop_zero, List.take_of_length_le (by rw [headR_length]; simp)]
    refine tells_map fun i hi => ?_
    have hi' := List.mem_range.1 hi
    rw [if_pos hi']
    have e := h.row i hi'
    rw [← List.append_nil (flat _)] at e
    have := tell_row (m := m) (b := c i) (cap := n) (q := 0) (l := rowM n M i) e (by simp [rowM_length])
    simpa [rowM_length] using this

/-! ### The root of a square -/
/-- While the rows are made: noughts so far, zero values behind. -/
def zeroM (i k : Nat) : Nat → Nat → Fr := fun a b => if a < i ∨ a = i ∧ b < k then newF 0 1 else ⟨0, 0, false⟩

theorem zero_row (n i : Nat) : rowM n (zeroM i 0) i = List.replicate n ⟨0, 0, false⟩ := by
  apply List.ext_getElem?
  intro j
  by_cases h : j < n
  · rw [rowM_get h]; simp [zeroM, h]
  · rw [List.getElem?_eq_none (by rw [rowM_length]; omega), List.getElem?_eq_none (by simp; omega)]
theorem RowsIn.grow {m : Mem} {R : Nat} {c : Nat → Nat} {n i b : Nat} (h : RowsIn m R c n i (zeroM i 0)) (hi : i < n) (hb : m b = none) :
    RowsIn ((m.put b (flat (frs (List.replicate n (⟨0, 0, false⟩ : Fr))))).put R (headR n (i + 1) (fun j => if j = i then b else c j))) R (fun j => if j = i then b else c j) n (i + 1) (zeroM i 0) := by
  have hRb : R ≠ b := fun e => by have := h.head; rw [e, hb] at this; cases this
  have hcb : ∀ j, j < i → c j ≠ b := fun j hj e => by have := h.row j hj; rw [e, hb] at this; cases this
  refine ⟨Mem.put_same _ _ _, fun j hj => ?_, fun j hj => ?_, fun j k hj hk => ?_⟩
  · by_cases e : j = i
    · subst e
      rw [if_pos rfl, Mem.put_other _ _ (fun e => hRb e.symm), Mem.put_same, zero_row]
    · rw [if_neg e, Mem.put_other _ _ (h.ne j (by omega)), Mem.put_other _ _ (hcb j (by omega))]
      exact h.row j (by omega)
  · by_cases e : j = i
    · rw [if_pos e]; exact fun e => hRb e.symm
    · rw [if_neg e]; exact h.ne j (by omega)
  · by_cases e : j = i <;> by_cases e' : k = i
    · intro _; omega
    · rw [if_pos e, if_neg e']
      exact fun h1 => absurd h1.symm (hcb k (by omega))
    · rw [if_neg e, if_pos e']
      exact fun h1 => absurd h1 (hcb j (by omega))
    · rw [if_neg e, if_neg e']
      exact h.inj j k (by omega) (by omega)
theorem RowsIn.congr {m : Mem} {R : Nat} {c : Nat → Nat} {n b : Nat} {M N : Nat → Nat → Fr} (h : RowsIn m R c n b M) (hMN : ∀ i k, i < b → k < n → M i k = N i k) : RowsIn m R c n b N :=
  ⟨h.head, fun i hi => by
    have e : rowM n N i = rowM n M i := by
      unfold rowM
      exact List.map_congr_left fun k hk => (hMN i k hi (List.mem_range.1 hk)).symm
    rw [e]
    exact h.row i hi, h.ne, h.inj⟩

end Go.Proofs.Ytambpjbpdackfaa.A


set_option linter.unusedVariables false
set_option linter.unusedSimpArgs false
set_option maxRecDepth 100000
namespace Go.Proofs.Ytambpjbpdackfaa.A.E
open Go Go.RowKit Go.Shelf

def rowM (n : Nat) (M : Nat → Nat → Fr) (i : Nat) : List Fr := (List.range n).map (M i)
def setM (M : Nat → Nat → Fr) (i k : Nat) (x : Fr) : Nat → Nat → Fr := fun a b => if a = i ∧ b = k then x else M a b
theorem rowM_length (n : Nat) (M : Nat → Nat → Fr) (i : Nat) : (rowM n M i).length = n := by simp [rowM]
theorem rowM_get {n : Nat} {M : Nat → Nat → Fr} {i k : Nat} (h : k < n) : (rowM n M i)[k]? = some (M i k) := by simp [rowM, h]
theorem rowM_set {n : Nat} {M : Nat → Nat → Fr} {i k : Nat} {x : Fr} (h : k < n) : (rowM n M i).set k x = rowM n (setM M i k x) i := by
  apply List.ext_getElem?
  intro j
  rw [List.getElem?_set]
  by_cases hj : j < n
  · by_cases e : k = j
    · subst e
      rw [if_pos rfl, if_pos (by rw [rowM_length]; exact h), rowM_get h]
      simp [setM]
    · rw [if_neg e, rowM_get hj, rowM_get hj]
      have : ¬ (j = k) := fun h => e h.symm
      simp [setM, this]
  · rw [if_neg (by omega), List.getElem?_eq_none (by rw [rowM_length]; omega), List.getElem?_eq_none (by rw [rowM_length]; omega)]
theorem rowM_other {n : Nat} {M : Nat → Nat → Fr} {i j k : Nat} {x : Fr} (h : j ≠ i) : rowM n (setM M i k x) j = rowM n M j := by
  simp [rowM, setM, h]

structure RowsIn (m : Mem) (R : Nat) (c : Nat → Nat) (n b : Nat) (M : Nat → Nat → Fr) : Prop where
  head : m R = some (headR n b c)
  row : ∀ i, i < b → m (c i) = some (flat (frs (rowM n M i)))
  ne : ∀ i, i < b → c i ≠ R
  inj : ∀ i j, i < b → j < b → c i = c j → i = j

theorem RowsIn.store {m : Mem} {R : Nat} {c : Nat → Nat} {n b : Nat} {M : Nat → Nat → Fr} (h : RowsIn m R c n b M) {i k : Nat} (hi : i < b) (hk : k < n) (x : Fr) :
    RowsIn (m.put (c i) (flat (frs ((rowM n M i).set k x)))) R c n b (setM M i k x) where
  head := by rw [Mem.put_other _ _ (fun e => h.ne i hi e.symm)]; exact h.head
  row := fun j hj => by
    by_cases e : j = i
    · subst e
      rw [Mem.put_same, rowM_set hk]
    · rw [Mem.put_other _ _ (fun e' => e (h.inj j i hj hi e')), rowM_other e]
      exact h.row j hj
  ne := h.ne
  inj := h.inj

/-- The rows, as values. -/
abbrev rowsV (n : Nat) (M : Nat → Nat → Fr) : PV := .sl true ((List.range n).map fun i => .sl false (frs (rowM n M i)))
theorem RowsIn.tell {m : Mem} {R : Nat} {c : Nat → Nat} {n : Nat} {M : Nat → Nat → Fr} (h : RowsIn m R c n n M) : Tell m (rawRow R n) (rowsV n M) := by
  have hf : flat ((List.range n).map fun i => PV.sl false (frs (rowM n M i))) = (List.range n).map fun i => PV.sl false (frs (rowM n M i)) := flat_one fun x hx => by
    obtain ⟨i, _, rfl⟩ := List.mem_map.1 hx
    rfl
  refine .row (sz := 1) h.head (fun x hx => ?_) (by simp) (by rw [hf, headR_length]; simp) (Nat.le_refl _) (fun _ => rfl) ?_
  · obtain ⟨i, _, rfl⟩ := List.mem_map.1 hx
    rfl
  · rw [hf, List.drop_zero, List.take_of_length_le (by rw [headR_length]; simp)]
    refine tells_map fun i hi => ?_
    have hi' := List.mem_range.1 hi
    rw [if_pos hi']
    have e := h.row i hi'
    rw [← List.append_nil (flat _)] at e
    have := tell_row (m := m) (b := c i) (cap := n) (q := 0) (l := rowM n M i) e (by simp [rowM_length])
    simpa [rowM_length] using this

/-- While the rows are made: noughts so far, zero values behind. -/
def zeroM (i k : Nat) : Nat → Nat → Fr := fun a b => if a < i ∨ a = i ∧ b < k then newF 0 1 else ⟨0, 0, 0, false⟩

theorem zero_row (n i : Nat) : rowM n (zeroM i 0) i = List.replicate n ⟨0, 0, 0, false⟩ := by
  apply List.ext_getElem?
  intro j
  by_cases h : j < n
  · rw [rowM_get h]; simp [zeroM, h]
  · rw [List.getElem?_eq_none (by rw [rowM_length]; omega), List.getElem?_eq_none (by simp; omega)]
theorem RowsIn.grow {m : Mem} {R : Nat} {c : Nat → Nat} {n i b : Nat} (h : RowsIn m R c n i (zeroM i 0)) (hi : i < n) (hb : m b = none) :
    RowsIn ((m.put b (flat (frs (List.replicate n (⟨0, 0, 0, false⟩ : Fr))))).put R (headR n (i + 1) (fun j => if j = i then b else c j))) R (fun j => if j = i then b else c j) n (i + 1) (zeroM i 0) := by
  have hRb : R ≠ b := fun e => by have := h.head; rw [e, hb] at this; cases this
  have hcb : ∀ j, j < i → c j ≠ b := fun j hj e => by have := h.row j hj; rw [e, hb] at this; cases this
  refine ⟨Mem.put_same _ _ _, fun j hj => ?_, fun j hj => ?_, fun j k hj hk => ?_⟩
  · by_cases e : j = i
    · subst e
      rw [if_pos rfl, Mem.put_other _ _ (fun e => hRb e.symm), Mem.put_same, zero_row]
    · rw [if_neg e, Mem.put_other _ _ (h.ne j (by omega)), Mem.put_other _ _ (hcb j (by omega))]
      exact h.row j (by omega)
  · by_cases e : j = i
    · rw [if_pos e]; exact fun e => hRb e.symm
    · rw [if_neg e]; exact h.ne j (by omega)
  · by_cases e : j = i <;> by_cases e' : k = i
    · intro _; omega
    · rw [if_pos e, if_neg e']
      exact fun h1 => absurd h1.symm (hcb k (by omega))
    · rw [if_neg e, if_pos e']
      exact fun h1 => absurd h1 (hcb j (by omega))
    · rw [if_neg e, if_neg e']
      exact h.inj j k (by omega) (by omega)
theorem RowsIn.congr {m : Mem} {R : Nat} {c : Nat → Nat} {n b : Nat} {M N : Nat → Nat → Fr} (h : RowsIn m R c n b M) (hMN : ∀ i k, i < b → k < n → M i k = N i k) : RowsIn m R c n b N :=
  ⟨h.head, fun i hi => by
    have e : rowM n N i = rowM n M i := by
      unfold rowM
      exact List.map_congr_left fun k hk => (hMN i k hi (List.mem_range.1 hk)).symm
    rw [e]
    exact h.row i hi, h.ne, h.inj⟩

end Go.Proofs.Ytambpjbpdackfaa.A.E


set_option linter.unusedVariables false
set_option linter.unusedSimpArgs false
set_option maxRecDepth 100000
namespace Go.Proofs.Ytambpjbpdackfaa.A.E
open Go Go.RowKit Go.Shelf

theorem ok59 (n : Nat) (hn : 1 ≤ n ∧ n ≤ 16) (K : Nat) (caps : List PV) (g : Nat → Nat → Fr) (hg : ∀ i k : Nat, i < n → k < n → Ok Try.prog K (num i :: num k :: caps) (frV (g i k))) :
    Ok Try.prog 59 [num n, .fn (.func K) caps] (.tup [matV false n n (frs (gridP g n n 0)), tru true]) := by
  refine Ok.ofM (okm59 n hn K caps g hg) ?_
  rintro r m ⟨b, cap, q, h1, rfl, rfl⟩
  have hl : (frs (gridP g n n 0)).length = (gridP g n n 0).length := by simp
  exact .tup (.cons (.agg (.cons (.same _) (.cons (.same _) (.cons (tell_row (Mem.put_same _ _ _) h1) .nil)))) (.cons (.same _) .nil))

def clearG (n : Nat) (l : List Fr) (i k : Nat) : Fr := if i < k then newF 0 1 else atF n n l i k
def clearF (n : Nat) (l : List Fr) : List Fr := gridP (clearG n l) n n 0
theorem ok60 (e : Bool) (n : Nat) (l : List Fr) (i k : Nat) : Ok Try.prog 60 [num i, num k, .vp [num 0, num 0, num 0, tru false], .vp [num n, num n, .sl e (frs l)]] (frV (clearG n l i k)) := by
  refine ok_fn mixed Try.func60 (code := ?_) (h := h60) ?_ k60 ?_
  rotate_left
  · exact rfl
  unfold h60 initS
  simp -implicitDefEqProofs only [rkA, rkB, stepA, valA, simprocAttr, Try.ntmps60, Try.results60]
  unfold clearG
  refine gB_dec ?_ ?_ <;> intro hc <;> simp -implicitDefEqProofs only [hc, rkA, rkB, stepA, valA, simprocAttr]
  · have : i < k := by omega
    refine call_meth rfl rfl methOf (ok95 ⟨0, 0, 0, false⟩ 0) ?_
    rw [if_pos this]
    simp -implicitDefEqProofs only [rkA, rkB, stepA, valA, simprocAttr]
  · have : ¬ i < k := by omega
    refine call_fn rfl rfl rfl (ok61 e n n i k l) ?_
    rw [if_neg this]
    simp -implicitDefEqProofs only [rkA, rkB, stepA, valA, simprocAttr]

theorem ok32 (n : Nat) (hn : 1 ≤ n ∧ n ≤ 16) (e : Bool) (l : List Fr) (h : l.length = n * n) : Ok Try.prog 32 [matV e n n (frs l)] (.tup [matV false n n (frs (clearF n l)), tru true]) := by
  have hr := right_sq hn h
  refine ok_fn mixed Try.func32 (code := ?_) (h := h32) ?_ k32 ?_
  rotate_left
  · exact rfl
  unfold h32 initS
  simp -implicitDefEqProofs only [rkA, rkB, stepA, valA, simprocAttr, Try.ntmps32, Try.results32]
  refine call_fn rfl rfl rfl (ok58 e n n l) ?_
  simp -implicitDefEqProofs only [hr, beq_self_eq_true, rkA, rkB, stepA, valA, simprocAttr]
  refine call_fn rfl rfl rfl (ok59 n hn _ _ (clearG n l) (fun i k _ _ => ok60 e n l i k)) ?_
  simp -implicitDefEqProofs only [rkA, rkB, stepA, valA, simprocAttr, clearF]

end Go.Proofs.Ytambpjbpdackfaa.A.E


set_option linter.unusedVariables false
set_option linter.unusedSimpArgs false
set_option maxRecDepth 100000
namespace Go.Proofs.Ytambpjbpdackfaa.A
open Go Go.RowKit Go.Shelf

/-! ### Cleared -/
def clearG (n : Nat) (l : List Fr) (i k : Nat) : Fr := if i < k then newF 0 1 else atF n n l i k
def clearF (n : Nat) (l : List Fr) : List Fr := gridP (clearG n l) n n 0
/-! ### The diagonal -/
/-! ### Is it a triangle? -/
end Go.Proofs.Ytambpjbpdackfaa.A


set_option linter.unusedVariables false
set_option linter.unusedSimpArgs false
set_option maxRecDepth 100000
namespace Go.Proofs.Ytambpjbpdackfaa.A
open Go Go.RowKit Go.Shelf

/-! ### Rows in memory of their own -/
end Go.Proofs.Ytambpjbpdackfaa.A


set_option linter.unusedVariables false
set_option linter.unusedSimpArgs false
set_option maxRecDepth 100000
namespace Go.Proofs.Ytambpjbpdackfaa.A.E
open Go Go.RowKit Go.Shelf

end Go.Proofs.Ytambpjbpdackfaa.A.E


set_option linter.unusedVariables false
set_option linter.unusedSimpArgs false
set_option maxRecDepth 100000
namespace Go.Proofs.Ytambpjbpdackfaa.A
open Go Go.RowKit Go.Shelf

/-! ### Rows in memory: each in a block of its own -/
abbrev jnk (q : Nat) : List PV := List.replicate q .junk
structure RowsC (m : Mem) (c q : Nat → Nat) (n w : Nat) (M : Nat → Nat → Fr) : Prop where
  row : ∀ i, i < n → m (c i) = some (flat (frs (rowM w M i)) ++ jnk (q i))
  inj : ∀ i j, i < n → j < n → c i = c j → i = j
/-! ### One column folded -/
theorem RowsC.congr {mm : Mem} {c q : Nat → Nat} {n w : Nat} {M N : Nat → Nat → Fr} (h : RowsC mm c q n w M) (hMN : ∀ a j, a < n → j < w → M a j = N a j) : RowsC mm c q n w N := ⟨fun a ha => by
  have e : rowM w N a = rowM w M a := by
    unfold rowM
    exact List.map_congr_left fun j hj => (hMN a j ha (List.mem_range.1 hj)).symm
  rw [e]
  exact h.row a ha, h.inj⟩
theorem RowsC.store {mm : Mem} {c q : Nat → Nat} {n w : Nat} {M : Nat → Nat → Fr} (h : RowsC mm c q n w M) {i k : Nat} (hi : i < n) (hk : k < w) (x : Fr) :
    RowsC (mm.put (c i) (flat (frs ((rowM w M i).set k x)) ++ jnk (q i))) c q n w (setM M i k x) := ⟨fun j hj => by
  by_cases e : j = i
  · subst e
    rw [Mem.put_same, rowM_set hk]
  · rw [Mem.put_other _ _ (fun e' => e (h.inj j i hj hi e')), rowM_other e]
    exact h.row j hj, h.inj⟩
end Go.Proofs.Ytambpjbpdackfaa.A


set_option linter.unusedVariables false
set_option linter.unusedSimpArgs false
set_option maxRecDepth 100000
namespace Go.Proofs.Ytambpjbpdackfaa.A.E
open Go Go.RowKit Go.Shelf

structure RowsC (m : Mem) (c q : Nat → Nat) (n w : Nat) (M : Nat → Nat → Fr) : Prop where
  row : ∀ i, i < n → m (c i) = some (flat (frs (rowM w M i)) ++ jnk (q i))
  inj : ∀ i j, i < n → j < n → c i = c j → i = j
theorem RowsC.congr {mm : Mem} {c q : Nat → Nat} {n w : Nat} {M N : Nat → Nat → Fr} (h : RowsC mm c q n w M) (hMN : ∀ a j, a < n → j < w → M a j = N a j) : RowsC mm c q n w N := ⟨fun a ha => by
  have e : rowM w N a = rowM w M a := by
    unfold rowM
    exact List.map_congr_left fun j hj => (hMN a j ha (List.mem_range.1 hj)).symm
  rw [e]
  exact h.row a ha, h.inj⟩
theorem RowsC.store {mm : Mem} {c q : Nat → Nat} {n w : Nat} {M : Nat → Nat → Fr} (h : RowsC mm c q n w M) {i k : Nat} (hi : i < n) (hk : k < w) (x : Fr) :
    RowsC (mm.put (c i) (flat (frs ((rowM w M i).set k x)) ++ jnk (q i))) c q n w (setM M i k x) := ⟨fun j hj => by
  by_cases e : j = i
  · subst e
    rw [Mem.put_same, rowM_set hk]
  · rw [Mem.put_other _ _ (fun e' => e (h.inj j i hj hi e')), rowM_other e]
    exact h.row j hj, h.inj⟩
end Go.Proofs.Ytambpjbpdackfaa.A.E


set_option linter.unusedVariables false
set_option linter.unusedSimpArgs false
set_option maxRecDepth 100000
namespace Go.Proofs.Ytambpjbpdackfaa.A
open Go Go.RowKit Go.Shelf

/-! ### No diagonal below 0 -/
end Go.Proofs.Ytambpjbpdackfaa.A


set_option linter.unusedVariables false
set_option linter.unusedSimpArgs false
set_option maxRecDepth 100000
namespace Go.Proofs.Ytambpjbpdackfaa.A.E
open Go Go.RowKit Go.Shelf

end Go.Proofs.Ytambpjbpdackfaa.A.E


set_option linter.unusedVariables false
set_option linter.unusedSimpArgs false
set_option maxRecDepth 100000
namespace Go.Proofs.Ytambpjbpdackfaa.A
open Go Go.RowKit Go.Shelf

theorem RowsC.grow {mm : Mem} {c q : Nat → Nat} {i w b z : Nat} {M : Nat → Nat → Fr} (h : RowsC mm c q i w M) (hb : mm b = none) :
    RowsC (mm.put b (flat (frs (rowM w M i)) ++ jnk z)) (fun j => if j = i then b else c j) (fun j => if j = i then z else q j) (i + 1) w M := by
  have hcb : ∀ j, j < i → c j ≠ b := fun j hj e => by have := h.row j hj; rw [e, hb] at this; cases this
  refine ⟨fun j hj => ?_, fun j k hj hk => ?_⟩
  · by_cases e : j = i
    · subst e
      simp only [if_true]
      rw [Mem.put_same]
    · simp only [e, if_false]
      rw [Mem.put_other _ _ (hcb j (by omega))]
      exact h.row j (by omega)
  · by_cases e : j = i <;> by_cases e' : k = i
    · intro _; omega
    · simp only [e, e', if_true, if_false]
      exact fun h1 => absurd h1.symm (hcb k (by omega))
    · simp only [e, e', if_true, if_false]
      exact fun h1 => absurd h1 (hcb j (by omega))
    · simp only [e, e', if_false]
      exact h.inj j k (by omega) (by omega)
/-! ### All columns folded -/
end Go.Proofs.Ytambpjbpdackfaa.A


set_option linter.unusedVariables false
set_option linter.unusedSimpArgs false
set_option maxRecDepth 100000
namespace Go.Proofs.Ytambpjbpdackfaa.A.E
open Go Go.RowKit Go.Shelf

theorem RowsC.grow {mm : Mem} {c q : Nat → Nat} {i w b z : Nat} {M : Nat → Nat → Fr} (h : RowsC mm c q i w M) (hb : mm b = none) :
    RowsC (mm.put b (flat (frs (rowM w M i)) ++ jnk z)) (fun j => if j = i then b else c j) (fun j => if j = i then z else q j) (i + 1) w M := by
  have hcb : ∀ j, j < i → c j ≠ b := fun j hj e => by have := h.row j hj; rw [e, hb] at this; cases this
  refine ⟨fun j hj => ?_, fun j k hj hk => ?_⟩
  · by_cases e : j = i
    · subst e
      simp only [if_true]
      rw [Mem.put_same]
    · simp only [e, if_false]
      rw [Mem.put_other _ _ (hcb j (by omega))]
      exact h.row j (by omega)
  · by_cases e : j = i <;> by_cases e' : k = i
    · intro _; omega
    · simp only [e, e', if_true, if_false]
      exact fun h1 => absurd h1.symm (hcb k (by omega))
    · simp only [e, e', if_true, if_false]
      exact fun h1 => absurd h1 (hcb j (by omega))
    · simp only [e, e', if_false]
      exact h.inj j k (by omega) (by omega)
end Go.Proofs.Ytambpjbpdackfaa.A.E



set_option linter.unusedVariables false
set_option linter.unusedSimpArgs false
set_option maxRecDepth 100000
namespace Go.Proofs.Ytambpjbpdackfaa.A
open Go Go.RowKit Go.Shelf

/-! ### root.column: one column of a triangle, behind a measurement -/
/-- Rows lie as they lay, whatever is written elsewhere. -/
theorem RowsC.other {mm : Mem} {c q : Nat → Nat} {n w b : Nat} {M : Nat → Nat → Fr} {x : List PV} (h : RowsC mm c q n w M) (hb : ∀ i, i < n → c i ≠ b) : RowsC (mm.put b x) c q n w M :=
  ⟨fun i hi => by rw [Mem.put_other _ _ (hb i hi)]; exact h.row i hi, h.inj⟩
end Go.Proofs.Ytambpjbpdackfaa.A



set_option linter.unusedVariables false
set_option linter.unusedSimpArgs false
set_option maxRecDepth 100000
namespace Go.Proofs.Ytambpjbpdackfaa.A.E
open Go Go.RowKit Go.Shelf

/-- Rows lie as they lay, whatever is written elsewhere. -/
theorem RowsC.other {mm : Mem} {c q : Nat → Nat} {n w b : Nat} {M : Nat → Nat → Fr} {x : List PV} (h : RowsC mm c q n w M) (hb : ∀ i, i < n → c i ≠ b) : RowsC (mm.put b x) c q n w M :=
  ⟨fun i hi => by rw [Mem.put_other _ _ (hb i hi)]; exact h.row i hi, h.inj⟩
end Go.Proofs.Ytambpjbpdackfaa.A.E







set_option linter.unusedVariables false
set_option linter.unusedSimpArgs false
set_option maxRecDepth 100000
namespace Go.Proofs.Ytambpjbpdackfaa.A
open Go Go.RowKit Go.Shelf

/-! ### slices.Concat -/
end Go.Proofs.Ytambpjbpdackfaa.A



set_option linter.unusedVariables false
set_option linter.unusedSimpArgs false
set_option maxRecDepth 100000
namespace Go.Proofs.Ytambpjbpdackfaa.A.E
open Go Go.RowKit Go.Shelf

end Go.Proofs.Ytambpjbpdackfaa.A.E



set_option linter.unusedVariables false
set_option linter.unusedSimpArgs false
set_option maxRecDepth 100000
namespace Go.Proofs.Ytambpjbpdackfaa.A
open Go Go.RowKit Go.Shelf

/-! ### States -/
abbrev stV (ex ep : Bool) (x : List PV) (r c : Int) (l : List PV) : PV := .agg [.sl ex x, num r, num c, .sl ep l]
abbrev stNil : PV := .agg [.s (.slice none 0 0), num 0, num 0, .s (.slice none 0 0)]
def stRight (k : Nat) (r c : Int) (n : Nat) : Bool := decide (1 ≤ k ∧ k ≤ 4) && (right r c n && (r == k && c == k))
theorem stRight_nat {k n : Nat} {m : Nat} (h : m = n * n) : stRight k n n m = decide (1 ≤ k ∧ k ≤ 4 ∧ k = n) := by
  by_cases hk : 1 ≤ k ∧ k ≤ 4
  · by_cases e : k = n
    · subst e
      have := right_nat (R := k) (K := k) (n := m) (by omega) (by omega) h
      simp [stRight, hk, this]
    · have e2 : ((n : Int) == (k : Int)) = false := by simp; omega
      simp [stRight, e2, e]
  · have : ¬ (1 ≤ k ∧ k ≤ 4 ∧ k = n) := by omega
    simp [stRight, hk, this]

theorem sqF_len (n : Nat) (l : List Fr) : (sqF n l).length = n * n := by
  rw [sqF, mirF, gridP_length]
  simp
/-! ### A new state -/
/-! ### Turned -/
end Go.Proofs.Ytambpjbpdackfaa.A



set_option linter.unusedVariables false
set_option linter.unusedSimpArgs false
set_option maxRecDepth 100000
namespace Go.Proofs.Ytambpjbpdackfaa.A.E
open Go Go.RowKit Go.Shelf

abbrev stV (ex ep : Bool) (x : List PV) (r c : Int) (l : List PV) : PV := .agg [.sl ex x, num r, num c, .sl ep l]
theorem ok36 (ex ep : Bool) (x l : List Fr) (r c : Int) : Ok Try.prog 36 [stV ex ep (frs x) r c (frs l)] (tru (stRight x.length r c l.length)) := by
  refine ok_fn mixed Try.func36 (code := ?_) (h := h36) ?_ k36 ?_
  rotate_left
  · exact rfl
  unfold h36 initS
  simp -implicitDefEqProofs (maxSteps := 10000000) only [rkA, rkB, stepA, valA, simprocAttr, Try.ntmps36, Try.results36]
  have e : (frs x).length = x.length := by simp
  have e' : (frs l).length = l.length := by simp
  by_cases hx : 1 ≤ x.length ∧ x.length ≤ 4
  · have h1 : (1 : Int) ≤ (x.length : Int) := by omega
    have h2 : (x.length : Int) ≤ 4 := by omega
    simp -implicitDefEqProofs (maxSteps := 10000000) only [e, h1, h2, rkA, rkB, stepA, valA, simprocAttr]
    refine call_fn rfl rfl rfl (ok57 ep r c (frs l)) ?_
    rw [e']
    cases hr : right r c l.length with
    | false => simp -implicitDefEqProofs (maxSteps := 10000000) only [stRight, hx, hr, rkA, rkB, stepA, valA, simprocAttr]
    | true =>
      simp -implicitDefEqProofs (maxSteps := 10000000) only [rkA, rkB, stepA, valA, simprocAttr]
      cases h3 : (r == (x.length : Int)) with
      | false => simp -implicitDefEqProofs (maxSteps := 10000000) only [stRight, hx, hr, h3, rkA, rkB, stepA, valA, simprocAttr]
      | true => simp -implicitDefEqProofs (maxSteps := 10000000) only [stRight, hx, hr, h3, rkA, rkB, stepA, valA, simprocAttr]
  · have hs : stRight x.length r c l.length = false := by simp -implicitDefEqProofs (maxSteps := 10000000) only [stRight, hx, rkA, rkB, stepA, valA, simprocAttr]
    rw [hs]
    by_cases h1 : 1 ≤ x.length
    · have h1' : (1 : Int) ≤ (x.length : Int) := by omega
      have h2 : ¬ (x.length : Int) ≤ 4 := by omega
      simp -implicitDefEqProofs (maxSteps := 10000000) only [e, h1', h2, rkA, rkB, stepA, valA, simprocAttr]
    · have h1' : ¬ (1 : Int) ≤ (x.length : Int) := by omega
      simp -implicitDefEqProofs (maxSteps := 10000000) only [e, h1', rkA, rkB, stepA, valA, simprocAttr]

theorem sqF_len (n : Nat) (l : List Fr) : (sqF n l).length = n * n := by
  rw [sqF, mirF, gridP_length]
  simp
theorem ok17 (ex er : Bool) (x l : List Fr) (n : Nat) (hn : 1 ≤ n ∧ n ≤ 16) (hl : l.length = n * n) (hx : x.length ≤ 4398046511104) :
    Ok Try.prog 17 [.sl ex (frs x), matV er n n (frs l)] (if 1 ≤ x.length ∧ x.length ≤ 4 ∧ x.length = n then .tup [stV false false (frs x) n n (frs (sqF n l)), tru true] else .tup [stNil, tru false]) := by
  refine ok_fn mixed Try.func17 (code := ?_) (h := h17) ?_ k17 ?_
  rotate_left
  · exact rfl
  unfold h17 initS
  simp -implicitDefEqProofs (maxSteps := 10000000) only [rkA, rkB, stepA, valA, simprocAttr, Try.ntmps17, Try.results17]
  refine call_fn rfl rfl rfl (ok35 n hn er l hl) ?_
  simp -implicitDefEqProofs (maxSteps := 10000000) only [rkA, rkB, stepA, valA, simprocAttr]
  refine call_fn rfl rfl rfl (ok33 ex x hx) ?_
  simp -implicitDefEqProofs (maxSteps := 10000000) only [rkA, rkB, stepA, valA, simprocAttr]
  refine call_fn rfl rfl rfl (ok36 false false x (sqF n l) n n) ?_
  rw [stRight_nat (sqF_len n l)]
  by_cases h : 1 ≤ x.length ∧ x.length ≤ 4 ∧ x.length = n
  · rw [if_pos h, decide_eq_true h]
    simp -implicitDefEqProofs (maxSteps := 10000000) only [rkA, rkB, stepA, valA, simprocAttr]
  · rw [if_neg h, decide_eq_false h]
    simp -implicitDefEqProofs (maxSteps := 10000000) only [rkA, rkB, stepA, valA, simprocAttr]

end Go.Proofs.Ytambpjbpdackfaa.A.E



set_option linter.unusedVariables false
set_option linter.unusedSimpArgs false
set_option maxRecDepth 100000
namespace Go.Proofs.Ytambpjbpdackfaa.A
open Go Go.RowKit Go.Shelf

/-! ### root: may a state be? -/
/-! ### Update -/
end Go.Proofs.Ytambpjbpdackfaa.A



set_option linter.unusedVariables false
set_option linter.unusedSimpArgs false
set_option maxRecDepth 100000
namespace Go.Proofs.Ytambpjbpdackfaa.A.E
open Go Go.RowKit Go.Shelf

theorem ok34 (ex ep : Bool) (x l : List Fr) (r c : Int) : Ok Try.prog 34 [stV ex ep (frs x) r c (frs l)] (tru (stRight x.length r c l.length)) := by
  refine ok_fn mixed Try.func34 (code := ?_) (h := h34) ?_ k34 ?_
  rotate_left
  · exact rfl
  unfold h34 initS
  simp -implicitDefEqProofs (maxSteps := 10000000) only [rkA, rkB, stepA, valA, simprocAttr, Try.ntmps34, Try.results34]
  have e : (frs x).length = x.length := by simp
  have e' : (frs l).length = l.length := by simp
  by_cases hx : 1 ≤ x.length ∧ x.length ≤ 4
  · have h1 : (1 : Int) ≤ (x.length : Int) := by omega
    have h2 : (x.length : Int) ≤ 4 := by omega
    simp -implicitDefEqProofs (maxSteps := 10000000) only [e, h1, h2, rkA, rkB, stepA, valA, simprocAttr]
    refine call_fn rfl rfl rfl (ok57 ep r c (frs l)) ?_
    rw [e']
    cases hr : right r c l.length with
    | false => simp -implicitDefEqProofs (maxSteps := 10000000) only [stRight, hx, hr, rkA, rkB, stepA, valA, simprocAttr]
    | true =>
      simp -implicitDefEqProofs (maxSteps := 10000000) only [rkA, rkB, stepA, valA, simprocAttr]
      cases h3 : (r == (x.length : Int)) with
      | false => simp -implicitDefEqProofs (maxSteps := 10000000) only [stRight, hx, hr, h3, rkA, rkB, stepA, valA, simprocAttr]
      | true => simp -implicitDefEqProofs (maxSteps := 10000000) only [stRight, hx, hr, h3, rkA, rkB, stepA, valA, simprocAttr]
  · have hs : stRight x.length r c l.length = false := by simp -implicitDefEqProofs (maxSteps := 10000000) only [stRight, hx, rkA, rkB, stepA, valA, simprocAttr]
    rw [hs]
    by_cases h1 : 1 ≤ x.length
    · have h1' : (1 : Int) ≤ (x.length : Int) := by omega
      have h2 : ¬ (x.length : Int) ≤ 4 := by omega
      simp -implicitDefEqProofs (maxSteps := 10000000) only [e, h1', h2, rkA, rkB, stepA, valA, simprocAttr]
    · have h1' : ¬ (1 : Int) ≤ (x.length : Int) := by omega
      simp -implicitDefEqProofs (maxSteps := 10000000) only [e, h1', rkA, rkB, stepA, valA, simprocAttr]

end Go.Proofs.Ytambpjbpdackfaa.A.E


set_option linter.unusedVariables false
set_option linter.unusedSimpArgs false
set_option maxRecDepth 100000
namespace Go.Proofs.Ytambpjbpdackfaa.A
open Go Go.RowKit Go.Shelf

/-! ### The document's answers, of whole numbers -/
/-! ### What the document fixes of a root -/
end Go.Proofs.Ytambpjbpdackfaa.A



set_option linter.unusedVariables false
set_option linter.unusedSimpArgs false
set_option maxRecDepth 100000
namespace Go.Proofs.Ytambpjbpdackfaa.A
open Go Go.RowKit Go.Shelf

/-! ### Predict -/
end Go.Proofs.Ytambpjbpdackfaa.A



set_option linter.unusedVariables false
set_option linter.unusedSimpArgs false
set_option maxRecDepth 100000
namespace Go.Proofs.Ytambpjbpdackfaa.A
open Go Go.RowKit Go.Shelf

/-! ### Update -/
section
variable (n : Nat) (x p h : List Fr) (r z : Fr)
end
end Go.Proofs.Ytambpjbpdackfaa.A


set_option linter.unusedVariables false
set_option linter.unusedSimpArgs false
set_option maxRecDepth 100000
namespace Go.Proofs.Ytambpjbpdackfaa.A
open Go Go.RowKit Go.Shelf

/-! ### Fractions as numbers -/
def Fr.val (x : Fr) : Rat := (x.n : Rat) / (x.d : Rat)
theorem cast_ne {d : Int} (h : d ≠ 0) : (d : Rat) ≠ 0 := by
  intro e
  exact h (Rat.intCast_inj.1 (by simpa using e))
theorem div_val {n d m e : Int} (hd : d ≠ 0) (he : e ≠ 0) (h : (n : Rat) / d = (m : Rat) / e) : n * e = m * d := by
  have h1 := cast_ne hd
  have h2 := cast_ne he
  have h3 : (n : Rat) * e = (m : Rat) * d := by grind
  rw [← Rat.intCast_mul, ← Rat.intCast_mul] at h3
  exact Rat.intCast_inj.1 h3

/-- What New tells, where it is not Bad. -/
theorem newF_spec {n d : Int} (h : (newF n d).bad = false) : d ≠ 0 ∧ 0 < (newF n d).d ∧ (newF n d).n * d = n * (newF n d).d ∧ Int.gcd (newF n d).n (newF n d).d = 1 ∧ (newF n d).d ≤ 1073741824 ∧ (newF n d).n ≤ 1073741824 ∧ -1073741824 ≤ (newF n d).n := by
  unfold newF at h ⊢
  by_cases h1 : n > 1152921504606846976 ∨ n < -1152921504606846976 ∨ d > 1152921504606846976 ∨ d < -1152921504606846976 ∨ d = 0
  · rw [if_pos h1] at h; cases h
  rw [if_neg h1] at h ⊢
  simp only at h ⊢
  have hd : d ≠ 0 := by omega
  have key : ∀ m e : Int, 0 < e → m * d = n * e → ∀ x : Fr, x = (if m.tdiv (Int.gcd m e : Int) > 1073741824 ∨ m.tdiv (Int.gcd m e : Int) < -1073741824 ∨ e.tdiv (Int.gcd m e : Int) > 1073741824 then Fr.wrong else ⟨m.tdiv (Int.gcd m e : Int), e.tdiv (Int.gcd m e : Int), false⟩) → x.bad = false →
      d ≠ 0 ∧ 0 < x.d ∧ x.n * d = n * x.d ∧ Int.gcd x.n x.d = 1 ∧ x.d ≤ 1073741824 ∧ x.n ≤ 1073741824 ∧ -1073741824 ≤ x.n := by
    intro m e he hme x hx hb
    have hg : 0 < Int.gcd m e := Int.gcd_pos_of_ne_zero_right m (by omega)
    obtain ⟨m', hm'⟩ := Int.gcd_dvd_left m e
    obtain ⟨e', he'⟩ := Int.gcd_dvd_right m e
    generalize hk : Int.gcd m e = k at *
    have hk0 : (k : Int) ≠ 0 := by omega
    have q1 : m.tdiv (k : Int) = m' := by rw [hm', Int.mul_tdiv_cancel_left _ hk0]
    have q2 : e.tdiv (k : Int) = e' := by rw [he', Int.mul_tdiv_cancel_left _ hk0]
    rw [q1, q2] at hx
    have hcop : Int.gcd m' e' = 1 := by
      have h3 : Int.gcd ((k : Int) * m') ((k : Int) * e') = k * Int.gcd m' e' := by
        rw [Int.gcd_mul_left]; simp
      rw [← hm', ← he', hk] at h3
      have : k * 1 = k * Int.gcd m' e' := by omega
      exact (Nat.eq_of_mul_eq_mul_left hg this).symm
    have he0 : 0 < e' := by
      have h4 : 0 < (k : Int) * e' := by rw [← he']; exact he
      exact Int.pos_of_mul_pos_right h4 (by omega)
    split at hx
    · rw [hx] at hb; cases hb
    · rename_i hns
      subst hx
      refine ⟨hd, he0, ?_, hcop, by simp only; omega, by simp only; omega, by simp only; omega⟩
      simp only
      rw [hm', he'] at hme
      have : (k : Int) * (m' * d) = (k : Int) * (n * e') := by
        rw [← Int.mul_assoc, hme, ← Int.mul_assoc, ← Int.mul_assoc, Int.mul_comm (k : Int) n]
      exact Int.eq_of_mul_eq_mul_left hk0 this
  by_cases hneg : d < 0
  · simp only [hneg, if_true] at h ⊢
    exact key (-n) (-d) (by omega) (by rw [Int.neg_mul, Int.mul_neg]) _ rfl h
  · simp only [hneg, if_false] at h ⊢
    exact key n d (by omega) rfl _ rfl h

theorem fine_low {x : Fr} (h : x.fine = true) : x.bad = false ∧ 0 < x.d ∧ Int.gcd x.n x.d = 1 := by
  obtain ⟨h1, h2, h3, h4, h5⟩ := Fr.fine_spec h
  refine ⟨h1, by omega, ?_⟩
  have hn : newF x.n x.d = x := by
    unfold Fr.fine at h
    simp only [Bool.and_eq_true, beq_iff_eq, decide_eq_true_eq] at h
    obtain ⟨n, d, b⟩ := x
    obtain ⟨_, k1, k2, k3, _⟩ := h
    generalize newF n d = y at *
    obtain ⟨n', d', b'⟩ := y
    simp only at k1 k2 k3
    rw [k1, k2, k3]
  have hb : (newF x.n x.d).bad = false := by rw [hn]; exact h1
  obtain ⟨_, _, _, g, _⟩ := newF_spec hb
  rw [hn] at g
  exact g
theorem dvd_cop {a b c : Int} (h : a ∣ b * c) (g : Int.gcd b a = 1) : a ∣ c := by
  rw [← Int.natAbs_dvd_natAbs] at h ⊢
  rw [Int.natAbs_mul] at h
  refine Nat.Coprime.dvd_of_dvd_mul_left ?_ h
  rw [Int.gcd_comm] at g
  exact g
/-- What stands for the same number is the same. -/
theorem fine_inj {a b : Fr} (ha : a.fine = true) (hb : b.fine = true) (h : a.val = b.val) : a = b := by
  obtain ⟨a1, a2, a3⟩ := fine_low ha
  obtain ⟨b1, b2, b3⟩ := fine_low hb
  have e := div_val (by omega) (by omega) h
  have c1 : a.d ∣ b.d := by
    have : a.d ∣ a.n * b.d := ⟨b.n, by rw [e, Int.mul_comm]⟩
    exact dvd_cop this a3
  have c2 : b.d ∣ a.d := by
    have : b.d ∣ b.n * a.d := ⟨a.n, by rw [← e, Int.mul_comm]⟩
    exact dvd_cop this b3
  have hd : a.d = b.d := Int.dvd_antisymm (by omega) (by omega) c1 c2
  rw [hd] at e
  have hn : a.n = b.n := Int.eq_of_mul_eq_mul_right (by omega) e
  obtain ⟨n, d, x⟩ := a
  obtain ⟨n', d', x'⟩ := b
  simp only at hd hn a1 b1
  rw [hd, hn, a1, b1]
/-- x stands for the number v. -/
def Is (x : Fr) (v : Rat) : Prop := x.fine = true ∧ x.val = v
theorem Is.inj {a b : Fr} {v : Rat} (ha : Is a v) (hb : Is b v) : a = b := fine_inj ha.1 hb.1 (ha.2.trans hb.2.symm)
end Go.Proofs.Ytambpjbpdackfaa.A


set_option linter.unusedVariables false
set_option linter.unusedSimpArgs false
set_option maxRecDepth 100000
namespace Go.Proofs.Ytambpjbpdackfaa.A
open Go Go.RowKit Go.Shelf

/-! ### Sums of numbers -/
/-! ### Dots -/
/-! ### Products, entry by entry -/
end Go.Proofs.Ytambpjbpdackfaa.A


set_option linter.unusedVariables false
set_option linter.unusedSimpArgs false
set_option maxRecDepth 100000
namespace Go.Proofs.Ytambpjbpdackfaa.A
open Go Go.RowKit Go.Shelf

/-! ### Plain laws of clearing -/
/-! ### The function TriClears -/
end Go.Proofs.Ytambpjbpdackfaa.A


set_option linter.unusedVariables false
set_option linter.unusedSimpArgs false
set_option maxRecDepth 100000
namespace Go.Proofs.Ytambpjbpdackfaa.A
open Go Go.RowKit Go.Shelf

/-! ### Plain laws of squares -/
end Go.Proofs.Ytambpjbpdackfaa.A



set_option linter.unusedVariables false
set_option linter.unusedSimpArgs false
set_option maxRecDepth 100000
namespace Go.Proofs.Ytambpjbpdackfaa.A
open Go Go.RowKit Go.Shelf

/-! ### Nothing's triangles -/
/-! ### Plain laws of clearing, of whole numbers -/
/-! ### The function TriTells -/
end Go.Proofs.Ytambpjbpdackfaa.A



set_option linter.unusedVariables false
set_option linter.unusedSimpArgs false
set_option maxRecDepth 100000
namespace Go.Proofs.Ytambpjbpdackfaa.A
open Go Go.RowKit Go.Shelf

/-! ### root: new states, and what they stand for -/
theorem clearF_len (n : Nat) (l : List Fr) : (clearF n l).length = n * n := by rw [clearF, gridP_length, Nat.add_zero]
end Go.Proofs.Ytambpjbpdackfaa.A



set_option linter.unusedVariables false
set_option linter.unusedSimpArgs false
set_option maxRecDepth 100000
namespace Go.Proofs.Ytambpjbpdackfaa.A.E
open Go Go.RowKit Go.Shelf

theorem clearF_len (n : Nat) (l : List Fr) : (clearF n l).length = n * n := by rw [clearF, gridP_length, Nat.add_zero]
theorem ok15 (ex er : Bool) (x l : List Fr) (n : Nat) (hn : 1 ≤ n ∧ n ≤ 16) (hl : l.length = n * n) (hx : x.length ≤ 4398046511104) :
    Ok Try.prog 15 [.sl ex (frs x), matV er n n (frs l)] (if 1 ≤ x.length ∧ x.length ≤ 4 ∧ x.length = n then .tup [stV false false (frs x) n n (frs (clearF n l)), tru true] else .tup [stNil, tru false]) := by
  refine ok_fn mixed Try.func15 (code := ?_) (h := h15) ?_ k15 ?_
  rotate_left
  · exact rfl
  unfold h15 initS
  simp -implicitDefEqProofs (maxSteps := 10000000) only [rkA, rkB, stepA, valA, simprocAttr, Try.ntmps15, Try.results15]
  refine call_fn rfl rfl rfl (ok32 n hn er l hl) ?_
  simp -implicitDefEqProofs (maxSteps := 10000000) only [rkA, rkB, stepA, valA, simprocAttr]
  refine call_fn rfl rfl rfl (ok33 ex x hx) ?_
  simp -implicitDefEqProofs (maxSteps := 10000000) only [rkA, rkB, stepA, valA, simprocAttr]
  refine call_fn rfl rfl rfl (ok34 false false x (clearF n l) n n) ?_
  rw [stRight_nat (clearF_len n l)]
  by_cases h : 1 ≤ x.length ∧ x.length ≤ 4 ∧ x.length = n
  · rw [if_pos h, decide_eq_true h]
    simp -implicitDefEqProofs (maxSteps := 10000000) only [rkA, rkB, stepA, valA, simprocAttr]
  · rw [if_neg h, decide_eq_false h]
    simp -implicitDefEqProofs (maxSteps := 10000000) only [rkA, rkB, stepA, valA, simprocAttr]
end Go.Proofs.Ytambpjbpdackfaa.A.E


set_option linter.unusedVariables false
set_option linter.unusedSimpArgs false
set_option maxRecDepth 100000
namespace Go.Proofs.Ytambpjbpdackfaa.A.E
open Go Go.RowKit Go.Shelf

/-! ### Whole numbers, enclosed: points -/
abbrev whole (n : Int) : Fr := ⟨n * 16777216, n * 16777216, n * 16777216, false⟩
end Go.Proofs.Ytambpjbpdackfaa.A.E



set_option linter.unusedVariables false
set_option linter.unusedSimpArgs false
set_option maxRecDepth 100000
namespace Go.Proofs.Ytambpjbpdackfaa.A.E
open Go Go.RowKit Go.Shelf

/-! ### Is a fraction enclosed? -/
/-! ### Products of whole numbers -/
end Go.Proofs.Ytambpjbpdackfaa.A.E



set_option linter.unusedVariables false
set_option linter.unusedSimpArgs false
set_option maxRecDepth 100000
namespace Go.Proofs.Ytambpjbpdackfaa.A.E
open Go Go.RowKit Go.Shelf

/-! ### What the document fixes of one number, behind layer 10 -/
end Go.Proofs.Ytambpjbpdackfaa.A.E



set_option linter.unusedVariables false
set_option linter.unusedSimpArgs false
set_option maxRecDepth 100000
namespace Go.Proofs.Ytambpjbpdackfaa.A.E
open Go Go.RowKit Go.Shelf

/-! ### The function RootNew -/
end Go.Proofs.Ytambpjbpdackfaa.A.E



set_option linter.unusedVariables false
set_option linter.unusedSimpArgs false
set_option maxRecDepth 100000
namespace Go.Proofs.Ytambpjbpdackfaa.A.E
open Go Go.RowKit Go.Shelf

/-! ### root: one tick on -/
end Go.Proofs.Ytambpjbpdackfaa.A.E



set_option linter.unusedVariables false
set_option linter.unusedSimpArgs false
set_option maxRecDepth 100000
namespace Go.Proofs.Ytambpjbpdackfaa.A.E
open Go Go.RowKit Go.Shelf

/-! ### Both lanes -/
structure Pr where
  n : Nat
  x : List Fr
  p : List Fr
  y : List Fr
  s : List Fr
  e0 : Fr
  a0 : Fr
  e1 : Fr
  a1 : Fr
structure Pr.good (q : Pr) : Prop where
  n1 : 1 ≤ q.n
  n4 : q.n ≤ 4
  lx : q.x.length = q.n
  lp : q.p.length = q.n * q.n
  ly : q.y.length = q.n
  ls : q.s.length = q.n * q.n
abbrev pairV (b1 b2 b3 b4 : Bool) (q : Pr) : PV := .agg [.sl b1 (frs q.x), num q.n, num q.n, .sl b2 (frs q.p), .sl b3 (frs q.y), num q.n, num q.n, .sl b4 (frs q.s),
  num q.e0.v, num q.e0.lo, num q.e0.hi, tru q.e0.bad, num q.a0.v, num q.a0.lo, num q.a0.hi, tru q.a0.bad, num q.e1.v, num q.e1.lo, num q.e1.hi, tru q.e1.bad, num q.a1.v, num q.a1.lo, num q.a1.hi, tru q.a1.bad]
theorem ok18 (b1 b2 b3 b4 : Bool) (q : Pr) (h : q.good) : Ok Try.prog 18 [pairV b1 b2 b3 b4 q] (tru true) := by
  have hc : 1 ≤ q.x.length ∧ q.x.length ≤ 4 ∧ q.x.length = q.n := by have := h.n1; have := h.n4; have := h.lx; omega
  have hd : 1 ≤ q.y.length ∧ q.y.length ≤ 4 ∧ q.y.length = q.n := by have := h.n1; have := h.n4; have := h.ly; omega
  have h1 := ok36 b1 b2 q.x q.p q.n q.n
  rw [stRight_nat h.lp, decide_eq_true hc] at h1
  have h2 := ok34 b3 b4 q.y q.s q.n q.n
  rw [stRight_nat h.ls, decide_eq_true hd] at h2
  have l1 : (frs q.x).length = q.n := by rw [List.length_map, h.lx]
  have l2 : (frs q.y).length = q.n := by rw [List.length_map, h.ly]
  refine ok_fn mixed Try.func18 (code := ?_) (h := h18) ?_ k18 ?_
  rotate_left
  · exact rfl
  unfold h18 initS
  simp -implicitDefEqProofs (maxSteps := 10000000) only [rkA, rkB, stepA, valA, simprocAttr, Try.ntmps18, Try.results18]
  refine call_fn rfl rfl rfl (h1) ?_
  simp -implicitDefEqProofs (maxSteps := 10000000) only [rkA, rkB, stepA, valA, simprocAttr]
  refine call_fn rfl rfl rfl (h2) ?_
  simp -implicitDefEqProofs (maxSteps := 10000000) only [l1, l2, beq_self_eq_true, rkA, rkB, stepA, valA, simprocAttr]
theorem ok16 (e : Bool) (l : List Int) (hl : l.length ≤ 100000) : Ok Try.prog 16 [.sl e (l.map num)] (.sl false (frs (l.map point))) := by
  refine ok_fn mixed Try.func16 (code := ?_) (h := h16) ?_ k16 ?_
  rotate_left
  · exact rfl
  unfold h16 initS
  simp -implicitDefEqProofs (maxSteps := 10000000) only [rkA, rkB, stepA, valA, simprocAttr, Try.ntmps16, Try.results16]
  refine wp_loop (fun m s => ∃ i : Nat, i + m = l.length ∧ s = ⟨[jk, jk, jk, .acc 3 (frs ((l.take i).map point)), jk, jk, .v (.sl e (l.map num)), nt l.length, nt i, jk, jk, jk, jk, jk, jk, jk, jk, jk, jk], [], [], [(2, 0), (3, i)], [], 0, nomem⟩) l.length ?_ ?_
  · simp -implicitDefEqProofs (maxSteps := 10000000) only [List.length_map, rkA, rkB, stepA, valA, simprocAttr]
    exact ⟨0, by omega, rfl⟩
  rintro m s ⟨i, hi, rfl⟩
  simp -implicitDefEqProofs (maxSteps := 10000000) only [rkA, rkB, stepA, valA, simprocAttr]
  refine gB_dec ?_ ?_ <;> intro hc <;> simp -implicitDefEqProofs (maxSteps := 10000000) only [hc, rkA, rkB, stepA, valA, simprocAttr]
  · have hlt : i < l.length := by omega
    have h0 : (0 : Int) ≤ (i : Int) := by omega
    have hg : (l.map num)[i]? = some (num l[i]) := by simp [hlt]
    have hw := wrapped (x := (i : Int) + 1) (by omega) (by omega)
    simp -implicitDefEqProofs (maxSteps := 10000000) only [h0, Int.toNat_natCast, hg, rkA, rkB, stepA, valA, simprocAttr]
    refine call_fn rfl rfl rfl (ok4 l[i]) ?_
    have hfit : fits 4 32 (frs ((l.take i).map point)) [frV (point l[i])] = true := fits_frs (k := (l.take i).map point) (l := [point l[i]]) (by simp only [List.length_map, List.length_take, List.length_cons, List.length_nil]; omega)
    have hl' : (frs ((l.take i).map point)).length = i := by simp only [List.length_map, List.length_take]; omega
    simp -implicitDefEqProofs (maxSteps := 10000000) only [hfit, hl', hw, rkA, rkB, stepA, valA, simprocAttr]
    refine loopK_of (m' := m - 1) (by omega) ?_
    simp -implicitDefEqProofs (maxSteps := 10000000) only [rkA, rkB, stepA, valA, simprocAttr]
    refine ⟨i + 1, by omega, ?_⟩
    rw [List.take_succ_eq_append_getElem hlt]
    simp only [List.map_append, List.map_cons, List.map_nil, Int.natCast_add, Int.natCast_one]
  · have hil : i = l.length := by omega
    subst hil
    rw [List.take_length]
theorem ok14 (e : Bool) (n : Nat) (hn : 1 ≤ n ∧ n ≤ 4) (l : List Int) (hl : l.length = n * n) : Ok Try.prog 14 [num n, .sl e (l.map num)] (matV false n n (frs (l.map point))) := by
  have hnn : n * n ≤ 4 * 4 := Nat.mul_le_mul hn.2 hn.2
  have lp : (l.map point).length = n * n := by rw [List.length_map, hl]
  have h44 := ok31 n n false (l.map point) (by omega)
  rw [if_pos (right_sq (by omega) lp)] at h44
  refine ok_fn mixed Try.func14 (code := ?_) (h := h14) ?_ k14 ?_
  rotate_left
  · exact rfl
  unfold h14 initS
  simp -implicitDefEqProofs (maxSteps := 10000000) only [rkA, rkB, stepA, valA, simprocAttr, Try.ntmps14, Try.results14]
  refine call_fn rfl rfl rfl (ok16 e l (by omega)) ?_
  simp -implicitDefEqProofs (maxSteps := 10000000) only [rkA, rkB, stepA, valA, simprocAttr]
  refine call_fn rfl rfl rfl (h44) ?_
  simp -implicitDefEqProofs (maxSteps := 10000000) only [rkA, rkB, stepA, valA, simprocAttr]
/-- A sound frame. -/
structure SoundF (k q : Int) (m : Nat) (l : List Int) : Prop where
  right : rightFr k q m l = true
  m1 : 1 ≤ m
  m4 : m ≤ 4
  len : (k = 1 ∧ l.length = m + m * m) ∨ (k = 2 ∧ l.length = m * m + m * m) ∨ (k = 3 ∧ l.length = m + 2)
  small : ∀ x ∈ l, -17179869184 ≤ x ∧ x ≤ 17179869184
  last : k = 3 → 65536 ≤ (partZ k m l 1).getD 0 0
  diag : k ≠ 3 → ∀ i, i < m → 65536 ≤ (partZ k m l 1).getD (i * m + i) 0
theorem soundF {k q n : Int} {l : List Int} (h : soundZ k q n l = 0) : ∃ m : Nat, n = m ∧ SoundF k q m l := by
  unfold soundZ at h
  cases hr : rightFr k q n l with
  | false => rw [if_pos hr] at h; cases h
  | true =>
    obtain ⟨m, rfl, h1, h4, hlen, hq0, hq1, hx⟩ := rightFr_spec hr
    rw [if_neg (by rw [hr]; decide), Int.toNat_natCast] at h
    cases hg : l.any greatZ with
    | true => rw [if_pos hg] at h; cases h
    | false =>
      rw [if_neg (by rw [hg]; decide)] at h
      refine ⟨m, rfl, hr, h1, h4, hlen, fun x hx => ?_, fun h3 => ?_, fun h3 i hi => ?_⟩
      · rw [List.any_eq_false] at hg
        have := hg x hx
        unfold greatZ at this
        simp only [Bool.or_eq_true, decide_eq_true_eq, not_or] at this
        omega
      · rw [if_pos h3] at h
        split at h
        · cases h
        · omega
      · rw [if_neg h3] at h
        cases hl : lowZ (partZ k m l 1) m with
        | true => rw [if_pos hl] at h; cases h
        | false =>
          unfold lowZ at hl
          rw [List.any_eq_false] at hl
          have := hl i (by simpa using hi)
          simp only [decide_eq_true_eq] at this
          omega
theorem part0_len {k : Int} {m : Nat} {l : List Int} (h1 : 1 ≤ m) (hlen : (k = 1 ∧ l.length = m + m * m) ∨ (k = 2 ∧ l.length = m * m + m * m) ∨ (k = 3 ∧ l.length = m + 2)) : (partZ k m l 0).length = if k = 2 then m * m else m := by
  unfold partZ pcZ endsZ
  rcases hlen with ⟨rfl, h⟩ | ⟨rfl, h⟩ | ⟨rfl, h⟩
  · simp [stZ, h]
  · simp [stZ, h]
  · simp [stZ, h]
def fz : Fr := ⟨0, 0, 0, false⟩
def beginP (m : Nat) (l : List Int) : Pr :=
  { n := m, x := (partZ 1 m l 0).map point, p := sqF m (clearF m ((partZ 1 m l 1).map point)), y := (partZ 1 m l 0).map point, s := clearF m ((partZ 1 m l 1).map point), e0 := fz, a0 := fz, e1 := fz, a1 := fz }
theorem begin_good {q : Int} {m : Nat} {l : List Int} (h : SoundF 1 q m l) : (beginP m l).good where
  n1 := h.m1
  n4 := h.m4
  lx := by
    have := part0_len h.m1 h.len
    rw [if_neg (by decide)] at this
    show ((partZ 1 m l 0).map point).length = m
    rw [List.length_map, this]
  lp := sqF_len _ _
  ly := by
    have := part0_len h.m1 h.len
    rw [if_neg (by decide)] at this
    show ((partZ 1 m l 0).map point).length = m
    rw [List.length_map, this]
  ls := clearF_len _ _
theorem sound_len {k q : Int} {m : Nat} {l : List Int} (h : SoundF k q m l) : l.length ≤ 32 := by
  have h4 := h.m4
  have hmm : m * m ≤ 4 * 4 := Nat.mul_le_mul h4 h4
  have := h.len
  omega
theorem part_get {k : Int} {m : Nat} {l : List Int} {i : Nat} (h : i < (endsZ k m l.length).length) : ((partsZ k m l).map rowV)[i]? = some (rowV (partZ k m l i)) := by
  rw [List.getElem?_map, parts_at h]
  rfl
theorem ok5 (e : Bool) (q n : Int) (l : List Int) (h : soundZ 1 q n l = 0) : Ok Try.prog 5 [frmV e 1 q n l] (.tup [pairV false false false false (beginP n.toNat l), tru true]) := by
  obtain ⟨m, rfl, hs⟩ := soundF h
  rw [Int.toNat_natCast]
  have hl := sound_len hs
  have hg := begin_good hs
  have hp := ok13 e 1 q m l (by omega) hs.right
  rw [Int.toNat_natCast] at hp
  have h8 := ok12 e 1 q m l (by omega)
  rw [h] at h8
  have hb : ((0 : Int) != 0) = false := by decide
  have hb1 : ((1 : Int) != 1) = false := by decide
  have l0 := part0_len hs.m1 hs.len
  rw [if_neg (by decide)] at l0
  have l1 := part_len hs.m1 hs.len
  rw [if_neg (by decide)] at l1
  have hm1 := hs.m1
  have hm4 := hs.m4
  have g0 := part_get (k := 1) (m := m) (l := l) (i := 0) (by unfold endsZ; simp)
  have g1 := part_get (k := 1) (m := m) (l := l) (i := 1) (by unfold endsZ; simp)
  have lx : ((partZ 1 m l 0).map point).length = m := by rw [List.length_map, l0]
  have ls : ((partZ 1 m l 1).map point).length = m * m := by rw [List.length_map, l1]
  have hr := ok15 false false ((partZ 1 m l 0).map point) ((partZ 1 m l 1).map point) m (by omega) ls (by omega)
  rw [if_pos (by omega)] at hr
  have hj := ok17 false false ((partZ 1 m l 0).map point) (clearF m ((partZ 1 m l 1).map point)) m (by omega) (clearF_len _ _) (by omega)
  rw [if_pos (by omega)] at hj
  refine ok_fn mixed Try.func5 (code := ?_) (h := h5) ?_ k5 ?_
  rotate_left
  · exact rfl
  unfold h5 initS
  simp -implicitDefEqProofs (maxSteps := 10000000) only [rkA, rkB, stepA, valA, simprocAttr, Try.ntmps5, Try.results5]
  refine call_fn rfl rfl rfl (h8) ?_
  simp -implicitDefEqProofs (maxSteps := 10000000) only [hb, hb1, rkA, rkB, stepA, valA, simprocAttr]
  refine call_fn rfl rfl rfl (hp) ?_
  simp -implicitDefEqProofs (maxSteps := 10000000) only [g1, rkA, rkB, stepA, valA, simprocAttr]
  refine call_fn rfl rfl rfl (ok14 _ m (by omega) (partZ 1 m l 1) l1) ?_
  simp -implicitDefEqProofs (maxSteps := 10000000) only [g0, rkA, rkB, stepA, valA, simprocAttr]
  refine call_fn rfl rfl rfl (ok16 _ (partZ 1 m l 0) (by omega)) ?_
  simp -implicitDefEqProofs (maxSteps := 10000000) only [rkA, rkB, stepA, valA, simprocAttr]
  refine call_fn rfl rfl rfl (hr) ?_
  simp -implicitDefEqProofs (maxSteps := 10000000) only [g0, rkA, rkB, stepA, valA, simprocAttr]
  refine call_fn rfl rfl rfl (ok16 _ (partZ 1 m l 0) (by omega)) ?_
  simp -implicitDefEqProofs (maxSteps := 10000000) only [rkA, rkB, stepA, valA, simprocAttr]
  refine call_fn rfl rfl rfl (hj) ?_
  simp -implicitDefEqProofs (maxSteps := 10000000) only [beginP, fz, rkA, rkB, stepA, valA, simprocAttr]
end Go.Proofs.Ytambpjbpdackfaa.A.E



set_option linter.unusedVariables false
set_option linter.unusedSimpArgs false
set_option maxRecDepth 100000
namespace Go.Proofs.Ytambpjbpdackfaa.A.E
open Go Go.RowKit Go.Shelf

/-! ### compare: gaps, and odds (the text E83 for the seat of CompareOdds) -/
def laneOk (lane : Int) : Bool := decide (0 ≤ lane) && decide (lane ≤ 1)
theorem lane_two {lane : Int} (h : laneOk lane = true) : lane = 0 ∨ lane = 1 := by
  unfold laneOk at h
  simp only [Bool.and_eq_true, decide_eq_true_eq] at h
  omega
theorem fine_ends {a : Fr} (h : a.fine = true) : (-1125899906842624 ≤ a.lo ∧ a.lo ≤ 1125899906842624) ∧ (-1125899906842624 ≤ a.hi ∧ a.hi ≤ 1125899906842624) ∧ a.lo ≤ a.v ∧ a.v ≤ a.hi := by
  simp only [Fr.fine, rightX, Bool.and_eq_true, decide_eq_true_eq] at h
  exact ⟨h.2.1, h.2.2.1, h.2.2.2⟩
def gapE (a b : Fr) : Int := if a.fine = true ∧ b.fine = true then (if (if a.lo - b.hi < b.lo - a.hi then b.lo - a.hi else a.lo - b.hi) < 0 then 0 else (if a.lo - b.hi < b.lo - a.hi then b.lo - a.hi else a.lo - b.hi)) else 0
theorem ok23 (a b : Fr) : Ok Try.prog 23 [frV a, frV b] (num (gapE a b)) := by
  refine ok_fn mixed Try.func23 (code := ?_) (h := h23) ?_ k23 ?_
  rotate_left
  · exact rfl
  unfold h23 initS
  simp -implicitDefEqProofs (maxSteps := 10000000) only [rkA, rkB, stepA, valA, simprocAttr, Try.ntmps23, Try.results23]
  refine call_fn rfl rfl rfl (ok19 a) ?_
  cases ha : a.fine with
  | false =>
    simp -implicitDefEqProofs (maxSteps := 10000000) only [rkA, rkB, stepA, valA, simprocAttr]
    rw [gapE, if_neg (by simp [ha])]
  | true =>
    simp -implicitDefEqProofs (maxSteps := 10000000) only [rkA, rkB, stepA, valA, simprocAttr]
    refine call_fn rfl rfl rfl (ok19 b) ?_
    cases hb : b.fine with
    | false =>
      simp -implicitDefEqProofs (maxSteps := 10000000) only [rkA, rkB, stepA, valA, simprocAttr]
      rw [gapE, if_neg (by simp [hb])]
    | true =>
      have f1 := fine_ends ha
      have f2 := fine_ends hb
      have w1 := wrapped (x := a.lo - b.hi) (by omega) (by omega)
      have w2 := wrapped (x := b.lo - a.hi) (by omega) (by omega)
      simp -implicitDefEqProofs (maxSteps := 10000000) only [w1, w2, rkA, rkB, stepA, valA, simprocAttr]
      rw [gapE, if_pos (show a.fine = true ∧ b.fine = true from ⟨ha, hb⟩)]
theorem ok7 : Ok Try.prog 7 [] (tru true) := by
  have g1 : gapE ⟨2, 1, 3, false⟩ ⟨6, 5, 9, false⟩ = 2 := by decide +kernel
  have g2 : gapE ⟨6, 5, 9, false⟩ ⟨2, 1, 3, false⟩ = 2 := by decide +kernel
  have g3 : gapE ⟨2, 1, 3, false⟩ ⟨2, 1, 3, false⟩ = 0 := by decide +kernel
  have h1 := ok23 ⟨2, 1, 3, false⟩ ⟨6, 5, 9, false⟩
  have h2 := ok23 ⟨6, 5, 9, false⟩ ⟨2, 1, 3, false⟩
  have h3 := ok23 ⟨2, 1, 3, false⟩ ⟨2, 1, 3, false⟩
  rw [g1] at h1
  rw [g2] at h2
  rw [g3] at h3
  refine ok_fn mixed Try.func7 (code := ?_) (h := h7) ?_ k7 ?_
  rotate_left
  · exact rfl
  unfold h7 initS
  simp -implicitDefEqProofs (maxSteps := 10000000) only [rkA, rkB, stepA, valA, simprocAttr, Try.ntmps7, Try.results7]
  refine call_fn rfl rfl rfl (h1) ?_
  simp -implicitDefEqProofs (maxSteps := 10000000) only [beq_self_eq_true, rkA, rkB, stepA, valA, simprocAttr]
  refine call_fn rfl rfl rfl (h2) ?_
  simp -implicitDefEqProofs (maxSteps := 10000000) only [beq_self_eq_true, rkA, rkB, stepA, valA, simprocAttr]
  refine call_fn rfl rfl rfl (h3) ?_
  simp -implicitDefEqProofs (maxSteps := 10000000) only [beq_self_eq_true, rkA, rkB, stepA, valA, simprocAttr]
def leastE (a : Fr) : Int := if a.lo > 0 then a.lo else if a.hi < 0 then a.hi else 0
theorem ok20 (a : Fr) : Ok Try.prog 20 [frV a] (num (leastE a)) := by
  refine ok_fn mixed Try.func20 (code := ?_) (h := h20) ?_ k20 ?_
  rotate_left
  · exact rfl
  unfold h20 initS
  simp -implicitDefEqProofs (maxSteps := 10000000) only [rkA, rkB, stepA, valA, simprocAttr, Try.ntmps20, Try.results20]
  refine gB_dec ?_ ?_ <;> intro h1 <;> simp -implicitDefEqProofs (maxSteps := 10000000) only [h1, rkA, rkB, stepA, valA, simprocAttr]
  · rw [leastE, if_pos h1]
  · refine gB_dec ?_ ?_ <;> intro h2 <;> simp -implicitDefEqProofs (maxSteps := 10000000) only [h2, rkA, rkB, stepA, valA, simprocAttr]
    · rw [leastE, if_neg h1, if_pos h2]
    · rw [leastE, if_neg h1, if_neg h2]
def oddsE (s a : Fr) (k : Int) : Bool :=
  s.fine && (a.fine && (decide (0 < a.lo) && ((mdF a.hi (k * k) 1 1).2 && decide (0 < cmpF (leastE s) (leastE s) (mdF a.hi (k * k) 1 1).1 16777216))))
def Pr.sp (q : Pr) (lane : Int) : Fr := if lane = 0 then q.e0 else q.e1
def Pr.ap (q : Pr) (lane : Int) : Fr := if lane = 0 then q.a0 else q.a1
def oddR (lane k : Int) : Bool := laneOk lane && (decide (0 ≤ k) && decide (k ≤ 1048576))
def Pr.odds (q : Pr) (lane k : Int) : Bool := oddR lane k && oddsE (q.sp lane) (q.ap lane) k
theorem md_right {a b c m : Int} (h : (mdF a b c m).2 = true) : rightW (mdF a b c m).1 = true := by
  unfold mdF at h ⊢
  by_cases hk : mdOk a b c m = true
  · rw [if_pos hk]
    simp only [mdOk, Bool.and_eq_true, decide_eq_true_eq] at hk
    have := hk.2.2.2.2.2
    unfold rightW
    split <;> exact decide_eq_true (by omega)
  · rw [if_neg hk] at h
    cases h
theorem least_right {a : Fr} (h : a.fine = true) : rightW (leastE a) = true := by
  have := fine_ends h
  unfold leastE rightW
  refine decide_eq_true ?_
  split
  · omega
  · split <;> omega
theorem md_down {h k : Int} (hh : 0 ≤ h) (hk : 0 ≤ k) : mdF h k 1 1 = if h ≤ 4611686018427387903 ∧ k ≤ 4611686018427387903 ∧ h * k ≤ 4611686018427387903 then (h * k, true) else (0, false) := by
  obtain ⟨a, rfl⟩ := Int.eq_ofNat_of_zero_le hh
  obtain ⟨b, rfl⟩ := Int.eq_ofNat_of_zero_le hk
  have m0 : minus3 (a : Int) (b : Int) 1 = false := by
    unfold minus3
    have e1 : decide ((a : Int) < 0) = false := decide_eq_false (by omega)
    have e2 : decide ((b : Int) < 0) = false := decide_eq_false (by omega)
    rw [e1, e2]
    rfl
  have hN : mdN (a : Int) (b : Int) 1 1 = a * b := by
    unfold mdN moreF
    rw [m0]
    simp [Nat.mod_one]
  have hc : ((a * b : Nat) : Int) = (a : Int) * (b : Int) := by simp
  unfold mdF
  rw [m0, hN]
  by_cases hx : (a : Int) ≤ 4611686018427387903 ∧ (b : Int) ≤ 4611686018427387903 ∧ (a : Int) * (b : Int) ≤ 4611686018427387903
  · have hk : mdOk (a : Int) (b : Int) 1 1 = true := by
      unfold mdOk
      rw [hN]
      simp only [rightW, Bool.and_eq_true, decide_eq_true_eq]
      refine ⟨⟨by omega, hx.1⟩, ⟨by omega, hx.2.1⟩, by omega, by omega, by omega, ?_⟩
      have := hx.2.2
      rw [← hc] at this
      omega
    rw [if_pos hk, if_pos hx, if_neg (by decide), hc]
  · have hk : ¬ mdOk (a : Int) (b : Int) 1 1 = true := by
      intro h
      unfold mdOk at h
      rw [hN] at h
      simp only [rightW, Bool.and_eq_true, decide_eq_true_eq] at h
      refine hx ⟨h.1.2, h.2.1.2, ?_⟩
      rw [← hc]
      have := h.2.2.2.2.2
      omega
    rw [if_neg hk, if_neg hx]
set_option maxHeartbeats 2000000 in
theorem ok6_in (b1 b2 b3 b4 : Bool) (q : Pr) (h : q.good) (lane k : Int) (hl : laneOk lane = true) (hk : 0 ≤ k ∧ k ≤ 1048576) : Ok Try.prog 6 [pairV b1 b2 b3 b4 q, num lane, num k] (tru (oddsE (q.sp lane) (q.ap lane) k)) := by
  have hc0 : ¬ k < 0 := by omega
  have hc1 : ¬ k > 1048576 := by omega
  have hkk : k * k ≤ 1048576 * 1048576 := Int.mul_le_mul hk.2 hk.2 hk.1 (by omega)
  have hk0 : 0 ≤ k * k := Int.mul_nonneg hk.1 hk.1
  have hw := wrapped (x := k * k) (by omega) (by omega)
  rcases lane_two hl with rfl | rfl
  · refine ok_fn mixed Try.func6 (code := ?_) (h := h6) ?_ k6 ?_
    rotate_left
    · exact rfl
    unfold h6 initS
    simp -implicitDefEqProofs (maxSteps := 10000000) only [rkA, rkB, stepA, valA, simprocAttr, Try.ntmps6, Try.results6]
    refine call_fn rfl rfl rfl (ok18 b1 b2 b3 b4 q h) ?_
    simp -implicitDefEqProofs (maxSteps := 10000000) only [hc0, hc1, rkA, rkB, stepA, valA, simprocAttr]
    have e1 : q.sp 0 = q.e0 := rfl
    have e2 : q.ap 0 = q.a0 := rfl
    rw [e1, e2]
    generalize q.e0 = s at *
    generalize q.a0 = a at *
    refine call_fn rfl rfl rfl (ok19 s) ?_
    cases hs : s.fine with
    | false =>
      simp -implicitDefEqProofs (maxSteps := 10000000) only [rkA, rkB, stepA, valA, simprocAttr]
      simp -implicitDefEqProofs (maxSteps := 10000000) only [oddsE, hs, rkA, rkB, stepA, valA, simprocAttr]
    | true =>
      simp -implicitDefEqProofs (maxSteps := 10000000) only [rkA, rkB, stepA, valA, simprocAttr]
      refine call_fn rfl rfl rfl (ok19 a) ?_
      cases ha : a.fine with
      | false =>
        simp -implicitDefEqProofs (maxSteps := 10000000) only [rkA, rkB, stepA, valA, simprocAttr]
        simp -implicitDefEqProofs (maxSteps := 10000000) only [oddsE, hs, ha, rkA, rkB, stepA, valA, simprocAttr]
      | true =>
        simp -implicitDefEqProofs (maxSteps := 10000000) only [rkA, rkB, stepA, valA, simprocAttr]
        refine gB_dec ?_ ?_ <;> intro h3 <;> simp -implicitDefEqProofs (maxSteps := 10000000) only [h3, rkA, rkB, stepA, valA, simprocAttr]
        · have h3' : ¬ 0 < a.lo := by omega
          simp -implicitDefEqProofs (maxSteps := 10000000) only [oddsE, hs, ha, h3', rkA, rkB, stepA, valA, simprocAttr]
        · have h3' : 0 < a.lo := by omega
          refine call_fn rfl rfl rfl (ok20 s) ?_
          simp -implicitDefEqProofs (maxSteps := 10000000) only [hw, rkA, rkB, stepA, valA, simprocAttr]
          refine call_fn rfl rfl rfl (ok21 a.hi (k * k) 1 1) ?_
          cases hm : (mdF a.hi (k * k) 1 1).2 with
          | false =>
            simp -implicitDefEqProofs (maxSteps := 10000000) only [rkA, rkB, stepA, valA, simprocAttr]
            simp -implicitDefEqProofs (maxSteps := 10000000) only [oddsE, hs, ha, h3', hm, rkA, rkB, stepA, valA, simprocAttr]
          | true =>
            simp -implicitDefEqProofs (maxSteps := 10000000) only [rkA, rkB, stepA, valA, simprocAttr]
            refine call_fn rfl rfl rfl (ok22 (leastE s) (leastE s) (mdF a.hi (k * k) 1 1).1 16777216 (least_right hs) (least_right hs) (md_right hm) (by decide)) ?_
            simp -implicitDefEqProofs (maxSteps := 10000000) only [rkA, rkB, stepA, valA, simprocAttr]
            simp -implicitDefEqProofs (maxSteps := 10000000) only [oddsE, hs, ha, h3', hm, rkA, rkB, stepA, valA, simprocAttr]
  · refine ok_fn mixed Try.func6 (code := ?_) (h := h6) ?_ k6 ?_
    rotate_left
    · exact rfl
    unfold h6 initS
    simp -implicitDefEqProofs (maxSteps := 10000000) only [rkA, rkB, stepA, valA, simprocAttr, Try.ntmps6, Try.results6]
    refine call_fn rfl rfl rfl (ok18 b1 b2 b3 b4 q h) ?_
    simp -implicitDefEqProofs (maxSteps := 10000000) only [hc0, hc1, rkA, rkB, stepA, valA, simprocAttr]
    have e1 : q.sp 1 = q.e1 := rfl
    have e2 : q.ap 1 = q.a1 := rfl
    rw [e1, e2]
    generalize q.e1 = s at *
    generalize q.a1 = a at *
    refine call_fn rfl rfl rfl (ok19 s) ?_
    cases hs : s.fine with
    | false =>
      simp -implicitDefEqProofs (maxSteps := 10000000) only [rkA, rkB, stepA, valA, simprocAttr]
      simp -implicitDefEqProofs (maxSteps := 10000000) only [oddsE, hs, rkA, rkB, stepA, valA, simprocAttr]
    | true =>
      simp -implicitDefEqProofs (maxSteps := 10000000) only [rkA, rkB, stepA, valA, simprocAttr]
      refine call_fn rfl rfl rfl (ok19 a) ?_
      cases ha : a.fine with
      | false =>
        simp -implicitDefEqProofs (maxSteps := 10000000) only [rkA, rkB, stepA, valA, simprocAttr]
        simp -implicitDefEqProofs (maxSteps := 10000000) only [oddsE, hs, ha, rkA, rkB, stepA, valA, simprocAttr]
      | true =>
        simp -implicitDefEqProofs (maxSteps := 10000000) only [rkA, rkB, stepA, valA, simprocAttr]
        refine gB_dec ?_ ?_ <;> intro h3 <;> simp -implicitDefEqProofs (maxSteps := 10000000) only [h3, rkA, rkB, stepA, valA, simprocAttr]
        · have h3' : ¬ 0 < a.lo := by omega
          simp -implicitDefEqProofs (maxSteps := 10000000) only [oddsE, hs, ha, h3', rkA, rkB, stepA, valA, simprocAttr]
        · have h3' : 0 < a.lo := by omega
          refine call_fn rfl rfl rfl (ok20 s) ?_
          simp -implicitDefEqProofs (maxSteps := 10000000) only [hw, rkA, rkB, stepA, valA, simprocAttr]
          refine call_fn rfl rfl rfl (ok21 a.hi (k * k) 1 1) ?_
          cases hm : (mdF a.hi (k * k) 1 1).2 with
          | false =>
            simp -implicitDefEqProofs (maxSteps := 10000000) only [rkA, rkB, stepA, valA, simprocAttr]
            simp -implicitDefEqProofs (maxSteps := 10000000) only [oddsE, hs, ha, h3', hm, rkA, rkB, stepA, valA, simprocAttr]
          | true =>
            simp -implicitDefEqProofs (maxSteps := 10000000) only [rkA, rkB, stepA, valA, simprocAttr]
            refine call_fn rfl rfl rfl (ok22 (leastE s) (leastE s) (mdF a.hi (k * k) 1 1).1 16777216 (least_right hs) (least_right hs) (md_right hm) (by decide)) ?_
            simp -implicitDefEqProofs (maxSteps := 10000000) only [rkA, rkB, stepA, valA, simprocAttr]
            simp -implicitDefEqProofs (maxSteps := 10000000) only [oddsE, hs, ha, h3', hm, rkA, rkB, stepA, valA, simprocAttr]
end Go.Proofs.Ytambpjbpdackfaa.A.E



set_option linter.unusedVariables false
set_option linter.unusedSimpArgs false
set_option maxRecDepth 100000
namespace Go.Proofs.Ytambpjbpdackfaa.A
open Go Go.RowKit Go.Shelf

abbrev nb (x : Nat) : List PV := (rowB x).map num
abbrev nbt (x n : Nat) : List PV := (bitsTo x n).map num
theorem nb_get {x k : Nat} (h : k < 130) : (nb x)[k]? = some (num (bitN x k)) := by
  rw [nb, List.getElem?_map, rowB_get h]
  rfl
theorem nb_len (x : Nat) : (nb x).length = 130 := by rw [nb, List.length_map, rowB_length]
theorem nbt_len (x n : Nat) : (nbt x n).length = n := by rw [nbt, List.length_map, bitsTo_length]
theorem nbt_succ (x n : Nat) : nbt x n ++ [num (bitN x n)] = nbt x (n + 1) := by rw [nbt, nbt, bitsTo_succ, List.map_append]; rfl
theorem nbt_fit {x n : Nat} (h : n ≤ 130) (y : Int) : fits 1 8 (nbt x n) [num y] = true := fits_num (l := [y]) (by rw [bitsTo_length]; simp; omega)

theorem two0 : ((2 : Int) = 0) = False := by simp
theorem nat0 (n : Nat) : (0 : Int) ≤ (n : Int) := Int.natCast_nonneg n
theorem wrapN64 {n : Nat} (h : n < 9223372036854775808) : IntKind.wrap .i64 (n : Int) = (n : Int) := wrapped (by omega) (by omega)
theorem wrapB (x k : Nat) : IntKind.wrap .i64 (bitN x k : Int) = (bitN x k : Int) := wrapN64 (by have := bitN_lt x k; omega)

theorem ok48 (x : Nat) (hx : x < 9223372036854775808) : Ok Try.prog 48 [num x] (.sl false (nb x)) := by
  refine ok_fn mixed Try.func48 (code := ?_) (h := h48) ?_ k48 ?_
  rotate_left
  · exact rfl
  unfold h48 initS
  simp -implicitDefEqProofs (maxSteps := 10000000) only [rkA, rkB, stepA, valA, simprocAttr, Try.ntmps48, Try.results48]
  refine wp_loop (fun m s => ∃ i : Nat, i + m = 130 ∧ s = ⟨[nt ((x / 2 ^ i : Nat) : Int), jk, jk, .acc 3 (nbt x i), nt i, jk, jk, jk, jk, jk, jk, jk, jk, jk, jk, jk, jk], [], [], [(2, 0), (3, i)], [], 0, nomem⟩) 130 ?_ ?_
  · simp -implicitDefEqProofs (maxSteps := 10000000) only [rkA, rkB, stepA, valA, simprocAttr]
    exact ⟨0, by simp, by simp [nt, bitsTo]⟩
  rintro m s ⟨i, hi, rfl⟩
  simp -implicitDefEqProofs (maxSteps := 10000000) only [rkA, rkB, stepA, valA, simprocAttr]
  refine gB_dec ?_ ?_ <;> intro hc <;> simp -implicitDefEqProofs (maxSteps := 10000000) only [hc, rkA, rkB, stepA, valA, simprocAttr]
  · have e1 : ((x / 2 ^ i : Nat) : Int).tmod 2 = bitN x i := by rw [Int.tmod_eq_emod_of_nonneg (nat0 _)]; rfl
    have e2 : ((x / 2 ^ i : Nat) : Int).tdiv 2 = ((x / 2 ^ (i + 1) : Nat) : Int) := by
      rw [Int.tdiv_eq_ediv_of_nonneg (nat0 _), Nat.pow_succ, ← Nat.div_div_eq_div_mul]; rfl
    have hle : x / 2 ^ (i + 1) ≤ x := Nat.div_le_self _ _
    have w2 := wrapN64 (n := x / 2 ^ (i + 1)) (by omega)
    have hw := wrapped (x := (i : Int) + 1) (by omega) (by omega)
    simp -implicitDefEqProofs (maxSteps := 10000000) only [e1, two0, wrapB, nbt_fit (x := x) (n := i) (by omega), nbt_len, e2, w2, hw, rkA, rkB, stepA, valA, simprocAttr]
    refine loopK_of (m' := m - 1) (by omega) ?_
    simp -implicitDefEqProofs (maxSteps := 10000000) only [rkA, rkB, stepA, valA, simprocAttr]
    exact ⟨i + 1, by omega, by rw [nbt_succ]; simp only [Int.natCast_add, Int.natCast_one]⟩
  · have : i = 130 := by omega
    subst this
    rfl
theorem ok52 (ea eb : Bool) (a b : Nat) : Ok Try.prog 52 [.sl ea (nb a), .sl eb (nb b)] (.sl false (nb (a + b))) := by
  refine ok_fn mixed Try.func52 (code := ?_) (h := h52) ?_ k52 ?_
  rotate_left
  · exact rfl
  unfold h52 initS
  simp -implicitDefEqProofs (maxSteps := 10000000) only [rkA, rkB, stepA, valA, simprocAttr, Try.ntmps52, Try.results52]
  refine wp_loop (fun m s => ∃ i : Nat, i + m = 130 ∧ s = ⟨[.v (.sl ea (nb a)), .v (.sl eb (nb b)), jk, jk, jk, .acc 5 (nbt (a + b) i), nt ((carry a b i : Nat) : Int), nt i, jk, jk, jk, jk, jk, jk, jk, jk, jk, jk, jk, jk, jk, jk, jk, jk, jk, jk, jk, jk, jk, jk, jk, jk], [], [], [(4, 0), (5, i)], [], 0, nomem⟩) 130 ?_ ?_
  · simp -implicitDefEqProofs (maxSteps := 10000000) only [rkA, rkB, stepA, valA, simprocAttr]
    exact ⟨0, by simp, by simp [nt, bitsTo, carry_zero]⟩
  rintro m s ⟨i, hi, rfl⟩
  simp -implicitDefEqProofs (maxSteps := 10000000) only [rkA, rkB, stepA, valA, simprocAttr]
  refine gB_dec ?_ ?_ <;> intro hc <;> simp -implicitDefEqProofs (maxSteps := 10000000) only [hc, rkA, rkB, stepA, valA, simprocAttr]
  · have ga := nb_get (x := a) (k := i) (by omega)
    have gb := nb_get (x := b) (k := i) (by omega)
    have l1 := bitN_lt a i
    have l2 := bitN_lt b i
    have l3 := carry_lt a b i
    have l4 := carry_lt a b (i + 1)
    have w1 := wrapped (x := (bitN a i : Int) + bitN b i) (by omega) (by omega)
    have w2 := wrapped (x := (bitN a i : Int) + bitN b i + carry a b i) (by omega) (by omega)
    have e1 : ((bitN a i : Int) + bitN b i + carry a b i).tmod 2 = bitN (a + b) i := by
      rw [Int.tmod_eq_emod_of_nonneg (by omega), sum_bit]; rfl
    have e2 : ((bitN a i : Int) + bitN b i + carry a b i).tdiv 2 = carry a b (i + 1) := by
      rw [Int.tdiv_eq_ediv_of_nonneg (by omega), carry_succ]; rfl
    have w3 := wrapN64 (n := carry a b (i + 1)) (by omega)
    have hw := wrapped (x := (i : Int) + 1) (by omega) (by omega)
    have h0 := nat0 i
    simp -implicitDefEqProofs (maxSteps := 10000000) only [h0, Int.toNat_natCast, ga, gb, rkA, rkB, stepA, valA, simprocAttr]
    simp -implicitDefEqProofs (maxSteps := 10000000) only [w1, w2, e1, two0, wrapB, nbt_fit (x := a + b) (n := i) (by omega), nbt_len, e2, w3, hw, rkA, rkB, stepA, valA, simprocAttr]
    refine loopK_of (m' := m - 1) (by omega) ?_
    simp -implicitDefEqProofs (maxSteps := 10000000) only [rkA, rkB, stepA, valA, simprocAttr]
    exact ⟨i + 1, by omega, by rw [nbt_succ]; simp only [Int.natCast_add, Int.natCast_one]⟩
  · have : i = 130 := by omega
    subst this
    rfl
theorem ok51 (ea eb : Bool) (a b : Nat) (h : b ≤ a) : Ok Try.prog 51 [.sl ea (nb a), .sl eb (nb b)] (.sl false (nb (a - b))) := by
  refine ok_fn mixed Try.func51 (code := ?_) (h := h51) ?_ k51 ?_
  rotate_left
  · exact rfl
  unfold h51 initS
  simp -implicitDefEqProofs (maxSteps := 10000000) only [rkA, rkB, stepA, valA, simprocAttr, Try.ntmps51, Try.results51]
  refine wp_loop (fun m s => ∃ i : Nat, i + m = 130 ∧ s = ⟨[.v (.sl ea (nb a)), .v (.sl eb (nb b)), jk, jk, jk, .acc 5 (nbt (a - b) i), nt ((borrow a b i : Nat) : Int), nt i, jk, jk, jk, jk, jk, jk, jk, jk, jk, jk, jk, jk, jk, jk, jk, jk, jk, jk, jk, jk, jk, jk, jk, jk, jk, jk], [], [], [(4, 0), (5, i)], [], 0, nomem⟩) 130 ?_ ?_
  · simp -implicitDefEqProofs (maxSteps := 10000000) only [rkA, rkB, stepA, valA, simprocAttr]
    exact ⟨0, by simp, by simp [nt, bitsTo, borrow_zero]⟩
  rintro m s ⟨i, hi, rfl⟩
  simp -implicitDefEqProofs (maxSteps := 10000000) only [rkA, rkB, stepA, valA, simprocAttr]
  refine gB_dec ?_ ?_ <;> intro hc <;> simp -implicitDefEqProofs (maxSteps := 10000000) only [hc, rkA, rkB, stepA, valA, simprocAttr]
  · have ga := nb_get (x := a) (k := i) (by omega)
    have gb := nb_get (x := b) (k := i) (by omega)
    have l1 := bitN_lt a i
    have l2 := bitN_lt b i
    have l3 : borrow a b i < 2 := by unfold borrow; split <;> omega
    have l4 : borrow a b (i + 1) < 2 := by unfold borrow; split <;> omega
    have w1 := wrapped (x := (bitN a i : Int) - bitN b i) (by omega) (by omega)
    have w2 := wrapped (x := (bitN a i : Int) - bitN b i - borrow a b i) (by omega) (by omega)
    have w4 := wrapped (x := (bitN a i : Int) - bitN b i - borrow a b i + 2) (by omega) (by omega)
    obtain ⟨e1, e2⟩ := sub_bit h i
    have l5 : ((bitN a i : Int) - bitN b i - borrow a b i + 2).tdiv 2 = 1 - (borrow a b (i + 1) : Int) := by omega
    have w5 := wrapped (x := 1 - (borrow a b (i + 1) : Int)) (by omega) (by omega)
    have w3 : IntKind.wrap .i64 (1 - (1 - (borrow a b (i + 1) : Int))) = (borrow a b (i + 1) : Int) := by rw [wrapped (by omega) (by omega)]; omega
    have hw := wrapped (x := (i : Int) + 1) (by omega) (by omega)
    have h0 := nat0 i
    simp -implicitDefEqProofs (maxSteps := 10000000) only [h0, Int.toNat_natCast, ga, gb, rkA, rkB, stepA, valA, simprocAttr]
    simp -implicitDefEqProofs (maxSteps := 10000000) only [w1, w2, w4, e1, two0, wrapB, nbt_fit (x := a - b) (n := i) (by omega), nbt_len, l5, w5, w3, hw, rkA, rkB, stepA, valA, simprocAttr]
    refine loopK_of (m' := m - 1) (by omega) ?_
    simp -implicitDefEqProofs (maxSteps := 10000000) only [rkA, rkB, stepA, valA, simprocAttr]
    exact ⟨i + 1, by omega, by rw [nbt_succ]; simp only [Int.natCast_add, Int.natCast_one]⟩
  · have : i = 130 := by omega
    subst this
    rfl
theorem ok50 (ea eb : Bool) (a b : Nat) (ha : a < 2 ^ 130) (hb : b < 2 ^ 130) : Ok Try.prog 50 [.sl ea (nb a), .sl eb (nb b)] (tru (decide (a < b))) := by
  refine ok_fn mixed Try.func50 (code := ?_) (h := h50) ?_ k50 ?_
  rotate_left
  · exact rfl
  unfold h50 initS
  simp -implicitDefEqProofs (maxSteps := 10000000) only [rkA, rkB, stepA, valA, simprocAttr, Try.ntmps50, Try.results50]
  refine wp_loop (fun m s => ∃ i : Nat, i + m = 130 ∧ a / 2 ^ m = b / 2 ^ m ∧ s = ⟨[.v (.sl ea (nb a)), .v (.sl eb (nb b)), jk, jk, jk, nt ((m : Int) - 1), jk, jk, jk, jk, jk, jk, jk, jk, jk, jk, jk, jk, jk, jk, jk, jk, jk, jk, jk, jk, jk, jk], [], [], [], [], 0, nomem⟩) 130 ?_ ?_
  · simp -implicitDefEqProofs (maxSteps := 10000000) only [rkA, rkB, stepA, valA, simprocAttr]
    exact ⟨0, by simp, by rw [Nat.div_eq_of_lt ha, Nat.div_eq_of_lt hb]⟩
  rintro m s ⟨i, hm, he, rfl⟩
  simp -implicitDefEqProofs (maxSteps := 10000000) only [rkA, rkB, stepA, valA, simprocAttr]
  refine gB_dec ?_ ?_ <;> intro hc <;> simp -implicitDefEqProofs (maxSteps := 10000000) only [hc, rkA, rkB, stepA, valA, simprocAttr]
  · obtain ⟨k, rfl⟩ : ∃ k, m = k + 1 := ⟨m - 1, by omega⟩
    have ek : ((k + 1 : Nat) : Int) - 1 = (k : Int) := by omega
    have ga := nb_get (x := a) (k := k) (by omega)
    have gb := nb_get (x := b) (k := k) (by omega)
    have h0 := nat0 k
    have hw := wrapped (x := (k : Int) - 1) (by omega) (by omega)
    simp -implicitDefEqProofs (maxSteps := 10000000) only [ek, h0, Int.toNat_natCast, ga, gb, rkA, rkB, stepA, valA, simprocAttr]
    by_cases hne : bitN a k = bitN b k
    · have hne' : ((bitN a k : Int) != (bitN b k : Int)) = false := by simp [hne]
      simp -implicitDefEqProofs (maxSteps := 10000000) only [hne', hw, rkA, rkB, stepA, valA, simprocAttr]
      refine loopK_of (m' := k) (by omega) ?_
      simp -implicitDefEqProofs (maxSteps := 10000000) only [rkA, rkB, stepA, valA, simprocAttr]
      exact ⟨i + 1, by omega, less_next he hne⟩
    · have hne' : ((bitN a k : Int) != (bitN b k : Int)) = true := by simp; omega
      have hl := less_here he hne
      have e : decide ((bitN a k : Int) < (bitN b k : Int)) = decide (a < b) := by
        rw [decide_eq_decide, ← hl]; omega
      simp -implicitDefEqProofs (maxSteps := 10000000) only [hne', e, h0, Int.toNat_natCast, ga, gb, rkA, rkB, stepA, valA, simprocAttr]
  · have : m = 0 := by omega
    subst this
    simp only [Nat.pow_zero, Nat.div_one] at he
    have : decide (a < b) = false := by simp; omega
    rw [this]
theorem ok49 (ea : Bool) (a b : Nat) (hb : b < 2) : Ok Try.prog 49 [.sl ea (nb a), num b] (.sl false (nb (2 * a + b))) := by
  have t : (nb a).take 129 = nbt a 129 := by
    rw [nb, nbt, ← List.map_take, rowB, bitsTo, bitsTo, ← List.map_take, List.take_range]; rfl
  have hs : sliceA 1 (nb a) ea none (some 129) none = some (.sl (exA none ea 129 130) (nbt a 129)) := by
    unfold sliceA
    have hc : ((nb a).all fun e => e.cells.length == 1) = true := by simp [nb, PV.cells]
    have hl := nb_len a
    simp only [Option.getD_some, Option.getD_none]
    rw [if_pos ⟨by omega, by rw [hl]; omega, by simp, hc⟩, hl, t]
    rfl
  have hf : fits 1 8 [num b] (nbt a 129) = true := fits_num (k := [(b : Int)]) (l := bitsTo a 129) (by simp [bitsTo_length])
  have e : num (b : Int) :: nbt a 129 = nb (2 * a + b) := by
    rw [nb, nbt, rowB, ← up_bits a b 129 hb]; rfl
  refine ok_fn mixed Try.func49 (code := ?_) (h := h49) ?_ k49 ?_
  rotate_left
  · exact rfl
  unfold h49 initS
  simp -implicitDefEqProofs (maxSteps := 10000000) only [rkA, rkB, stepA, valA, simprocAttr, Try.ntmps49, Try.results49]
  simp -implicitDefEqProofs (maxSteps := 10000000) only [hs, hf, e, rkA, rkB, stepA, valA, simprocAttr]
end Go.Proofs.Ytambpjbpdackfaa.A



set_option linter.unusedVariables false
set_option linter.unusedSimpArgs false
set_option maxRecDepth 100000
namespace Go.Proofs.Ytambpjbpdackfaa.A
open Go Go.RowKit Go.Shelf

/-! ### The reference's numbers of two words: products, sizes -/
theorem ok46 (a b : Nat) (ha : a < 9223372036854775808) (hb : b < 9223372036854775808) : Ok Try.prog 46 [num a, num b] (.sl false (nb (a * b))) := by
  refine ok_fn mixed Try.func46 (code := ?_) (h := h46) ?_ k46 ?_
  rotate_left
  · exact rfl
  unfold h46 initS
  simp -implicitDefEqProofs (maxSteps := 10000000) only [rkA, rkB, stepA, valA, simprocAttr, Try.ntmps46, Try.results46]
  have h0 := ok48 0 (by omega)
  refine call_fn rfl rfl rfl (h0) ?_
  simp -implicitDefEqProofs (maxSteps := 10000000) only [rkA, rkB, stepA, valA, simprocAttr]
  refine call_fn rfl rfl rfl (ok48 a ha) ?_
  simp -implicitDefEqProofs (maxSteps := 10000000) only [rkA, rkB, stepA, valA, simprocAttr]
  refine call_fn rfl rfl rfl (ok48 b hb) ?_
  simp -implicitDefEqProofs (maxSteps := 10000000) only [rkA, rkB, stepA, valA, simprocAttr]
  refine wp_loop (fun m s => ∃ i : Nat, i + m = 63 ∧ s = ⟨[jk, jk, jk, jk, jk, .v (.sl false (nb (a * (b % 2 ^ i)))), .v (.sl false (nb (a * 2 ^ i))), .v (.sl false (nb b)), nt i, jk, jk, jk, jk, jk, jk, jk, jk, jk, jk, jk, jk, jk, jk, jk, jk, jk, jk, jk, jk], [], [], [(4, 0)], [], 0, nomem⟩) 63 ?_ ?_
  · simp -implicitDefEqProofs (maxSteps := 10000000) only [rkA, rkB, stepA, valA, simprocAttr]
    exact ⟨0, by omega, by simp [Nat.mod_one]⟩
  rintro m s ⟨i, hi, rfl⟩
  simp -implicitDefEqProofs (maxSteps := 10000000) only [rkA, rkB, stepA, valA, simprocAttr]
  refine gB_dec ?_ ?_ <;> intro hc <;> simp -implicitDefEqProofs (maxSteps := 10000000) only [hc, rkA, rkB, stepA, valA, simprocAttr]
  · have h0i := nat0 i
    have gb := nb_get (x := b) (k := i) (by omega)
    have hw := wrapped (x := (i : Int) + 1) (by omega) (by omega)
    have hmod := mod_bit b i
    have hup : 2 * (a * 2 ^ i) + 0 = a * 2 ^ (i + 1) := by rw [Nat.pow_succ, Nat.add_zero, Nat.mul_comm, Nat.mul_assoc]
    have h62 := ok49 false (a * 2 ^ i) 0 (by omega)
    rw [hup] at h62
    simp -implicitDefEqProofs (maxSteps := 10000000) only [h0i, Int.toNat_natCast, gb, rkA, rkB, stepA, valA, simprocAttr]
    rcases bitN_cases b i with e | e
    · have hne : ((bitN b i : Int) == 1) = false := by rw [e]; rfl
      rw [e, Nat.mul_zero, Nat.add_zero (b % 2 ^ i)] at hmod
      simp -implicitDefEqProofs (maxSteps := 10000000) only [hne, rkA, rkB, stepA, valA, simprocAttr]
      refine call_fn rfl rfl rfl (h62) ?_
      simp -implicitDefEqProofs (maxSteps := 10000000) only [hw, rkA, rkB, stepA, valA, simprocAttr]
      refine loopK_of (m' := m - 1) (by omega) ?_
      simp -implicitDefEqProofs (maxSteps := 10000000) only [rkA, rkB, stepA, valA, simprocAttr]
      exact ⟨i + 1, by omega, by rw [hmod]; simp only [Int.natCast_add, Int.natCast_one]⟩
    · have hne : ((bitN b i : Int) == 1) = true := by rw [e]; rfl
      rw [e, Nat.mul_one] at hmod
      have hs : a * (b % 2 ^ i) + a * 2 ^ i = a * (b % 2 ^ (i + 1)) := by rw [hmod, Nat.mul_add]
      have h61 := ok52 false false (a * (b % 2 ^ i)) (a * 2 ^ i)
      rw [hs] at h61
      simp -implicitDefEqProofs (maxSteps := 10000000) only [hne, rkA, rkB, stepA, valA, simprocAttr]
      refine call_fn rfl rfl rfl (h61) ?_
      simp -implicitDefEqProofs (maxSteps := 10000000) only [rkA, rkB, stepA, valA, simprocAttr]
      refine call_fn rfl rfl rfl (h62) ?_
      simp -implicitDefEqProofs (maxSteps := 10000000) only [hw, rkA, rkB, stepA, valA, simprocAttr]
      refine loopK_of (m' := m - 1) (by omega) ?_
      simp -implicitDefEqProofs (maxSteps := 10000000) only [rkA, rkB, stepA, valA, simprocAttr]
      exact ⟨i + 1, by omega, by simp only [Int.natCast_add, Int.natCast_one]⟩
  · have : i = 63 := by omega
    subst this
    rw [Nat.mod_eq_of_lt (by omega)]
theorem ok45 (n : Int) : Ok Try.prog 45 [num n] (tru (rightW n)) := by
  refine ok_fn mixed Try.func45 (code := ?_) (h := h45) ?_ k45 ?_
  rotate_left
  · exact rfl
  unfold h45 initS
  simp -implicitDefEqProofs (maxSteps := 10000000) only [rkA, rkB, stepA, valA, simprocAttr, Try.ntmps45, Try.results45]
  unfold rightW
  by_cases h1 : n ≥ -4611686018427387903
  · simp -implicitDefEqProofs (maxSteps := 10000000) only [h1, rkA, rkB, stepA, valA, simprocAttr]
  · simp -implicitDefEqProofs (maxSteps := 10000000) only [h1, rkA, rkB, stepA, valA, simprocAttr]
theorem ok47 (n : Int) (h : -9223372036854775807 ≤ n) (h' : n ≤ 9223372036854775807) : Ok Try.prog 47 [num n] (num n.natAbs) := by
  refine ok_fn mixed Try.func47 (code := ?_) (h := h47) ?_ k47 ?_
  rotate_left
  · exact rfl
  unfold h47 initS
  simp -implicitDefEqProofs (maxSteps := 10000000) only [rkA, rkB, stepA, valA, simprocAttr, Try.ntmps47, Try.results47]
  have hw := wrapped (x := 0 - n) (by omega) (by omega)
  refine gB_dec ?_ ?_ <;> intro hc <;> simp -implicitDefEqProofs (maxSteps := 10000000) only [hc, hw, rkA, rkB, stepA, valA, simprocAttr]
  · have : (0 : Int) - n = (n.natAbs : Int) := by omega
    rw [this]
  · have : n = (n.natAbs : Int) := by omega
    rw [← this]
/-- A row as a number. -/
theorem ok53 (e : Bool) (x : Nat) (hx : x < 2 ^ 62) : Ok Try.prog 53 [.sl e (nb x)] (.tup [num x, tru true]) := by
  refine ok_fn mixed Try.func53 (code := ?_) (h := h53) ?_ k53 ?_
  rotate_left
  · exact rfl
  unfold h53 initS
  simp -implicitDefEqProofs (maxSteps := 10000000) only [rkA, rkB, stepA, valA, simprocAttr, Try.ntmps53, Try.results53]
  refine wp_loop (fun m s => ∃ i : Nat, i + m = 130 ∧ s = ⟨[.v (.sl e (nb x)), jk, jk, jk, nt (x / 2 ^ m : Nat), nt ((m : Int) - 1), jk, jk, jk, jk, jk, jk, jk, jk, jk, jk, jk, jk, jk, jk, jk, jk, jk, jk, jk, jk, jk, jk, jk], [], [], [], [], 0, nomem⟩) 130 ?_ ?_
  · simp -implicitDefEqProofs (maxSteps := 10000000) only [rkA, rkB, stepA, valA, simprocAttr]
    exact ⟨0, by omega, by rw [Nat.div_eq_of_lt (Nat.lt_trans hx (by decide))]; rfl⟩
  rintro m s ⟨i, hm, rfl⟩
  simp -implicitDefEqProofs (maxSteps := 10000000) only [rkA, rkB, stepA, valA, simprocAttr]
  refine gB_dec ?_ ?_ <;> intro hc <;> simp -implicitDefEqProofs (maxSteps := 10000000) only [hc, rkA, rkB, stepA, valA, simprocAttr]
  · obtain ⟨k, rfl⟩ : ∃ k, m = k + 1 := ⟨m - 1, by omega⟩
    have ek : ((k + 1 : Nat) : Int) - 1 = (k : Int) := by omega
    have g := nb_get (x := x) (k := k) (by omega)
    have h0 := nat0 k
    have hw := wrapped (x := (k : Int) - 1) (by omega) (by omega)
    have hb := half_bit x k
    simp -implicitDefEqProofs (maxSteps := 10000000) only [ek, h0, Int.toNat_natCast, g, rkA, rkB, stepA, valA, simprocAttr]
    by_cases h62 : 62 ≤ k
    · have g62 : (k : Int) ≥ 62 := by omega
      have g62' : ¬ (k : Int) < 62 := by omega
      have e1 := bits_big hx (k := k) h62
      have z1 : x / 2 ^ k = 0 := Nat.div_eq_of_lt (Nat.lt_of_lt_of_le hx (Nat.pow_le_pow_right (by omega) h62))
      have z2 : x / 2 ^ (k + 1) = 0 := Nat.div_eq_of_lt (Nat.lt_of_lt_of_le hx (Nat.pow_le_pow_right (by omega) (by omega)))
      have hne : ((bitN x k : Int) == 1) = false := by rw [e1]; rfl
      simp -implicitDefEqProofs (maxSteps := 10000000) only [hne, g62', hw, rkA, rkB, stepA, valA, simprocAttr]
      refine loopK_of (m' := k) (by omega) ?_
      simp -implicitDefEqProofs (maxSteps := 10000000) only [rkA, rkB, stepA, valA, simprocAttr]
      exact ⟨i + 1, by omega, by rw [z1, z2]⟩
    · have g62 : ¬ (k : Int) ≥ 62 := by omega
      have g62' : (k : Int) < 62 := by omega
      have hle : x / 2 ^ k ≤ x := Nat.div_le_self _ _
      have w1 : IntKind.wrap .i64 (((x / 2 ^ (k + 1) : Nat) : Int) * 2) = ((2 * (x / 2 ^ (k + 1)) : Nat) : Int) := by rw [wrapped (by omega) (by omega)]; omega
      have w2 : IntKind.wrap .i64 (((2 * (x / 2 ^ (k + 1)) : Nat) : Int) + (bitN x k : Int)) = ((x / 2 ^ k : Nat) : Int) := by rw [wrapped (by omega) (by omega)]; omega
      rcases bitN_cases x k with e1 | e1
      · have hne : ((bitN x k : Int) == 1) = false := by rw [e1]; rfl
        simp -implicitDefEqProofs (maxSteps := 10000000) only [hne, g62, g62', w1, h0, Int.toNat_natCast, g, w2, hw, rkA, rkB, stepA, valA, simprocAttr]
        refine loopK_of (m' := k) (by omega) ?_
        simp -implicitDefEqProofs (maxSteps := 10000000) only [rkA, rkB, stepA, valA, simprocAttr]
        exact ⟨i + 1, by omega⟩
      · have hne : ((bitN x k : Int) == 1) = true := by rw [e1]; rfl
        simp -implicitDefEqProofs (maxSteps := 10000000) only [hne, g62, g62', w1, h0, Int.toNat_natCast, g, w2, hw, rkA, rkB, stepA, valA, simprocAttr]
        refine loopK_of (m' := k) (by omega) ?_
        simp -implicitDefEqProofs (maxSteps := 10000000) only [rkA, rkB, stepA, valA, simprocAttr]
        exact ⟨i + 1, by omega⟩
  · have : m = 0 := by omega
    subst this
    simp only [Nat.pow_zero, Nat.div_one]
theorem ok53n (e : Bool) (x : Nat) (hx : x < 2 ^ 130) (hbig : 2 ^ 62 ≤ x) : Ok Try.prog 53 [.sl e (nb x)] (.tup [num 0, tru false]) := by
  refine ok_fn mixed Try.func53 (code := ?_) (h := h53) ?_ k53 ?_
  rotate_left
  · exact rfl
  unfold h53 initS
  simp -implicitDefEqProofs (maxSteps := 10000000) only [rkA, rkB, stepA, valA, simprocAttr, Try.ntmps53, Try.results53]
  refine wp_loop (fun m s => ∃ i : Nat, i + m = 130 ∧ 62 < m ∧ x / 2 ^ m = 0 ∧ s = ⟨[.v (.sl e (nb x)), jk, jk, jk, nt 0, nt ((m : Int) - 1), jk, jk, jk, jk, jk, jk, jk, jk, jk, jk, jk, jk, jk, jk, jk, jk, jk, jk, jk, jk, jk, jk, jk], [], [], [], [], 0, nomem⟩) 130 ?_ ?_
  · simp -implicitDefEqProofs (maxSteps := 10000000) only [rkA, rkB, stepA, valA, simprocAttr]
    exact ⟨0, by omega, Nat.div_eq_of_lt hx⟩
  rintro m s ⟨i, hm, h62, hz, rfl⟩
  obtain ⟨k, rfl⟩ : ∃ k, m = k + 1 := ⟨m - 1, by omega⟩
  have ek : ((k + 1 : Nat) : Int) - 1 = (k : Int) := by omega
  have g := nb_get (x := x) (k := k) (by omega)
  have h0 := nat0 k
  have h0' : (k : Int) ≥ 0 := h0
  have hw := wrapped (x := (k : Int) - 1) (by omega) (by omega)
  have hb := half_bit x k
  have g62 : (k : Int) ≥ 62 := by omega
  have g62' : ¬ (k : Int) < 62 := by omega
  simp -implicitDefEqProofs (maxSteps := 10000000) only [ek, h0, h0', Int.toNat_natCast, g, rkA, rkB, stepA, valA, simprocAttr]
  rcases bitN_cases x k with e1 | e1
  · have hne : ((bitN x k : Int) == 1) = false := by rw [e1]; rfl
    rw [hz, e1] at hb
    have hk : k ≠ 62 := by
      intro h
      subst h
      have : 2 ^ 62 / 2 ^ 62 ≤ x / 2 ^ 62 := Nat.div_le_div_right hbig
      rw [Nat.div_self (by decide)] at this
      omega
    simp -implicitDefEqProofs (maxSteps := 10000000) only [hne, g62', hw, rkA, rkB, stepA, valA, simprocAttr]
    refine loopK_of (m' := k) (by omega) ?_
    simp -implicitDefEqProofs (maxSteps := 10000000) only [rkA, rkB, stepA, valA, simprocAttr]
    exact ⟨i + 1, by omega, by omega, by omega⟩
  · have hne : ((bitN x k : Int) == 1) = true := by rw [e1]; rfl
    simp -implicitDefEqProofs (maxSteps := 10000000) only [hne, g62, rkA, rkB, stepA, valA, simprocAttr]
end Go.Proofs.Ytambpjbpdackfaa.A



set_option linter.unusedVariables false
set_option linter.unusedSimpArgs false
set_option maxRecDepth 100000
namespace Go.Proofs.Ytambpjbpdackfaa.A
open Go Go.RowKit Go.Shelf

/-! ### The reference's product, divided -/
theorem md_no {a b c mode : Int} (h : mdOk a b c mode = false) : mdF a b c mode = (0, false) := by unfold mdF; rw [h]; rfl
theorem div_step {P d b : Nat} (hd : 0 < d) (hb : b < 2) : (2 * P + b) / d = 2 * (P / d) + (if 2 * (P % d) + b < d then 0 else 1) ∧ (2 * P + b) % d = if 2 * (P % d) + b < d then 2 * (P % d) + b else 2 * (P % d) + b - d := by
  have h1 := Nat.div_add_mod P d
  have h2 := Nat.mod_lt P hd
  generalize P / d = q at *
  generalize P % d = r at *
  by_cases h : 2 * r + b < d
  · rw [if_pos h, if_pos h]
    have e : 2 * P + b = (2 * r + b) + d * (2 * q) := by rw [← h1, Nat.mul_left_comm]; omega
    rw [e, Nat.add_mul_div_left _ _ hd, Nat.add_mul_mod_self_left, Nat.div_eq_of_lt h, Nat.mod_eq_of_lt h]
    omega
  · rw [if_neg h, if_neg h]
    have e : 2 * P + b = (2 * r + b - d) + d * (2 * q + 1) := by rw [← h1, Nat.mul_add d, Nat.mul_left_comm d, Nat.mul_one]; omega
    have h3 : 2 * r + b - d < d := by omega
    rw [e, Nat.add_mul_div_left _ _ hd, Nat.add_mul_mod_self_left, Nat.div_eq_of_lt h3, Nat.mod_eq_of_lt h3]
    omega
theorem neg_small {Q : Nat} (h : Q < 2 ^ 62) : IntKind.wrap .i64 (-(Q : Int)) = -(Q : Int) := wrapped (by omega) (by omega)
theorem md_fin {a b c mode : Int} {Q : Nat} (e : Bool) (hQ : Q < 2 ^ 130) (hN : mdN a b c mode = Q) (hok : mdOk a b c mode = decide (mdN a b c mode ≤ 4611686018427387903)) {G : Prop}
    (h1 : Q < 2 ^ 62 → mdF a b c mode = (if minus3 a b c = true then -(Q : Int) else (Q : Int), true) → G) (h2 : 2 ^ 62 ≤ Q → mdF a b c mode = (0, false) → G) : G := by
  rw [hN] at hok
  by_cases hq : Q < 2 ^ 62
  · refine h1 hq ?_
    unfold mdF
    rw [if_pos (by rw [hok]; exact decide_eq_true (by omega)), hN]
  · exact h2 (by omega) (md_no (by rw [hok]; exact decide_eq_false (by omega)))
set_option maxHeartbeats 8000000 in
theorem ok25 (a b c mode : Int) : Ok Try.prog 25 [num a, num b, num c, num mode] (.tup [num (mdF a b c mode).1, tru (mdF a b c mode).2]) := by
  refine ok_fn mixed Try.func25 (code := ?_) (h := h25) ?_ k25 ?_
  rotate_left
  · exact rfl
  unfold h25 initS
  simp -implicitDefEqProofs (maxSteps := 10000000) only [rkA, rkB, stepA, valA, simprocAttr, Try.ntmps25, Try.results25]
  refine call_fn rfl rfl rfl (ok45 a) ?_
  cases ha : rightW a with
  | false =>
    rw [md_no (by simp [mdOk, ha])]
    simp -implicitDefEqProofs (maxSteps := 10000000) only [rkA, rkB, stepA, valA, simprocAttr]
  | true =>
  simp -implicitDefEqProofs (maxSteps := 10000000) only [rkA, rkB, stepA, valA, simprocAttr]
  refine call_fn rfl rfl rfl (ok45 b) ?_
  cases hb : rightW b with
  | false =>
    rw [md_no (by simp [mdOk, hb])]
    simp -implicitDefEqProofs (maxSteps := 10000000) only [rkA, rkB, stepA, valA, simprocAttr]
  | true =>
  simp -implicitDefEqProofs (maxSteps := 10000000) only [rkA, rkB, stepA, valA, simprocAttr]
  refine call_fn rfl rfl rfl (ok45 c) ?_
  cases hc : rightW c with
  | false =>
    rw [md_no (by simp [mdOk, hc])]
    simp -implicitDefEqProofs (maxSteps := 10000000) only [rkA, rkB, stepA, valA, simprocAttr]
  | true =>
  by_cases c0 : c = 0
  · rw [md_no (by simp [mdOk, c0])]
    simp -implicitDefEqProofs (maxSteps := 10000000) only [c0, beq_self_eq_true, rkA, rkB, stepA, valA, simprocAttr]
  have c0' : (c == 0) = false := by simp [c0]
  by_cases hm : mode < 0
  · rw [md_no (by simp [mdOk]; omega)]
    simp -implicitDefEqProofs (maxSteps := 10000000) only [c0', hm, rkA, rkB, stepA, valA, simprocAttr]
  by_cases hm2 : mode > 2
  · rw [md_no (by simp [mdOk]; omega)]
    simp -implicitDefEqProofs (maxSteps := 10000000) only [c0', hm, hm2, rkA, rkB, stepA, valA, simprocAttr]
  have hok : mdOk a b c mode = decide (mdN a b c mode ≤ 4611686018427387903) := by
    have : decide (0 ≤ mode ∧ mode ≤ 2) = true := by simp; omega
    simp [mdOk, ha, hb, hc, c0, this]
  simp only [rightW, decide_eq_true_eq] at ha hb hc
  simp -implicitDefEqProofs (maxSteps := 10000000) only [c0', hm, hm2, rkA, rkB, stepA, valA, simprocAttr]
  refine call_fn rfl rfl rfl (ok47 a (by omega) (by omega)) ?_
  simp -implicitDefEqProofs (maxSteps := 10000000) only [rkA, rkB, stepA, valA, simprocAttr]
  refine call_fn rfl rfl rfl (ok47 b (by omega) (by omega)) ?_
  simp -implicitDefEqProofs (maxSteps := 10000000) only [rkA, rkB, stepA, valA, simprocAttr]
  refine call_fn rfl rfl rfl (ok46 a.natAbs b.natAbs (by omega) (by omega)) ?_
  simp -implicitDefEqProofs (maxSteps := 10000000) only [rkA, rkB, stepA, valA, simprocAttr]
  refine call_fn rfl rfl rfl (ok47 c (by omega) (by omega)) ?_
  simp -implicitDefEqProofs (maxSteps := 10000000) only [rkA, rkB, stepA, valA, simprocAttr]
  refine call_fn rfl rfl rfl (ok48 c.natAbs (by omega)) ?_
  simp -implicitDefEqProofs (maxSteps := 10000000) only [rkA, rkB, stepA, valA, simprocAttr]
  have z0 := ok48 0 (by omega)
  refine call_fn rfl rfl rfl (z0) ?_
  simp -implicitDefEqProofs (maxSteps := 10000000) only [rkA, rkB, stepA, valA, simprocAttr]
  refine call_fn rfl rfl rfl (z0) ?_
  simp -implicitDefEqProofs (maxSteps := 10000000) only [rkA, rkB, stepA, valA, simprocAttr]
  have hp : a.natAbs * b.natAbs ≤ 4611686018427387903 * 4611686018427387903 := Nat.mul_le_mul (by omega) (by omega)
  have hd : 0 < c.natAbs := by omega
  generalize hP : a.natAbs * b.natAbs = p at *
  generalize hD : c.natAbs = d at *
  have hp2 : p < 2 ^ 130 := by omega
  refine wp_loop (fun m s => ∃ i : Nat, i + m = 130 ∧ s = ⟨[.v (num a), .v (num b), .v (num c), .v (num mode), jk, jk, jk, jk, jk, jk, .v (.sl false (nb p)), .v (.sl false (nb d)), .v (.sl false (nb (p / 2 ^ m / d))), .v (.sl false (nb (p / 2 ^ m % d))), nt ((m : Int) - 1), jk, jk, jk, jk, jk, jk, jk, jk, jk, jk, jk, jk, jk, jk, jk, jk, jk, jk, jk, jk, jk, jk, jk, jk, jk, jk, jk, jk, jk, jk, jk, jk, jk, jk, jk, jk, jk, jk, jk, jk, jk, jk, jk, jk, jk, jk, jk, jk, jk, jk, jk, jk, jk, jk, jk, jk, jk, jk, jk, jk, jk, jk, jk, jk, jk, jk, jk, jk, jk, jk, jk, jk, jk, jk, jk, jk, jk, jk, jk, jk, jk, jk, jk, jk, jk, jk, jk, jk, jk, jk, jk, jk, jk, jk, jk, jk, jk, jk, jk, jk, jk, jk, jk, jk, jk, jk, jk, jk, jk, jk, jk, jk, jk, jk, jk, jk, jk, jk, jk, jk, jk, jk, jk, jk, jk, jk, jk, jk, jk, jk, jk, jk], [], [], [], [], 0, nomem⟩) 130 ?_ ?_
  · simp -implicitDefEqProofs (maxSteps := 10000000) only [rkA, rkB, stepA, valA, simprocAttr]
    have z : p / 2 ^ 130 = 0 := Nat.div_eq_of_lt hp2
    exact ⟨0, by omega, by rw [z, Nat.zero_div, Nat.zero_mod]⟩
  rintro m s ⟨i, him, rfl⟩
  simp -implicitDefEqProofs (maxSteps := 10000000) only [rkA, rkB, stepA, valA, simprocAttr]
  refine gB_dec ?_ ?_ <;> intro hc' <;> simp -implicitDefEqProofs (maxSteps := 10000000) only [hc', rkA, rkB, stepA, valA, simprocAttr]
  · obtain ⟨k, rfl⟩ : ∃ k, m = k + 1 := ⟨m - 1, by omega⟩
    have ek : ((k + 1 : Nat) : Int) - 1 = (k : Int) := by omega
    have g := nb_get (x := p) (k := k) (by omega)
    have h0 := nat0 k
    have hw := wrapped (x := (k : Int) - 1) (by omega) (by omega)
    have hb := half_bit p k
    have hlt := bitN_lt p k
    obtain ⟨s1, s2⟩ := div_step (P := p / 2 ^ (k + 1)) hd hlt
    rw [← hb] at s1 s2
    have hr := Nat.mod_lt (p / 2 ^ (k + 1)) hd
    simp -implicitDefEqProofs (maxSteps := 10000000) only [ek, h0, Int.toNat_natCast, g, rkA, rkB, stepA, valA, simprocAttr]
    refine call_fn rfl rfl rfl (ok49 false (p / 2 ^ (k + 1) % d) (bitN p k) hlt) ?_
    simp -implicitDefEqProofs (maxSteps := 10000000) only [rkA, rkB, stepA, valA, simprocAttr]
    refine call_fn rfl rfl rfl (ok50 false false (2 * (p / 2 ^ (k + 1) % d) + bitN p k) d (by omega) (by omega)) ?_
    by_cases hl : 2 * (p / 2 ^ (k + 1) % d) + bitN p k < d
    · have hl' : decide (2 * (p / 2 ^ (k + 1) % d) + bitN p k < d) = true := decide_eq_true hl
      rw [if_pos hl] at s1 s2
      simp -implicitDefEqProofs (maxSteps := 10000000) only [hl', rkA, rkB, stepA, valA, simprocAttr]
      have h62 := ok49 false (p / 2 ^ (k + 1) / d) 0 (by omega)
      rw [← s1] at h62
      refine call_fn rfl rfl rfl (h62) ?_
      simp -implicitDefEqProofs (maxSteps := 10000000) only [hw, rkA, rkB, stepA, valA, simprocAttr]
      refine loopK_of (m' := k) (by omega) ?_
      simp -implicitDefEqProofs (maxSteps := 10000000) only [rkA, rkB, stepA, valA, simprocAttr]
      exact ⟨i + 1, by omega, by rw [s2]⟩
    · have hl' : decide (2 * (p / 2 ^ (k + 1) % d) + bitN p k < d) = false := decide_eq_false hl
      rw [if_neg hl] at s1 s2
      simp -implicitDefEqProofs (maxSteps := 10000000) only [hl', rkA, rkB, stepA, valA, simprocAttr]
      have h63 := ok51 false false (2 * (p / 2 ^ (k + 1) % d) + bitN p k) d (by omega)
      rw [← s2] at h63
      refine call_fn rfl rfl rfl (h63) ?_
      simp -implicitDefEqProofs (maxSteps := 10000000) only [rkA, rkB, stepA, valA, simprocAttr]
      have h62 := ok49 false (p / 2 ^ (k + 1) / d) 1 (by omega)
      rw [← s1] at h62
      refine call_fn rfl rfl rfl (h62) ?_
      simp -implicitDefEqProofs (maxSteps := 10000000) only [hw, rkA, rkB, stepA, valA, simprocAttr]
      refine loopK_of (m' := k) (by omega) ?_
      simp -implicitDefEqProofs (maxSteps := 10000000) only [rkA, rkB, stepA, valA, simprocAttr]
      exact ⟨i + 1, by omega⟩
  · have hm0 : m = 0 := by omega
    subst hm0
    simp only [Nat.pow_zero, Nat.div_one]
    have bit1 : ∀ x : Int, 0 ≤ (if x < 0 then (1 : Int) else 0) ∧ (if x < 0 then (1 : Int) else 0) ≤ 1 := fun x => by split <;> omega
    have b1 := bit1 a
    have b2 := bit1 b
    have b3 := bit1 c
    obtain ⟨y57, hy57⟩ : ∃ y : TV, y = nt (-1) := ⟨_, rfl⟩
    obtain ⟨y58, hy58⟩ : ∃ y : TV, y = .v (tru false) := ⟨_, rfl⟩
    refine cond_join (fun s => ∃ x77 x78 x79 x80 : TV, s = ⟨[.v (num a), .v (num b), .v (num c), .v (num mode), jk, jk, jk, jk, jk, jk, .v (.sl false (nb p)), .v (.sl false (nb d)), .v (.sl false (nb (p / d))), .v (.sl false (nb (p % d))), nt (-1), jk, nt (if a < 0 then (1 : Int) else 0), jk, jk, jk, jk, jk, jk, jk, jk, jk, jk, jk, jk, jk, jk, jk, jk, jk, jk, jk, jk, jk, jk, jk, jk, jk, jk, jk, jk, jk, jk, jk, jk, jk, jk, jk, jk, jk, jk, jk, jk, y57, y58, jk, jk, jk, jk, jk, jk, jk, jk, jk, jk, jk, jk, jk, jk, jk, jk, jk, jk, x77, x78, x79, x80, jk, jk, jk, jk, jk, jk, jk, jk, jk, jk, jk, jk, jk, jk, jk, jk, jk, jk, jk, jk, jk, jk, jk, jk, jk, jk, jk, jk, jk, jk, jk, jk, jk, jk, jk, jk, jk, jk, jk, jk, jk, jk, jk, jk, jk, jk, jk, jk, jk, jk, jk, jk, jk, jk, jk, jk, jk, jk, jk, jk, jk, jk, jk, jk, jk, jk], [], [], [], [], 0, nomem⟩) ?_ ?_ ?_
    rotate_left
    · intro h
      have h' := of_decide_eq_true h
      have hw : IntKind.wrap .i64 1 = 1 := rfl
      simp -implicitDefEqProofs (maxSteps := 10000000) only [hw, rkA, rkB, stepA, valA, simprocAttr]
      rw [if_pos h']
      rw [hy57, hy58]
      exact ⟨_, _, _, _, rfl⟩
    · intro h
      have h' := of_decide_eq_false h
      simp -implicitDefEqProofs (maxSteps := 10000000) only [rkA, rkB, stepA, valA, simprocAttr]
      rw [if_neg h']
      rw [hy57, hy58]
      exact ⟨_, _, _, _, rfl⟩
    rintro s ⟨x77, x78, x79, x80, rfl⟩
    simp -implicitDefEqProofs (maxSteps := 10000000) only [rkA, rkB, stepA, valA, simprocAttr]
    refine cond_join (fun s => ∃ x81 x82 x83 x84 : TV, s = ⟨[.v (num a), .v (num b), .v (num c), .v (num mode), jk, jk, jk, jk, jk, jk, .v (.sl false (nb p)), .v (.sl false (nb d)), .v (.sl false (nb (p / d))), .v (.sl false (nb (p % d))), nt (-1), jk, nt ((if a < 0 then (1 : Int) else 0) + (if b < 0 then (1 : Int) else 0)), jk, jk, jk, jk, jk, jk, jk, jk, jk, jk, jk, jk, jk, jk, jk, jk, jk, jk, jk, jk, jk, jk, jk, jk, jk, jk, jk, jk, jk, jk, jk, jk, jk, jk, jk, jk, jk, jk, jk, jk, y57, y58, jk, jk, jk, jk, jk, jk, jk, jk, jk, jk, jk, jk, jk, jk, jk, jk, jk, jk, x77, x78, x79, x80, x81, x82, x83, x84, jk, jk, jk, jk, jk, jk, jk, jk, jk, jk, jk, jk, jk, jk, jk, jk, jk, jk, jk, jk, jk, jk, jk, jk, jk, jk, jk, jk, jk, jk, jk, jk, jk, jk, jk, jk, jk, jk, jk, jk, jk, jk, jk, jk, jk, jk, jk, jk, jk, jk, jk, jk, jk, jk, jk, jk, jk, jk, jk, jk, jk, jk], [], [], [], [], 0, nomem⟩) ?_ ?_ ?_
    rotate_left
    · intro h
      have h' := of_decide_eq_true h
      have hw : IntKind.wrap .i64 ((if a < 0 then (1 : Int) else 0) + 1) = (if a < 0 then (1 : Int) else 0) + 1 := wrapped (by omega) (by omega)
      simp -implicitDefEqProofs (maxSteps := 10000000) only [hw, rkA, rkB, stepA, valA, simprocAttr]
      rw [if_pos h']
      exact ⟨_, _, _, _, rfl⟩
    · intro h
      have h' := of_decide_eq_false h
      simp -implicitDefEqProofs (maxSteps := 10000000) only [rkA, rkB, stepA, valA, simprocAttr]
      rw [if_neg h', Int.add_zero]
      exact ⟨_, _, _, _, rfl⟩
    rintro s ⟨x81, x82, x83, x84, rfl⟩
    simp -implicitDefEqProofs (maxSteps := 10000000) only [rkA, rkB, stepA, valA, simprocAttr]
    refine cond_join (fun s => ∃ x85 x86 x87 x88 : TV, s = ⟨[.v (num a), .v (num b), .v (num c), .v (num mode), jk, jk, jk, jk, jk, jk, .v (.sl false (nb p)), .v (.sl false (nb d)), .v (.sl false (nb (p / d))), .v (.sl false (nb (p % d))), nt (-1), jk, nt ((if a < 0 then (1 : Int) else 0) + (if b < 0 then (1 : Int) else 0) + (if c < 0 then (1 : Int) else 0)), jk, jk, jk, jk, jk, jk, jk, jk, jk, jk, jk, jk, jk, jk, jk, jk, jk, jk, jk, jk, jk, jk, jk, jk, jk, jk, jk, jk, jk, jk, jk, jk, jk, jk, jk, jk, jk, jk, jk, jk, y57, y58, jk, jk, jk, jk, jk, jk, jk, jk, jk, jk, jk, jk, jk, jk, jk, jk, jk, jk, x77, x78, x79, x80, x81, x82, x83, x84, x85, x86, x87, x88, jk, jk, jk, jk, jk, jk, jk, jk, jk, jk, jk, jk, jk, jk, jk, jk, jk, jk, jk, jk, jk, jk, jk, jk, jk, jk, jk, jk, jk, jk, jk, jk, jk, jk, jk, jk, jk, jk, jk, jk, jk, jk, jk, jk, jk, jk, jk, jk, jk, jk, jk, jk, jk, jk, jk, jk, jk, jk], [], [], [], [], 0, nomem⟩) ?_ ?_ ?_
    rotate_left
    · intro h
      have h' := of_decide_eq_true h
      have hw : IntKind.wrap .i64 (((if a < 0 then (1 : Int) else 0) + (if b < 0 then (1 : Int) else 0)) + 1) = ((if a < 0 then (1 : Int) else 0) + (if b < 0 then (1 : Int) else 0)) + 1 := wrapped (by omega) (by omega)
      simp -implicitDefEqProofs (maxSteps := 10000000) only [hw, rkA, rkB, stepA, valA, simprocAttr]
      rw [if_pos h']
      exact ⟨_, _, _, _, rfl⟩
    · intro h
      have h' := of_decide_eq_false h
      simp -implicitDefEqProofs (maxSteps := 10000000) only [rkA, rkB, stepA, valA, simprocAttr]
      rw [if_neg h', Int.add_zero]
      exact ⟨_, _, _, _, rfl⟩
    rintro s ⟨x85, x86, x87, x88, rfl⟩
    simp -implicitDefEqProofs (maxSteps := 10000000) only [rkA, rkB, stepA, valA, simprocAttr]
    have hK : ((((if a < 0 then (1 : Int) else 0) + (if b < 0 then (1 : Int) else 0) + (if c < 0 then (1 : Int) else 0)).tmod 2) == 1) = minus3 a b c := by
      unfold minus3
      by_cases h1 : a < 0 <;> by_cases h2 : b < 0 <;> by_cases h3 : c < 0 <;> simp [h1, h2, h3]
    have hK0 : ((((if a < 0 then (1 : Int) else 0) + (if b < 0 then (1 : Int) else 0) + (if c < 0 then (1 : Int) else 0)).tmod 2) == 0) = !(minus3 a b c) := by
      unfold minus3
      by_cases h1 : a < 0 <;> by_cases h2 : b < 0 <;> by_cases h3 : c < 0 <;> simp [h1, h2, h3]
    have wK : IntKind.wrap .i64 (((if a < 0 then (1 : Int) else 0) + (if b < 0 then (1 : Int) else 0) + (if c < 0 then (1 : Int) else 0)).tmod 2) = ((if a < 0 then (1 : Int) else 0) + (if b < 0 then (1 : Int) else 0) + (if c < 0 then (1 : Int) else 0)).tmod 2 := by
      rw [Int.tmod_eq_emod_of_nonneg (by omega)]
      exact wrapped (by omega) (by omega)
    generalize (if a < 0 then (1 : Int) else 0) + (if b < 0 then (1 : Int) else 0) + (if c < 0 then (1 : Int) else 0) = K at hK hK0 wK ⊢
    have hr := Nat.mod_lt p hd
    have hqle : p / d ≤ p := Nat.div_le_self _ _
    refine call_fn rfl rfl rfl (z0) ?_
    simp -implicitDefEqProofs (maxSteps := 10000000) only [rkA, rkB, stepA, valA, simprocAttr]
    refine call_fn rfl rfl rfl (ok50 false false 0 (p % d) (by omega) (by omega)) ?_
    simp -implicitDefEqProofs (maxSteps := 10000000) only [rkA, rkB, stepA, valA, simprocAttr]
    refine call_fn rfl rfl rfl (ok49 false (p % d) 0 (by omega)) ?_
    have hmode : mode = 0 ∨ mode = 1 ∨ mode = 2 := by omega
    rw [Nat.add_zero]
    have b0 := nb_get (x := p / d) (k := 0) (by omega)
    have hbit0 : bitN (p / d) 0 = p / d % 2 := by unfold bitN; rw [Nat.pow_zero, Nat.div_one]
    have add1 := ok52 false false (p / d) 1
    have z1 := ok48 1 (by omega)
    rcases hmode with rfl | rfl | rfl
    · simp -implicitDefEqProofs (maxSteps := 10000000) only [rkA, rkB, stepA, valA, simprocAttr]
      refine call_fn rfl rfl rfl (ok50 false false d (2 * (p % d)) (by omega) (by omega)) ?_
      by_cases h1 : d < 2 * (p % d)
      · have hmore : moreF 0 (p / d) (p % d) d (minus3 a b c) = true := by
          unfold moreF
          rw [if_neg (by omega), if_pos rfl]
          simp
          omega
        simp -implicitDefEqProofs (maxSteps := 10000000) only [decide_eq_true h1, rkA, rkB, stepA, valA, simprocAttr]
        refine call_fn rfl rfl rfl (z1) ?_
        simp -implicitDefEqProofs (maxSteps := 10000000) only [rkA, rkB, stepA, valA, simprocAttr]
        refine call_fn rfl rfl rfl (add1) ?_
        simp -implicitDefEqProofs (maxSteps := 10000000) only [rkA, rkB, stepA, valA, simprocAttr]
        refine md_fin (Q := p / d + 1) false (by omega) (by unfold mdN; rw [hP, hD, hmore]; rfl) hok ?_ ?_
        · intro hq hF
          refine call_fn rfl rfl rfl (ok53 false (p / d + 1) hq) ?_
          rw [hF]
          have w1 := neg_small hq
          cases hM : minus3 a b c with
          | true =>
            rw [hM] at hK
            simp -implicitDefEqProofs (maxSteps := 10000000) only [two0, wK, hK, Int.zero_sub, w1, rkA, rkB, stepA, valA, simprocAttr]
          | false =>
            rw [hM] at hK
            simp -implicitDefEqProofs (maxSteps := 10000000) only [two0, wK, hK, rkA, rkB, stepA, valA, simprocAttr]
        · intro hq hF
          refine call_fn rfl rfl rfl (ok53n false (p / d + 1) (by omega) hq) ?_
          rw [hF]
          simp -implicitDefEqProofs (maxSteps := 10000000) only [rkA, rkB, stepA, valA, simprocAttr]
      · by_cases h2 : 0 < p % d
        · simp -implicitDefEqProofs (maxSteps := 10000000) only [decide_eq_false h1, decide_eq_true h2, rkA, rkB, stepA, valA, simprocAttr]
          refine call_fn rfl rfl rfl (ok50 false false (2 * (p % d)) d (by omega) (by omega)) ?_
          by_cases h3 : 2 * (p % d) < d
          · have hmore : moreF 0 (p / d) (p % d) d (minus3 a b c) = false := by
              unfold moreF
              rw [if_neg (by omega), if_pos rfl]
              simp
              omega
            simp -implicitDefEqProofs (maxSteps := 10000000) only [decide_eq_true h3, rkA, rkB, stepA, valA, simprocAttr]
            refine md_fin (Q := p / d) false (by omega) (by unfold mdN; rw [hP, hD, hmore]; rfl) hok ?_ ?_
            · intro hq hF
              refine call_fn rfl rfl rfl (ok53 false (p / d) hq) ?_
              rw [hF]
              have w1 := neg_small hq
              cases hM : minus3 a b c with
              | true =>
                rw [hM] at hK
                simp -implicitDefEqProofs (maxSteps := 10000000) only [two0, wK, hK, Int.zero_sub, w1, rkA, rkB, stepA, valA, simprocAttr]
              | false =>
                rw [hM] at hK
                simp -implicitDefEqProofs (maxSteps := 10000000) only [two0, wK, hK, rkA, rkB, stepA, valA, simprocAttr]
            · intro hq hF
              refine call_fn rfl rfl rfl (ok53n false (p / d) (by omega) hq) ?_
              rw [hF]
              simp -implicitDefEqProofs (maxSteps := 10000000) only [rkA, rkB, stepA, valA, simprocAttr]
          · rcases bitN_cases (p / d) 0 with e0 | e0
            · have hmore : moreF 0 (p / d) (p % d) d (minus3 a b c) = false := by
                unfold moreF
                rw [if_neg (by omega), if_pos rfl]
                simp
                omega
              have e0' : ((bitN (p / d) 0 : Int) == 1) = false := by rw [e0]; rfl
              simp -implicitDefEqProofs (maxSteps := 10000000) only [decide_eq_false h3, b0, e0', rkA, rkB, stepA, valA, simprocAttr]
              refine md_fin (Q := p / d) false (by omega) (by unfold mdN; rw [hP, hD, hmore]; rfl) hok ?_ ?_
              · intro hq hF
                refine call_fn rfl rfl rfl (ok53 false (p / d) hq) ?_
                rw [hF]
                have w1 := neg_small hq
                cases hM : minus3 a b c with
                | true =>
                  rw [hM] at hK
                  simp -implicitDefEqProofs (maxSteps := 10000000) only [two0, wK, hK, Int.zero_sub, w1, rkA, rkB, stepA, valA, simprocAttr]
                | false =>
                  rw [hM] at hK
                  simp -implicitDefEqProofs (maxSteps := 10000000) only [two0, wK, hK, rkA, rkB, stepA, valA, simprocAttr]
              · intro hq hF
                refine call_fn rfl rfl rfl (ok53n false (p / d) (by omega) hq) ?_
                rw [hF]
                simp -implicitDefEqProofs (maxSteps := 10000000) only [rkA, rkB, stepA, valA, simprocAttr]
            · have hmore : moreF 0 (p / d) (p % d) d (minus3 a b c) = true := by
                unfold moreF
                rw [if_neg (by omega), if_pos rfl]
                simp
                omega
              have e0' : ((bitN (p / d) 0 : Int) == 1) = true := by rw [e0]; rfl
              simp -implicitDefEqProofs (maxSteps := 10000000) only [decide_eq_false h3, b0, e0', rkA, rkB, stepA, valA, simprocAttr]
              refine call_fn rfl rfl rfl (z1) ?_
              simp -implicitDefEqProofs (maxSteps := 10000000) only [rkA, rkB, stepA, valA, simprocAttr]
              refine call_fn rfl rfl rfl (add1) ?_
              simp -implicitDefEqProofs (maxSteps := 10000000) only [rkA, rkB, stepA, valA, simprocAttr]
              refine md_fin (Q := p / d + 1) false (by omega) (by unfold mdN; rw [hP, hD, hmore]; rfl) hok ?_ ?_
              · intro hq hF
                refine call_fn rfl rfl rfl (ok53 false (p / d + 1) hq) ?_
                rw [hF]
                have w1 := neg_small hq
                cases hM : minus3 a b c with
                | true =>
                  rw [hM] at hK
                  simp -implicitDefEqProofs (maxSteps := 10000000) only [two0, wK, hK, Int.zero_sub, w1, rkA, rkB, stepA, valA, simprocAttr]
                | false =>
                  rw [hM] at hK
                  simp -implicitDefEqProofs (maxSteps := 10000000) only [two0, wK, hK, rkA, rkB, stepA, valA, simprocAttr]
              · intro hq hF
                refine call_fn rfl rfl rfl (ok53n false (p / d + 1) (by omega) hq) ?_
                rw [hF]
                simp -implicitDefEqProofs (maxSteps := 10000000) only [rkA, rkB, stepA, valA, simprocAttr]
        · have hmore : moreF 0 (p / d) (p % d) d (minus3 a b c) = false := by
            unfold moreF
            rw [if_pos (by omega)]
          simp -implicitDefEqProofs (maxSteps := 10000000) only [decide_eq_false h1, decide_eq_false h2, rkA, rkB, stepA, valA, simprocAttr]
          refine md_fin (Q := p / d) false (by omega) (by unfold mdN; rw [hP, hD, hmore]; rfl) hok ?_ ?_
          · intro hq hF
            refine call_fn rfl rfl rfl (ok53 false (p / d) hq) ?_
            rw [hF]
            have w1 := neg_small hq
            cases hM : minus3 a b c with
            | true =>
              rw [hM] at hK
              simp -implicitDefEqProofs (maxSteps := 10000000) only [two0, wK, hK, Int.zero_sub, w1, rkA, rkB, stepA, valA, simprocAttr]
            | false =>
              rw [hM] at hK
              simp -implicitDefEqProofs (maxSteps := 10000000) only [two0, wK, hK, rkA, rkB, stepA, valA, simprocAttr]
          · intro hq hF
            refine call_fn rfl rfl rfl (ok53n false (p / d) (by omega) hq) ?_
            rw [hF]
            simp -implicitDefEqProofs (maxSteps := 10000000) only [rkA, rkB, stepA, valA, simprocAttr]
    · by_cases h2 : 0 < p % d
      · cases hM : minus3 a b c with
        | true =>
          have hmore : moreF 1 (p / d) (p % d) d (minus3 a b c) = true := by
            unfold moreF
            rw [if_neg (by omega), hM]
            rfl
          have hK1 := hK
          rw [hM] at hK1
          simp -implicitDefEqProofs (maxSteps := 10000000) only [decide_eq_true h2, two0, wK, hK1, rkA, rkB, stepA, valA, simprocAttr]
          refine call_fn rfl rfl rfl (z1) ?_
          simp -implicitDefEqProofs (maxSteps := 10000000) only [rkA, rkB, stepA, valA, simprocAttr]
          refine call_fn rfl rfl rfl (add1) ?_
          simp -implicitDefEqProofs (maxSteps := 10000000) only [rkA, rkB, stepA, valA, simprocAttr]
          refine md_fin (Q := p / d + 1) false (by omega) (by unfold mdN; rw [hP, hD, hmore]; rfl) hok ?_ ?_
          · intro hq hF
            refine call_fn rfl rfl rfl (ok53 false (p / d + 1) hq) ?_
            rw [hF]
            have w1 := neg_small hq
            cases hM : minus3 a b c with
            | true =>
              rw [hM] at hK
              simp -implicitDefEqProofs (maxSteps := 10000000) only [two0, wK, hK, Int.zero_sub, w1, rkA, rkB, stepA, valA, simprocAttr]
            | false =>
              rw [hM] at hK
              simp -implicitDefEqProofs (maxSteps := 10000000) only [two0, wK, hK, rkA, rkB, stepA, valA, simprocAttr]
          · intro hq hF
            refine call_fn rfl rfl rfl (ok53n false (p / d + 1) (by omega) hq) ?_
            rw [hF]
            simp -implicitDefEqProofs (maxSteps := 10000000) only [rkA, rkB, stepA, valA, simprocAttr]
        | false =>
          have hmore : moreF 1 (p / d) (p % d) d (minus3 a b c) = false := by
            unfold moreF
            rw [if_neg (by omega), hM]
            rfl
          have hK1 := hK
          rw [hM] at hK1
          simp -implicitDefEqProofs (maxSteps := 10000000) only [decide_eq_true h2, two0, wK, hK1, rkA, rkB, stepA, valA, simprocAttr]
          refine md_fin (Q := p / d) false (by omega) (by unfold mdN; rw [hP, hD, hmore]; rfl) hok ?_ ?_
          · intro hq hF
            refine call_fn rfl rfl rfl (ok53 false (p / d) hq) ?_
            rw [hF]
            have w1 := neg_small hq
            cases hM : minus3 a b c with
            | true =>
              rw [hM] at hK
              simp -implicitDefEqProofs (maxSteps := 10000000) only [two0, wK, hK, Int.zero_sub, w1, rkA, rkB, stepA, valA, simprocAttr]
            | false =>
              rw [hM] at hK
              simp -implicitDefEqProofs (maxSteps := 10000000) only [two0, wK, hK, rkA, rkB, stepA, valA, simprocAttr]
          · intro hq hF
            refine call_fn rfl rfl rfl (ok53n false (p / d) (by omega) hq) ?_
            rw [hF]
            simp -implicitDefEqProofs (maxSteps := 10000000) only [rkA, rkB, stepA, valA, simprocAttr]
      · have hmore : moreF 1 (p / d) (p % d) d (minus3 a b c) = false := by
          unfold moreF
          rw [if_pos (by omega)]
        simp -implicitDefEqProofs (maxSteps := 10000000) only [decide_eq_false h2, rkA, rkB, stepA, valA, simprocAttr]
        refine md_fin (Q := p / d) false (by omega) (by unfold mdN; rw [hP, hD, hmore]; rfl) hok ?_ ?_
        · intro hq hF
          refine call_fn rfl rfl rfl (ok53 false (p / d) hq) ?_
          rw [hF]
          have w1 := neg_small hq
          cases hM : minus3 a b c with
          | true =>
            rw [hM] at hK
            simp -implicitDefEqProofs (maxSteps := 10000000) only [two0, wK, hK, Int.zero_sub, w1, rkA, rkB, stepA, valA, simprocAttr]
          | false =>
            rw [hM] at hK
            simp -implicitDefEqProofs (maxSteps := 10000000) only [two0, wK, hK, rkA, rkB, stepA, valA, simprocAttr]
        · intro hq hF
          refine call_fn rfl rfl rfl (ok53n false (p / d) (by omega) hq) ?_
          rw [hF]
          simp -implicitDefEqProofs (maxSteps := 10000000) only [rkA, rkB, stepA, valA, simprocAttr]
    · by_cases h2 : 0 < p % d
      · cases hM : minus3 a b c with
        | true =>
          have hmore : moreF 2 (p / d) (p % d) d (minus3 a b c) = false := by
            unfold moreF
            rw [if_neg (by omega), hM]
            rfl
          have hK1 := hK0
          rw [hM] at hK1
          simp -implicitDefEqProofs (maxSteps := 10000000) only [decide_eq_true h2, two0, wK, hK1, rkA, rkB, stepA, valA, simprocAttr]
          refine md_fin (Q := p / d) false (by omega) (by unfold mdN; rw [hP, hD, hmore]; rfl) hok ?_ ?_
          · intro hq hF
            refine call_fn rfl rfl rfl (ok53 false (p / d) hq) ?_
            rw [hF]
            have w1 := neg_small hq
            cases hM : minus3 a b c with
            | true =>
              rw [hM] at hK
              simp -implicitDefEqProofs (maxSteps := 10000000) only [two0, wK, hK, Int.zero_sub, w1, rkA, rkB, stepA, valA, simprocAttr]
            | false =>
              rw [hM] at hK
              simp -implicitDefEqProofs (maxSteps := 10000000) only [two0, wK, hK, rkA, rkB, stepA, valA, simprocAttr]
          · intro hq hF
            refine call_fn rfl rfl rfl (ok53n false (p / d) (by omega) hq) ?_
            rw [hF]
            simp -implicitDefEqProofs (maxSteps := 10000000) only [rkA, rkB, stepA, valA, simprocAttr]
        | false =>
          have hmore : moreF 2 (p / d) (p % d) d (minus3 a b c) = true := by
            unfold moreF
            rw [if_neg (by omega), hM]
            rfl
          have hK1 := hK0
          rw [hM] at hK1
          simp -implicitDefEqProofs (maxSteps := 10000000) only [decide_eq_true h2, two0, wK, hK1, rkA, rkB, stepA, valA, simprocAttr]
          refine call_fn rfl rfl rfl (z1) ?_
          simp -implicitDefEqProofs (maxSteps := 10000000) only [rkA, rkB, stepA, valA, simprocAttr]
          refine call_fn rfl rfl rfl (add1) ?_
          simp -implicitDefEqProofs (maxSteps := 10000000) only [rkA, rkB, stepA, valA, simprocAttr]
          refine md_fin (Q := p / d + 1) false (by omega) (by unfold mdN; rw [hP, hD, hmore]; rfl) hok ?_ ?_
          · intro hq hF
            refine call_fn rfl rfl rfl (ok53 false (p / d + 1) hq) ?_
            rw [hF]
            have w1 := neg_small hq
            cases hM : minus3 a b c with
            | true =>
              rw [hM] at hK
              simp -implicitDefEqProofs (maxSteps := 10000000) only [two0, wK, hK, Int.zero_sub, w1, rkA, rkB, stepA, valA, simprocAttr]
            | false =>
              rw [hM] at hK
              simp -implicitDefEqProofs (maxSteps := 10000000) only [two0, wK, hK, rkA, rkB, stepA, valA, simprocAttr]
          · intro hq hF
            refine call_fn rfl rfl rfl (ok53n false (p / d + 1) (by omega) hq) ?_
            rw [hF]
            simp -implicitDefEqProofs (maxSteps := 10000000) only [rkA, rkB, stepA, valA, simprocAttr]
      · have hmore : moreF 2 (p / d) (p % d) d (minus3 a b c) = false := by
          unfold moreF
          rw [if_pos (by omega)]
        simp -implicitDefEqProofs (maxSteps := 10000000) only [decide_eq_false h2, rkA, rkB, stepA, valA, simprocAttr]
        refine md_fin (Q := p / d) false (by omega) (by unfold mdN; rw [hP, hD, hmore]; rfl) hok ?_ ?_
        · intro hq hF
          refine call_fn rfl rfl rfl (ok53 false (p / d) hq) ?_
          rw [hF]
          have w1 := neg_small hq
          cases hM : minus3 a b c with
          | true =>
            rw [hM] at hK
            simp -implicitDefEqProofs (maxSteps := 10000000) only [two0, wK, hK, Int.zero_sub, w1, rkA, rkB, stepA, valA, simprocAttr]
          | false =>
            rw [hM] at hK
            simp -implicitDefEqProofs (maxSteps := 10000000) only [two0, wK, hK, rkA, rkB, stepA, valA, simprocAttr]
        · intro hq hF
          refine call_fn rfl rfl rfl (ok53n false (p / d) (by omega) hq) ?_
          rw [hF]
          simp -implicitDefEqProofs (maxSteps := 10000000) only [rkA, rkB, stepA, valA, simprocAttr]
end Go.Proofs.Ytambpjbpdackfaa.A



set_option linter.unusedVariables false
set_option linter.unusedSimpArgs false
set_option maxRecDepth 100000
namespace Go.Proofs.Ytambpjbpdackfaa.A
open Go Go.RowKit Go.Shelf

/-! ### The reference's root -/
end Go.Proofs.Ytambpjbpdackfaa.A



set_option linter.unusedVariables false
set_option linter.unusedSimpArgs false
set_option maxRecDepth 100000
namespace Go.Proofs.Ytambpjbpdackfaa.A.E
open Go Go.RowKit Go.Shelf

/-! ### The reference's numbers in units -/
theorem ok44 (n : Int) : Ok Try.prog 44 [num n] (tru (rightX n)) := by
  refine ok_fn mixed Try.func44 (code := ?_) (h := h44) ?_ k44 ?_
  rotate_left
  · exact rfl
  unfold h44 initS
  simp -implicitDefEqProofs (maxSteps := 10000000) only [rkA, rkB, stepA, valA, simprocAttr, Try.ntmps44, Try.results44]
  unfold rightX
  by_cases h1 : n ≥ -1125899906842624
  · simp -implicitDefEqProofs (maxSteps := 10000000) only [h1, rkA, rkB, stepA, valA, simprocAttr]
  · simp -implicitDefEqProofs (maxSteps := 10000000) only [h1, rkA, rkB, stepA, valA, simprocAttr]
/-! ### One of the document's operations -/
end Go.Proofs.Ytambpjbpdackfaa.A.E



set_option linter.unusedVariables false
set_option linter.unusedSimpArgs false
set_option maxRecDepth 100000
namespace Go.Proofs.Ytambpjbpdackfaa.A.E
open Go Go.RowKit Go.Shelf

/-! ### The document's operations of enclosed numbers -/
theorem ok24 (x : Fr) : Ok Try.prog 24 [frV x] (tru x.fine) := by
  refine ok_fn mixed Try.func24 (code := ?_) (h := h24) ?_ k24 ?_
  rotate_left
  · exact rfl
  unfold h24 initS
  simp -implicitDefEqProofs (maxSteps := 10000000) only [rkA, rkB, stepA, valA, simprocAttr, Try.ntmps24, Try.results24]
  cases hb : x.bad with
  | true => simp -implicitDefEqProofs (maxSteps := 10000000) only [Fr.fine, hb, rkA, rkB, stepA, valA, simprocAttr]
  | false =>
    simp -implicitDefEqProofs (maxSteps := 10000000) only [rkA, rkB, stepA, valA, simprocAttr]
    refine call_fn rfl rfl rfl (ok44 x.lo) ?_
    cases h1 : rightX x.lo with
    | false => simp -implicitDefEqProofs (maxSteps := 10000000) only [Fr.fine, hb, h1, rkA, rkB, stepA, valA, simprocAttr]
    | true =>
      simp -implicitDefEqProofs (maxSteps := 10000000) only [rkA, rkB, stepA, valA, simprocAttr]
      refine call_fn rfl rfl rfl (ok44 x.hi) ?_
      cases h2 : rightX x.hi with
      | false => simp -implicitDefEqProofs (maxSteps := 10000000) only [Fr.fine, hb, h1, h2, rkA, rkB, stepA, valA, simprocAttr]
      | true =>
        by_cases h3 : x.lo ≤ x.v
        · simp -implicitDefEqProofs (maxSteps := 10000000) only [Fr.fine, hb, h1, h2, h3, rkA, rkB, stepA, valA, simprocAttr]
        · simp -implicitDefEqProofs (maxSteps := 10000000) only [Fr.fine, hb, h1, h2, h3, rkA, rkB, stepA, valA, simprocAttr]
section
variable (F : Int → Int → Int → Int × Bool) (ps : List (Int × Int))
variable {F ps}
end
end Go.Proofs.Ytambpjbpdackfaa.A.E



set_option linter.unusedVariables false
set_option linter.unusedSimpArgs false
set_option maxRecDepth 100000
namespace Go.Proofs.Ytambpjbpdackfaa.A.E
open Go Go.RowKit Go.Shelf

/-! ### The function CompareOdds -/
theorem ok6_out (b1 b2 b3 b4 : Bool) (q : Pr) (h : q.good) (lane k : Int) (hr : oddR lane k = false) : Ok Try.prog 6 [pairV b1 b2 b3 b4 q, num lane, num k] (tru false) := by
  refine ok_fn mixed Try.func6 (code := ?_) (h := h6) ?_ k6 ?_
  rotate_left
  · exact rfl
  unfold h6 initS
  simp -implicitDefEqProofs (maxSteps := 10000000) only [rkA, rkB, stepA, valA, simprocAttr, Try.ntmps6, Try.results6]
  refine call_fn rfl rfl rfl (ok18 b1 b2 b3 b4 q h) ?_
  simp -implicitDefEqProofs (maxSteps := 10000000) only [rkA, rkB, stepA, valA, simprocAttr]
  refine gB_dec ?_ ?_ <;> intro h1 <;> simp -implicitDefEqProofs (maxSteps := 10000000) only [h1, rkA, rkB, stepA, valA, simprocAttr]
  refine gB_dec ?_ ?_ <;> intro h2 <;> simp -implicitDefEqProofs (maxSteps := 10000000) only [h2, rkA, rkB, stepA, valA, simprocAttr]
  refine gB_dec ?_ ?_ <;> intro h3 <;> simp -implicitDefEqProofs (maxSteps := 10000000) only [h3, rkA, rkB, stepA, valA, simprocAttr]
  refine gB_dec ?_ ?_ <;> intro h4 <;> simp -implicitDefEqProofs (maxSteps := 10000000) only [h4, rkA, rkB, stepA, valA, simprocAttr]
  exfalso
  unfold oddR laneOk at hr
  rw [decide_eq_true (by omega), decide_eq_true (by omega), decide_eq_true (by omega), decide_eq_true (by omega)] at hr
  cases hr
theorem ok6 (b1 b2 b3 b4 : Bool) (q : Pr) (h : q.good) (lane k : Int) : Ok Try.prog 6 [pairV b1 b2 b3 b4 q, num lane, num k] (tru (q.odds lane k)) := by
  cases hr : oddR lane k with
  | false =>
    have := ok6_out b1 b2 b3 b4 q h lane k hr
    have e : q.odds lane k = false := by
      unfold Pr.odds
      rw [hr]
      rfl
    rwa [e]
  | true =>
    have hr' := hr
    unfold oddR at hr'
    simp only [Bool.and_eq_true, decide_eq_true_eq] at hr'
    have := ok6_in b1 b2 b3 b4 q h lane k hr'.1 hr'.2
    have e : q.odds lane k = oddsE (q.sp lane) (q.ap lane) k := by
      unfold Pr.odds
      rw [hr]
      rfl
    rwa [e]
theorem ok9 (x : Fr) : Ok Try.prog 9 [frV x] (frV x) := by
  refine ok_fn mixed Try.func9 (code := ?_) (h := h9) ?_ k9 ?_
  rotate_left
  · exact rfl
  unfold h9 initS
  simp -implicitDefEqProofs (maxSteps := 10000000) only [rkA, rkB, stepA, valA, simprocAttr, Try.ntmps9, Try.results9]
set_option maxHeartbeats 2000000 in
theorem ok26 (n b : Nat) (hn : n ≤ 4611686018427387903) (hb : b ≤ 4611686018427387903) : Ok Try.prog 26 [num n, num n, num b, num 16777216] (num (cmpF n n b 16777216)) := by
  have h1 := ok47 (n : Int) (by omega) (by omega)
  have h2 := ok47 (b : Int) (by omega) (by omega)
  have h3 := ok47 16777216 (by omega) (by omega)
  have h3' : Ok Try.prog 47 [num 16777216] (num ((16777216 : Nat) : Int)) := h3
  rw [Int.natAbs_natCast] at h1 h2
  have p1 := ok46 n n (by omega) (by omega)
  have p2 := ok46 b 16777216 (by omega) (by omega)
  have hnn : n * n ≤ 4611686018427387903 * 4611686018427387903 := Nat.mul_le_mul hn hn
  have hbb : b * 16777216 ≤ 4611686018427387903 * 16777216 := Nat.mul_le_mul hb (Nat.le_refl _)
  have q1 := ok50 false false (n * n) (b * 16777216) (by omega) (by omega)
  have q2 := ok50 false false (b * 16777216) (n * n) (by omega) (by omega)
  have c1 : ((n : Int) * (n : Int) : Int) = ((n * n : Nat) : Int) := by simp
  have c2 : ((b : Int) * 16777216 : Int) = ((b * 16777216 : Nat) : Int) := by simp
  rw [cmpF_is, c1, c2]
  generalize hP : n * n = P at *
  obtain ⟨Q, hQ⟩ : ∃ Q, b * 16777216 = Q := ⟨_, rfl⟩
  rw [hQ] at p2 q1 q2 hbb ⊢
  have e11 : ((1 : Int) != 1) = false := by decide
  have e10 : ((1 : Int) != 0) = true := by decide
  have e01 : ((0 : Int) != 1) = true := by decide
  have e00 : ((0 : Int) != 0) = false := by decide
  have l10 : ¬ (1 : Int) < 0 := by decide
  have l01 : (0 : Int) < 1 := by decide
  have w1 : IntKind.wrap .i64 (-1) = -1 := by decide
  have w0 := wrapped (x := (0 : Int) - 0) (by omega) (by omega)
  have g16 : (16777216 : Int) > 0 := by decide
  have n16 : ¬ (16777216 : Int) < 0 := by decide
  have z16 : ((16777216 : Int) != 0) = true := by decide
  have nneg : ¬ (n : Int) < 0 := by omega
  have bneg : ¬ (b : Int) < 0 := by omega
  refine ok_fn mixed Try.func26 (code := ?_) (h := h26) ?_ k26 ?_
  rotate_left
  · exact rfl
  unfold h26 initS
  simp -implicitDefEqProofs (maxSteps := 10000000) only [rkA, rkB, stepA, valA, simprocAttr, Try.ntmps26, Try.results26]
  refine call_fn rfl rfl rfl (h1) ?_
  simp -implicitDefEqProofs (maxSteps := 10000000) only [rkA, rkB, stepA, valA, simprocAttr]
  refine call_fn rfl rfl rfl (h1) ?_
  simp -implicitDefEqProofs (maxSteps := 10000000) only [rkA, rkB, stepA, valA, simprocAttr]
  refine call_fn rfl rfl rfl (p1) ?_
  simp -implicitDefEqProofs (maxSteps := 10000000) only [rkA, rkB, stepA, valA, simprocAttr]
  refine call_fn rfl rfl rfl (h2) ?_
  simp -implicitDefEqProofs (maxSteps := 10000000) only [rkA, rkB, stepA, valA, simprocAttr]
  refine call_fn rfl rfl rfl (h3') ?_
  simp -implicitDefEqProofs (maxSteps := 10000000) only [rkA, rkB, stepA, valA, simprocAttr]
  refine call_fn rfl rfl rfl (p2) ?_
  by_cases n0 : n = 0
  · have P0 : P = 0 := by rw [← hP, n0]
    have a1 : ¬ (n : Int) > 0 := by omega
    have a2 : ((n : Int) != 0) = false := by simp [n0]
    by_cases b0 : b = 0
    · have Q0 : Q = 0 := by rw [← hQ, b0]
      have a3 : ¬ (b : Int) > 0 := by omega
      have a4 : ((b : Int) != 0) = false := by simp [b0]
      simp -implicitDefEqProofs (maxSteps := 10000000) only [a1, a2, a3, a4, nneg, bneg, g16, n16, z16, e00, rkA, rkB, stepA, valA, simprocAttr]
      refine call_fn rfl rfl rfl (q1) ?_
      have d1 : ¬ P < Q := by omega
      have d2 : ¬ Q < P := by omega
      simp -implicitDefEqProofs (maxSteps := 10000000) only [d1, rkA, rkB, stepA, valA, simprocAttr]
      refine call_fn rfl rfl rfl (q2) ?_
      simp -implicitDefEqProofs (maxSteps := 10000000) only [d2, rkA, rkB, stepA, valA, simprocAttr]
      rw [if_neg (by omega), if_neg (by omega)]
    · have Q0 : 0 < Q := by rw [← hQ]; omega
      have a3 : (b : Int) > 0 := by omega
      simp -implicitDefEqProofs (maxSteps := 10000000) only [a1, a2, a3, nneg, bneg, g16, n16, z16, e01, l01, rkA, rkB, stepA, valA, simprocAttr]
      rw [if_pos (by omega)]
  · have P0 : 0 < P := by rw [← hP]; exact Nat.mul_pos (by omega) (by omega)
    have a1 : (n : Int) > 0 := by omega
    by_cases b0 : b = 0
    · have Q0 : Q = 0 := by rw [← hQ, b0]
      have a3 : ¬ (b : Int) > 0 := by omega
      have a4 : ((b : Int) != 0) = false := by simp [b0]
      simp -implicitDefEqProofs (maxSteps := 10000000) only [a1, a3, a4, nneg, bneg, g16, n16, z16, e10, l10, rkA, rkB, stepA, valA, simprocAttr]
      rw [if_neg (by omega), if_pos (by omega)]
    · have a3 : (b : Int) > 0 := by omega
      simp -implicitDefEqProofs (maxSteps := 10000000) only [a1, a3, nneg, bneg, g16, n16, z16, e11, rkA, rkB, stepA, valA, simprocAttr]
      refine call_fn rfl rfl rfl (q1) ?_
      by_cases d1 : P < Q
      · simp -implicitDefEqProofs (maxSteps := 10000000) only [d1, w1, rkA, rkB, stepA, valA, simprocAttr]
        rw [if_pos (by omega)]
      · simp -implicitDefEqProofs (maxSteps := 10000000) only [d1, rkA, rkB, stepA, valA, simprocAttr]
        refine call_fn rfl rfl rfl (q2) ?_
        by_cases d2 : Q < P
        · simp -implicitDefEqProofs (maxSteps := 10000000) only [d2, rkA, rkB, stepA, valA, simprocAttr]
          rw [if_neg (by omega), if_pos (by omega)]
        · simp -implicitDefEqProofs (maxSteps := 10000000) only [d2, rkA, rkB, stepA, valA, simprocAttr]
          rw [if_neg (by omega), if_neg (by omega)]
theorem md_pos {h k : Int} (hh : 0 ≤ h) (hk : 0 ≤ k) (hm : (mdF h k 1 1).2 = true) : ∃ b : Nat, (mdF h k 1 1).1 = (b : Int) ∧ b ≤ 4611686018427387903 := by
  rw [md_down hh hk] at hm ⊢
  by_cases hx : h ≤ 4611686018427387903 ∧ k ≤ 4611686018427387903 ∧ h * k ≤ 4611686018427387903
  · rw [if_pos hx]
    have h0 : 0 ≤ h * k := Int.mul_nonneg hh hk
    exact ⟨(h * k).toNat, by omega, by omega⟩
  · rw [if_neg hx] at hm
    cases hm
theorem cmp_sq {x y b : Int} (h : x = y ∨ x = -y) : cmpF x x b 16777216 = cmpF y y b 16777216 := by
  rw [cmpF_is, cmpF_is]
  have e : x * x = y * y := by
    rcases h with rfl | rfl
    · rfl
    · exact Int.neg_mul_neg y y
  rw [e]
set_option maxHeartbeats 2000000 in
theorem ok8 (s a : Fr) (k : Int) (hk : 0 ≤ k ∧ k ≤ 1048576) : Ok Try.prog 8 [frV s, frV a, num k] (tru (oddsE s a k)) := by
  have hkk : k * k ≤ 1048576 * 1048576 := Int.mul_le_mul hk.2 hk.2 hk.1 (by omega)
  have hkk0 : 0 ≤ k * k := Int.mul_nonneg hk.1 hk.1
  have hw := wrapped (x := k * k) (by omega) (by omega)
  refine ok_fn mixed Try.func8 (code := ?_) (h := h8) ?_ k8 ?_
  rotate_left
  · exact rfl
  unfold h8 initS
  simp -implicitDefEqProofs (maxSteps := 10000000) only [rkA, rkB, stepA, valA, simprocAttr, Try.ntmps8, Try.results8]
  refine call_fn rfl rfl rfl (ok24 s) ?_
  cases hs : s.fine with
  | false =>
    simp -implicitDefEqProofs (maxSteps := 10000000) only [rkA, rkB, stepA, valA, simprocAttr]
    simp -implicitDefEqProofs (maxSteps := 10000000) only [oddsE, hs, rkA, rkB, stepA, valA, simprocAttr]
  | true =>
    simp -implicitDefEqProofs (maxSteps := 10000000) only [rkA, rkB, stepA, valA, simprocAttr]
    refine call_fn rfl rfl rfl (ok24 a) ?_
    cases ha : a.fine with
    | false =>
      simp -implicitDefEqProofs (maxSteps := 10000000) only [rkA, rkB, stepA, valA, simprocAttr]
      simp -implicitDefEqProofs (maxSteps := 10000000) only [oddsE, hs, ha, rkA, rkB, stepA, valA, simprocAttr]
    | true =>
      have f1 := fine_ends hs
      have f2 := fine_ends ha
      simp -implicitDefEqProofs (maxSteps := 10000000) only [rkA, rkB, stepA, valA, simprocAttr]
      refine gB_dec ?_ ?_ <;> intro h3 <;> simp -implicitDefEqProofs (maxSteps := 10000000) only [h3, rkA, rkB, stepA, valA, simprocAttr]
      · have h3' : ¬ 0 < a.lo := by omega
        simp -implicitDefEqProofs (maxSteps := 10000000) only [oddsE, hs, ha, h3', rkA, rkB, stepA, valA, simprocAttr]
      · have h3' : 0 < a.lo := by omega
        have hhi : 0 ≤ a.hi := by omega
        refine gB_dec ?_ ?_ <;> intro h4 <;> simp -implicitDefEqProofs (maxSteps := 10000000) only [h4, rkA, rkB, stepA, valA, simprocAttr]
        · have h5 : ¬ s.hi < 0 := by omega
          have hl : leastE s = s.lo := by rw [leastE, if_pos h4]
          obtain ⟨z, hz⟩ := Int.eq_ofNat_of_zero_le (a := s.lo) (by omega)
          simp -implicitDefEqProofs (maxSteps := 10000000) only [h5, hw, rkA, rkB, stepA, valA, simprocAttr]
          rw [hz]
          refine call_fn rfl rfl rfl (ok25 a.hi (k * k) 1 1) ?_
          cases hm : (mdF a.hi (k * k) 1 1).2 with
          | false =>
            simp -implicitDefEqProofs (maxSteps := 10000000) only [rkA, rkB, stepA, valA, simprocAttr]
            simp -implicitDefEqProofs (maxSteps := 10000000) only [oddsE, hs, ha, h3', hm, rkA, rkB, stepA, valA, simprocAttr]
          | true =>
            obtain ⟨b, hb, hb'⟩ := md_pos hhi hkk0 hm
            simp -implicitDefEqProofs (maxSteps := 10000000) only [oddsE, hs, ha, h3', hm, rkA, rkB, stepA, valA, simprocAttr]
            rw [hb, ← cmp_sq (x := (z : Int)) (y := leastE s) (by omega)]
            refine call_fn rfl rfl rfl (ok26 z b (by omega) hb') ?_
            simp -implicitDefEqProofs (maxSteps := 10000000) only [rkA, rkB, stepA, valA, simprocAttr]
        · refine gB_dec ?_ ?_ <;> intro h5 <;> simp -implicitDefEqProofs (maxSteps := 10000000) only [h5, rkA, rkB, stepA, valA, simprocAttr]
          · have hl : leastE s = s.hi := by rw [leastE, if_neg h4, if_pos h5]
            have hw2 := wrapped (x := 0 - s.hi) (by omega) (by omega)
            obtain ⟨z, hz⟩ := Int.eq_ofNat_of_zero_le (a := 0 - s.hi) (by omega)
            simp -implicitDefEqProofs (maxSteps := 10000000) only [hw2, hw, rkA, rkB, stepA, valA, simprocAttr]
            rw [hz]
            refine call_fn rfl rfl rfl (ok25 a.hi (k * k) 1 1) ?_
            cases hm : (mdF a.hi (k * k) 1 1).2 with
            | false =>
              simp -implicitDefEqProofs (maxSteps := 10000000) only [rkA, rkB, stepA, valA, simprocAttr]
              simp -implicitDefEqProofs (maxSteps := 10000000) only [oddsE, hs, ha, h3', hm, rkA, rkB, stepA, valA, simprocAttr]
            | true =>
              obtain ⟨b, hb, hb'⟩ := md_pos hhi hkk0 hm
              simp -implicitDefEqProofs (maxSteps := 10000000) only [oddsE, hs, ha, h3', hm, rkA, rkB, stepA, valA, simprocAttr]
              rw [hb, ← cmp_sq (x := (z : Int)) (y := leastE s) (by omega)]
              refine call_fn rfl rfl rfl (ok26 z b (by omega) hb') ?_
              simp -implicitDefEqProofs (maxSteps := 10000000) only [rkA, rkB, stepA, valA, simprocAttr]
          · have hl : leastE s = 0 := by rw [leastE, if_neg h4, if_neg h5]
            simp -implicitDefEqProofs (maxSteps := 10000000) only [hw, rkA, rkB, stepA, valA, simprocAttr]
            refine call_fn rfl rfl rfl (ok25 a.hi (k * k) 1 1) ?_
            cases hm : (mdF a.hi (k * k) 1 1).2 with
            | false =>
              simp -implicitDefEqProofs (maxSteps := 10000000) only [rkA, rkB, stepA, valA, simprocAttr]
              simp -implicitDefEqProofs (maxSteps := 10000000) only [oddsE, hs, ha, h3', hm, rkA, rkB, stepA, valA, simprocAttr]
            | true =>
              obtain ⟨b, hb, hb'⟩ := md_pos hhi hkk0 hm
              simp -implicitDefEqProofs (maxSteps := 10000000) only [oddsE, hs, ha, h3', hm, rkA, rkB, stepA, valA, simprocAttr]
              rw [hb, ← cmp_sq (x := ((0 : Nat) : Int)) (y := leastE s) (by omega)]
              simp -implicitDefEqProofs (maxSteps := 10000000) only [rkA, rkB, stepA, valA, simprocAttr]
              refine call_fn rfl rfl rfl (ok26 0 b (by omega) hb') ?_
              simp -implicitDefEqProofs (maxSteps := 10000000) only [rkA, rkB, stepA, valA, simprocAttr]
end Go.Proofs.Ytambpjbpdackfaa.A.E



set_option linter.unusedVariables false
set_option linter.unusedSimpArgs false
set_option maxRecDepth 100000
namespace Go.Proofs.Ytambpjbpdackfaa.A.E
open Go Go.RowKit Go.Shelf

/-! ### CompareOdds, joined -/
def baseB : Pr := beginP 1 [0, 16777216]
def odB (e0 a0 e1 a1 : Fr) : Pr := { baseB with e0 := e0, a0 := a0, e1 := e1, a1 := a1 }
theorem base_good : baseB.good := by
  have s1 : soundZ 1 0 1 [0, 16777216] = 0 := by decide +kernel
  obtain ⟨m, hm, hs⟩ := soundF s1
  have : m = 1 := by omega
  subst this
  exact begin_good hs
theorem od_good (e0 a0 e1 a1 : Fr) : (odB e0 a0 e1 a1).good where
  n1 := base_good.n1
  n4 := base_good.n4
  lx := base_good.lx
  lp := base_good.lp
  ly := base_good.ly
  ls := base_good.ls
theorem odds_none (s : Fr) (a : Fr) (h : a.lo = 0) (k : Int) : oddsE s a k = false := by
  unfold oddsE
  have : decide (0 < a.lo) = false := decide_eq_false (by omega)
  rw [this]
  simp
theorem odds_lane {q : Pr} {lane k : Int} (h1 : laneOk lane = true) (h2 : 0 ≤ k ∧ k ≤ 1048576) : q.odds lane k = oddsE (q.sp lane) (q.ap lane) k := by
  unfold Pr.odds oddR
  rw [h1, decide_eq_true h2.1, decide_eq_true h2.2]
  rfl
theorem odds_out {q : Pr} {lane k : Int} (h : lane < 0 ∨ lane > 1 ∨ k < 0 ∨ k > 1048576) : q.odds lane k = false := by
  unfold Pr.odds oddR laneOk
  by_cases h1 : 0 ≤ lane
  · by_cases h2 : lane ≤ 1
    · by_cases h3 : 0 ≤ k
      · rw [decide_eq_false (show ¬ k ≤ 1048576 by omega)]
        simp
      · rw [decide_eq_false h3]
        simp
    · rw [decide_eq_false h2]
      simp
  · rw [decide_eq_false h1]
    simp
theorem od_out1 (s a : Fr) (k : Int) : (odB fz fz s a).odds 0 k = false := by
  unfold Pr.odds
  rw [show (odB fz fz s a).ap 0 = fz from rfl, odds_none _ fz rfl, Bool.and_false]
theorem od_out0 (s a : Fr) (k : Int) : (odB s a fz fz).odds 1 k = false := by
  unfold Pr.odds
  rw [show (odB s a fz fz).ap 1 = fz from rfl, odds_none _ fz rfl, Bool.and_false]
set_option maxHeartbeats 2000000 in
theorem ok3_1 (s a : Fr) (k : Int) : Ok Try.prog 3 [frV s, frV a, num 1, num k] (tru true) := by
  have s1 : soundZ 1 0 1 [0, 16777216] = 0 := by decide +kernel
  have hb := ok5 true 0 1 [0, 16777216] s1
  change Ok Try.prog 5 [frmV true 1 0 1 [0, 16777216]] (.tup [pairV false false false false baseB, tru true]) at hb
  have hp := ok4 0
  have e0 : point 0 = fz := by decide +kernel
  rw [e0] at hp
  have w1 : IntKind.wrap .i64 (1 - 1) = 0 := by decide
  have w0 : IntKind.wrap .i64 (1 - 0) = 1 := by decide
  have g1 := od_good fz fz s a
  have k1 := ok6 false false false false (odB fz fz s a) g1 1 k
  have k2 := ok6 false false false false (odB fz fz s a) g1 0 k
  rw [od_out1] at k2
  have hout : (k < 0 ∨ k > 1048576) → (odB fz fz s a).odds 1 k = false := fun h => odds_out (by omega)
  have hin : (0 ≤ k ∧ k ≤ 1048576) → (odB fz fz s a).odds 1 k = oddsE s a k := fun h => odds_lane (by decide) h
  generalize (odB fz fz s a).odds 1 k = r at *
  unfold odB at k1 k2
  dsimp only at k1 k2
  generalize baseB = B at *
  refine ok_fn mixed Try.func3 (code := ?_) (h := h3) ?_ k3 ?_
  rotate_left
  · exact rfl
  unfold h3 initS
  simp -implicitDefEqProofs (maxSteps := 10000000) only [rkA, rkB, stepA, valA, simprocAttr, Try.ntmps3, Try.results3]
  refine call_fn rfl rfl rfl (hp) ?_
  simp -implicitDefEqProofs (maxSteps := 10000000) only [rkA, rkB, stepA, valA, simprocAttr]
  refine call_fn rfl rfl rfl (hb) ?_
  simp -implicitDefEqProofs (maxSteps := 10000000) only [rkA, rkB, stepA, valA, simprocAttr]
  refine call_fn rfl rfl rfl (k1) ?_
  simp -implicitDefEqProofs (maxSteps := 10000000) only [rkA, rkB, stepA, valA, simprocAttr]
  refine gB_dec ?_ ?_ <;> intro o3 <;> simp -implicitDefEqProofs (maxSteps := 10000000) only [o3, rkA, rkB, stepA, valA, simprocAttr]
  · rw [hout (by omega)]
    simp -implicitDefEqProofs (maxSteps := 10000000) only [rkA, rkB, stepA, valA, simprocAttr]
    refine call_fn rfl rfl rfl (ok7) ?_
    simp -implicitDefEqProofs (maxSteps := 10000000) only [rkA, rkB, stepA, valA, simprocAttr]
  refine gB_dec ?_ ?_ <;> intro o4 <;> simp -implicitDefEqProofs (maxSteps := 10000000) only [o4, rkA, rkB, stepA, valA, simprocAttr]
  · rw [hout (by omega)]
    simp -implicitDefEqProofs (maxSteps := 10000000) only [rkA, rkB, stepA, valA, simprocAttr]
    refine call_fn rfl rfl rfl (ok7) ?_
    simp -implicitDefEqProofs (maxSteps := 10000000) only [rkA, rkB, stepA, valA, simprocAttr]
  rw [hin (by omega)]
  refine call_fn rfl rfl rfl (ok9 s) ?_
  simp -implicitDefEqProofs (maxSteps := 10000000) only [rkA, rkB, stepA, valA, simprocAttr]
  refine call_fn rfl rfl rfl (ok9 a) ?_
  simp -implicitDefEqProofs (maxSteps := 10000000) only [rkA, rkB, stepA, valA, simprocAttr]
  refine call_fn rfl rfl rfl (ok8 s a k (by omega)) ?_
  simp -implicitDefEqProofs (maxSteps := 10000000) only [beq_self_eq_true, w0, w1, rkA, rkB, stepA, valA, simprocAttr]
  refine call_fn rfl rfl rfl (k2) ?_
  simp -implicitDefEqProofs (maxSteps := 10000000) only [rkA, rkB, stepA, valA, simprocAttr]
  refine call_fn rfl rfl rfl (ok7) ?_
  simp -implicitDefEqProofs (maxSteps := 10000000) only [rkA, rkB, stepA, valA, simprocAttr]
set_option maxHeartbeats 2000000 in
theorem ok3_0 (s a : Fr) (k : Int) : Ok Try.prog 3 [frV s, frV a, num 0, num k] (tru true) := by
  have s1 : soundZ 1 0 1 [0, 16777216] = 0 := by decide +kernel
  have hb := ok5 true 0 1 [0, 16777216] s1
  change Ok Try.prog 5 [frmV true 1 0 1 [0, 16777216]] (.tup [pairV false false false false baseB, tru true]) at hb
  have hp := ok4 0
  have e0 : point 0 = fz := by decide +kernel
  rw [e0] at hp
  have w1 : IntKind.wrap .i64 (1 - 1) = 0 := by decide
  have w0 : IntKind.wrap .i64 (1 - 0) = 1 := by decide
  have g1 := od_good s a fz fz
  have k1 := ok6 false false false false (odB s a fz fz) g1 0 k
  have k2 := ok6 false false false false (odB s a fz fz) g1 1 k
  rw [od_out0] at k2
  have hout : (k < 0 ∨ k > 1048576) → (odB s a fz fz).odds 0 k = false := fun h => odds_out (by omega)
  have hin : (0 ≤ k ∧ k ≤ 1048576) → (odB s a fz fz).odds 0 k = oddsE s a k := fun h => odds_lane (by decide) h
  generalize (odB s a fz fz).odds 0 k = r at *
  unfold odB at k1 k2
  dsimp only at k1 k2
  generalize baseB = B at *
  refine ok_fn mixed Try.func3 (code := ?_) (h := h3) ?_ k3 ?_
  rotate_left
  · exact rfl
  unfold h3 initS
  simp -implicitDefEqProofs (maxSteps := 10000000) only [rkA, rkB, stepA, valA, simprocAttr, Try.ntmps3, Try.results3]
  refine call_fn rfl rfl rfl (hp) ?_
  simp -implicitDefEqProofs (maxSteps := 10000000) only [rkA, rkB, stepA, valA, simprocAttr]
  refine call_fn rfl rfl rfl (hb) ?_
  simp -implicitDefEqProofs (maxSteps := 10000000) only [rkA, rkB, stepA, valA, simprocAttr]
  refine call_fn rfl rfl rfl (k1) ?_
  simp -implicitDefEqProofs (maxSteps := 10000000) only [rkA, rkB, stepA, valA, simprocAttr]
  refine gB_dec ?_ ?_ <;> intro o3 <;> simp -implicitDefEqProofs (maxSteps := 10000000) only [o3, rkA, rkB, stepA, valA, simprocAttr]
  · rw [hout (by omega)]
    simp -implicitDefEqProofs (maxSteps := 10000000) only [rkA, rkB, stepA, valA, simprocAttr]
    refine call_fn rfl rfl rfl (ok7) ?_
    simp -implicitDefEqProofs (maxSteps := 10000000) only [rkA, rkB, stepA, valA, simprocAttr]
  refine gB_dec ?_ ?_ <;> intro o4 <;> simp -implicitDefEqProofs (maxSteps := 10000000) only [o4, rkA, rkB, stepA, valA, simprocAttr]
  · rw [hout (by omega)]
    simp -implicitDefEqProofs (maxSteps := 10000000) only [rkA, rkB, stepA, valA, simprocAttr]
    refine call_fn rfl rfl rfl (ok7) ?_
    simp -implicitDefEqProofs (maxSteps := 10000000) only [rkA, rkB, stepA, valA, simprocAttr]
  rw [hin (by omega)]
  refine call_fn rfl rfl rfl (ok9 s) ?_
  simp -implicitDefEqProofs (maxSteps := 10000000) only [rkA, rkB, stepA, valA, simprocAttr]
  refine call_fn rfl rfl rfl (ok9 a) ?_
  simp -implicitDefEqProofs (maxSteps := 10000000) only [rkA, rkB, stepA, valA, simprocAttr]
  refine call_fn rfl rfl rfl (ok8 s a k (by omega)) ?_
  simp -implicitDefEqProofs (maxSteps := 10000000) only [beq_self_eq_true, w0, w1, rkA, rkB, stepA, valA, simprocAttr]
  refine call_fn rfl rfl rfl (k2) ?_
  simp -implicitDefEqProofs (maxSteps := 10000000) only [rkA, rkB, stepA, valA, simprocAttr]
  refine call_fn rfl rfl rfl (ok7) ?_
  simp -implicitDefEqProofs (maxSteps := 10000000) only [rkA, rkB, stepA, valA, simprocAttr]
set_option maxHeartbeats 2000000 in
theorem ok3_out (s a : Fr) (lane k : Int) (hl : lane ≠ 0 ∧ lane ≠ 1) : Ok Try.prog 3 [frV s, frV a, num lane, num k] (tru true) := by
  have s1 : soundZ 1 0 1 [0, 16777216] = 0 := by decide +kernel
  have hb := ok5 true 0 1 [0, 16777216] s1
  change Ok Try.prog 5 [frmV true 1 0 1 [0, 16777216]] (.tup [pairV false false false false baseB, tru true]) at hb
  have hp := ok4 0
  have e0 : point 0 = fz := by decide +kernel
  rw [e0] at hp
  have w1 : IntKind.wrap .i64 (1 - 1) = 0 := by decide
  have w0 : IntKind.wrap .i64 (1 - 0) = 1 := by decide
  have g1 := od_good s a fz fz
  have k1 := ok6 false false false false (odB s a fz fz) g1 lane k
  rw [odds_out (q := odB s a fz fz) (lane := lane) (k := k) (by omega)] at k1
  unfold odB at k1
  dsimp only at k1
  generalize baseB = B at *
  have hl1 : (lane == 1) = false := by simp [hl.2]
  refine ok_fn mixed Try.func3 (code := ?_) (h := h3) ?_ k3 ?_
  rotate_left
  · exact rfl
  unfold h3 initS
  simp -implicitDefEqProofs (maxSteps := 10000000) only [rkA, rkB, stepA, valA, simprocAttr, Try.ntmps3, Try.results3]
  refine call_fn rfl rfl rfl (hp) ?_
  simp -implicitDefEqProofs (maxSteps := 10000000) only [rkA, rkB, stepA, valA, simprocAttr]
  refine call_fn rfl rfl rfl (hb) ?_
  simp -implicitDefEqProofs (maxSteps := 10000000) only [hl1, rkA, rkB, stepA, valA, simprocAttr]
  refine call_fn rfl rfl rfl (k1) ?_
  simp -implicitDefEqProofs (maxSteps := 10000000) only [rkA, rkB, stepA, valA, simprocAttr]
  refine gB_dec ?_ ?_ <;> intro o1 <;> simp -implicitDefEqProofs (maxSteps := 10000000) only [o1, rkA, rkB, stepA, valA, simprocAttr]
  · refine call_fn rfl rfl rfl (ok7) ?_
    simp -implicitDefEqProofs (maxSteps := 10000000) only [rkA, rkB, stepA, valA, simprocAttr]
  refine gB_dec ?_ ?_ <;> intro o2 <;> simp -implicitDefEqProofs (maxSteps := 10000000) only [o2, rkA, rkB, stepA, valA, simprocAttr]
  · refine call_fn rfl rfl rfl (ok7) ?_
    simp -implicitDefEqProofs (maxSteps := 10000000) only [rkA, rkB, stepA, valA, simprocAttr]
  exfalso
  omega
theorem ok3 (s a : Fr) (lane k : Int) : Ok Try.prog 3 [frV s, frV a, num lane, num k] (tru true) := by
  by_cases h1 : lane = 1
  · subst h1
    exact ok3_1 s a k
  by_cases h0 : lane = 0
  · subst h0
    exact ok3_0 s a k
  exact ok3_out s a lane k ⟨h0, h1⟩
abbrev numSt : List CSh := [.int .i64, .int .i64, .int .i64, .bool]
theorem num_of {xs : List PV} (h : FitL numSt xs) : ∃ x : Fr, PV.agg xs = frV x := by
  simp only [numSt, FitL, FitC] at h
  obtain ⟨y1, ys, rfl, ⟨n1, rfl, _⟩, y2, ys, rfl, ⟨n2, rfl, _⟩, y3, ys, rfl, ⟨n3, rfl, _⟩, y4, ys, rfl, ⟨b, rfl⟩, rfl⟩ := h
  exact ⟨⟨n1, n2, n3, b⟩, rfl⟩
theorem CompareOdds_ok {xs ys : List PV} (hx : FitL numSt xs) (hy : FitL numSt ys) (lane k : Int) : Ok Try.prog 3 [.agg xs, .agg ys, num lane, num k] (tru true) := by
  obtain ⟨s, hs⟩ := num_of hx
  obtain ⟨a, ha⟩ := num_of hy
  rw [hs, ha]
  exact ok3 s a lane k
end Go.Proofs.Ytambpjbpdackfaa.A.E


