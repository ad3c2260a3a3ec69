/- Slicing, closures, structs put together; 'valA' and its law. -/
import Derived.Test.YtnfomjnmigkpmaaA7
set_option linter.unusedVariables false
set_option linter.unusedSimpArgs false
namespace Go.Proofs.Ytnfomjnmigkpmaa.A
open Go Go.RowKit

section
variable {P : Program} {w0 w : World} {I0 I : Imm} {β : Nat → Nat} {κ : Nat → Nat × Nat × Nat} {s : St} {sav : List (Array Value)} {a : Act}

/-- A bound of a slice expression: none is written; it is a number. -/
def bndA : Option (Option PV) → Option (Option Nat)
  | none => some none
  | some (some (.s (.int _ k))) => if 0 ≤ k then some (some k.toNat) else none
  | some _ => none

/-- Is it known that a slice ends where its block does? -/
def exA (mx : Option Nat) (ex : Bool) (h len : Nat) : Bool := match mx with | some m => decide (m = h) | none => ex && decide (h = len)

def sliceA (n : Nat) (els : List PV) (ex : Bool) (lo hi mx : Option Nat) : Option PV :=
  let h := hi.getD els.length
  let l := lo.getD 0
  if l ≤ h ∧ h ≤ els.length ∧ (∀ m ∈ mx, h ≤ m ∧ m ≤ els.length ∧ hi.isSome) ∧ els.all (fun e => e.cells.length == n) then
    some (.sl (exA mx ex h els.length) ((els.take h).drop l))
  else none

theorem run_sliceBound {x : Value} {k : IntKind} {i : Int} {y : Nat} {code : BoundsCode} (hx : x = .int k i) (h0 : 0 ≤ i) (h : i.toNat ≤ y) : (Instr.sliceBound x y code).run P w = .ok i.toNat w := by
  subst hx
  have : 0 ≤ i ∧ i ≤ (y : Int) := ⟨h0, by omega⟩
  simp [Instr.sliceBound, asIntOf, this]

/-- A bound as the model has it. -/
inductive Bnd : Option Nat → Option Value → Prop
  | none : Bnd none none
  | some {k : IntKind} {i : Int} : 0 ≤ i → Bnd (some i.toNat) (some (.int k i))

theorem bnd_of {x : Option Operand} {r : Option Nat} {f : Operand → Option PV} (h : bndA (x.map f) = some r) (hf : ∀ y p, f y = some p → C I p (a.eval y)) : Bnd r (x.map a.eval) := by
  cases x with
  | none => simp only [Option.map_none, bndA, Option.some.injEq] at h; subst h; exact .none
  | some y =>
    simp only [Option.map_some] at h ⊢
    cases hy : f y with
    | none => rw [hy] at h; simp [bndA] at h
    | some p =>
      rw [hy] at h
      cases p with
      | s v =>
        cases v with
        | int k i =>
          simp only [bndA] at h
          split at h
          · cases h
            have := hf y _ hy
            generalize a.eval y = u at this
            cases this
            exact .some ‹_›
          · cases h
        | _ => simp [bndA] at h
      | _ => simp [bndA] at h

theorem slice_sound {t e : TypeId} {n : Nat} {els : List PV} {ex : Bool} {lo hi mx : Option Nat} {vlo vhi vmx : Option Value} {u : Value} {r : PV} (ht : tElem P t = some e) (hn : tSize P e = some n) (hp : C I (.sl ex els) u)
    (blo : Bnd lo vlo) (bhi : Bnd hi vhi) (bmx : Bnd mx vmx) (h : sliceA n els ex lo hi mx = some r) : ∃ v, (Instr.sliceAt t u vlo vhi vmx).run P w = .ok v w ∧ C I r v := by
  have hu := run_underlying_elem ht
  unfold sliceA at h
  simp only at h
  split at h
  · rename_i hc
    obtain ⟨h1, h2, h3, h4⟩ := hc
    cases h
    obtain ⟨base, cap, hu', hcap, hnil⟩ : ∃ base cap, u = .slice base els.length cap ∧ els.length ≤ cap ∧ (base = none → els = [] ∧ cap = 0) := by
      cases hp with
      | sl0 => exact ⟨none, 0, rfl, by simp, fun _ => ⟨rfl, rfl⟩⟩
      | sle => exact ⟨some _, 0, rfl, by simp, fun h => by cases h⟩
      | sl _ _ hm _ _ hcap _ => subst hm; exact ⟨_, _, rfl, hcap, fun h => by cases h⟩
    have hb : ∃ m, (Instr.sliceBounds true els.length cap vlo vhi vmx).run P w = .ok (lo.getD 0, hi.getD els.length, m) w ∧ hi.getD els.length ≤ m ∧ m ≤ cap ∧ (∀ k, mx = some k → m = k) ∧ (mx = none → m = cap) := by
      cases bmx with
      | none =>
        refine ⟨cap, ?_, by omega, by omega, (fun k hk => by cases hk), fun _ => rfl⟩
        cases bhi with
        | none =>
          cases blo with
          | none => simp [Instr.sliceBounds]
          | some h0 => simp only [Option.getD_some, Option.getD_none] at h1 h2 ⊢; simp [Instr.sliceBounds, run_sliceBound rfl h0 h1]
        | some h0' =>
          cases blo with
          | none => simp only [Option.getD_some, Option.getD_none] at h1 h2 ⊢; simp [Instr.sliceBounds, run_sliceBound rfl h0' (Nat.le_trans h2 hcap)]
          | some h0 => simp only [Option.getD_some] at h1 h2 ⊢; simp [Instr.sliceBounds, run_sliceBound rfl h0' (Nat.le_trans h2 hcap), run_sliceBound rfl h0 h1]
      | @some k i hm0 =>
        obtain ⟨g1, g2, g3⟩ := h3 _ rfl
        refine ⟨i.toNat, ?_, g1, by omega, (fun k hk => by cases hk; rfl), (fun hk => by cases hk)⟩
        cases bhi with
        | none => simp at g3
        | some h0' =>
          cases blo with
          | none => simp only [Option.getD_some, Option.getD_none] at h1 h2 g1 ⊢; simp [Instr.sliceBounds, run_sliceBound rfl hm0 (Nat.le_trans g2 hcap), run_sliceBound rfl h0' g1]
          | some h0 => simp only [Option.getD_some] at h1 h2 g1 ⊢; simp [Instr.sliceBounds, run_sliceBound rfl hm0 (Nat.le_trans g2 hcap), run_sliceBound rfl h0' g1, run_sliceBound rfl h0 h1]
    obtain ⟨m, hb, hm1, hm2, hm3, hm4⟩ := hb
    generalize hl : lo.getD 0 = l at *
    generalize hh : hi.getD els.length = hh' at *
    refine ⟨.slice (if m = l then base else base.map (·.add (l * n))) (hh' - l) (m - l), ?_, ?_⟩
    · subst hu'
      simp [Instr.sliceAt, Instr.slice, run_underlying hu, hb, run_sizeOf_of hn]
    · have hlen : ((els.take hh').drop l).length = hh' - l := by simp only [List.length_drop, List.length_take]; omega
      have hex : exA mx ex hh' els.length = true → (ex = true → cap = els.length) → m = hh' := by
        intro hb1 hexc
        unfold exA at hb1
        split at hb1
        · have := hm3 _ rfl; simp at hb1; omega
        · have := hm4 rfl; simp at hb1; have := hexc hb1.1; omega
      cases base with
      | none =>
        obtain ⟨he, hc0⟩ := hnil rfl
        subst he
        have e1 : hh' = 0 := by simpa using h2
        subst e1
        have e2 : l = 0 := by omega
        subst e2
        have e3 : m = 0 := by omega
        subst e3
        simpa using (C.sl0 (I := I))
      | some a0 =>
        subst hu'
        cases hp with
        | sle =>
          have e1 : hh' = 0 := by simpa using h2
          subst e1
          have e2 : l = 0 := by omega
          subst e2
          have e3 : m = 0 := by omega
          subst e3
          simpa using (C.sle (I := I) (a := a0))
        | @sl _ _ b off k sz _ arr hI huu hm hc hl' hcap' hexc =>
          have hall : ∀ x ∈ els, x.cells.length = n := by simpa [List.all_eq_true] using h4
          have hsub : ∀ x ∈ (els.take hh').drop l, x.cells.length = n := fun x hx => hall x (List.mem_of_mem_take (List.mem_of_mem_drop hx))
          have hfl := flat_length hall
          have hsplit : flat els = flat (els.take l) ++ flat ((els.take hh').drop l) ++ flat (els.drop hh') := by
            have e1 : els = els.take hh' ++ els.drop hh' := (List.take_append_drop _ _).symm
            have e2 : els.take hh' = (els.take hh').take l ++ (els.take hh').drop l := (List.take_append_drop _ _).symm
            rw [List.take_take, Nat.min_eq_left h1] at e2
            conv => lhs; rw [e1, e2]
            rw [flat_append, flat_append]
          have hpre : (flat (els.take l)).length = l * n := by
            rw [flat_length (fun x hx => hall x (List.mem_of_mem_take hx)), List.length_take, Nat.min_eq_left (by omega)]
          have hmid := flat_length hsub
          rw [hlen] at hmid
          generalize (els.take hh').drop l = X at hsub hlen hsplit hmid ⊢
          have hcm : Cs I (flat X) ((arr.drop (off + l * n)).take (flat X).length) := by
            have k1 := (hc.drop (l * n)).take (flat X).length
            rw [hsplit, ← hpre, List.append_assoc, List.drop_left, List.take_left] at k1
            rw [hpre] at k1
            have e1 : (List.drop (l * n) (List.take (flat (els.take l) ++ (flat X ++ flat (els.drop hh'))).length (List.drop off arr))).take (flat X).length
                = (List.drop (off + l * n) arr).take (flat X).length := by
              rw [List.drop_take, List.drop_drop, List.take_take]
              congr 1
              simp only [List.length_append]
              omega
            rwa [e1] at k1
          have hbnd : off + l * n + (flat X).length ≤ arr.length := by
            rw [hsplit] at hl'
            simp only [List.length_append] at hl'
            omega
          by_cases hml : m = l
          · rw [if_pos hml]
            have e0 : X = [] := List.eq_nil_of_length_eq_zero (by omega)
            have ef : flat ([] : List PV) = [] := rfl
            rw [e0]
            refine .sl (sz := n) hI (by simp) (by simp; omega) (by rw [ef]; simpa using Cs.nil) (by rw [ef]; simp; omega) (by omega) (fun hx => by have := hex hx hexc; omega)
          · rw [if_neg hml]
            simp only [Option.map_some, addr_add]
            exact .sl hI hsub hlen.symm hcm hbnd (by omega) (fun hx => by have := hex hx hexc; omega)
  · cases h

/-- What a closure takes in: the variables of the call's own that are not written again. -/
def capA (s : St) : TV → Option PV
  | .v x => some x
  | .ptr b off => match lk b s.ro with
    | some cs => if off ≤ cs.length then some (.vp (cs.drop off)) else none
    | none => none
  | .acc _ _ => none
  | .own _ _ => none

def capsA (s : St) : List Operand → Option (List PV)
  | [] => some []
  | x :: xs => match (ev s x).bind (capA s), capsA s xs with
    | some y, some ys => some (y :: ys)
    | _, _ => none

theorem cap_C (h : Sim w0 I0 I β κ s sav a w) {x : Operand} {p : PV} (he : (ev s x).bind (capA s) = some p) : C I p (a.eval x) := by
  obtain ⟨t, h1, h2⟩ := Option.bind_eq_some_iff.1 he
  have hR := ev_R h h1
  cases t with
  | v y => simp only [capA, Option.some.injEq] at h2; subst h2; cases hR with | v hR => exact hR
  | own => simp [capA] at h2
  | ptr b off =>
    simp only [capA] at h2
    split at h2
    · rename_i cells hb
      split at h2
      · rename_i hoff
        cases h2
        obtain ⟨arr, hI, hc, hlen⟩ := h.rob b cells hb
        generalize a.eval x = u at hR
        cases hR
        have hc' := hc.drop off
        rw [List.drop_take] at hc'
        exact .vp hI (by simpa using hc') (by simp only [List.length_drop]; omega)
      · cases h2
    · cases h2
  | acc => simp [capA] at h2

theorem caps_C (h : Sim w0 I0 I β κ s sav a w) : ∀ {xs : List Operand} {ps : List PV}, capsA s xs = some ps → Cs I ps (xs.map a.eval)
  | [], ps, he => by simp only [capsA, Option.some.injEq] at he; subst he; exact .nil
  | x :: xs, ps, he => by
    simp only [capsA] at he
    split at he
    · cases he
      exact .cons (cap_C h ‹_›) (caps_C h ‹_›)
    · cases he

end
end Go.Proofs.Ytnfomjnmigkpmaa.A
