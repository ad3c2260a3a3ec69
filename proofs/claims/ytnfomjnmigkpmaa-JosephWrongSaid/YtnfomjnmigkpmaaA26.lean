/- From a law's arguments, as the row tells them, to what is known of them; from a contract to the row's end. -/
import Derived.Test.YtnfomjnmigkpmaaA25
import Derived.WalkKit
import Derived.ProofKit
import Derived.OpenShut
import Derived.ChangeOld
import Derived.SizedLaws
set_option linter.unusedVariables false
set_option linter.unusedSimpArgs false
namespace Go.Proofs.Ytnfomjnmigkpmaa.A
open Go Go.RowKit Go.Shelf Go.ChangeShapes Go.WideShapes Go.ChangeAt

/-- All that lies there, is known. -/
def allI (w : World) : Imm := fun b => match w.heap[b]? with | some (.cells cs _ _) => some cs.toList | _ => none
theorem good_all (w : World) : Good (allI w) w := fun b arr h => by
  unfold allI at h
  split at h
  · rename_i cs ty fz hw
    cases h
    exact ⟨cs, ty, fz, [], hw, by simp⟩
  · cases h

theorem flat_ints (k : IntKind) (zs : List Int) : flat (zs.map fun n => PV.s (.int k n)) = zs.map fun n => PV.s (.int k n) := by
  induction zs with
  | nil => rfl
  | cons z zs ih =>
    simp only [flat, List.map_cons, List.flatMap_cons] at ih ⊢
    rw [ih]
    rfl
theorem cs_ints (I : Imm) (k : IntKind) (zs : List Int) : Cs I (zs.map fun n => PV.s (.int k n)) (zs.map (Value.int k)) := by
  induction zs with
  | nil => exact .nil
  | cons z zs ih => exact .cons (.s _) ih

theorem row_C {W : World} {x : Addr} {len cap : Nat} {k : IntKind} {zs : List Int} (hl : len ≤ cap) (hz : zs.length = cap) (hcell : ∀ i, i < zs.length → W.cell? (x.add i) = some (.int k (zs.getD i 0))) :
    C (allI W) (.sl false ((zs.take len).map fun n => .s (.int k n))) (.slice (some x) len cap) := by
  by_cases h0 : cap = 0
  · subst h0
    have : len = 0 := by omega
    subst this
    simpa using (C.sle (I := allI W) (a := x))
  · obtain ⟨b, off, rfl, hat⟩ := ints_at hcell (by omega)
    have hb := hat 0 (by omega)
    unfold World.cell? at hb
    cases hw : W.heap[b]? with
    | none => rw [hw] at hb; cases hb
    | some o =>
      cases o with
      | cells cs ty fz =>
        have hI : allI W b = some cs.toList := by simp [allI, hw]
        have hget : ∀ j, j < zs.length → cs.toList[off + j]? = some (.int k (zs.getD j 0)) := fun j hj => by
          have := hat j hj
          simp only [World.cell?, hw] at this
          simpa using this
        have hlen : off + cap ≤ cs.toList.length := by
          have := hget (cap - 1) (by omega)
          have := (List.getElem?_eq_some_iff.1 this).1
          omega
        have htake : (cs.toList.drop off).take len = (zs.take len).map (Value.int k) := by
          apply List.ext_getElem?
          intro j
          by_cases hj : j < len
          · rw [List.getElem?_take_of_lt hj, List.getElem?_drop, hget j (by omega), List.getElem?_map, List.getElem?_take_of_lt hj, List.getElem?_eq_getElem (show j < zs.length by omega)]
            simp [List.getElem?_eq_getElem (show j < zs.length by omega)]
          · rw [List.getElem?_eq_none (by simp; omega), List.getElem?_eq_none (by simp; omega)]
        have hfl : (flat ((zs.take len).map fun n => PV.s (.int k n))).length = len := by
          rw [flat_ints]; simp; omega
        refine C.sl (sz := 1) hI (fun e he => ?_) (by simp; omega) ?_ (by rw [hfl]; omega) hl (fun h => by cases h)
        · obtain ⟨n, _, rfl⟩ := List.mem_map.1 he
          rfl
        · rw [hfl, flat_ints, htake]
          exact cs_ints _ _ _
      | _ => rw [hw] at hb; cases hb

/-- A slice of whole numbers that comes in. -/
theorem row_ints {H : Type} {enc : TypeId × Value → H} {P : Program} {W : World} {base : Nat} {held : Bool} {t e : TypeId} {k : IntKind} {a : Option Addr} {len cap : Nat} {d : DataW H} {ps : List MemPlace}
    (ht : P.underlying t = some (.slice e)) (he : P.underlying e = some (.int k)) (hc : P.cellsOf e = 1) (h : DataW.Trod enc P W base (fun _ => true) held t (.slice a len cap) d ps) :
    ∃ zs : List Int, zs.length = len ∧ (∀ n ∈ zs, (Lit.int k n).wf = true) ∧ C (allI W) (.sl false (zs.map fun n => .s (.int k n))) (.slice a len cap) := by
  obtain ⟨fuel, hf⟩ := h
  rcases open_ints ht he hc hf with ⟨hcs, _⟩ | ⟨x, l, c, zs, hcs, _, hl, hm, hz, _, hcell, hwz⟩
  · simp [Value.cells] at hcs
    obtain ⟨rfl, rfl, rfl⟩ := hcs
    exact ⟨[], rfl, by simp, .sl0⟩
  · simp [Value.cells] at hcs
    obtain ⟨rfl, rfl, rfl⟩ := hcs
    have hz' : zs.length = cap := by simpa using hz
    exact ⟨zs.take len, by simp; omega, fun n hn => hwz n (List.mem_of_mem_take hn), row_C hl hz' hcell⟩

theorem cs_junk (I : Imm) : ∀ (vs : List Value), Cs I (List.replicate vs.length .junk) vs
  | [] => .nil
  | v :: vs => .cons (.junk v) (cs_junk I vs)
theorem flat_junk (n sz : Nat) : flat (List.replicate n (.agg (List.replicate sz .junk))) = List.replicate (n * sz) .junk := by
  induction n with
  | zero => simp [flat]
  | succ n ih =>
    have : flat (List.replicate (n + 1) (PV.agg (List.replicate sz .junk))) = List.replicate sz .junk ++ flat (List.replicate n (PV.agg (List.replicate sz .junk))) := by
      simp [List.replicate_succ, flat, PV.cells]
    rw [this, ih, List.replicate_append_replicate, Nat.add_mul, Nat.one_mul, Nat.add_comm]

/-- A slice of structs that comes in, of which nothing is asked but how many there are. -/
theorem row_any {H : Type} {enc : TypeId × Value → H} {P : Program} {W : World} {base : Nat} {held : Bool} {t e : TypeId} {sz : Nat} {a : Option Addr} {len cap : Nat} {d : DataW H} {ps : List MemPlace}
    (ht : P.underlying t = some (.slice e)) (hc : P.cellsOf e = sz) (hpos : 0 < sz) (h : DataW.Trod enc P W base (fun _ => true) held t (.slice a len cap) d ps) :
    C (allI W) (.sl false (List.replicate len (.agg (List.replicate sz .junk)))) (.slice a len cap) := by
  obtain ⟨fuel, hf⟩ := h
  rcases DataW.trod_slice ht hf with ⟨hcs, _⟩ | ⟨x, l, c, elems, rest, n, _, hcs, _, hb, hl, hm, hlen, hel, hsp, _⟩
  · simp [Value.cells] at hcs
    obtain ⟨rfl, rfl, rfl⟩ := hcs
    exact .sl0
  · simp [Value.cells] at hcs
    obtain ⟨rfl, rfl, rfl⟩ := hcs
    subst hc
    obtain ⟨hr1, hr2⟩ := hsp rfl
    have key : ∀ k, k < cap → ∃ cs, W.cells? base (x.add (k * P.cellsOf e)) (P.cellsOf e) = some cs := fun k hk => by
      by_cases h1 : k < len
      · have := hel k h1
        rw [List.getElem?_eq_getElem (by omega)] at this
        obtain ⟨cs, hcs, _⟩ := Option.bind_eq_some_iff.1 this
        exact ⟨cs, hcs⟩
      · have := hr2 (k - len) (by omega)
        rw [List.getElem?_eq_getElem (by omega), show len + (k - len) = k by omega] at this
        obtain ⟨cs, hcs, _⟩ := Option.bind_eq_some_iff.1 this
        exact ⟨cs, hcs⟩
    by_cases h0 : cap = 0
    · subst h0
      have : len = 0 := by omega
      subst this
      exact C.sle (I := allI W) (a := x)
    · have at_ : ∀ k, k < cap → ∀ j, j < P.cellsOf e → ∃ v, W.cell? (x.add (k * P.cellsOf e + j)) = some v := fun k hk j hj => by
        obtain ⟨cs, hcs⟩ := key k hk
        obtain ⟨_, h1, h2⟩ := World.cells?_some hcs
        have := h2 j hj
        rw [Addr.add_add, List.getElem?_eq_getElem (by omega)] at this
        exact ⟨_, this⟩
      obtain ⟨v0, hv0⟩ := at_ 0 (by omega) 0 hpos
      obtain ⟨b, off, spot⟩ := x
      have hspot : spot = none := by
        have : (⟨b, off, spot⟩ : Addr).add (0 * P.cellsOf e + 0) = ⟨b, off, spot⟩ := by simp [Addr.add]
        rw [this] at hv0
        exact World.cell?_spot hv0
      subst hspot
      have hcell : ∀ k, k < cap → ∀ j, j < P.cellsOf e → ∃ v, W.cell? ⟨b, off + (k * P.cellsOf e + j), none⟩ = some v := fun k hk j hj => by
        obtain ⟨v, hv⟩ := at_ k hk j hj
        rw [Go.WideShapes.add_plain] at hv
        exact ⟨v, hv⟩
      obtain ⟨v1, hv1⟩ := hcell 0 (by omega) 0 hpos
      unfold World.cell? at hv1
      cases hw : W.heap[b]? with
      | none => rw [hw] at hv1; cases hv1
      | some o =>
        cases o with
        | cells cs ty fz =>
          have hI : allI W b = some cs.toList := by simp [allI, hw]
          have hbig : off + cap * P.cellsOf e ≤ cs.toList.length := by
            obtain ⟨v, hv⟩ := hcell (cap - 1) (by omega) (P.cellsOf e - 1) (by omega)
            simp only [World.cell?, hw] at hv
            have := (Array.getElem?_eq_some_iff.1 (by simpa using hv)).1
            have e1 : cap * P.cellsOf e = (cap - 1) * P.cellsOf e + P.cellsOf e := by
              rw [← Nat.succ_mul]
              congr 1
              omega
            rw [Array.length_toList]
            omega
          have hfl : (flat (List.replicate len (PV.agg (List.replicate (P.cellsOf e) .junk)))).length = len * P.cellsOf e := by rw [flat_junk, List.length_replicate]
          have hle : len * P.cellsOf e ≤ cap * P.cellsOf e := Nat.mul_le_mul_right _ hl
          refine C.sl (sz := P.cellsOf e) hI (fun y hy => ?_) (by simp) ?_ (by rw [hfl]; omega) hl (fun h => by cases h)
          · rw [List.eq_of_mem_replicate hy]
            simp [PV.cells]
          · rw [hfl, flat_junk]
            have hlen2 : ((cs.toList.drop off).take (len * P.cellsOf e)).length = len * P.cellsOf e := by
              rw [List.length_take, List.length_drop]
              omega
            have := cs_junk (allI W) ((cs.toList.drop off).take (len * P.cellsOf e))
            rw [hlen2] at this
            exact this
        | _ => rw [hw] at hv1; cases hv1

theorem u8_of {n : Int} (h : (Lit.int .u8 n).wf = true) : 0 ≤ n ∧ n ≤ 255 := by
  simp only [Lit.wf, Bool.and_eq_true, decide_eq_true_eq] at h
  have h1 : IntKind.min .u8 = 0 := by decide
  have h2 : IntKind.max .u8 = 255 := by decide
  rw [h1, h2] at h
  exact h

/-- The row's end: the law says true, and nothing that was there has turned. -/
theorem ok_end {P : Program} {f : FuncId} {args : List PV} {W : World} {vs : List Value} (h : Ok P f args (.s (.bool true))) (hc : Cs (allI W) args vs) :
    Calls P f vs.toArray W fun e w' => e = .returned (.bool true) ∧ Below W.heap.size W w' :=
  (h.2 (allI W) W vs (good_all W) hc).mono fun e w' ⟨v, J, he, hb, _, _, _, hv⟩ => by
    cases hv
    exact ⟨he, hb⟩
end Go.Proofs.Ytnfomjnmigkpmaa.A
