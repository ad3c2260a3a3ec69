/- 'valA': what an operation tells that neither makes nor writes memory; and that the model tells the same. -/
import Derived.Test.YtnfomjnmigkpmaaA6
set_option linter.unusedVariables false
set_option linter.unusedSimpArgs false
namespace Go.Proofs.Ytnfomjnmigkpmaa.A
open Go Go.RowKit

section
variable {P : Program} {w0 w : World} {I0 I : Imm} {β : Nat → Nat} {κ : Nat → Nat × Nat × Nat} {s : St} {sav : List (Array Value)} {a : Act}

/-! ### Single operations -/
def fieldAddrA (off : Nat) : TV → Option TV
  | .ptr b o => some (.ptr b (o + off))
  | .v (.vp cs) => if off ≤ cs.length then some (.v (.vp (cs.drop off))) else none
  | _ => none

theorem fieldAddr_sound {t : TypeId} {f off : Nat} {fd : Field} {m : Nat} {tk : Nat → Nat} {p tv : TV} {u : Value} (hf : tField P t f = some fd) (ho : fd.offset = off) (hm : tSize P fd.type = some m) (hm0 : m ≠ 0)
    (hp : R I β κ tk p u) (h : fieldAddrA off p = some tv) : ∃ v, (Instr.fieldAt t u f).run P w = .ok v w ∧ R I β κ tk tv v := by
  obtain ⟨fs, hu, hfs⟩ := tField_of hf
  have run : ∀ b o, (Instr.fieldAt t (.pointer (some ⟨b, o, none⟩)) f).run P w = .ok (.pointer (some ⟨b, o + off, none⟩)) w := fun b o => by
    simp [Instr.fieldAt, run_underlying hu, hfs, Instr.sureAddr, fieldPlace, run_sizeOf_of hm, hm0, addr_add, ho]
  unfold fieldAddrA at h
  split at h
  · cases h; cases hp; exact ⟨_, run _ _, .ptr⟩
  · split at h
    · cases h
      cases hp with
      | v hC => cases hC with
        | vp hI hc hl =>
          refine ⟨_, run _ _, .v (.vp hI ?_ (by simp only [List.length_drop]; omega))⟩
          have := hc.drop off
          rw [List.drop_take, List.drop_drop] at this
          simpa [Nat.add_comm] using this
    · cases h
  · cases h

def fieldA (agg : Bool) (n off : Nat) : PV → Option TV
  | .agg l => if agg then (if off + n ≤ l.length then some (.v (.agg ((l.drop off).take n))) else none) else (l[off]?).map .v
  | _ => none

theorem part_sound {t : TypeId} {agg : Bool} {n off : Nat} {l : List PV} {cs : Array Value} {tv : TV} {tk : Nat → Nat} (hA : tAgg P t = some agg) (hS : tSize P t = some n) (hc : Cs I l cs.toList) (h : fieldA agg n off (.agg l) = some tv) :
    ∃ v, (part t cs off).run P w = .ok v w ∧ R I β κ tk tv v := by
  have hlen : l.length = cs.size := by simpa using hc.length
  unfold fieldA at h
  simp only at h
  unfold part
  simp only [Sem.run_bind, run_isAgg_of hA, Result.andThen_ok]
  cases agg with
  | true =>
    simp only [if_true] at h ⊢
    split at h
    · cases h
      simp only [Sem.run_bind, run_sizeOf_of hS, Result.andThen_ok]
      refine ⟨_, rfl, .v (.agg ?_)⟩
      have := (hc.drop off).take n
      simpa [List.take_drop, Nat.add_comm] using this
    · cases h
  | false =>
    simp only [Bool.false_eq_true, if_false] at h ⊢
    obtain ⟨x, hx, rfl⟩ := Option.map_eq_some_iff.1 h
    obtain ⟨v, hv, hxv⟩ := hc.get hx
    rw [Array.getElem?_toList] at hv
    simp only [hv]
    exact ⟨v, rfl, .v hxv⟩

def idxAddrA (n : Nat) : PV → PV → Option TV
  | .sl _ els, .s (.int _ k) => if 0 ≤ k then (match els[k.toNat]? with | some e => if e.cells.length = n then some (.v (.vp e.cells)) else none | none => none) else none
  | _, _ => none

def idxA (n : Nat) : TV → PV → Option TV
  | .v p, q => idxAddrA n p q
  | .acc _ els, q => idxAddrA n (.sl false els) q
  | .own b m, .s (.int _ j) => if 0 ≤ j ∧ j < m ∧ n = 1 then some (.ptr b j.toNat) else none
  | _, _ => none

theorem flat_at {els : List PV} {sz k : Nat} {e : PV} (hu : ∀ x ∈ els, x.cells.length = sz) (hk : els[k]? = some e) : ∃ pre post, flat els = pre ++ e.cells ++ post ∧ pre.length = k * sz := by
  obtain ⟨hlt, he⟩ := List.getElem?_eq_some_iff.1 hk
  refine ⟨flat (els.take k), flat (els.drop (k + 1)), ?_, ?_⟩
  · rw [← he]
    have : els = els.take k ++ els[k] :: els.drop (k + 1) := by simp
    conv => lhs; rw [this]
    simp only [flat, List.flatMap_append, List.flatMap_cons, List.append_assoc]
  · rw [flat_length (fun x hx => hu x (List.mem_of_mem_take hx)), List.length_take, Nat.min_eq_left (by omega)]

theorem idxAddr_sound {t e : TypeId} {n : Nat} {p q : PV} {tv : TV} {u v : Value} {tk : Nat → Nat} (ht : tElem P t = some e) (hn : tSize P e = some n) (hp : C I p u) (hq : C I q v) (h : idxAddrA n p q = some tv) :
    ∃ r, (Instr.indexAt t u v).run P w = .ok r w ∧ R I β κ tk tv r := by
  have hu := run_underlying_elem ht
  unfold idxAddrA at h
  split at h
  · rename_i ex els kk k
    split at h
    · rename_i hk0
      split at h
      · rename_i el hel
        split at h
        · rename_i hsz
          cases h
          cases hq
          have hlt := (List.getElem?_eq_some_iff.1 hel).1
          cases hp with
          | sl0 => simp at hlt
          | sle => simp at hlt
          | @sl _ _ b off m sz cap arr hI huu hm hc hl hcap hex =>
            obtain ⟨pre, post, hfl, hpre⟩ := flat_at huu hel
            have hsz' : sz = n := by rw [← huu el (List.mem_of_getElem? hel), hsz]
            subst hsz'
            refine ⟨.pointer (some ⟨b, off + k.toNat * sz, none⟩), ?_, .v (.vp hI ?_ ?_)⟩
            · have h1 : 0 ≤ k ∧ k < (m : Int) := ⟨hk0, by omega⟩
              simp [Instr.indexAt, asIntOf, run_underlying hu, h1, run_sizeOf_of hn, addr_add]
            · have h1 := (hc.drop (k.toNat * sz)).take el.cells.length
              rw [hfl, ← hpre, List.append_assoc, List.drop_left, List.take_left] at h1
              rw [hpre] at h1
              have e1 : (List.drop (k.toNat * sz) (List.take (pre ++ (el.cells ++ post)).length (List.drop off arr))).take el.cells.length = (List.drop (off + k.toNat * sz) arr).take el.cells.length := by
                rw [List.drop_take, List.drop_drop, List.take_take]
                congr 1
                simp only [List.length_append]
                omega
              rwa [e1] at h1
            · rw [hfl] at hl
              simp only [List.length_append] at hl
              omega
        · cases h
      · cases h
    · cases h
  · cases h

theorem idxA_sound {t e : TypeId} {n : Nat} {p : TV} {q : PV} {tv : TV} {u v : Value} {tk : Nat → Nat} (ht : tElem P t = some e) (hn : tSize P e = some n) (hp : R I β κ tk p u) (hq : C I q v) (h : idxA n p q = some tv) :
    ∃ r, (Instr.indexAt t u v).run P w = .ok r w ∧ R I β κ tk tv r := by
  unfold idxA at h
  split at h
  · cases hp with | v hp => exact idxAddr_sound ht hn hp hq h
  · exact idxAddr_sound ht hn hp.toC hq h
  · rename_i b m kk j
    split at h
    · rename_i hc
      obtain ⟨h0, h1, rfl⟩ := hc
      cases h
      cases hp
      cases hq
      have hu := run_underlying_elem ht
      refine ⟨.pointer (some ⟨β b, j.toNat, none⟩), ?_, .ptr⟩
      have h1' : 0 ≤ j ∧ j < (m : Int) := ⟨h0, h1⟩
      simp [Instr.indexAt, asIntOf, run_underlying hu, h1', run_sizeOf_of hn, addr_add]
    · cases h
  · cases h

def lenA : PV → Option TV
  | .sl _ els => some (.v (.s (.int .i64 els.length)))
  | .s (.slice none 0 0) => some (.v (.s (.int .i64 0)))
  | _ => none

theorem len_sound {t e : TypeId} {p : PV} {u : Value} {tv : TV} {tk : Nat → Nat} (ht : tElem P t = some e) (hp : C I p u) (h : lenA p = some tv) : ∃ r, (Builtin.len_ #[t] 0 #[u]).run P w = .ok r w ∧ R I β κ tk tv r := by
  have hu := run_underlying_elem ht
  unfold lenA at h
  split at h
  · cases h
    cases hp with
    | sl hI huu hm hc hl hcap hex => subst hm; exact ⟨_, by simp [Builtin.len_, run_underlying hu, goInt], .v (.s _)⟩
    | sl0 => exact ⟨_, by simp [Builtin.len_, run_underlying hu, goInt], .v (.s _)⟩
    | sle => exact ⟨_, by simp [Builtin.len_, run_underlying hu, goInt], .v (.s _)⟩
  · cases h
    cases hp
    exact ⟨_, by simp [Builtin.len_, run_underlying hu, goInt], .v (.s _)⟩
  · cases h

/-- Numbers of a row of values. -/
def ints : List PV → Option (List Int)
  | [] => some []
  | .s (.int _ y) :: r => (ints r).map (y :: ·)
  | _ => none

/-- min and max of whole numbers of one kind. -/
def extremeA (mx : Bool) : List PV → Option Value
  | .s (.int k x) :: r => (ints r).map fun ys => .int k (ys.foldl (fun m y => if mx then (if m < y then y else m) else (if y < m then y else m)) x)
  | _ => none

theorem max2_int' (k k' : IntKind) (x y : Int) : Builtin.max2 (.int k x) (.int k' y) = pure (.int k (if x < y then y else x)) := by simp only [Builtin.max2, gt_iff_lt]
theorem min2_int' (k k' : IntKind) (x y : Int) : Builtin.min2 (.int k x) (.int k' y) = pure (.int k (if y < x then y else x)) := by simp only [Builtin.min2]

theorem extreme_fold (mx : Bool) (k : IntKind) : ∀ (l : List PV) (vs : List Value) (x : Int) (ys : List Int), Cs I l vs → ints l = some ys →
    (vs.foldlM (if mx then Builtin.max2 else Builtin.min2) (.int k x)).run P w = .ok (.int k (ys.foldl (fun m y => if mx then (if m < y then y else m) else (if y < m then y else m)) x)) w
  | [], vs, x, ys, hc, h => by
    cases hc
    simp only [ints, Option.some.injEq] at h
    subst h
    rfl
  | y :: l, vs, x, ys, hc, h => by
    unfold ints at h
    split at h
    · rename_i e; cases e
    · rename_i k' y' r e
      cases e
      obtain ⟨ys, hys, rfl⟩ := Option.map_eq_some_iff.1 h
      cases hc with
      | cons h1 h2 =>
        cases h1
        have ih := extreme_fold mx k _ _ (if mx then (if x < y' then y' else x) else (if y' < x then y' else x)) ys h2 hys
        cases mx
        · simpa [min2_int'] using ih
        · simpa [max2_int'] using ih
    · cases h

theorem extreme_sound (mx : Bool) (l : List PV) (vs : List Value) (r : Value) (hc : Cs I l vs) (h : extremeA mx l = some r) (ts : Array TypeId) (t : TypeId) : (if mx then Builtin.max_ ts t vs.toArray else Builtin.min_ ts t vs.toArray).run P w = .ok r w := by
  unfold extremeA at h
  split at h
  · obtain ⟨ys, hys, rfl⟩ := Option.map_eq_some_iff.1 h
    cases hc with
    | cons h1 h2 =>
      cases h1
      rename_i k x _ _
      have := extreme_fold (P := P) (w := w) mx k _ _ x ys h2 hys
      cases mx
      · simpa [Builtin.min_] using this
      · simpa [Builtin.max_] using this
  · cases h

/-- One cell. -/
def PV.cell : PV → Bool
  | .s v => v.oneCell'
  | .sl _ _ => true
  | .vp _ => true
  | .fn _ _ => true
  | .ifc _ _ => true
  | _ => false

/-- Cells alone. -/
def PV.ok (x : PV) : Bool := x.cells.all PV.cell

theorem C.cell {x : PV} {v : Value} (h : C I x v) (hx : x.cell = true) : v.oneCell' = true := by
  cases h <;> first | exact hx | rfl | (simp [PV.cell] at hx)

theorem Cs.cell {xs : List PV} {vs : List Value} (h : Cs I xs vs) (hx : xs.all PV.cell = true) : ∀ v ∈ vs, v.oneCell' = true := by
  induction xs generalizing vs with
  | nil => cases h; simp
  | cons x xs ih =>
    cases h with
    | cons h1 h2 =>
      simp only [List.all_cons, Bool.and_eq_true] at hx
      intro v hv
      rcases List.mem_cons.1 hv with rfl | hv
      · exact h1.cell hx.1
      · exact ih h2 hx.2 v hv

theorem C.okCells {x : PV} {v : Value} (h : C I x v) (hx : x.ok = true) : Cs I x.cells v.cells.toList ∧ ∀ u ∈ v.cells.toList, u.oneCell' = true := by
  have key : Cs I x.cells v.cells.toList := by
    refine h.cells ?_ ?_
    · rintro rfl; simp [PV.ok, PV.cells, PV.cell] at hx
    · intro u hu l e
      subst hu e
      simp [PV.ok, PV.cells, PV.cell, Value.oneCell'] at hx
  exact ⟨key, key.cell hx⟩

/-! ### A struct put together -/
def setR {α : Type} (l : List α) (off : Nat) : List α → List α
  | [] => l
  | x :: xs => setR (l.set off x) (off + 1) xs

def fillA (places : List (Nat × Nat)) (cells : List PV) : List (Nat × PV) → Option (List PV)
  | [] => some cells
  | (i, x) :: rest => match places[i]? with
    | some (off, n) => if x.cells.length = n ∧ off + n ≤ cells.length ∧ x.ok = true then fillA places (setR cells off x.cells) rest else none
    | none => none

theorem setR_length {α : Type} (xs l : List α) (off : Nat) : (setR l off xs).length = l.length := by
  induction xs generalizing l off with
  | nil => rfl
  | cons x xs ih => simp [setR, ih]

theorem setR_Cs {xs l : List PV} {off : Nat} {vs us : List Value} (hl : Cs I l vs) (hx : Cs I xs us) : Cs I (setR l off xs) (setR vs off us) := by
  induction xs generalizing l vs us off with
  | nil => cases hx; exact hl
  | cons x xs ih => cases hx with | cons h1 h2 => exact ih (hl.set off h1) h2

theorem foldl_setR (us : List Value) (off k : Nat) (cells : Array Value) : ((us.zipIdx k).foldl (fun cs (c, j) => cs.setIfInBounds (off + j) c) cells).toList = setR cells.toList (off + k) us := by
  induction us generalizing k cells with
  | nil => rfl
  | cons u us ih =>
    simp only [List.zipIdx_cons, List.foldl_cons, setR]
    rw [ih, Array.toList_setIfInBounds]
    rfl

theorem fill_sound {places : List (Nat × Nat)} {parts : List (Nat × PV)} {us : List (Nat × Value)} {cells : List PV} {cs : Array Value} {l : List PV} (hc : Cs I cells cs.toList) (hi : parts.map (·.1) = us.map (·.1))
    (hp : Cs I (parts.map (·.2)) (us.map (·.2))) (h : fillA places cells parts = some l) : ∃ r, Instr.fill (fun i => places[i]?) cs us = some r ∧ Cs I l r.toList := by
  induction parts generalizing us cells cs with
  | nil =>
    cases us with
    | nil => simp only [fillA, Option.some.injEq] at h; subst h; exact ⟨cs, rfl, hc⟩
    | cons => simp at hi
  | cons p parts ih =>
    obtain ⟨i, x⟩ := p
    cases us with
    | nil => simp at hi
    | cons q us =>
      obtain ⟨j, v⟩ := q
      simp only [List.map_cons, List.cons.injEq] at hi hp
      obtain ⟨rfl, hi⟩ := hi
      cases hp with
      | cons hxv hp =>
        simp only [fillA] at h
        split at h
        · rename_i off n hpl
          split at h
          · rename_i hcond
            obtain ⟨hn, hle, hm⟩ := hcond
            have hcells := (hxv.okCells hm).1
            have hsz : v.cells.size = n := by have := hcells.length; rw [hn] at this; simpa using this.symm
            have hlen : cells.length = cs.size := by simpa using hc.length
            have hnot : ¬ (v.cells.size ≠ n ∨ off + v.cells.size > cs.size) := by omega
            obtain ⟨r, hr, hl⟩ := ih (cs := v.cells.zipIdx.foldl (fun cs (c, j) => cs.setIfInBounds (off + j) c) cs)
              (by
                have := foldl_setR v.cells.toList off 0 cs
                rw [← Array.foldl_toList, Array.toList_zipIdx, this]
                exact setR_Cs hc hcells) hi hp h
            refine ⟨r, ?_, hl⟩
            simp only [Instr.fill, hpl]
            have hb : (decide (v.cells.size ≠ n) || decide (off + v.cells.size > cs.size)) = false := by simp; omega
            simp only [hb, Bool.false_eq_true, if_false]
            exact hr
          · cases h
        · cases h

end
end Go.Proofs.Ytnfomjnmigkpmaa.A
