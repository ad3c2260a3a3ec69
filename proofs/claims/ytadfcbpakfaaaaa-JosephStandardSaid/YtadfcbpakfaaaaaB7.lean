/- From a law's arguments, as the row tells them, to what is known of them; from a contract to the row's end. -/
import Derived.Test.YtadfcbpakfaaaaaB6
import Derived.WalkKit
import Derived.ProofKit
import Derived.OpenShut
import Derived.ChangeOld
import Derived.SizedLaws
set_option linter.unusedVariables false
set_option linter.unusedSimpArgs false
namespace Go.Proofs.Ytadfcbpakfaaaaa.A
open Go Go.RowKit Go.Shelf Go.ChangeShapes Go.WideShapes Go.ChangeAt

/-- All that lies there, is known. -/
def allI (w : World) : Imm := fun b => match w.heap[b]? with | some (.cells cs _ _) => some cs.toList | _ => none
theorem good_all (w : World) : Good (allI w) w := fun b arr h => by
  unfold allI at h
  split at h
  · rename_i cs ty fz hw
    cases h
    exact ⟨cs, ty, fz, [], hw, by simp⟩
  · cases h

theorem flat_ints (k : IntKind) (zs : List Int) : flat (zs.map fun n => PV.s (.int k n)) = zs.map fun n => PV.s (.int k n) := by
  induction zs with
  | nil => rfl
  | cons z zs ih =>
    simp only [flat, List.map_cons, List.flatMap_cons] at ih ⊢
    rw [ih]
    rfl
theorem cs_ints (I : Imm) (k : IntKind) (zs : List Int) : Cs I (zs.map fun n => PV.s (.int k n)) (zs.map (Value.int k)) := by
  induction zs with
  | nil => exact .nil
  | cons z zs ih => exact .cons (.s _) ih

theorem row_C {W : World} {x : Addr} {len cap : Nat} {k : IntKind} {zs : List Int} (hl : len ≤ cap) (hz : zs.length = cap) (hcell : ∀ i, i < zs.length → W.cell? (x.add i) = some (.int k (zs.getD i 0))) :
    C (allI W) (.sl false ((zs.take len).map fun n => .s (.int k n))) (.slice (some x) len cap) := by
  by_cases h0 : cap = 0
  · subst h0
    have : len = 0 := by omega
    subst this
    simpa using (C.sle (I := allI W) (a := x))
  · obtain ⟨b, off, rfl, hat⟩ := ints_at hcell (by omega)
    have hb := hat 0 (by omega)
    unfold World.cell? at hb
    cases hw : W.heap[b]? with
    | none => rw [hw] at hb; cases hb
    | some o =>
      cases o with
      | cells cs ty fz =>
        have hI : allI W b = some cs.toList := by simp [allI, hw]
        have hget : ∀ j, j < zs.length → cs.toList[off + j]? = some (.int k (zs.getD j 0)) := fun j hj => by
          have := hat j hj
          simp only [World.cell?, hw] at this
          simpa using this
        have hlen : off + cap ≤ cs.toList.length := by
          have := hget (cap - 1) (by omega)
          have := (List.getElem?_eq_some_iff.1 this).1
          omega
        have htake : (cs.toList.drop off).take len = (zs.take len).map (Value.int k) := by
          apply List.ext_getElem?
          intro j
          by_cases hj : j < len
          · rw [List.getElem?_take_of_lt hj, List.getElem?_drop, hget j (by omega), List.getElem?_map, List.getElem?_take_of_lt hj, List.getElem?_eq_getElem (show j < zs.length by omega)]
            simp [List.getElem?_eq_getElem (show j < zs.length by omega)]
          · rw [List.getElem?_eq_none (by simp; omega), List.getElem?_eq_none (by simp; omega)]
        have hfl : (flat ((zs.take len).map fun n => PV.s (.int k n))).length = len := by
          rw [flat_ints]; simp; omega
        refine C.sl (sz := 1) hI (fun e he => ?_) (by simp; omega) ?_ (by rw [hfl]; omega) hl (fun h => by cases h)
        · obtain ⟨n, _, rfl⟩ := List.mem_map.1 he
          rfl
        · rw [hfl, flat_ints, htake]
          exact cs_ints _ _ _
      | _ => rw [hw] at hb; cases hb

/-- A slice of whole numbers that comes in. -/
theorem row_ints {H : Type} {enc : TypeId × Value → H} {P : Program} {W : World} {base : Nat} {held : Bool} {t e : TypeId} {k : IntKind} {a : Option Addr} {len cap : Nat} {d : DataW H} {ps : List MemPlace}
    (ht : P.underlying t = some (.slice e)) (he : P.underlying e = some (.int k)) (hc : P.cellsOf e = 1) (h : DataW.Trod enc P W base (fun _ => true) held t (.slice a len cap) d ps) :
    ∃ zs : List Int, zs.length = len ∧ (∀ n ∈ zs, (Lit.int k n).wf = true) ∧ C (allI W) (.sl false (zs.map fun n => .s (.int k n))) (.slice a len cap) := by
  obtain ⟨fuel, hf⟩ := h
  rcases open_ints ht he hc hf with ⟨hcs, _⟩ | ⟨x, l, c, zs, hcs, _, hl, hm, hz, _, hcell, hwz⟩
  · simp [Value.cells] at hcs
    obtain ⟨rfl, rfl, rfl⟩ := hcs
    exact ⟨[], rfl, by simp, .sl0⟩
  · simp [Value.cells] at hcs
    obtain ⟨rfl, rfl, rfl⟩ := hcs
    have hz' : zs.length = cap := by simpa using hz
    exact ⟨zs.take len, by simp; omega, fun n hn => hwz n (List.mem_of_mem_take hn), row_C hl hz' hcell⟩

theorem cs_junk (I : Imm) : ∀ (vs : List Value), Cs I (List.replicate vs.length .junk) vs
  | [] => .nil
  | v :: vs => .cons (.junk v) (cs_junk I vs)
theorem flat_junk (n sz : Nat) : flat (List.replicate n (.agg (List.replicate sz .junk))) = List.replicate (n * sz) .junk := by
  induction n with
  | zero => simp [flat]
  | succ n ih =>
    have : flat (List.replicate (n + 1) (PV.agg (List.replicate sz .junk))) = List.replicate sz .junk ++ flat (List.replicate n (PV.agg (List.replicate sz .junk))) := by
      simp [List.replicate_succ, flat, PV.cells]
    rw [this, ih, List.replicate_append_replicate, Nat.add_mul, Nat.one_mul, Nat.add_comm]

/-- A slice of structs that comes in, of which nothing is asked but how many there are. -/
theorem row_any {H : Type} {enc : TypeId × Value → H} {P : Program} {W : World} {base : Nat} {held : Bool} {t e : TypeId} {sz : Nat} {a : Option Addr} {len cap : Nat} {d : DataW H} {ps : List MemPlace}
    (ht : P.underlying t = some (.slice e)) (hc : P.cellsOf e = sz) (hpos : 0 < sz) (h : DataW.Trod enc P W base (fun _ => true) held t (.slice a len cap) d ps) :
    C (allI W) (.sl false (List.replicate len (.agg (List.replicate sz .junk)))) (.slice a len cap) := by
  obtain ⟨fuel, hf⟩ := h
  rcases DataW.trod_slice ht hf with ⟨hcs, _⟩ | ⟨x, l, c, elems, rest, n, _, hcs, _, hb, hl, hm, hlen, hel, hsp, _⟩
  · simp [Value.cells] at hcs
    obtain ⟨rfl, rfl, rfl⟩ := hcs
    exact .sl0
  · simp [Value.cells] at hcs
    obtain ⟨rfl, rfl, rfl⟩ := hcs
    subst hc
    obtain ⟨hr1, hr2⟩ := hsp rfl
    have key : ∀ k, k < cap → ∃ cs, W.cells? base (x.add (k * P.cellsOf e)) (P.cellsOf e) = some cs := fun k hk => by
      by_cases h1 : k < len
      · have := hel k h1
        rw [List.getElem?_eq_getElem (by omega)] at this
        obtain ⟨cs, hcs, _⟩ := Option.bind_eq_some_iff.1 this
        exact ⟨cs, hcs⟩
      · have := hr2 (k - len) (by omega)
        rw [List.getElem?_eq_getElem (by omega), show len + (k - len) = k by omega] at this
        obtain ⟨cs, hcs, _⟩ := Option.bind_eq_some_iff.1 this
        exact ⟨cs, hcs⟩
    by_cases h0 : cap = 0
    · subst h0
      have : len = 0 := by omega
      subst this
      exact C.sle (I := allI W) (a := x)
    · have at_ : ∀ k, k < cap → ∀ j, j < P.cellsOf e → ∃ v, W.cell? (x.add (k * P.cellsOf e + j)) = some v := fun k hk j hj => by
        obtain ⟨cs, hcs⟩ := key k hk
        obtain ⟨_, h1, h2⟩ := World.cells?_some hcs
        have := h2 j hj
        rw [Addr.add_add, List.getElem?_eq_getElem (by omega)] at this
        exact ⟨_, this⟩
      obtain ⟨v0, hv0⟩ := at_ 0 (by omega) 0 hpos
      obtain ⟨b, off, spot⟩ := x
      have hspot : spot = none := by
        have : (⟨b, off, spot⟩ : Addr).add (0 * P.cellsOf e + 0) = ⟨b, off, spot⟩ := by simp [Addr.add]
        rw [this] at hv0
        exact World.cell?_spot hv0
      subst hspot
      have hcell : ∀ k, k < cap → ∀ j, j < P.cellsOf e → ∃ v, W.cell? ⟨b, off + (k * P.cellsOf e + j), none⟩ = some v := fun k hk j hj => by
        obtain ⟨v, hv⟩ := at_ k hk j hj
        rw [Go.WideShapes.add_plain] at hv
        exact ⟨v, hv⟩
      obtain ⟨v1, hv1⟩ := hcell 0 (by omega) 0 hpos
      unfold World.cell? at hv1
      cases hw : W.heap[b]? with
      | none => rw [hw] at hv1; cases hv1
      | some o =>
        cases o with
        | cells cs ty fz =>
          have hI : allI W b = some cs.toList := by simp [allI, hw]
          have hbig : off + cap * P.cellsOf e ≤ cs.toList.length := by
            obtain ⟨v, hv⟩ := hcell (cap - 1) (by omega) (P.cellsOf e - 1) (by omega)
            simp only [World.cell?, hw] at hv
            have := (Array.getElem?_eq_some_iff.1 (by simpa using hv)).1
            have e1 : cap * P.cellsOf e = (cap - 1) * P.cellsOf e + P.cellsOf e := by
              rw [← Nat.succ_mul]
              congr 1
              omega
            rw [Array.length_toList]
            omega
          have hfl : (flat (List.replicate len (PV.agg (List.replicate (P.cellsOf e) .junk)))).length = len * P.cellsOf e := by rw [flat_junk, List.length_replicate]
          have hle : len * P.cellsOf e ≤ cap * P.cellsOf e := Nat.mul_le_mul_right _ hl
          refine C.sl (sz := P.cellsOf e) hI (fun y hy => ?_) (by simp) ?_ (by rw [hfl]; omega) hl (fun h => by cases h)
          · rw [List.eq_of_mem_replicate hy]
            simp [PV.cells]
          · rw [hfl, flat_junk]
            have hlen2 : ((cs.toList.drop off).take (len * P.cellsOf e)).length = len * P.cellsOf e := by
              rw [List.length_take, List.length_drop]
              omega
            have := cs_junk (allI W) ((cs.toList.drop off).take (len * P.cellsOf e))
            rw [hlen2] at this
            exact this
        | _ => rw [hw] at hv1; cases hv1

theorem u8_of {n : Int} (h : (Lit.int .u8 n).wf = true) : 0 ≤ n ∧ n ≤ 255 := by
  simp only [Lit.wf, Bool.and_eq_true, decide_eq_true_eq] at h
  have h1 : IntKind.min .u8 = 0 := by decide
  have h2 : IntKind.max .u8 = 255 := by decide
  rw [h1, h2] at h
  exact h

/-- The row's end: the law says true, and nothing that was there has turned. -/
theorem ok_end {P : Program} {f : FuncId} {args : List PV} {W : World} {vs : List Value} (h : Ok P f args (.s (.bool true))) (hc : Cs (allI W) args vs) :
    Calls P f vs.toArray W fun e w' => e = .returned (.bool true) ∧ Below W.heap.size W w' :=
  (h.2 (allI W) W vs (good_all W) hc).mono fun e w' ⟨v, J, he, hb, _, _, _, hv⟩ => by
    cases hv
    exact ⟨he, hb⟩
end Go.Proofs.Ytadfcbpakfaaaaa.A

/- Arguments of any shape (numbers, truths, slices and structs of these), read: 'shape' of a type, 'FitL' of what is told. -/
set_option linter.unusedVariables false
set_option linter.unusedSimpArgs false
namespace Go.Proofs.Ytadfcbpakfaaaaa.A
open Go Go.RowKit Go.Shelf Go.ChangeShapes Go.WideShapes Go.ChangeAt

/-- What a cell is. -/
inductive CSh where
  | int (k : IntKind)
  | bool
  | str
  | sl (ag : Bool) (els : List CSh)

def offsOk (P : Program) : Nat → List Field → Option Nat
  | o, [] => some o
  | o, f :: fs => if f.offset = o then offsOk P (o + P.cellsOf f.type) fs else none

/-- The cells of a type. -/
def shape (P : Program) : Nat → TypeId → Option (List CSh)
  | 0, _ => none
  | m + 1, t => match P.underlying t with
    | some .bool => some [.bool]
    | some .string => some [.str]
    | some (.int k) => some [.int k]
    | some (.slice e) => (shape P m e).bind fun l => if l.length = P.cellsOf e ∧ 0 < l.length then some [.sl (match P.underlying e with | some (.struct _) => true | some (.array _ _) => true | _ => false) l] else none
    | some (.struct fs) => if offsOk P 0 fs.toList = some (P.cellsOf t) then (fs.toList.mapM fun f => (shape P m f.type).bind fun l => if l.length = P.cellsOf f.type then some l else none).map List.flatten else none
    | _ => none

def packE (ag : Bool) (cs : List PV) : PV := if ag then .agg cs else cs.headD .junk

mutual
def FitC : CSh → PV → Prop
  | .int k, x => ∃ n, x = .s (.int k n) ∧ (Lit.int k n).wf = true
  | .bool, x => ∃ b, x = .s (.bool b)
  | .str, x => ∃ s, x = .s (.string s)
  | .sl ag l, x => ∃ els, x = .sl false els ∧ ∀ e ∈ els, ∃ cs, e = packE ag cs ∧ FitL l cs
def FitL : List CSh → List PV → Prop
  | [], xs => xs = []
  | c :: l, xs => ∃ y ys, xs = y :: ys ∧ FitC c y ∧ FitL l ys
end

theorem FitC.one {c : CSh} {x : PV} (h : FitC c x) : x.one = true := by
  cases c with
  | int k => simp only [FitC] at h; obtain ⟨n, rfl, _⟩ := h; rfl
  | bool => simp only [FitC] at h; obtain ⟨n, rfl⟩ := h; rfl
  | str => simp only [FitC] at h; obtain ⟨n, rfl⟩ := h; rfl
  | sl ag l => simp only [FitC] at h; obtain ⟨n, rfl, _⟩ := h; rfl
theorem FitL.length : ∀ {l : List CSh} {xs : List PV}, FitL l xs → xs.length = l.length
  | [], xs, h => by simp only [FitL] at h; subst h; rfl
  | c :: l, xs, h => by
    simp only [FitL] at h
    obtain ⟨y, ys, rfl, _, h2⟩ := h
    simp [FitL.length h2]
theorem FitL.append : ∀ {l m : List CSh} {xs ys : List PV}, FitL l xs → FitL m ys → FitL (l ++ m) (xs ++ ys)
  | [], m, xs, ys, h, k => by simp only [FitL] at h; subst h; exact k
  | c :: l, m, xs, ys, h, k => by
    simp only [FitL] at h
    obtain ⟨z, zs, rfl, h1, h2⟩ := h
    simp only [List.cons_append, FitL]
    exact ⟨z, _, rfl, h1, FitL.append h2 k⟩
theorem packE_cells {ag : Bool} {l : List CSh} {cs : List PV} (hag : ag = false → l.length = 1) (h : FitL l cs) : (packE ag cs).cells = cs := by
  cases ag with
  | true => rfl
  | false =>
    have h1 := hag rfl
    match l, h1 with
    | [c], _ =>
      simp only [FitL] at h
      obtain ⟨y, ys, rfl, h2, rfl⟩ := h
      have := h2.one
      cases y <;> simp_all [packE, PV.cells, PV.one]

section
variable {H : Type} {enc : TypeId × Value → H} {P : Program} {W : World} {base : Nat} {held : Bool}

theorem struct_fit {n : Nat} {cs : List Value} (m : Nat)
    (ih : ∀ t sh, shape P m t = some sh → ∀ fuel cs y, DataW.trod enc P W base (fun _ => true) held fuel t cs = some y → ∃ xs, FitL sh xs ∧ Cs (allI W) xs cs) :
    ∀ (fs : List Field) (o : Nat) (ls : List (List CSh)) (ys : List (DataW H × List MemPlace)), offsOk P o fs = some cs.length → (fs.mapM fun f => (shape P m f.type).bind fun l => if l.length = P.cellsOf f.type then some l else none) = some ls →
      (∀ (i : Nat) (f : Field), fs[i]? = some f → DataW.trod enc P W base (fun _ => true) held n f.type ((cs.drop f.offset).take (P.cellsOf f.type)) = ys[i]?) → ys.length = fs.length → o ≤ cs.length → ∃ xs, FitL ls.flatten xs ∧ Cs (allI W) xs (cs.drop o)
  | [], o, ls, ys, ho, hl, hf, _, hoc => by
    simp only [offsOk, Option.some.injEq] at ho
    subst ho
    simp at hl
    subst hl
    exact ⟨[], rfl, by rw [List.drop_length]; exact .nil⟩
  | f :: fs, o, ls, ys, ho, hl, hf, hlen, hoc => by
    simp only [offsOk] at ho
    split at ho
    · rename_i hoff
      subst hoff
      simp only [List.mapM_cons, Option.bind_eq_bind, Option.pure_def] at hl
      obtain ⟨l1, h1, h2⟩ := Option.bind_eq_some_iff.1 hl
      obtain ⟨l2, h3, h4⟩ := Option.bind_eq_some_iff.1 h2
      cases h4
      obtain ⟨l1', k1, k2⟩ := Option.bind_eq_some_iff.1 h1
      split at k2
      · rename_i hlen1
        cases k2
        have h0 := hf 0 f rfl
        match ys, hlen with
        | y :: ys, hlen =>
          obtain ⟨xs, g1, g2⟩ := ih _ _ k1 _ _ _ h0
          have hx := g1.length
          have hc := g2.length
          have hmono : ∀ (fs : List Field) (o : Nat) (k : Nat), offsOk P o fs = some k → o ≤ k := by
            intro fs
            induction fs with
            | nil => intro o k h; simp only [offsOk, Option.some.injEq] at h; omega
            | cons f fs ih =>
              intro o k h
              simp only [offsOk] at h
              split at h
              · have := ih _ _ h; omega
              · cases h
          have hle := hmono _ _ _ ho
          obtain ⟨xs2, g3, g4⟩ := struct_fit m ih fs (f.offset + P.cellsOf f.type) l2 ys ho h3 (fun i f' hi => by simpa using hf (i + 1) f' (by simpa using hi)) (by simpa using hlen) hle
          refine ⟨xs ++ xs2, by rw [List.flatten_cons]; exact g1.append g3, ?_⟩
          have e : cs.drop f.offset = (cs.drop f.offset).take (P.cellsOf f.type) ++ cs.drop (f.offset + P.cellsOf f.type) := by
            rw [← List.drop_drop, List.take_append_drop]
          rw [e]
          exact g2.append g4
      · cases k2
    · cases ho

theorem flat_snoc (els : List PV) (e : PV) : flat (els ++ [e]) = flat els ++ e.cells := by simp [flat]

theorem trod_fit : ∀ (m : Nat) (t : TypeId) (sh : List CSh), shape P m t = some sh → ∀ (fuel : Nat) (cs : List Value) (y : DataW H × List MemPlace), DataW.trod enc P W base (fun _ => true) held fuel t cs = some y → ∃ xs, FitL sh xs ∧ Cs (allI W) xs cs
  | 0, t, sh, h, _, _, _, _ => by simp [shape] at h
  | m + 1, t, sh, h, fuel, cs, y, hy => by
    unfold shape at h
    split at h
    · rename_i ht
      cases h
      obtain ⟨b, rfl, _⟩ := DataW.trod_bool ht hy
      exact ⟨[.s (.bool b)], ⟨_, _, rfl, ⟨_, rfl⟩, rfl⟩, .cons (.s _) .nil⟩
    · rename_i ht
      cases h
      obtain ⟨s, rfl, _⟩ := DataW.trod_string ht hy
      exact ⟨[.s (.string s)], ⟨_, _, rfl, ⟨_, rfl⟩, rfl⟩, .cons (.s _) .nil⟩
    · rename_i k ht
      cases h
      obtain ⟨n, rfl, _, hw⟩ := DataW.trod_int ht hy
      exact ⟨[.s (.int k n)], ⟨_, _, rfl, ⟨_, rfl, hw⟩, rfl⟩, .cons (.s _) .nil⟩
    · rename_i e ht
      obtain ⟨l, hl, h2⟩ := Option.bind_eq_some_iff.1 h
      split at h2
      · rename_i hsz
        obtain ⟨hsz, hpos⟩ := hsz
        simp only [Option.some.injEq] at h2
        generalize hag : (match P.underlying e with | some (.struct _) => true | some (.array _ _) => true | _ => false) = ag at h2
        subst h2
        have hone : ag = false → l.length = 1 := by
          intro e1
          subst e1
          cases m with
          | zero => simp [shape] at hl
          | succ m =>
            unfold shape at hl
            split at hl <;> rename_i hu
            · cases hl; rfl
            · cases hl; rfl
            · cases hl; rfl
            · obtain ⟨l', _, h3⟩ := Option.bind_eq_some_iff.1 hl
              split at h3
              · cases h3; rfl
              · cases h3
            · rw [hu] at hag; cases hag
            · cases hl
        rcases DataW.trod_slice ht hy with ⟨rfl, _⟩ | ⟨x, len, cap, elems, rest, n, _, rfl, _, hb, hlc, hm, hlen, hel, hsp, _⟩
        · exact ⟨[.sl false []], ⟨_, _, rfl, ⟨[], rfl, by simp⟩, rfl⟩, .cons .sl0 .nil⟩
        · obtain ⟨hr1, hr2⟩ := hsp rfl
          have key : ∀ k, k < cap → ∃ cs y, W.cells? base (x.add (k * P.cellsOf e)) (P.cellsOf e) = some cs ∧ DataW.trod enc P W base (fun _ => true) held n e cs = some y := fun k hk => by
            by_cases h1 : k < len
            · have := hel k h1
              rw [List.getElem?_eq_getElem (by omega)] at this
              obtain ⟨cs, hcs, h3⟩ := Option.bind_eq_some_iff.1 this
              exact ⟨cs, _, hcs, h3⟩
            · have := hr2 (k - len) (by omega)
              rw [List.getElem?_eq_getElem (by omega), show len + (k - len) = k by omega] at this
              obtain ⟨cs, hcs, h3⟩ := Option.bind_eq_some_iff.1 this
              exact ⟨cs, _, hcs, h3⟩
          by_cases h0 : cap = 0
          · subst h0
            have : len = 0 := by omega
            subst this
            exact ⟨[.sl false []], ⟨_, _, rfl, ⟨[], rfl, by simp⟩, rfl⟩, .cons .sle .nil⟩
          · rw [hsz] at hpos
            have at_ : ∀ k, k < cap → ∀ j, j < P.cellsOf e → ∃ v, W.cell? (x.add (k * P.cellsOf e + j)) = some v := fun k hk j hj => by
              obtain ⟨cs, y, hcs, _⟩ := key k hk
              obtain ⟨_, h1, h2⟩ := World.cells?_some hcs
              have := h2 j hj
              rw [Addr.add_add, List.getElem?_eq_getElem (by omega)] at this
              exact ⟨_, this⟩
            obtain ⟨v0, hv0⟩ := at_ 0 (by omega) 0 hpos
            obtain ⟨b, off, spot⟩ := x
            have hspot : spot = none := by
              have : (⟨b, off, spot⟩ : Addr).add (0 * P.cellsOf e + 0) = ⟨b, off, spot⟩ := by simp [Addr.add]
              rw [this] at hv0
              exact World.cell?_spot hv0
            subst hspot
            have hcell : ∀ k, k < cap → ∃ cs y, DataW.trod enc P W base (fun _ => true) held n e cs = some y ∧ cs.length = P.cellsOf e ∧ ∀ j, j < P.cellsOf e → W.cell? ⟨b, off + (k * P.cellsOf e + j), none⟩ = cs[j]? := fun k hk => by
              obtain ⟨cs, y, hcs, hy⟩ := key k hk
              obtain ⟨_, h1, h2⟩ := World.cells?_some hcs
              refine ⟨cs, y, hy, h1, fun j hj => ?_⟩
              have := h2 j hj
              rw [Addr.add_add, Go.WideShapes.add_plain] at this
              exact this
            have hv1 := hv0
            have e0 : (⟨b, off, none⟩ : Addr).add (0 * P.cellsOf e + 0) = ⟨b, off, none⟩ := by simp [Addr.add]
            rw [e0] at hv1
            unfold World.cell? at hv1
            cases hw : W.heap[b]? with
            | none => rw [hw] at hv1; cases hv1
            | some o =>
              cases o with
              | cells arr ty fz =>
                have hI : allI W b = some arr.toList := by simp [allI, hw]
                have hget : ∀ k, k < cap → ∃ cs y, DataW.trod enc P W base (fun _ => true) held n e cs = some y ∧ cs.length = P.cellsOf e ∧ off + (k + 1) * P.cellsOf e ≤ arr.toList.length ∧ (arr.toList.drop (off + k * P.cellsOf e)).take (P.cellsOf e) = cs := fun k hk => by
                  obtain ⟨cs, y, h1, h2, h3⟩ := hcell k hk
                  have hin : ∀ j, j < P.cellsOf e → arr.toList[off + k * P.cellsOf e + j]? = cs[j]? := fun j hj => by
                    have := h3 j hj
                    simp only [World.cell?, hw] at this
                    rw [Nat.add_assoc]
                    simpa using this
                  have hlast := hin (P.cellsOf e - 1) (by omega)
                  rw [List.getElem?_eq_getElem (show P.cellsOf e - 1 < cs.length by omega)] at hlast
                  have hlt := (List.getElem?_eq_some_iff.1 hlast).1
                  refine ⟨cs, y, h1, h2, by rw [Nat.add_mul]; omega, ?_⟩
                  apply List.ext_getElem?
                  intro j
                  by_cases hj : j < P.cellsOf e
                  · rw [List.getElem?_take_of_lt hj, List.getElem?_drop]
                    exact hin j hj
                  · rw [List.getElem?_eq_none (by simp; omega), List.getElem?_eq_none (by omega)]
                have rows : ∀ k, k ≤ len → ∃ els : List PV, els.length = k ∧ (∀ q ∈ els, ∃ cs, q = packE ag cs ∧ FitL l cs) ∧ (∀ q ∈ els, q.cells.length = P.cellsOf e) ∧ (flat els).length = k * P.cellsOf e ∧ Cs (allI W) (flat els) ((arr.toList.drop off).take (k * P.cellsOf e)) := by
                  intro k
                  induction k with
                  | zero => exact fun _ => ⟨[], rfl, by simp, by simp, by simp [flat], by simp [flat]; exact .nil⟩
                  | succ k ihk =>
                    intro hk
                    obtain ⟨els, q1, q2, q3, q4, q5⟩ := ihk (by omega)
                    obtain ⟨cs, y, h1, h2, h3, h4⟩ := hget k (by omega)
                    obtain ⟨xs, g1, g2⟩ := trod_fit m e l hl n cs y h1
                    have hcx := packE_cells hone g1
                    have hxl := g1.length
                    refine ⟨els ++ [packE ag xs], by simp [q1], ?_, ?_, ?_, ?_⟩
                    · intro q hq
                      rcases List.mem_append.1 hq with hq | hq
                      · exact q2 q hq
                      · rw [List.mem_singleton.1 hq]; exact ⟨xs, rfl, g1⟩
                    · intro q hq
                      rcases List.mem_append.1 hq with hq | hq
                      · exact q3 q hq
                      · rw [List.mem_singleton.1 hq, hcx, hxl, hsz]
                    · rw [flat_snoc, List.length_append, q4, hcx, hxl, hsz, Nat.add_mul, Nat.one_mul]
                    · rw [flat_snoc, hcx, Nat.add_mul, Nat.one_mul, List.take_add, List.drop_drop, h4]
                      exact q5.append g2
                obtain ⟨els, q1, q2, q3, q4, q5⟩ := rows len (Nat.le_refl _)
                refine ⟨[.sl false els], ⟨_, _, rfl, ⟨els, rfl, q2⟩, rfl⟩, .cons (.sl hI q3 q1.symm (by rw [q4]; exact q5) ?_ hlc (fun h => by cases h)) .nil⟩
                rw [q4]
                obtain ⟨_, _, _, _, h3, _⟩ := hget (cap - 1) (by omega)
                have e1 : (cap - 1 + 1) * P.cellsOf e = cap * P.cellsOf e := by rw [Nat.sub_add_cancel (by omega)]
                rw [e1] at h3
                have := Nat.mul_le_mul_right (P.cellsOf e) hlc
                omega
              | _ => rw [hw] at hv1; cases hv1
      · cases h2
    · rename_i fs ht
      split at h
      · rename_i hoffs
        obtain ⟨ls, h1, rfl⟩ := Option.map_eq_some_iff.1 h
        obtain ⟨xs, n, _, _, hl, hlen, hf⟩ := DataW.trod_struct ht hy
        obtain ⟨zs, k1, k2⟩ := struct_fit (n := n) (cs := cs) m (trod_fit m) fs.toList 0 ls xs (by rw [hl]; exact hoffs) h1 (fun i f hi => hf i f (by simpa using hi)) (by simpa using hlen) (Nat.zero_le _)
        exact ⟨zs, k1, by simpa using k2⟩
      · cases h
    · cases h

/-- A struct that comes in. -/
theorem row_agg {t : TypeId} {fs : Array Field} {sh : List CSh} {v : Value} {d : DataW H} {ps : List MemPlace} {r : Reach} {b0 : Nat}
    (m : Nat) (ht : P.underlying t = some (.struct fs)) (hs : shape P m t = some sh) (hv : Value.okWide P W r b0 t v) (h : DataW.Trod enc P W base (fun _ => true) held t v d ps) :
    ∃ xs, FitL sh xs ∧ C (allI W) (.agg xs) v := by
  obtain ⟨fuel, hf⟩ := h
  obtain ⟨xs, h1, h2⟩ := trod_fit m t sh hs _ _ _ hf
  obtain ⟨cs, rfl, _⟩ := okWide_struct ht hv
  exact ⟨xs, h1, .agg (by simpa [Value.cells] using h2)⟩
/-- A slice that comes in. -/
theorem row_slice {t e : TypeId} {c : CSh} {v : Value} {d : DataW H} {ps : List MemPlace} {r : Reach} {b0 : Nat}
    (m : Nat) (ht : P.underlying t = some (.slice e)) (hs : shape P m t = some [c]) (hv : Value.okWide P W r b0 t v) (h : DataW.Trod enc P W base (fun _ => true) held t v d ps) :
    ∃ x, FitC c x ∧ C (allI W) x v := by
  obtain ⟨fuel, hf⟩ := h
  obtain ⟨xs, h1, h2⟩ := trod_fit m t _ hs _ _ _ hf
  obtain ⟨a, len, cap, rfl⟩ := okWide_slice ht hv
  simp only [FitL] at h1
  obtain ⟨y, ys, rfl, h3, rfl⟩ := h1
  simp only [Value.cells] at h2
  cases h2 with
  | cons h4 h5 => exact ⟨y, h3, h4⟩

/-- A list of things that are all of one form. -/
theorem map_of_all {α : Type} {f : α → PV} {p : α → Prop} : ∀ {l : List PV}, (∀ e ∈ l, ∃ a, e = f a ∧ p a) → ∃ us : List α, l = us.map f ∧ ∀ a ∈ us, p a
  | [], _ => ⟨[], rfl, by simp⟩
  | x :: l, h => by
    obtain ⟨a, rfl, ha⟩ := h x (by simp)
    obtain ⟨us, rfl, has⟩ := map_of_all fun e he => h e (List.mem_cons_of_mem _ he)
    refine ⟨a :: us, rfl, ?_⟩
    intro b hb
    rcases List.mem_cons.1 hb with rfl | hb
    · exact ha
    · exact has b hb
theorem FitC.ints {k : IntKind} {x : PV} (h : FitC (.sl false [.int k]) x) : ∃ zs : List Int, x = .sl false (zs.map fun n => .s (.int k n)) ∧ ∀ n ∈ zs, (Lit.int k n).wf = true := by
  simp only [FitC, FitL] at h
  obtain ⟨els, rfl, h⟩ := h
  obtain ⟨zs, rfl, h2⟩ := map_of_all (f := fun n => PV.s (.int k n)) (p := fun n => (Lit.int k n).wf = true) (l := els) (fun e he => by
    obtain ⟨cs, rfl, y, ys, rfl, ⟨n, rfl, hn⟩, rfl⟩ := h e he
    exact ⟨n, rfl, hn⟩)
  exact ⟨zs, rfl, h2⟩
end
end Go.Proofs.Ytadfcbpakfaaaaa.A

