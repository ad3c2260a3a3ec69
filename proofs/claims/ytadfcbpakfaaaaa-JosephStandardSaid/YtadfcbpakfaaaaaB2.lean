/- The operations that only compute, or read: what they tell ('valA'), and that the model tells the same. -/
import Derived.Test.YtadfcbpakfaaaaaB1
import Derived.Laws.StructEq
import Derived.Laws.Cells
import Derived.Laws.CopyRow
import Derived.Great.FillDense
set_option linter.unusedVariables false
set_option linter.unusedSimpArgs false
namespace Go.Proofs.Ytadfcbpakfaaaaa.A
open Go Go.RowKit

/-! ### What is asked of the program's types -/
def tAgg (P : Program) (t : TypeId) : Option Bool := (P.underlying t).map fun | .struct _ | .array _ _ => true | _ => false
def tSize (P : Program) (t : TypeId) : Option Nat := (P.info? t).map (·.size)
def tElem (P : Program) (t : TypeId) : Option TypeId := (P.underlying t).bind fun | .slice e => some e | _ => none
def tField (P : Program) (t : TypeId) (f : Nat) : Option Field := (P.underlying t).bind fun | .struct fs => fs[f]? | _ => none

theorem run_isAgg_of {P : Program} {t : TypeId} {b : Bool} (h : tAgg P t = some b) (w : World) : (isAgg t).run P w = .ok b w := by
  unfold tAgg at h
  obtain ⟨d, hd, hb⟩ := Option.map_eq_some_iff.1 h
  unfold isAgg
  simp only [Sem.run_bind, run_underlying hd, Result.andThen_ok]
  cases d <;> simp_all

theorem run_sizeOf_of {P : Program} {t : TypeId} {n : Nat} (h : tSize P t = some n) (w : World) : (sizeOf t).run P w = .ok n w := by
  unfold tSize at h
  obtain ⟨i, hi, hn⟩ := Option.map_eq_some_iff.1 h
  simp [sizeOf, typeInfo, go_sem, hi, hn]

theorem run_underlying_elem {P : Program} {t e : TypeId} (h : tElem P t = some e) : P.underlying t = some (.slice e) := by
  unfold tElem at h
  cases hu : P.underlying t with
  | none => simp [hu] at h
  | some d => cases d <;> simp_all

theorem tField_of {P : Program} {t : TypeId} {f : Nat} {fd : Field} (h : tField P t f = some fd) : ∃ fs, P.underlying t = some (.struct fs) ∧ fs[f]? = some fd := by
  unfold tField at h
  cases hu : P.underlying t with
  | none => simp [hu] at h
  | some d => cases d <;> simp_all

/-- What is known of an operation's types, beside its text. -/
structure Inf where
  n : Nat := 0
  agg : Bool := false
  off : Nat := 0
  zero : List Value := []
  places : List (Nat × Nat) := []
  ks : List (Option IntKind) := []
  acc : List (Nat × Nat) := []
  t : Nat := 0
  deriving Inhabited

/-! ### Operands -/
def nilSlice : Value := .slice none 0 0

def ev (s : St) : Operand → Option TV
  | .tmp n => s.tm[n]?
  | .const v => some (.v (.s v))
  | .func f => some (.v (.fn (.func f) []))
  | .global _ => none

def tov : TV → Option PV
  | .v x => some x
  | .acc _ els => some (.sl false els)
  | .ptr _ _ => none
  | .own _ _ => none

def tovs : List TV → Option (List PV)
  | [] => some []
  | x :: xs => match tov x, tovs xs with
    | some y, some ys => some (y :: ys)
    | _, _ => none

def pv (s : St) (x : Operand) : Option PV := (ev s x).bind tov

def pvs (s : St) : List Operand → Option (List PV)
  | [] => some []
  | x :: xs => match pv s x, pvs s xs with
    | some y, some ys => some (y :: ys)
    | _, _ => none

/-! ### Numbers -/
def binV : BinOp → Value → Value → Option Value
  | .add, .int k a, .int k' b => if k = k' then some (.int k (k.wrap (a + b))) else none
  | .sub, .int k a, .int k' b => if k = k' then some (.int k (k.wrap (a - b))) else none
  | .mul, .int k a, .int k' b => if k = k' then some (.int k (k.wrap (a * b))) else none
  | .quo, .int k a, .int k' b => if k = k' ∧ b ≠ 0 then some (.int k (k.wrap (a.tdiv b))) else none
  | .rem, .int k a, .int k' b => if k = k' ∧ b ≠ 0 then some (.int k (a.tmod b)) else none
  | .eql, .int k a, .int k' b => if k = k' then some (.bool (a == b)) else none
  | .neq, .int k a, .int k' b => if k = k' then some (.bool (a != b)) else none
  | .lss, .int k a, .int k' b => if k = k' then some (.bool (decide (a < b))) else none
  | .leq, .int k a, .int k' b => if k = k' then some (.bool (decide (a ≤ b))) else none
  | .gtr, .int k a, .int k' b => if k = k' then some (.bool (decide (a > b))) else none
  | .geq, .int k a, .int k' b => if k = k' then some (.bool (decide (a ≥ b))) else none
  | .and, .int k a, .int k' b => if k = k' then some (.int k (k.wrap (BitVec.ofInt k.bits a &&& BitVec.ofInt k.bits b).toNat)) else none
  | .or, .int k a, .int k' b => if k = k' then some (.int k (k.wrap (BitVec.ofInt k.bits a ||| BitVec.ofInt k.bits b).toNat)) else none
  | .xor, .int k a, .int k' b => if k = k' then some (.int k (k.wrap (BitVec.ofInt k.bits a ^^^ BitVec.ofInt k.bits b).toNat)) else none
  | .shl, .int k a, .int _ b => if 0 ≤ b then some (.int k (k.wrap (a * 2 ^ (min b.toNat k.bits)))) else none
  | .shr, .int k a, .int _ b => if 0 ≤ b then some (.int k (a.fdiv (2 ^ (min b.toNat k.bits)))) else none
  | _, _, _ => none

theorem run_binV {P : Program} {op : BinOp} {t : TypeId} {a b r : Value} (h : binV op a b = some r) (w : World) : (binOp op t a b).run P w = .ok r w := by
  unfold binV at h
  split at h <;> first
    | cases h
    | (split at h
       · rename_i hk
         cases h
         first
           | (subst hk; simp [binOp, Op.intArith, Op.intCmp, Op.intBits])
           | (obtain ⟨hk, hb⟩ := hk; subst hk; simp [binOp, Op.intDiv, hb])
           | (have hn : ¬ (_ < (0 : Int)) := Int.not_lt.2 hk; simp [binOp, Op.shift, hn])
       · cases h)

theorem run_eqGuard_num {P : Program} {op : BinOp} {t : TypeId} {x y : Operand} {a b : Value} (ha : ∀ l, a ≠ .agg l) (hn : a ≠ .nilIface) (w : World) : (eqGuard op t x y a b).run P w = .ok () w := by
  cases a <;> first | exact absurd rfl (ha _) | exact absurd rfl hn | (cases op <;> simp [eqGuard])

theorem binV_left {op : BinOp} {a b r : Value} (h : binV op a b = some r) : (∀ l, a ≠ .agg l) ∧ a ≠ .nilIface := by
  unfold binV at h
  split at h <;> first | cases h | exact ⟨by simp, by simp⟩

/-- Are two rows of plain cells the same? -/
def cellsEq : List (Option IntKind) → List PV → List PV → Option Bool
  | [], [], [] => some true
  | some k :: ks, .s (.int k1 a) :: xs, .s (.int k2 b) :: ys => if k1 = k ∧ k2 = k then (cellsEq ks xs ys).map ((a == b) && ·) else none
  | none :: ks, .s (.bool a) :: xs, .s (.bool b) :: ys => (cellsEq ks xs ys).map ((a == b) && ·)
  | _, _, _ => none

/-- The fields of a struct are plain cells, one behind the other. -/
def eqKinds (P : Program) : Nat → List Field → List (Option IntKind) → Bool
  | _, [], [] => true
  | i, f :: fs, k :: ks => f.offset == i && !(f.name == "_") && (match P.underlying f.type, k with | some (.int j), some k => j == k | some .bool, none => true | _, _ => false) && eqKinds P (i + 1) fs ks
  | _, _, _ => false

theorem run_part_cell {P : Program} {t : TypeId} {d : TypeDesc} {cs : Array Value} {i : Nat} {v : Value} (hu : P.underlying t = some d) (hd : (match d with | .struct _ | .array _ _ => true | _ => false) = false) (hv : cs[i]? = some v) (w : World) :
    (part t cs i).run P w = .ok v w := by
  have hA : tAgg P t = some false := by
    unfold tAgg; rw [hu]; cases d <;> simp_all
  unfold part
  simp only [Sem.run_bind, run_isAgg_of hA, Result.andThen_ok, Bool.false_eq_true, if_false, hv]
  rfl

theorem run_eqFields {P : Program} {I : Imm} (d : Nat) (xs ys : Array Value) (w : World) : ∀ (fs : List Field) (ks : List (Option IntKind)) (i : Nat) (l m : List PV) (r : Bool), eqKinds P i fs ks = true →
    Cs I l (xs.toList.drop i) → Cs I m (ys.toList.drop i) → cellsEq ks l m = some r → (Op.eqFields (d + 1) xs ys fs).run P w = .ok r w
  | [], ks, i, l, m, r, hk, hl, hm, he => by
    cases ks with
    | cons k ks => simp [eqKinds] at hk
    | nil =>
      cases l <;> cases m <;> simp [cellsEq] at he
      subst he
      simp [Op.eqFields]
  | f :: fs, ks, i, l, m, r, hk, hl, hm, he => by
    cases ks with
    | nil => simp [eqKinds] at hk
    | cons k ks =>
      simp only [eqKinds, Bool.and_eq_true, beq_iff_eq, Bool.not_eq_true', beq_eq_false_iff_ne, ne_eq] at hk
      obtain ⟨⟨⟨ho, hname⟩, hty⟩, hrest⟩ := hk
      have step : ∀ (a b : Value) (r1 s : Bool), xs[i]? = some a → ys[i]? = some b → (∀ w, (part f.type xs f.offset).run P w = .ok a w) → (∀ w, (part f.type ys f.offset).run P w = .ok b w) →
          (Op.equalIn (d + 1) f.type a b).run P w = .ok r1 w → (Op.eqFields (d + 1) xs ys fs).run P w = .ok s w → (Op.eqFields (d + 1) xs ys (f :: fs)).run P w = .ok (r1 && s) w := by
        intro a b r1 s _ _ ha hb he hs
        rw [Op.eqFields]
        simp only [if_pos hname, Sem.run_bind, ha, hb, he, Result.andThen_ok]
        cases r1
        · simp
        · simpa using hs
      cases l with
      | nil => cases k <;> simp [cellsEq] at he
      | cons x l =>
        cases m with
        | nil => cases k <;> cases x <;> simp [cellsEq] at he
        | cons y m =>
          have hl' := hl.drop 1
          have hm' := hm.drop 1
          simp only [List.drop_succ_cons, List.drop_zero, List.drop_drop] at hl' hm'
          obtain ⟨a, ha, hxa⟩ := hl.get (i := 0) rfl
          obtain ⟨b, hb, hyb⟩ := hm.get (i := 0) rfl
          simp only [List.getElem?_drop, Nat.add_zero, Array.getElem?_toList] at ha hb
          cases k with
          | some k =>
            cases x with
            | s v =>
              cases v with
              | int k1 a' =>
                cases y with
                | s u =>
                  cases u with
                  | int k2 b' =>
                    simp only [cellsEq] at he
                    split at he
                    · rename_i hkk
                      obtain ⟨rfl, rfl⟩ := hkk
                      obtain ⟨s, hs, rfl⟩ := Option.map_eq_some_iff.1 he
                      cases hxa; cases hyb
                      have hu : P.underlying f.type = some (.int k2) := by
                        revert hty; cases hu : P.underlying f.type with
                        | none => simp
                        | some d => cases d <;> simp
                      have := run_eqFields d xs ys w fs ks (i + 1) l m s hrest hl' hm' hs
                      exact step _ _ _ _ ha hb (fun w => by rw [ho]; exact run_part_cell hu rfl ha w) (fun w => by rw [ho]; exact run_part_cell hu rfl hb w) (run_equalIn_int w d f.type k2 k2 a' b' hu) this
                    · cases he
                  | _ => simp [cellsEq] at he
                | _ => simp [cellsEq] at he
              | _ => simp [cellsEq] at he
            | _ => simp [cellsEq] at he
          | none =>
            cases x with
            | s v =>
              cases v with
              | bool a' =>
                cases y with
                | s u =>
                  cases u with
                  | bool b' =>
                    simp only [cellsEq] at he
                    obtain ⟨s, hs, rfl⟩ := Option.map_eq_some_iff.1 he
                    cases hxa; cases hyb
                    have hu : P.underlying f.type = some .bool := by
                      revert hty; cases hu : P.underlying f.type with
                      | none => simp
                      | some d => cases d <;> simp
                    have := run_eqFields d xs ys w fs ks (i + 1) l m s hrest hl' hm' hs
                    exact step _ _ _ _ ha hb (fun w => by rw [ho]; exact run_part_cell hu rfl ha w) (fun w => by rw [ho]; exact run_part_cell hu rfl hb w) (run_equalIn_bool' w d f.type a' b' hu) this
                  | _ => simp [cellsEq] at he
                | _ => simp [cellsEq] at he
              | _ => simp [cellsEq] at he
            | _ => simp [cellsEq] at he

end Go.Proofs.Ytadfcbpakfaaaaa.A

/- Operations that only compute, or read: one law for each. -/
set_option linter.unusedVariables false
set_option linter.unusedSimpArgs false
namespace Go.Proofs.Ytadfcbpakfaaaaa.A
open Go Go.RowKit

section
variable {P : Program} {w0 w : World} {I0 I : Imm} {β : Nat → Nat} {κ : Nat → Nat × Nat × Nat} {s : St} {sav : List (Array Value)} {a : Act}

theorem ev_R (h : Sim w0 I0 I β κ s sav a w) {x : Operand} {t : TV} (he : ev s x = some t) : R I β κ (tkOf s.tk) t (a.eval x) := by
  cases x with
  | tmp n =>
    obtain ⟨v, hv, hr⟩ := h.tm.get (i := n) he
    have : a.tmps[n]? = some v := by simpa using hv
    simp only [Act.eval, Array.getD_eq_getD_getElem?, this, Option.getD_some]
    exact hr
  | const v => simp only [ev, Option.some.injEq] at he; subst he; exact .v (.s v)
  | func f => simp only [ev, Option.some.injEq] at he; subst he; exact .v (.fn .nil)
  | global g => simp [ev] at he

theorem tov_C {t : TV} {v : Value} {x : PV} {tk : Nat → Nat} (h : R I β κ tk t v) (hx : tov t = some x) : C I x v := by
  cases t with
  | v y => simp only [tov, Option.some.injEq] at hx; subst hx; cases h with | v h => exact h
  | ptr => simp [tov] at hx
  | own => simp [tov] at hx
  | acc t els => simp only [tov, Option.some.injEq] at hx; subst hx; exact h.toC

theorem tovs_C {ts : List TV} {vs : List Value} {xs : List PV} {tk : Nat → Nat} (h : Rs I β κ tk ts vs) (hx : tovs ts = some xs) : Cs I xs vs := by
  induction h generalizing xs with
  | nil => simp only [tovs, Option.some.injEq] at hx; subst hx; exact .nil
  | cons h1 _ ih =>
    simp only [tovs] at hx
    split at hx
    · cases hx
      exact .cons (tov_C h1 ‹_›) (ih ‹_›)
    · cases hx

theorem pv_C (h : Sim w0 I0 I β κ s sav a w) {x : Operand} {p : PV} (he : pv s x = some p) : C I p (a.eval x) := by
  obtain ⟨t, h1, h2⟩ := Option.bind_eq_some_iff.1 he
  exact tov_C (ev_R h h1) h2

theorem pvs_C (h : Sim w0 I0 I β κ s sav a w) : ∀ {xs : List Operand} {ps : List PV}, pvs s xs = some ps → Cs I ps (xs.map a.eval)
  | [], ps, he => by simp only [pvs, Option.some.injEq] at he; subst he; exact .nil
  | x :: xs, ps, he => by
    simp only [pvs] at he
    split at he
    · cases he
      exact .cons (pv_C h ‹_›) (pvs_C h ‹_›)
    · cases he

theorem Rs.drop {tk : Nat → Nat} {xs : List TV} {vs : List Value} (h : Rs I β κ tk xs vs) (n : Nat) : Rs I β κ tk (xs.drop n) (vs.drop n) := by
  induction n generalizing xs vs with
  | zero => simpa using h
  | succ n ih => cases h with
    | nil => simp; exact .nil
    | cons hx hs => simpa using ih hs

theorem Rs.take {tk : Nat → Nat} {xs : List TV} {vs : List Value} (h : Rs I β κ tk xs vs) (n : Nat) : Rs I β κ tk (xs.take n) (vs.take n) := by
  induction n generalizing xs vs with
  | zero => simp; exact .nil
  | succ n ih => cases h with
    | nil => simp; exact .nil
    | cons hx hs => simp; exact .cons hx (ih hs)

theorem Rs.append {tk : Nat → Nat} {xs ys : List TV} {vs us : List Value} (h : Rs I β κ tk xs vs) (k : Rs I β κ tk ys us) : Rs I β κ tk (xs ++ ys) (vs ++ us) := by
  induction h with
  | nil => exact k
  | cons hx _ ih => exact .cons hx ih

theorem Rs.of_Cs {tk : Nat → Nat} {xs : List PV} {vs : List Value} (h : Cs I xs vs) : Rs I β κ tk (xs.map .v) vs := by
  induction xs generalizing vs with
  | nil => cases h; exact .nil
  | cons x xs ih => cases h with | cons hx hs => exact .cons (.v hx) (ih hs)

/-! ### Reading n cells -/
/-- The cells of block b from off on. -/
def CellsAt (w : World) (b off : Nat) (vs : List Value) : Prop := ∀ j v, vs[j]? = some v → w.cell? ⟨b, off + j, none⟩ = some v

theorem cellsAt_of {b off : Nat} {vs : List Value} {cs : Array Value} {ty : TypeId} {fz : Nat × Nat} (hw : w.heap[b]? = some (.cells cs ty fz)) (h : ∃ n, vs = (cs.toList.drop off).take n) : CellsAt w b off vs := by
  intro j v hj
  obtain ⟨n, rfl⟩ := h
  rw [List.getElem?_take] at hj
  split at hj
  · rw [List.getElem?_drop, Array.getElem?_toList] at hj
    simp [World.cell?, hw, hj]
  · cases hj

theorem addr_add (b off j : Nat) : (⟨b, off, none⟩ : Addr).add j = ⟨b, off + j, none⟩ := by unfold Addr.add; split <;> simp_all

theorem run_loadVar_at {t : TypeId} {agg : Bool} {n b off : Nat} {vs : List Value} (hA : tAgg P t = some agg) (hS : tSize P t = some n) (hc : CellsAt w b off vs) (hn : vs.length = n) (h1 : agg = false → n = 1) :
    ∃ v, (loadVar t ⟨b, off, none⟩).run P w = .ok v w ∧ (agg = true → v = .agg vs.toArray) ∧ (agg = false → vs = [v]) := by
  cases agg with
  | true =>
    refine ⟨.agg vs.toArray, ?_, fun _ => rfl, (fun h => by cases h)⟩
    unfold loadVar
    simp only [Sem.run_bind, run_isAgg_of hA, Result.andThen_ok, if_true, run_sizeOf_of hS]
    subst hn
    rw [run_loadCells_list w _ vs (fun j v hj => by rw [addr_add]; exact hc j v hj)]
    rfl
  | false =>
    have := h1 rfl
    subst this
    obtain ⟨v, rfl⟩ := List.length_eq_one_iff.1 hn
    refine ⟨v, ?_, (fun h => by cases h), fun _ => rfl⟩
    unfold loadVar
    have h0 := hc 0 v rfl
    simp only [Nat.add_zero] at h0
    simp only [Sem.run_bind, run_isAgg_of hA, Result.andThen_ok, Bool.false_eq_true, if_false, run_load, h0]

/-- What a load tells. -/
def ldC (agg : Bool) (n : Nat) (cs : List PV) : Option TV :=
  if n ≤ cs.length then (if agg then some (.v (.agg (cs.take n))) else (cs[0]?).map .v) else none

def ldT (agg : Bool) (n off : Nat) (cs : List TV) : Option TV :=
  if off + n ≤ cs.length then (if agg then (tovs ((cs.drop off).take n)).map (fun l => .v (.agg l)) else cs[off]?) else none

def ldA (s : St) (agg : Bool) (n : Nat) : TV → Option TV
  | .v (.vp cs) => ldC agg n cs
  | .ptr b off => match lk b s.bx with
    | some cs => ldT agg n off cs
    | none => match lk b s.ro with
      | some cs => if off ≤ cs.length then ldC agg n (cs.drop off) else none
      | none => none
  | _ => none

theorem ldC_sound {t : TypeId} {agg : Bool} {n b off : Nat} {cs : List PV} {arr : List Value} {tv : TV} {tk : Nat → Nat} (hg : Good I w) (hA : tAgg P t = some agg) (hS : tSize P t = some n) (h1 : agg = false → n = 1)
    (hI : I b = some arr) (hc : Cs I cs ((arr.drop off).take cs.length)) (hl : off + cs.length ≤ arr.length) (h : ldC agg n cs = some tv) :
    ∃ v, (loadVar t ⟨b, off, none⟩).run P w = .ok v w ∧ R I β κ tk tv v := by
  unfold ldC at h
  split at h
  · rename_i hn
    obtain ⟨cs0, ty, fz, more, hw, hcs⟩ := hg b arr hI
    have hat : CellsAt w b off ((arr.drop off).take n) := by
      refine cellsAt_of hw ⟨n, ?_⟩
      rw [hcs, List.drop_append_of_le_length (by omega), List.take_append_of_le_length (by simp; omega)]
    have hlen : ((arr.drop off).take n).length = n := by simp; omega
    have hcn : Cs I (cs.take n) ((arr.drop off).take n) := by
      have := hc.take n
      rwa [List.take_take, Nat.min_eq_left hn] at this
    obtain ⟨v, hr, hv1, hv2⟩ := run_loadVar_at hA hS hat hlen h1
    refine ⟨v, hr, ?_⟩
    cases agg with
    | true =>
      simp only [if_true, Option.some.injEq] at h
      subst h
      rw [hv1 rfl]
      exact .v (.agg (by simpa using hcn))
    | false =>
      simp only [Bool.false_eq_true, if_false, Option.map_eq_some_iff] at h
      obtain ⟨x, hx, rfl⟩ := h
      obtain ⟨v', hv', hxv⟩ := hcn.get (i := 0) (x := x) (by rw [List.getElem?_take]; have := h1 rfl; simp [this, hx])
      rw [hv2 rfl] at hv'
      simp at hv'
      subst hv'
      exact .v hxv
  · cases h

theorem ldA_sound (h : Sim w0 I0 I β κ s sav a w) {t : TypeId} {agg : Bool} {n : Nat} {p tv : TV} {x : Operand} (hA : tAgg P t = some agg) (hS : tSize P t = some n) (h1 : agg = false → n = 1) (hp : ev s x = some p) (hl : ldA s agg n p = some tv) :
    ∃ v, (Instr.loadAt t (a.eval x)).run P w = .ok v w ∧ R I β κ (tkOf s.tk) tv v := by
  have hR := ev_R h hp
  unfold ldA at hl
  split at hl
  · rename_i cs
    cases hR with
    | v hC =>
      generalize a.eval x = u at hC
      cases hC with
      | vp hI hc hlen =>
        obtain ⟨v, hr, hv⟩ := ldC_sound h.good hA hS h1 hI hc hlen hl
        exact ⟨v, by simpa [Instr.loadAt, Instr.sureAddr] using hr, hv⟩
  · rename_i b off
    generalize a.eval x = u at hR
    cases hR
    split at hl
    · rename_i cells hb
      obtain ⟨_, _, cs, ty, hw, hcs, _⟩ := h.box b cells hb
      unfold ldT at hl
      split at hl
      · rename_i hn
        have hlen : cells.length = cs.toList.length := hcs.length
        have hat : CellsAt w (β b) off ((cs.toList.drop off).take n) := cellsAt_of hw ⟨n, rfl⟩
        obtain ⟨v, hr, hv1, hv2⟩ := run_loadVar_at hA hS hat (by simp only [List.length_take, List.length_drop]; omega) h1
        refine ⟨v, by simpa [Instr.loadAt, Instr.sureAddr] using hr, ?_⟩
        cases agg with
        | true =>
          simp only [if_true, Option.map_eq_some_iff] at hl
          obtain ⟨l, hl, rfl⟩ := hl
          rw [hv1 rfl]
          exact .v (.agg (by simpa using tovs_C ((hcs.drop off).take n) hl))
        | false =>
          simp only [Bool.false_eq_true, if_false] at hl
          have hn1 := h1 rfl
          obtain ⟨v', hv', hxv⟩ := hcs.get (i := off) hl
          have e := hv2 rfl
          have e2 : ((cs.toList.drop off).take n)[0]? = some v' := by
            rw [List.getElem?_take, List.getElem?_drop]
            simp only [hn1, Nat.zero_lt_one, if_true, Nat.add_zero]
            exact hv'
          rw [e] at e2
          simp at e2
          subst e2
          exact hxv
      · cases hl
    · split at hl
      · rename_i cells hb
        obtain ⟨arr, hI, hc, hlen⟩ := h.rob b cells hb
        have hc' : Cs I (cells.drop off) ((arr.drop off).take (cells.drop off).length) := by
          have := hc.drop off
          rw [List.drop_take] at this
          simpa using this
        split at hl
        · rename_i hoff
          obtain ⟨v, hr, hv⟩ := ldC_sound (β := β) (κ := κ) (tk := tkOf s.tk) h.good hA hS h1 hI hc' (by simp only [List.length_drop]; omega) hl
          exact ⟨v, by simpa [Instr.loadAt, Instr.sureAddr] using hr, hv⟩
        · cases hl
      · cases hl
  · cases hl

end
end Go.Proofs.Ytadfcbpakfaaaaa.A

/- 'valA': what an operation tells that neither makes nor writes memory; and that the model tells the same. -/
set_option linter.unusedVariables false
set_option linter.unusedSimpArgs false
namespace Go.Proofs.Ytadfcbpakfaaaaa.A
open Go Go.RowKit

section
variable {P : Program} {w0 w : World} {I0 I : Imm} {β : Nat → Nat} {κ : Nat → Nat × Nat × Nat} {s : St} {sav : List (Array Value)} {a : Act}

/-! ### Single operations -/
def fieldAddrA (off : Nat) : TV → Option TV
  | .ptr b o => some (.ptr b (o + off))
  | .v (.vp cs) => if off ≤ cs.length then some (.v (.vp (cs.drop off))) else none
  | _ => none

theorem fieldAddr_sound {t : TypeId} {f off : Nat} {fd : Field} {m : Nat} {tk : Nat → Nat} {p tv : TV} {u : Value} (hf : tField P t f = some fd) (ho : fd.offset = off) (hm : tSize P fd.type = some m) (hm0 : m ≠ 0)
    (hp : R I β κ tk p u) (h : fieldAddrA off p = some tv) : ∃ v, (Instr.fieldAt t u f).run P w = .ok v w ∧ R I β κ tk tv v := by
  obtain ⟨fs, hu, hfs⟩ := tField_of hf
  have run : ∀ b o, (Instr.fieldAt t (.pointer (some ⟨b, o, none⟩)) f).run P w = .ok (.pointer (some ⟨b, o + off, none⟩)) w := fun b o => by
    simp [Instr.fieldAt, run_underlying hu, hfs, Instr.sureAddr, fieldPlace, run_sizeOf_of hm, hm0, addr_add, ho]
  unfold fieldAddrA at h
  split at h
  · cases h; cases hp; exact ⟨_, run _ _, .ptr⟩
  · split at h
    · cases h
      cases hp with
      | v hC => cases hC with
        | vp hI hc hl =>
          refine ⟨_, run _ _, .v (.vp hI ?_ (by simp only [List.length_drop]; omega))⟩
          have := hc.drop off
          rw [List.drop_take, List.drop_drop] at this
          simpa [Nat.add_comm] using this
    · cases h
  · cases h

def fieldA (agg : Bool) (n off : Nat) : PV → Option TV
  | .agg l => if agg then (if off + n ≤ l.length then some (.v (.agg ((l.drop off).take n))) else none) else (l[off]?).map .v
  | _ => none

theorem part_sound {t : TypeId} {agg : Bool} {n off : Nat} {l : List PV} {cs : Array Value} {tv : TV} {tk : Nat → Nat} (hA : tAgg P t = some agg) (hS : tSize P t = some n) (hc : Cs I l cs.toList) (h : fieldA agg n off (.agg l) = some tv) :
    ∃ v, (part t cs off).run P w = .ok v w ∧ R I β κ tk tv v := by
  have hlen : l.length = cs.size := by simpa using hc.length
  unfold fieldA at h
  simp only at h
  unfold part
  simp only [Sem.run_bind, run_isAgg_of hA, Result.andThen_ok]
  cases agg with
  | true =>
    simp only [if_true] at h ⊢
    split at h
    · cases h
      simp only [Sem.run_bind, run_sizeOf_of hS, Result.andThen_ok]
      refine ⟨_, rfl, .v (.agg ?_)⟩
      have := (hc.drop off).take n
      simpa [List.take_drop, Nat.add_comm] using this
    · cases h
  | false =>
    simp only [Bool.false_eq_true, if_false] at h ⊢
    obtain ⟨x, hx, rfl⟩ := Option.map_eq_some_iff.1 h
    obtain ⟨v, hv, hxv⟩ := hc.get hx
    rw [Array.getElem?_toList] at hv
    simp only [hv]
    exact ⟨v, rfl, .v hxv⟩

def idxAddrA (n : Nat) : PV → PV → Option TV
  | .sl _ els, .s (.int _ k) => if 0 ≤ k then (match els[k.toNat]? with | some e => if e.cells.length = n then some (.v (.vp e.cells)) else none | none => none) else none
  | _, _ => none

def idxA (n : Nat) : TV → PV → Option TV
  | .v p, q => idxAddrA n p q
  | .acc _ els, q => idxAddrA n (.sl false els) q
  | .own b m, .s (.int _ j) => if 0 ≤ j ∧ j < m ∧ n = 1 then some (.ptr b j.toNat) else none
  | _, _ => none

theorem flat_at {els : List PV} {sz k : Nat} {e : PV} (hu : ∀ x ∈ els, x.cells.length = sz) (hk : els[k]? = some e) : ∃ pre post, flat els = pre ++ e.cells ++ post ∧ pre.length = k * sz := by
  obtain ⟨hlt, he⟩ := List.getElem?_eq_some_iff.1 hk
  refine ⟨flat (els.take k), flat (els.drop (k + 1)), ?_, ?_⟩
  · rw [← he]
    have : els = els.take k ++ els[k] :: els.drop (k + 1) := by simp
    conv => lhs; rw [this]
    simp only [flat, List.flatMap_append, List.flatMap_cons, List.append_assoc]
  · rw [flat_length (fun x hx => hu x (List.mem_of_mem_take hx)), List.length_take, Nat.min_eq_left (by omega)]

theorem idxAddr_sound {t e : TypeId} {n : Nat} {p q : PV} {tv : TV} {u v : Value} {tk : Nat → Nat} (ht : tElem P t = some e) (hn : tSize P e = some n) (hp : C I p u) (hq : C I q v) (h : idxAddrA n p q = some tv) :
    ∃ r, (Instr.indexAt t u v).run P w = .ok r w ∧ R I β κ tk tv r := by
  have hu := run_underlying_elem ht
  unfold idxAddrA at h
  split at h
  · rename_i ex els kk k
    split at h
    · rename_i hk0
      split at h
      · rename_i el hel
        split at h
        · rename_i hsz
          cases h
          cases hq
          have hlt := (List.getElem?_eq_some_iff.1 hel).1
          cases hp with
          | sl0 => simp at hlt
          | sle => simp at hlt
          | @sl _ _ b off m sz cap arr hI huu hm hc hl hcap hex =>
            obtain ⟨pre, post, hfl, hpre⟩ := flat_at huu hel
            have hsz' : sz = n := by rw [← huu el (List.mem_of_getElem? hel), hsz]
            subst hsz'
            refine ⟨.pointer (some ⟨b, off + k.toNat * sz, none⟩), ?_, .v (.vp hI ?_ ?_)⟩
            · have h1 : 0 ≤ k ∧ k < (m : Int) := ⟨hk0, by omega⟩
              simp [Instr.indexAt, asIntOf, run_underlying hu, h1, run_sizeOf_of hn, addr_add]
            · have h1 := (hc.drop (k.toNat * sz)).take el.cells.length
              rw [hfl, ← hpre, List.append_assoc, List.drop_left, List.take_left] at h1
              rw [hpre] at h1
              have e1 : (List.drop (k.toNat * sz) (List.take (pre ++ (el.cells ++ post)).length (List.drop off arr))).take el.cells.length = (List.drop (off + k.toNat * sz) arr).take el.cells.length := by
                rw [List.drop_take, List.drop_drop, List.take_take]
                congr 1
                simp only [List.length_append]
                omega
              rwa [e1] at h1
            · rw [hfl] at hl
              simp only [List.length_append] at hl
              omega
        · cases h
      · cases h
    · cases h
  · cases h

theorem idxA_sound {t e : TypeId} {n : Nat} {p : TV} {q : PV} {tv : TV} {u v : Value} {tk : Nat → Nat} (ht : tElem P t = some e) (hn : tSize P e = some n) (hp : R I β κ tk p u) (hq : C I q v) (h : idxA n p q = some tv) :
    ∃ r, (Instr.indexAt t u v).run P w = .ok r w ∧ R I β κ tk tv r := by
  unfold idxA at h
  split at h
  · cases hp with | v hp => exact idxAddr_sound ht hn hp hq h
  · exact idxAddr_sound ht hn hp.toC hq h
  · rename_i b m kk j
    split at h
    · rename_i hc
      obtain ⟨h0, h1, rfl⟩ := hc
      cases h
      cases hp
      cases hq
      have hu := run_underlying_elem ht
      refine ⟨.pointer (some ⟨β b, j.toNat, none⟩), ?_, .ptr⟩
      have h1' : 0 ≤ j ∧ j < (m : Int) := ⟨h0, h1⟩
      simp [Instr.indexAt, asIntOf, run_underlying hu, h1', run_sizeOf_of hn, addr_add]
    · cases h
  · cases h

def lenA : PV → Option TV
  | .sl _ els => some (.v (.s (.int .i64 els.length)))
  | .s (.slice none 0 0) => some (.v (.s (.int .i64 0)))
  | _ => none

theorem len_sound {t e : TypeId} {p : PV} {u : Value} {tv : TV} {tk : Nat → Nat} (ht : tElem P t = some e) (hp : C I p u) (h : lenA p = some tv) : ∃ r, (Builtin.len_ #[t] 0 #[u]).run P w = .ok r w ∧ R I β κ tk tv r := by
  have hu := run_underlying_elem ht
  unfold lenA at h
  split at h
  · cases h
    cases hp with
    | sl hI huu hm hc hl hcap hex => subst hm; exact ⟨_, by simp [Builtin.len_, run_underlying hu, goInt], .v (.s _)⟩
    | sl0 => exact ⟨_, by simp [Builtin.len_, run_underlying hu, goInt], .v (.s _)⟩
    | sle => exact ⟨_, by simp [Builtin.len_, run_underlying hu, goInt], .v (.s _)⟩
  · cases h
    cases hp
    exact ⟨_, by simp [Builtin.len_, run_underlying hu, goInt], .v (.s _)⟩
  · cases h

/-- Numbers of a row of values. -/
def ints : List PV → Option (List Int)
  | [] => some []
  | .s (.int _ y) :: r => (ints r).map (y :: ·)
  | _ => none

/-- min and max of whole numbers of one kind. -/
def extremeA (mx : Bool) : List PV → Option Value
  | .s (.int k x) :: r => (ints r).map fun ys => .int k (ys.foldl (fun m y => if mx then (if m < y then y else m) else (if y < m then y else m)) x)
  | _ => none

theorem max2_int' (k k' : IntKind) (x y : Int) : Builtin.max2 (.int k x) (.int k' y) = pure (.int k (if x < y then y else x)) := by simp only [Builtin.max2, gt_iff_lt]
theorem min2_int' (k k' : IntKind) (x y : Int) : Builtin.min2 (.int k x) (.int k' y) = pure (.int k (if y < x then y else x)) := by simp only [Builtin.min2]

theorem extreme_fold (mx : Bool) (k : IntKind) : ∀ (l : List PV) (vs : List Value) (x : Int) (ys : List Int), Cs I l vs → ints l = some ys →
    (vs.foldlM (if mx then Builtin.max2 else Builtin.min2) (.int k x)).run P w = .ok (.int k (ys.foldl (fun m y => if mx then (if m < y then y else m) else (if y < m then y else m)) x)) w
  | [], vs, x, ys, hc, h => by
    cases hc
    simp only [ints, Option.some.injEq] at h
    subst h
    rfl
  | y :: l, vs, x, ys, hc, h => by
    unfold ints at h
    split at h
    · rename_i e; cases e
    · rename_i k' y' r e
      cases e
      obtain ⟨ys, hys, rfl⟩ := Option.map_eq_some_iff.1 h
      cases hc with
      | cons h1 h2 =>
        cases h1
        have ih := extreme_fold mx k _ _ (if mx then (if x < y' then y' else x) else (if y' < x then y' else x)) ys h2 hys
        cases mx
        · simpa [min2_int'] using ih
        · simpa [max2_int'] using ih
    · cases h

theorem extreme_sound (mx : Bool) (l : List PV) (vs : List Value) (r : Value) (hc : Cs I l vs) (h : extremeA mx l = some r) (ts : Array TypeId) (t : TypeId) : (if mx then Builtin.max_ ts t vs.toArray else Builtin.min_ ts t vs.toArray).run P w = .ok r w := by
  unfold extremeA at h
  split at h
  · obtain ⟨ys, hys, rfl⟩ := Option.map_eq_some_iff.1 h
    cases hc with
    | cons h1 h2 =>
      cases h1
      rename_i k x _ _
      have := extreme_fold (P := P) (w := w) mx k _ _ x ys h2 hys
      cases mx
      · simpa [Builtin.min_] using this
      · simpa [Builtin.max_] using this
  · cases h

/-- One cell. -/
def PV.cell : PV → Bool
  | .s v => v.oneCell'
  | .sl _ _ => true
  | .vp _ => true
  | .fn _ _ => true
  | .ifc _ _ => true
  | _ => false

/-- Cells alone. -/
def PV.ok (x : PV) : Bool := x.cells.all PV.cell

theorem C.cell {x : PV} {v : Value} (h : C I x v) (hx : x.cell = true) : v.oneCell' = true := by
  cases h <;> first | exact hx | rfl | (simp [PV.cell] at hx)

theorem Cs.cell {xs : List PV} {vs : List Value} (h : Cs I xs vs) (hx : xs.all PV.cell = true) : ∀ v ∈ vs, v.oneCell' = true := by
  induction xs generalizing vs with
  | nil => cases h; simp
  | cons x xs ih =>
    cases h with
    | cons h1 h2 =>
      simp only [List.all_cons, Bool.and_eq_true] at hx
      intro v hv
      rcases List.mem_cons.1 hv with rfl | hv
      · exact h1.cell hx.1
      · exact ih h2 hx.2 v hv

theorem C.okCells {x : PV} {v : Value} (h : C I x v) (hx : x.ok = true) : Cs I x.cells v.cells.toList ∧ ∀ u ∈ v.cells.toList, u.oneCell' = true := by
  have key : Cs I x.cells v.cells.toList := by
    refine h.cells ?_ ?_
    · rintro rfl; simp [PV.ok, PV.cells, PV.cell] at hx
    · intro u hu l e
      subst hu e
      simp [PV.ok, PV.cells, PV.cell, Value.oneCell'] at hx
  exact ⟨key, key.cell hx⟩

/-! ### A struct put together -/
def setR {α : Type} (l : List α) (off : Nat) : List α → List α
  | [] => l
  | x :: xs => setR (l.set off x) (off + 1) xs

def fillA (places : List (Nat × Nat)) (cells : List PV) : List (Nat × PV) → Option (List PV)
  | [] => some cells
  | (i, x) :: rest => match places[i]? with
    | some (off, n) => if x.cells.length = n ∧ off + n ≤ cells.length ∧ x.ok = true then fillA places (setR cells off x.cells) rest else none
    | none => none

theorem setR_length {α : Type} (xs l : List α) (off : Nat) : (setR l off xs).length = l.length := by
  induction xs generalizing l off with
  | nil => rfl
  | cons x xs ih => simp [setR, ih]

theorem setR_Cs {xs l : List PV} {off : Nat} {vs us : List Value} (hl : Cs I l vs) (hx : Cs I xs us) : Cs I (setR l off xs) (setR vs off us) := by
  induction xs generalizing l vs us off with
  | nil => cases hx; exact hl
  | cons x xs ih => cases hx with | cons h1 h2 => exact ih (hl.set off h1) h2

theorem foldl_setR (us : List Value) (off k : Nat) (cells : Array Value) : ((us.zipIdx k).foldl (fun cs (c, j) => cs.setIfInBounds (off + j) c) cells).toList = setR cells.toList (off + k) us := by
  induction us generalizing k cells with
  | nil => rfl
  | cons u us ih =>
    simp only [List.zipIdx_cons, List.foldl_cons, setR]
    rw [ih, Array.toList_setIfInBounds]
    rfl

theorem fill_sound {places : List (Nat × Nat)} {parts : List (Nat × PV)} {us : List (Nat × Value)} {cells : List PV} {cs : Array Value} {l : List PV} (hc : Cs I cells cs.toList) (hi : parts.map (·.1) = us.map (·.1))
    (hp : Cs I (parts.map (·.2)) (us.map (·.2))) (h : fillA places cells parts = some l) : ∃ r, Instr.fill (fun i => places[i]?) cs us = some r ∧ Cs I l r.toList := by
  induction parts generalizing us cells cs with
  | nil =>
    cases us with
    | nil => simp only [fillA, Option.some.injEq] at h; subst h; exact ⟨cs, rfl, hc⟩
    | cons => simp at hi
  | cons p parts ih =>
    obtain ⟨i, x⟩ := p
    cases us with
    | nil => simp at hi
    | cons q us =>
      obtain ⟨j, v⟩ := q
      simp only [List.map_cons, List.cons.injEq] at hi hp
      obtain ⟨rfl, hi⟩ := hi
      cases hp with
      | cons hxv hp =>
        simp only [fillA] at h
        split at h
        · rename_i off n hpl
          split at h
          · rename_i hcond
            obtain ⟨hn, hle, hm⟩ := hcond
            have hcells := (hxv.okCells hm).1
            have hsz : v.cells.size = n := by have := hcells.length; rw [hn] at this; simpa using this.symm
            have hlen : cells.length = cs.size := by simpa using hc.length
            have hnot : ¬ (v.cells.size ≠ n ∨ off + v.cells.size > cs.size) := by omega
            obtain ⟨r, hr, hl⟩ := ih (cs := v.cells.zipIdx.foldl (fun cs (c, j) => cs.setIfInBounds (off + j) c) cs)
              (by
                have := foldl_setR v.cells.toList off 0 cs
                rw [← Array.foldl_toList, Array.toList_zipIdx, this]
                exact setR_Cs hc hcells) hi hp h
            refine ⟨r, ?_, hl⟩
            simp only [Instr.fill, hpl]
            have hb : (decide (v.cells.size ≠ n) || decide (off + v.cells.size > cs.size)) = false := by simp; omega
            simp only [hb, Bool.false_eq_true, if_false]
            exact hr
          · cases h
        · cases h

end
end Go.Proofs.Ytadfcbpakfaaaaa.A

/- Slicing, closures, structs put together; 'valA' and its law. -/
set_option linter.unusedVariables false
set_option linter.unusedSimpArgs false
namespace Go.Proofs.Ytadfcbpakfaaaaa.A
open Go Go.RowKit

section
variable {P : Program} {w0 w : World} {I0 I : Imm} {β : Nat → Nat} {κ : Nat → Nat × Nat × Nat} {s : St} {sav : List (Array Value)} {a : Act}

/-- A bound of a slice expression: none is written; it is a number. -/
def bndA : Option (Option PV) → Option (Option Nat)
  | none => some none
  | some (some (.s (.int _ k))) => if 0 ≤ k then some (some k.toNat) else none
  | some _ => none

/-- Is it known that a slice ends where its block does? -/
def exA (mx : Option Nat) (ex : Bool) (h len : Nat) : Bool := match mx with | some m => decide (m = h) | none => ex && decide (h = len)

def sliceA (n : Nat) (els : List PV) (ex : Bool) (lo hi mx : Option Nat) : Option PV :=
  let h := hi.getD els.length
  let l := lo.getD 0
  if l ≤ h ∧ h ≤ els.length ∧ (∀ m ∈ mx, h ≤ m ∧ m ≤ els.length ∧ hi.isSome) ∧ els.all (fun e => e.cells.length == n) then
    some (.sl (exA mx ex h els.length) ((els.take h).drop l))
  else none

theorem run_sliceBound {x : Value} {k : IntKind} {i : Int} {y : Nat} {code : BoundsCode} (hx : x = .int k i) (h0 : 0 ≤ i) (h : i.toNat ≤ y) : (Instr.sliceBound x y code).run P w = .ok i.toNat w := by
  subst hx
  have : 0 ≤ i ∧ i ≤ (y : Int) := ⟨h0, by omega⟩
  simp [Instr.sliceBound, asIntOf, this]

/-- A bound as the model has it. -/
inductive Bnd : Option Nat → Option Value → Prop
  | none : Bnd none none
  | some {k : IntKind} {i : Int} : 0 ≤ i → Bnd (some i.toNat) (some (.int k i))

theorem bnd_of {x : Option Operand} {r : Option Nat} {f : Operand → Option PV} (h : bndA (x.map f) = some r) (hf : ∀ y p, f y = some p → C I p (a.eval y)) : Bnd r (x.map a.eval) := by
  cases x with
  | none => simp only [Option.map_none, bndA, Option.some.injEq] at h; subst h; exact .none
  | some y =>
    simp only [Option.map_some] at h ⊢
    cases hy : f y with
    | none => rw [hy] at h; simp [bndA] at h
    | some p =>
      rw [hy] at h
      cases p with
      | s v =>
        cases v with
        | int k i =>
          simp only [bndA] at h
          split at h
          · cases h
            have := hf y _ hy
            generalize a.eval y = u at this
            cases this
            exact .some ‹_›
          · cases h
        | _ => simp [bndA] at h
      | _ => simp [bndA] at h

theorem slice_sound {t e : TypeId} {n : Nat} {els : List PV} {ex : Bool} {lo hi mx : Option Nat} {vlo vhi vmx : Option Value} {u : Value} {r : PV} (ht : tElem P t = some e) (hn : tSize P e = some n) (hp : C I (.sl ex els) u)
    (blo : Bnd lo vlo) (bhi : Bnd hi vhi) (bmx : Bnd mx vmx) (h : sliceA n els ex lo hi mx = some r) : ∃ v, (Instr.sliceAt t u vlo vhi vmx).run P w = .ok v w ∧ C I r v := by
  have hu := run_underlying_elem ht
  unfold sliceA at h
  simp only at h
  split at h
  · rename_i hc
    obtain ⟨h1, h2, h3, h4⟩ := hc
    cases h
    obtain ⟨base, cap, hu', hcap, hnil⟩ : ∃ base cap, u = .slice base els.length cap ∧ els.length ≤ cap ∧ (base = none → els = [] ∧ cap = 0) := by
      cases hp with
      | sl0 => exact ⟨none, 0, rfl, by simp, fun _ => ⟨rfl, rfl⟩⟩
      | sle => exact ⟨some _, 0, rfl, by simp, fun h => by cases h⟩
      | sl _ _ hm _ _ hcap _ => subst hm; exact ⟨_, _, rfl, hcap, fun h => by cases h⟩
    have hb : ∃ m, (Instr.sliceBounds true els.length cap vlo vhi vmx).run P w = .ok (lo.getD 0, hi.getD els.length, m) w ∧ hi.getD els.length ≤ m ∧ m ≤ cap ∧ (∀ k, mx = some k → m = k) ∧ (mx = none → m = cap) := by
      cases bmx with
      | none =>
        refine ⟨cap, ?_, by omega, by omega, (fun k hk => by cases hk), fun _ => rfl⟩
        cases bhi with
        | none =>
          cases blo with
          | none => simp [Instr.sliceBounds]
          | some h0 => simp only [Option.getD_some, Option.getD_none] at h1 h2 ⊢; simp [Instr.sliceBounds, run_sliceBound rfl h0 h1]
        | some h0' =>
          cases blo with
          | none => simp only [Option.getD_some, Option.getD_none] at h1 h2 ⊢; simp [Instr.sliceBounds, run_sliceBound rfl h0' (Nat.le_trans h2 hcap)]
          | some h0 => simp only [Option.getD_some] at h1 h2 ⊢; simp [Instr.sliceBounds, run_sliceBound rfl h0' (Nat.le_trans h2 hcap), run_sliceBound rfl h0 h1]
      | @some k i hm0 =>
        obtain ⟨g1, g2, g3⟩ := h3 _ rfl
        refine ⟨i.toNat, ?_, g1, by omega, (fun k hk => by cases hk; rfl), (fun hk => by cases hk)⟩
        cases bhi with
        | none => simp at g3
        | some h0' =>
          cases blo with
          | none => simp only [Option.getD_some, Option.getD_none] at h1 h2 g1 ⊢; simp [Instr.sliceBounds, run_sliceBound rfl hm0 (Nat.le_trans g2 hcap), run_sliceBound rfl h0' g1]
          | some h0 => simp only [Option.getD_some] at h1 h2 g1 ⊢; simp [Instr.sliceBounds, run_sliceBound rfl hm0 (Nat.le_trans g2 hcap), run_sliceBound rfl h0' g1, run_sliceBound rfl h0 h1]
    obtain ⟨m, hb, hm1, hm2, hm3, hm4⟩ := hb
    generalize hl : lo.getD 0 = l at *
    generalize hh : hi.getD els.length = hh' at *
    refine ⟨.slice (if m = l then base else base.map (·.add (l * n))) (hh' - l) (m - l), ?_, ?_⟩
    · subst hu'
      simp [Instr.sliceAt, Instr.slice, run_underlying hu, hb, run_sizeOf_of hn]
    · have hlen : ((els.take hh').drop l).length = hh' - l := by simp only [List.length_drop, List.length_take]; omega
      have hex : exA mx ex hh' els.length = true → (ex = true → cap = els.length) → m = hh' := by
        intro hb1 hexc
        unfold exA at hb1
        split at hb1
        · have := hm3 _ rfl; simp at hb1; omega
        · have := hm4 rfl; simp at hb1; have := hexc hb1.1; omega
      cases base with
      | none =>
        obtain ⟨he, hc0⟩ := hnil rfl
        subst he
        have e1 : hh' = 0 := by simpa using h2
        subst e1
        have e2 : l = 0 := by omega
        subst e2
        have e3 : m = 0 := by omega
        subst e3
        simpa using (C.sl0 (I := I))
      | some a0 =>
        subst hu'
        cases hp with
        | sle =>
          have e1 : hh' = 0 := by simpa using h2
          subst e1
          have e2 : l = 0 := by omega
          subst e2
          have e3 : m = 0 := by omega
          subst e3
          simpa using (C.sle (I := I) (a := a0))
        | @sl _ _ b off k sz _ arr hI huu hm hc hl' hcap' hexc =>
          have hall : ∀ x ∈ els, x.cells.length = n := by simpa [List.all_eq_true] using h4
          have hsub : ∀ x ∈ (els.take hh').drop l, x.cells.length = n := fun x hx => hall x (List.mem_of_mem_take (List.mem_of_mem_drop hx))
          have hfl := flat_length hall
          have hsplit : flat els = flat (els.take l) ++ flat ((els.take hh').drop l) ++ flat (els.drop hh') := by
            have e1 : els = els.take hh' ++ els.drop hh' := (List.take_append_drop _ _).symm
            have e2 : els.take hh' = (els.take hh').take l ++ (els.take hh').drop l := (List.take_append_drop _ _).symm
            rw [List.take_take, Nat.min_eq_left h1] at e2
            conv => lhs; rw [e1, e2]
            rw [flat_append, flat_append]
          have hpre : (flat (els.take l)).length = l * n := by
            rw [flat_length (fun x hx => hall x (List.mem_of_mem_take hx)), List.length_take, Nat.min_eq_left (by omega)]
          have hmid := flat_length hsub
          rw [hlen] at hmid
          generalize (els.take hh').drop l = X at hsub hlen hsplit hmid ⊢
          have hcm : Cs I (flat X) ((arr.drop (off + l * n)).take (flat X).length) := by
            have k1 := (hc.drop (l * n)).take (flat X).length
            rw [hsplit, ← hpre, List.append_assoc, List.drop_left, List.take_left] at k1
            rw [hpre] at k1
            have e1 : (List.drop (l * n) (List.take (flat (els.take l) ++ (flat X ++ flat (els.drop hh'))).length (List.drop off arr))).take (flat X).length
                = (List.drop (off + l * n) arr).take (flat X).length := by
              rw [List.drop_take, List.drop_drop, List.take_take]
              congr 1
              simp only [List.length_append]
              omega
            rwa [e1] at k1
          have hbnd : off + l * n + (flat X).length ≤ arr.length := by
            rw [hsplit] at hl'
            simp only [List.length_append] at hl'
            omega
          by_cases hml : m = l
          · rw [if_pos hml]
            have e0 : X = [] := List.eq_nil_of_length_eq_zero (by omega)
            have ef : flat ([] : List PV) = [] := rfl
            rw [e0]
            refine .sl (sz := n) hI (by simp) (by simp; omega) (by rw [ef]; simpa using Cs.nil) (by rw [ef]; simp; omega) (by omega) (fun hx => by have := hex hx hexc; omega)
          · rw [if_neg hml]
            simp only [Option.map_some, addr_add]
            exact .sl hI hsub hlen.symm hcm hbnd (by omega) (fun hx => by have := hex hx hexc; omega)
  · cases h

/-- What a closure takes in: the variables of the call's own that are not written again. -/
def capA (s : St) : TV → Option PV
  | .v x => some x
  | .ptr b off => match lk b s.ro with
    | some cs => if off ≤ cs.length then some (.vp (cs.drop off)) else none
    | none => none
  | .acc _ _ => none
  | .own _ _ => none

def capsA (s : St) : List Operand → Option (List PV)
  | [] => some []
  | x :: xs => match (ev s x).bind (capA s), capsA s xs with
    | some y, some ys => some (y :: ys)
    | _, _ => none

theorem cap_C (h : Sim w0 I0 I β κ s sav a w) {x : Operand} {p : PV} (he : (ev s x).bind (capA s) = some p) : C I p (a.eval x) := by
  obtain ⟨t, h1, h2⟩ := Option.bind_eq_some_iff.1 he
  have hR := ev_R h h1
  cases t with
  | v y => simp only [capA, Option.some.injEq] at h2; subst h2; cases hR with | v hR => exact hR
  | own => simp [capA] at h2
  | ptr b off =>
    simp only [capA] at h2
    split at h2
    · rename_i cells hb
      split at h2
      · rename_i hoff
        cases h2
        obtain ⟨arr, hI, hc, hlen⟩ := h.rob b cells hb
        generalize a.eval x = u at hR
        cases hR
        have hc' := hc.drop off
        rw [List.drop_take] at hc'
        exact .vp hI (by simpa using hc') (by simp only [List.length_drop]; omega)
      · cases h2
    · cases h2
  | acc => simp [capA] at h2

theorem caps_C (h : Sim w0 I0 I β κ s sav a w) : ∀ {xs : List Operand} {ps : List PV}, capsA s xs = some ps → Cs I ps (xs.map a.eval)
  | [], ps, he => by simp only [capsA, Option.some.injEq] at he; subst he; exact .nil
  | x :: xs, ps, he => by
    simp only [capsA] at he
    split at he
    · cases he
      exact .cons (cap_C h ‹_›) (caps_C h ‹_›)
    · cases he

end
end Go.Proofs.Ytadfcbpakfaaaaa.A

/- 'valA': what an operation tells that neither makes nor writes memory; 'infOk': what must be so of its types; the law. -/
set_option linter.unusedVariables false
set_option linter.unusedSimpArgs false
namespace Go.Proofs.Ytadfcbpakfaaaaa.A
open Go Go.RowKit

def bl (b : Bool) : TV := .v (.s (.bool b))

/-- Equality beyond numbers: 1: bools; 2: structs of plain cells; 3: slices and nil; 4: functions and nil. -/
def eqA (i : Inf) : TV → TV → Option Bool
  | .v (.s (.bool a)), .v (.s (.bool b)) => if i.n = 1 then some (a == b) else none
  | .v (.agg x), .v (.agg y) => if i.n = 2 then cellsEq i.ks x y else none
  | .acc _ els, .v (.s (.slice none 0 0)) => if i.n = 3 then some els.isEmpty else none
  | .v (.sl _ els), .v (.s (.slice none 0 0)) => if i.n = 3 ∧ els.isEmpty = false then some false else none
  | .v (.s (.slice none 0 0)), .v (.s (.slice none 0 0)) => if i.n = 3 then some true else none
  | .v (.fn _ _), .v (.s .nilFunc) => if i.n = 4 then some false else none
  | .v (.s .nilFunc), .v (.s .nilFunc) => if i.n = 4 then some true else none
  | _, _ => none

def num2 (op : BinOp) : TV → TV → Option Value
  | .v (.s x), .v (.s y) => binV op x y
  | _, _ => none

def binA (op : BinOp) (i : Inf) (x y : TV) : Option TV :=
  match num2 op x y with
  | some r => some (.v (.s r))
  | none => match op with
    | .eql => (eqA i x y).map bl
    | .neq => (eqA i x y).map fun b => bl (!b)
    | _ => none

def unA : UnOp → PV → Option TV
  | .not, .s (.bool b) => some (bl (!b))
  | .neg, .s (.int k n) => some (.v (.s (.int k (k.wrap (0 - n)))))
  | .xor, .s (.int k n) => some (.v (.s (.int k (k.wrap (BitVec.ofInt k.bits (if k.signed then -1 else k.max) ^^^ BitVec.ofInt k.bits n).toNat))))
  | _, _ => none

def valA (s : St) (op : Op) (i : Inf) : Option TV :=
  match op with
  | .move x => ev s x
  | .assign x => ev s x
  | .pick c x y => match pv s c with
    | some (.s (.bool t)) => if t then ev s x else ev s y
    | _ => none
  | .load _ x => (ev s x).bind (ldA s i.agg i.n)
  | .fieldAddr _ x _ => (ev s x).bind (fieldAddrA i.off)
  | .field _ x _ => (pv s x).bind (fieldA i.agg i.n i.off)
  | .indexAddr _ x k => match ev s x, pv s k with
    | some p, some q => idxA i.n p q
    | _, _ => none
  | .index _ x k => match pv s x, pv s k with
    | some p, some (.s (.int _ j)) => if 0 ≤ j ∧ j < i.t then fieldA i.agg i.n (j.toNat * i.n) p else none
    | _, _ => none
  | .binOp op _ x y _ => match ev s x, ev s y with
    | some p, some q => binA op i p q
    | _, _ => none
  | .unOp op _ x => (pv s x).bind (unA op)
  | .makeInterface t x => (pv s x).map fun p => .v (.ifc t p)
  | .extract x k => match pv s x with
    | some (.tup l) => (l[k]?).map .v
    | _ => none
  | .makeFunc fn first caps => if first.toList.isEmpty then (capsA s caps.toList).map fun l => .v (.fn fn l) else none
  | .build _ parts => match pvs s (parts.toList.map (·.2)) with
    | some ps => (fillA i.places (i.zero.map .s) ((parts.toList.map (·.1)).zip ps)).map fun l => .v (.agg l)
    | none => none
  | .slice _ x lo hi mx => match pv s x, bndA (lo.map (pv s)), bndA (hi.map (pv s)), bndA (mx.map (pv s)) with
    | some (.sl ex els), some l, some h, some m => (sliceA i.n els ex l h m).map .v
    | _, _, _, _ => none
  | .convert _ _ x => match pv s x, i.ks with
    | some (.s (.int _ n)), [some k] => some (.v (.s (.int k (k.wrap n))))
    | _, _ => none
  | .call c => match c.callee, c.args.toList with
    | .builtin .len, [x] => (pv s x).bind lenA
    | .builtin .max, l => ((pvs s l).bind (extremeA true)).map fun r => .v (.s r)
    | .builtin .min, l => ((pvs s l).bind (extremeA false)).map fun r => .v (.s r)
    | _, _ => none
  | _ => none

/-- Plain constants. -/
def constEq : Value → Value → Bool
  | .int k a, .int k' b => k == k' && a == b
  | .bool a, .bool b => a == b
  | .slice none 0 0, .slice none 0 0 => true
  | .nilFunc, .nilFunc => true
  | .pointer none, .pointer none => true
  | .nilIface, .nilIface => true
  | .string a, .string b => a.data.size == 0 && b.data.size == 0
  | _, _ => false

theorem constEq_eq {a b : Value} (h : constEq a b = true) : a = b := by
  unfold constEq at h
  split at h
  · simp only [Bool.and_eq_true, beq_iff_eq] at h; rw [h.1, h.2]
  · simp only [beq_iff_eq] at h; rw [h]
  · rfl
  · rfl
  · rfl
  · rfl
  · simp only [Bool.and_eq_true, beq_iff_eq] at h
    rename_i a b
    obtain ⟨a⟩ := a
    obtain ⟨b⟩ := b
    have h1 := Array.eq_empty_of_size_eq_zero h.1
    have h2 := Array.eq_empty_of_size_eq_zero h.2
    simp only at h1 h2
    rw [h1, h2]
  · cases h

def constsEq : List Value → List Value → Bool
  | [], [] => true
  | a :: l, b :: m => constEq a b && constsEq l m
  | _, _ => false

theorem constsEq_eq : ∀ {l m : List Value}, constsEq l m = true → l = m
  | [], [], _ => rfl
  | a :: l, b :: m, h => by simp only [constsEq, Bool.and_eq_true] at h; rw [constEq_eq h.1, constsEq_eq h.2]
  | [], _ :: _, h => by simp [constsEq] at h
  | _ :: _, [], h => by simp [constsEq] at h

def tZero (P : Program) (t : TypeId) : Option Value := (P.info? t).bind (·.zero)

theorem run_zero_of {P : Program} {t : TypeId} {v : Value} (h : tZero P t = some v) (w : World) : (zeroValue t).run P w = .ok v w := by
  unfold tZero at h
  obtain ⟨i, hi, hz⟩ := Option.bind_eq_some_iff.1 h
  simp [zeroValue, typeInfo, hi, hz]

/-- Do the places fit the fields? -/
def placesOk (P : Program) : List Field → List (Nat × Nat) → Bool
  | [], [] => true
  | f :: fs, p :: ps => p.1 == f.offset && tSize P f.type == some p.2 && placesOk P fs ps
  | _, _ => false

def infOk (P : Program) (op : Op) (i : Inf) : Bool :=
  match op with
  | .load t _ => tAgg P t == some i.agg && tSize P t == some i.n && (i.agg || i.n == 1)
  | .fieldAddr t _ f => match tField P t f with
    | some fd => fd.offset == i.off && (match tSize P fd.type with | some n => n != 0 | none => false)
    | none => false
  | .field t _ f => match tField P t f with
    | some fd => fd.offset == i.off && tAgg P fd.type == some i.agg && tSize P fd.type == some i.n
    | none => false
  | .indexAddr t _ _ => match tElem P t with
    | some e => tSize P e == some i.n
    | none => false
  | .index t _ _ => match P.underlying t with
    | some (.array len e) => len == i.t && tAgg P e == some i.agg && tSize P e == some i.n
    | _ => false
  | .binOp op t _ _ _ => match op with
    | .eql | .neq => match P.underlying t with
      | some .bool => i.n == 1
      | some (.struct fs) => i.n == 2 && eqKinds P 0 fs.toList i.ks && !P.stoodInHeld t && !P.eqGuardType P.depth t
      | some (.slice _) => i.n == 3
      | some (.func _ _ _) => i.n == 4
      | some (.int _) => i.n == 0
      | _ => false
    | _ => true
  | .makeInterface t _ => match P.underlying t with
    | some (.interface _) => false
    | some _ => true
    | none => false
  | .build t _ => match P.underlying t, tZero P t with
    | some (.struct fs), some (.agg z) => placesOk P fs.toList i.places && constsEq z.toList i.zero
    | some (.array len e), some (.agg z) => (match tSize P e with
      | some n => i.places == (List.range len).map (fun j => (j * n, n)) && constsEq z.toList i.zero
      | none => false)
    | _, _ => false
  | .slice t _ _ _ _ => match tElem P t with
    | some e => tSize P e == some i.n
    | none => false
  | .convert src dst _ => match P.underlying src, P.underlying dst, i.ks with
    | some (.int _), some (.int k), [some k'] => k == k'
    | _, _, _ => false
  | .call c => match c.callee, c.argTypes.toList with
    | .builtin .len, [t] => (tElem P t).isSome
    | .builtin .len, _ => false
    | _, _ => true
  | _ => true

end Go.Proofs.Ytadfcbpakfaaaaa.A

/- What 'valA' tells, the model tells. -/
set_option linter.unusedVariables false
set_option linter.unusedSimpArgs false
namespace Go.Proofs.Ytadfcbpakfaaaaa.A
open Go Go.RowKit

section
variable {P : Program} {w0 w : World} {I0 I : Imm} {β : Nat → Nat} {κ : Nat → Nat × Nat × Nat} {s : St} {sav : List (Array Value)} {a : Act} {tk : Nat → Nat}

theorem R.inv {x : PV} {u : Value} (h : R I β κ tk (.v x) u) : C I x u := by cases h with | v h => exact h
theorem C.inv_s {v u : Value} (h : C I (.s v) u) : u = v := by cases h; rfl
theorem C.inv_agg {l : List PV} {u : Value} (h : C I (.agg l) u) : ∃ arr, u = .agg arr ∧ Cs I l arr.toList := by cases h with | agg h => exact ⟨_, rfl, h⟩
theorem C.inv_fn {f : Fn} {l : List PV} {u : Value} (h : C I (.fn f l) u) : ∃ arr, u = .func f #[] arr ∧ Cs I l arr.toList := by cases h with | fn h => exact ⟨_, rfl, h⟩

theorem eqIn_slice_nil (d : Nat) {t e : TypeId} (h : P.underlying t = some (.slice e)) (x : Addr) (n c n' c' : Nat) (w : World) : (Op.equalIn (d + 1) t (.slice (some x) n c) (.slice none n' c')).run P w = .ok false w := by
  simp only [Op.equalIn, Sem.run_bind, run_underlying h, Result.andThen_ok]; rfl
theorem eqIn_nil_slice (d : Nat) {t e : TypeId} (h : P.underlying t = some (.slice e)) (x : Option Addr) (n c n' c' : Nat) (w : World) : (Op.equalIn (d + 1) t (.slice none n c) (.slice x n' c')).run P w = .ok x.isNone w := by
  simp only [Op.equalIn, Sem.run_bind, run_underlying h, Result.andThen_ok]; rfl
theorem eqIn_func_nil (d : Nat) {t : TypeId} {p q : Array TypeId} {vr : Bool} (h : P.underlying t = some (.func p q vr)) (f : Fn) (x y : Array Value) (w : World) : (Op.equalIn (d + 1) t (.func f x y) .nilFunc).run P w = .ok false w := by
  simp only [Op.equalIn, Sem.run_bind, run_underlying h, Result.andThen_ok]; rfl
theorem eqIn_nil_nil (d : Nat) {t : TypeId} {p q : Array TypeId} {vr : Bool} (h : P.underlying t = some (.func p q vr)) (w : World) : (Op.equalIn (d + 1) t .nilFunc .nilFunc).run P w = .ok true w := by
  simp only [Op.equalIn, Sem.run_bind, run_underlying h, Result.andThen_ok]; rfl

/-- What the types of an equality are. -/
def eqTy (P : Program) (t : TypeId) (i : Inf) : Bool :=
  match P.underlying t with
  | some .bool => i.n == 1
  | some (.struct fs) => i.n == 2 && eqKinds P 0 fs.toList i.ks && !P.stoodInHeld t && !P.eqGuardType P.depth t
  | some (.slice _) => i.n == 3
  | some (.func _ _ _) => i.n == 4
  | some (.int _) => i.n == 0
  | _ => false

theorem eqTy_bool {t : TypeId} {i : Inf} (h : eqTy P t i = true) (hn : i.n = 1) : P.underlying t = some .bool := by
  unfold eqTy at h
  split at h <;> simp_all
theorem eqTy_struct {t : TypeId} {i : Inf} (h : eqTy P t i = true) (hn : i.n = 2) : ∃ fs, P.underlying t = some (.struct fs) ∧ eqKinds P 0 fs.toList i.ks = true ∧ P.stoodInHeld t = false ∧ P.eqGuardType P.depth t = false := by
  unfold eqTy at h
  split at h <;> first
    | (simp [hn] at h; done)
    | (rename_i fs hu
       simp only [Bool.and_eq_true, Bool.not_eq_true'] at h
       exact ⟨fs, hu, h.1.1.2, h.1.2, h.2⟩)
    | simp_all
theorem eqTy_slice {t : TypeId} {i : Inf} (h : eqTy P t i = true) (hn : i.n = 3) : ∃ e, P.underlying t = some (.slice e) := by
  unfold eqTy at h
  split at h <;> simp_all
theorem eqTy_func {t : TypeId} {i : Inf} (h : eqTy P t i = true) (hn : i.n = 4) : ∃ p q v, P.underlying t = some (.func p q v) := by
  unfold eqTy at h
  split at h <;> simp_all

/-- Neither a number, nor a string, ..: '==' is asked of the type. -/
def beyond (u : Value) : Prop := (∀ k m, u ≠ .int k m) ∧ (∀ k m, u ≠ .float k m) ∧ (∀ k m m', u ≠ .complex k m m') ∧ (∀ z, u ≠ .string z) ∧ u ≠ .nilIface

theorem run_equal_kind {t : TypeId} {x y : TV} {u v : Value} {i : Inf} {r : Bool} (hx : R I β κ tk x u) (hy : R I β κ tk y v) (h : eqA i x y = some r) (hi : eqTy P t i = true) :
    (Op.equal t u v).run P w = .ok r w ∧ ((∀ l, u ≠ .agg l) ∨ P.eqGuardType P.depth t = false) ∧ beyond u := by
  unfold eqA at h
  split at h
  · split at h
    · rename_i hn
      cases h
      obtain rfl := hx.inv.inv_s
      obtain rfl := hy.inv.inv_s
      exact ⟨run_equalIn_bool' w 9999 t _ _ (eqTy_bool hi hn), .inl (by simp), by simp [beyond]⟩
    · cases h
  · split at h
    · rename_i x y hn
      obtain ⟨xs, rfl, hxs⟩ := hx.inv.inv_agg
      obtain ⟨ys, rfl, hys⟩ := hy.inv.inv_agg
      obtain ⟨fs, hu, hk, hp, hg⟩ := eqTy_struct hi hn
      have hf : P.fieldsOf t = fs := by simp [Program.fieldsOf, hu]
      refine ⟨?_, .inr hg, by simp [beyond]⟩
      show (Op.equalIn (9999 + 1) t (.agg xs) (.agg ys)).run P w = _
      rw [run_equalIn_struct w _ t _ _ (by rw [hf]; exact hu) hp, hf]
      exact run_eqFields 9998 _ _ w fs.toList i.ks 0 _ _ r hk (by simpa using hxs) (by simpa using hys) h
    · cases h
  · split at h
    · rename_i t' els hn
      cases h
      obtain ⟨e, hu⟩ := eqTy_slice hi hn
      obtain rfl := hy.inv.inv_s
      cases hx with
      | acc0 => exact ⟨eqIn_nil_slice 9999 hu _ _ _ _ _ w, .inl (by simp), by simp [beyond]⟩
      | acc h1 =>
        refine ⟨?_, .inl (by simp), by simp [beyond]⟩
        have : els.isEmpty = false := by cases els <;> simp_all
        rw [this]
        exact eqIn_slice_nil 9999 hu _ _ _ _ _ w
    · cases h
  · split at h
    · rename_i ex els hn
      cases h
      obtain ⟨e, hu⟩ := eqTy_slice hi hn.1
      obtain rfl := hy.inv.inv_s
      cases hx.inv with
      | sl0 => simp at hn
      | sle => simp at hn
      | sl => exact ⟨eqIn_slice_nil 9999 hu _ _ _ _ _ w, .inl (by simp), by simp [beyond]⟩
    · cases h
  · split at h
    · rename_i hn
      cases h
      obtain ⟨e, hu⟩ := eqTy_slice hi hn
      obtain rfl := hx.inv.inv_s
      obtain rfl := hy.inv.inv_s
      exact ⟨eqIn_nil_slice 9999 hu _ _ _ _ _ w, .inl (by simp), by simp [beyond]⟩
    · cases h
  · split at h
    · rename_i hn
      cases h
      obtain ⟨p, q, e, hu⟩ := eqTy_func hi hn
      obtain ⟨arr, rfl, _⟩ := hx.inv.inv_fn
      obtain rfl := hy.inv.inv_s
      exact ⟨eqIn_func_nil 9999 hu _ _ _ w, .inl (by simp), by simp [beyond]⟩
    · cases h
  · split at h
    · rename_i hn
      cases h
      obtain ⟨p, q, e, hu⟩ := eqTy_func hi hn
      obtain rfl := hx.inv.inv_s
      obtain rfl := hy.inv.inv_s
      exact ⟨eqIn_nil_nil 9999 hu w, .inl (by simp), by simp [beyond]⟩
    · cases h
  · cases h

theorem run_eqGuard_struct {op : BinOp} {t : TypeId} {x y : Operand} {u v : Value} (hg : P.eqGuardType P.depth t = false) (hu : u ≠ .nilIface) (w : World) : (eqGuard op t x y u v).run P w = .ok () w := by
  cases u <;> first
    | exact absurd rfl hu
    | (cases op <;> simp [eqGuard]; done)
    | (cases v <;> cases op <;> simp [eqGuard, hg])

theorem run_bin {op : BinOp} {t yt : TypeId} {x y : Operand} {p q tv : TV} {u v : Value} {i : Inf} (hx : R I β κ tk p u) (hy : R I β κ tk q v) (h : binA op i p q = some tv) (hi : infOk P (.binOp op t x y yt) i = true) :
    ∃ r, (eqGuard op t x y u v).run P w = .ok () w ∧ (binOp op t u v).run P w = .ok r w ∧ R I β κ tk tv r := by
  unfold binA at h
  split at h
  · rename_i r hr
    cases h
    unfold num2 at hr
    split at hr
    · obtain rfl := hx.inv.inv_s
      obtain rfl := hy.inv.inv_s
      obtain ⟨h1, h2⟩ := binV_left hr
      exact ⟨r, run_eqGuard_num h1 h2 w, run_binV hr w, .v (.s r)⟩
    · cases hr
  · split at h
    · obtain ⟨b, hb, rfl⟩ := Option.map_eq_some_iff.1 h
      obtain ⟨g1, g2, g3, g4, g5, g6, g7⟩ := run_equal_kind (w := w) hx hy hb (t := t) hi
      have e : binOp .eql t u v = (do pure (.bool (← Op.equal t u v))) := by
        cases u <;> first | exact absurd rfl (g3 _ _) | exact absurd rfl (g4 _ _) | exact absurd rfl (g5 _ _ _) | exact absurd rfl (g6 _) | (cases v <;> rfl)
      refine ⟨.bool b, ?_, by rw [e]; simp [g1], .v (.s _)⟩
      rcases g2 with g2 | g2
      · exact run_eqGuard_num g2 g7 w
      · exact run_eqGuard_struct g2 g7 w
    · obtain ⟨b, hb, rfl⟩ := Option.map_eq_some_iff.1 h
      obtain ⟨g1, g2, g3, g4, g5, g6, g7⟩ := run_equal_kind (w := w) hx hy hb (t := t) hi
      have e : binOp .neq t u v = (do pure (.bool (!(← Op.equal t u v)))) := by
        cases u <;> first | exact absurd rfl (g3 _ _) | exact absurd rfl (g4 _ _) | exact absurd rfl (g5 _ _ _) | exact absurd rfl (g6 _) | (cases v <;> rfl)
      refine ⟨.bool (!b), ?_, by rw [e]; simp [g1], .v (.s _)⟩
      rcases g2 with g2 | g2
      · exact run_eqGuard_num g2 g7 w
      · exact run_eqGuard_struct g2 g7 w
    · cases h

end
end Go.Proofs.Ytadfcbpakfaaaaa.A

/- The law of 'valA'. -/
set_option linter.unusedVariables false
set_option linter.unusedSimpArgs false
namespace Go.Proofs.Ytadfcbpakfaaaaa.A
open Go Go.RowKit

section
variable {P : Program} {w0 w : World} {I0 I : Imm} {β : Nat → Nat} {κ : Nat → Nat × Nat × Nat} {s : St} {sav : List (Array Value)} {a : Act} {tk : Nat → Nat}

theorem un_sound {op : UnOp} {p : PV} {u : Value} {tv : TV} (hp : C I p u) (h : unA op p = some tv) : ∃ v, (Op.unary op u).run P w = .ok v w ∧ R I β κ tk tv v := by
  unfold unA at h
  split at h
  · cases h; obtain rfl := hp.inv_s; exact ⟨_, rfl, .v (.s _)⟩
  · cases h; obtain rfl := hp.inv_s; exact ⟨_, rfl, .v (.s _)⟩
  · cases h; obtain rfl := hp.inv_s; exact ⟨_, rfl, .v (.s _)⟩
  · cases h

theorem run_places : ∀ (fs : List Field) (ps : List (Nat × Nat)), placesOk P fs ps = true → (fs.mapM fun f => do pure (f.offset, ← sizeOf f.type) : Sem (List (Nat × Nat))).run P w = .ok ps w
  | [], [], _ => rfl
  | f :: fs, p :: ps, h => by
    simp only [placesOk, Bool.and_eq_true, beq_iff_eq] at h
    have ih := run_places fs ps h.2
    simp only [List.mapM_cons, Sem.run_bind, run_sizeOf_of h.1.2, Result.andThen_ok, Sem.run_pure, ih]
    rw [← h.1.1]
  | [], _ :: _, h => by simp [placesOk] at h
  | _ :: _, [], h => by simp [placesOk] at h

theorem fill_mono {f g : Nat → Option (Nat × Nat)} (hfg : ∀ i q, f i = some q → g i = some q) : ∀ {us : List (Nat × Value)} {cs r : Array Value}, Instr.fill f cs us = some r → Instr.fill g cs us = some r
  | [], cs, r, h => h
  | (i, v) :: us, cs, r, h => by
    simp only [Instr.fill] at h ⊢
    cases hf : f i with
    | none => rw [hf] at h; cases h
    | some q =>
      rw [hf] at h
      rw [hfg i q hf]
      simp only at h ⊢
      split at h
      · cases h
      · rename_i hc
        rw [if_neg hc]
        exact fill_mono hfg h

theorem build_sound {t : TypeId} {i : Inf} {parts : Array (Nat × Operand)} {ps l : List PV} (h : Sim w0 I0 I β κ s sav a w) (hi : infOk P (.build t parts) i = true) (hp : pvs s (parts.toList.map (·.2)) = some ps)
    (hf : fillA i.places (i.zero.map .s) ((parts.toList.map (·.1)).zip ps) = some l) : ∃ v, (Instr.build t (parts.map fun (i, x) => (i, a.eval x))).run P w = .ok v w ∧ C I (.agg l) v := by
  simp only [infOk] at hi
  split at hi
  · rename_i fs z hu hz
    simp only [Bool.and_eq_true] at hi
    obtain ⟨hpl, hze⟩ := hi
    have hzero := constsEq_eq hze
    have hC := pvs_C h hp
    have hlen : ps.length = parts.size := by have := hC.length; simpa using this
    have hc0 : ∀ (l : List Value), Cs I (l.map .s) l := fun l => by
      induction l with
      | nil => exact .nil
      | cons x l ih => exact .cons (.s x) ih
    have e1 : ((parts.toList.map (·.1)).zip ps).map (·.1) = (parts.map fun (i, x) => (i, a.eval x)).toList.map (·.1) := by
      rw [List.map_fst_zip (by simp [hlen])]
      simp [Function.comp_def]
    have e2 : Cs I (((parts.toList.map (·.1)).zip ps).map (·.2)) ((parts.map fun (i, x) => (i, a.eval x)).toList.map (·.2)) := by
      rw [List.map_snd_zip (by simp [hlen])]
      simpa [Function.comp_def] using hC
    obtain ⟨r, hr, hl⟩ := fill_sound (I := I) (places := i.places) (cs := z) (by rw [← hzero]; exact hc0 _) e1 e2 hf
    refine ⟨.agg r, ?_, .agg hl⟩
    have hrun : (fs.mapM fun f => do pure (f.offset, ← sizeOf f.type) : Sem (Array (Nat × Nat))).run P w = .ok i.places.toArray w := by
      rw [Array.mapM_eq_mapM_toList]
      have := run_places (w := w) fs.toList i.places hpl
      simp only [Sem.run_map, this, Result.andThen_ok]
    have hr' : Instr.fill (fun x => i.places.toArray[x]?) z (parts.map fun (i, x) => (i, a.eval x)).toList = some r := by simpa using hr
    simp only [Instr.build, Sem.run_bind, run_zero_of hz, run_underlying hu, Result.andThen_ok, Value.cells, hrun, hr']
    rfl
  · rename_i len e z hu hz
    split at hi
    · rename_i n hn
      simp only [Bool.and_eq_true, beq_iff_eq] at hi
      obtain ⟨hpl, hze⟩ := hi
      have hzero := constsEq_eq hze
      have hC := pvs_C h hp
      have hlen : ps.length = parts.size := by have := hC.length; simpa using this
      have hc0 : ∀ (l : List Value), Cs I (l.map .s) l := fun l => by
        induction l with
        | nil => exact .nil
        | cons x l ih => exact .cons (.s x) ih
      have e1 : ((parts.toList.map (·.1)).zip ps).map (·.1) = (parts.map fun (i, x) => (i, a.eval x)).toList.map (·.1) := by
        rw [List.map_fst_zip (by simp [hlen])]
        simp [Function.comp_def]
      have e2 : Cs I (((parts.toList.map (·.1)).zip ps).map (·.2)) ((parts.map fun (i, x) => (i, a.eval x)).toList.map (·.2)) := by
        rw [List.map_snd_zip (by simp [hlen])]
        simpa [Function.comp_def] using hC
      obtain ⟨r, hr, hl⟩ := fill_sound (I := I) (places := i.places) (cs := z) (by rw [← hzero]; exact hc0 _) e1 e2 hf
      refine ⟨.agg r, ?_, .agg hl⟩
      have hr' : Instr.fill (fun i => some (i * n, n)) z (parts.map fun (i, x) => (i, a.eval x)).toList = some r := by
        refine fill_mono (fun j q hq => ?_) hr
        rw [hpl, List.getElem?_map] at hq
        obtain ⟨k, hk, rfl⟩ := Option.map_eq_some_iff.1 hq
        obtain ⟨hk1, hk2⟩ := List.getElem?_eq_some_iff.1 hk
        simp at hk2
        rw [hk2]
      simp only [Instr.build, Sem.run_bind, run_zero_of hz, run_underlying hu, Result.andThen_ok, Value.cells, run_sizeOf_of hn, hr']
      rfl
    · cases hi
  · cases hi

theorem run_valA {o : Oper} {i : Inf} {tv : TV} (h : Sim w0 I0 I β κ s sav a w) (hi : infOk P o.op i = true) (hv : valA s o.op i = some tv) :
    ∃ v, (execOp a.eval o).run P w = .ok (.value v) w ∧ R I β κ (tkOf s.tk) tv v := by
  obtain ⟨dst, op, type, pos, after, guard⟩ := o
  simp only at hi hv
  unfold valA at hv
  split at hv
  · exact ⟨_, rfl, ev_R h hv⟩
  · exact ⟨_, rfl, ev_R h hv⟩
  · rename_i c x y
    split at hv
    · rename_i t ht
      have hc := (pv_C h ht).inv_s
      refine ⟨if t then a.eval x else a.eval y, ?_, ?_⟩
      · simp [execOp, hc, asBool]
      · cases t
        · simpa using ev_R h hv
        · simpa using ev_R h hv
    · cases hv
  · rename_i t x
    obtain ⟨p, h1, h2⟩ := Option.bind_eq_some_iff.1 hv
    simp only [infOk, Bool.and_eq_true, beq_iff_eq, Bool.or_eq_true] at hi
    have hone : i.agg = false → i.n = 1 := by
      intro e
      rcases hi.2 with e' | e'
      · rw [e] at e'; cases e'
      · exact e'
    obtain ⟨v, hr, hR⟩ := ldA_sound h hi.1.1 hi.1.2 hone h1 h2
    exact ⟨v, by simp [execOp, hr], hR⟩
  · rename_i t x f
    obtain ⟨p, h1, h2⟩ := Option.bind_eq_some_iff.1 hv
    simp only [infOk] at hi
    split at hi
    · rename_i fd hfd
      simp only [Bool.and_eq_true, beq_iff_eq] at hi
      obtain ⟨ho, hn⟩ := hi
      split at hn
      · rename_i n hn'
        obtain ⟨v, hr, hR⟩ := fieldAddr_sound (w := w) hfd ho hn' (by simpa using hn) (ev_R h h1) h2
        exact ⟨v, by simp [execOp, hr], hR⟩
      · cases hn
    · cases hi
  · rename_i t x f
    obtain ⟨p, h1, h2⟩ := Option.bind_eq_some_iff.1 hv
    simp only [infOk] at hi
    split at hi
    · rename_i fd hfd
      simp only [Bool.and_eq_true, beq_iff_eq] at hi
      obtain ⟨⟨ho, hA⟩, hS⟩ := hi
      have hC := pv_C h h1
      cases p with
      | agg l =>
        obtain ⟨cs, he, hcs⟩ := hC.inv_agg
        obtain ⟨v, hr, hR⟩ := part_sound (P := P) (w := w) (β := β) (κ := κ) (tk := tkOf s.tk) hA hS hcs h2
        obtain ⟨fs, hu, hfs⟩ := tField_of hfd
        rw [← ho] at hr
        exact ⟨v, by simp [execOp, Instr.field, run_underlying hu, hfs, he, asAgg, hr], hR⟩
      | _ => simp [fieldA] at h2
    · cases hi
  · rename_i t x k
    split at hv
    · rename_i p q hp hq
      simp only [infOk] at hi
      split at hi
      · rename_i e he
        simp only [beq_iff_eq] at hi
        obtain ⟨v, hr, hR⟩ := idxA_sound (P := P) (w := w) (β := β) (κ := κ) (tk := tkOf s.tk) he hi (ev_R h hp) (pv_C h hq) hv
        exact ⟨v, by simp [execOp, hr], hR⟩
      · cases hi
    · cases hv
  · rename_i t x k
    split at hv
    · rename_i p kk j hp hq
      split at hv
      · rename_i hj
        simp only [infOk] at hi
        split at hi
        · rename_i len e hu
          simp only [Bool.and_eq_true, beq_iff_eq] at hi
          obtain ⟨⟨hl, hA⟩, hS⟩ := hi
          have hC := pv_C h hp
          cases p with
          | agg l =>
            obtain ⟨cs, he, hcs⟩ := hC.inv_agg
            obtain ⟨v, hr, hR⟩ := part_sound (P := P) (w := w) (β := β) (κ := κ) (tk := tkOf s.tk) hA hS hcs hv
            have hk := (pv_C h hq).inv_s
            have hj' : 0 ≤ j ∧ j < (len : Int) := by rw [hl]; exact hj
            exact ⟨v, by simp [execOp, Instr.index, asIntOf, run_underlying hu, he, hk, hj', run_sizeOf_of hS, hr], hR⟩
          | _ => simp [fieldA] at hv
        · cases hi
      · cases hv
    · cases hv
  · rename_i op t x y yt
    split at hv
    · rename_i p q hp hq
      obtain ⟨r, h1, h2, hR⟩ := run_bin (P := P) (w := w) (x := x) (y := y) (ev_R h hp) (ev_R h hq) hv hi
      exact ⟨r, by simp [execOp, h1, h2], hR⟩
    · cases hv
  · rename_i op t x
    obtain ⟨p, h1, h2⟩ := Option.bind_eq_some_iff.1 hv
    obtain ⟨v, hr, hR⟩ := un_sound (P := P) (w := w) (β := β) (κ := κ) (tk := tkOf s.tk) (pv_C h h1) h2
    exact ⟨v, by simp [execOp, hr], hR⟩
  · rename_i t x
    obtain ⟨p, h1, rfl⟩ := Option.map_eq_some_iff.1 hv
    simp only [infOk] at hi
    refine ⟨.iface t (a.eval x), ?_, .v (.ifc (pv_C h h1))⟩
    cases hu : P.underlying t with
    | none => simp [hu] at hi
    | some d =>
      cases d <;> simp [hu] at hi <;> simp [execOp, Instr.makeInterface, run_underlying hu]
  · rename_i x k
    split at hv
    · rename_i l hl
      obtain ⟨y, hy, rfl⟩ := Option.map_eq_some_iff.1 hv
      have hC := pv_C h hl
      generalize he : a.eval x = u at hC
      cases hC with
      | @tup _ arr hcs =>
        obtain ⟨v, hv', hyv⟩ := hcs.get hy
        rw [Array.getElem?_toList] at hv'
        exact ⟨v, by simp [execOp, Instr.extract, he, hv'], .v hyv⟩
    · cases hv
  · rename_i fn first caps
    split at hv
    · rename_i hfirst
      obtain ⟨l, hl, rfl⟩ := Option.map_eq_some_iff.1 hv
      have e : first = #[] := by
        obtain ⟨first⟩ := first
        simpa using hfirst
      subst e
      refine ⟨.func fn #[] (caps.map a.eval), by simp [execOp, Instr.makeFunc], .v (.fn ?_)⟩
      simpa using caps_C h hl
    · cases hv
  · rename_i t parts
    split at hv
    · rename_i ps hp
      obtain ⟨l, hl, rfl⟩ := Option.map_eq_some_iff.1 hv
      obtain ⟨v, hr, hC⟩ := build_sound h hi hp hl
      exact ⟨v, by simp [execOp, hr], .v hC⟩
    · cases hv
  · rename_i t x lo hi' mx
    split at hv
    · rename_i ex els l hh m hp hl hhh hm
      obtain ⟨r, hr, rfl⟩ := Option.map_eq_some_iff.1 hv
      simp only [infOk] at hi
      split at hi
      · rename_i e he
        simp only [beq_iff_eq] at hi
        have hev : ∀ y p, pv s y = some p → C I p (a.eval y) := fun y p hy => pv_C h hy
        obtain ⟨v, hrun, hC⟩ := slice_sound (P := P) (w := w) he hi (pv_C h hp) (bnd_of (a := a) hl hev) (bnd_of (a := a) hhh hev) (bnd_of (a := a) hm hev) hr
        exact ⟨v, by simp [execOp, hrun], .v hC⟩
      · cases hi
    · cases hv
  · rename_i src dst' x
    split at hv
    · rename_i kk n k hp hk
      cases hv
      simp only [infOk, hk] at hi
      split at hi
      · rename_i h1 h2 h3
        simp only [List.cons.injEq, Option.some.injEq, and_true] at h3
        simp only [beq_iff_eq] at hi
        subst h3
        subst hi
        have hx := (pv_C h hp).inv_s
        exact ⟨_, by simp [execOp, convert, run_underlying h1, run_underlying h2, hx, Conv.intToInt], .v (.s _)⟩
      · cases hi
    · cases hv
  · rename_i c
    obtain ⟨callee, args, argTypes⟩ := c
    split at hv
    · rename_i x hcal hargs
      simp only at hcal hargs
      subst hcal
      obtain ⟨p, h1, h2⟩ := Option.bind_eq_some_iff.1 hv
      simp only [infOk] at hi
      have ha : args = #[x] := by obtain ⟨args⟩ := args; simpa using hargs
      subst ha
      split at hi
      · rename_i t _ hts
        obtain ⟨e, he⟩ := Option.isSome_iff_exists.1 hi
        have hat : argTypes = #[t] := by obtain ⟨argTypes⟩ := argTypes; simpa using hts
        subst hat
        obtain ⟨v, hr, hR⟩ := len_sound (P := P) (w := w) (β := β) (κ := κ) (tk := tkOf s.tk) he (pv_C h h1) h2
        refine ⟨v, ?_, hR⟩
        have : (Builtin.len_ #[t] type #[a.eval x]).run P w = .ok v w := hr
        simp [execOp, resolve, invoke, builtin, this]
      · cases hi
      · rename_i h1 _
        exact (h1 rfl).elim
    · obtain ⟨r, hr, rfl⟩ := Option.map_eq_some_iff.1 hv
      obtain ⟨ps, hp, hx⟩ := Option.bind_eq_some_iff.1 hr
      rename_i hcal
      subst hcal
      have := extreme_sound (P := P) (w := w) true ps _ r (pvs_C h hp) hx argTypes type
      refine ⟨r, ?_, .v (.s r)⟩
      simp only [if_true] at this
      have e : (args.toList.map a.eval).toArray = args.map a.eval := by rw [← Array.toList_map, Array.toArray_toList]
      rw [e] at this
      simp [execOp, resolve, invoke, builtin, this]
    · obtain ⟨r, hr, rfl⟩ := Option.map_eq_some_iff.1 hv
      obtain ⟨ps, hp, hx⟩ := Option.bind_eq_some_iff.1 hr
      rename_i hcal
      subst hcal
      have := extreme_sound (P := P) (w := w) false ps _ r (pvs_C h hp) hx argTypes type
      refine ⟨r, ?_, .v (.s r)⟩
      simp only [Bool.false_eq_true, if_false] at this
      have e : (args.toList.map a.eval).toArray = args.map a.eval := by rw [← Array.toList_map, Array.toArray_toList]
      rw [e] at this
      simp [execOp, resolve, invoke, builtin, this]
    · cases hv
  · cases hv

end
end Go.Proofs.Ytadfcbpakfaaaaa.A

