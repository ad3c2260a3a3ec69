/- The operations that only compute, or read: what they tell ('valA'), and that the model tells the same. -/
import Derived.Test.YtnfomjnmigkpmaaA4
import Derived.Laws.StructEq
import Derived.Laws.Cells
import Derived.Laws.CopyRow
set_option linter.unusedVariables false
set_option linter.unusedSimpArgs false
namespace Go.Proofs.Ytnfomjnmigkpmaa.A
open Go Go.RowKit

/-! ### What is asked of the program's types -/
def tAgg (P : Program) (t : TypeId) : Option Bool := (P.underlying t).map fun | .struct _ | .array _ _ => true | _ => false
def tSize (P : Program) (t : TypeId) : Option Nat := (P.info? t).map (·.size)
def tElem (P : Program) (t : TypeId) : Option TypeId := (P.underlying t).bind fun | .slice e => some e | _ => none
def tField (P : Program) (t : TypeId) (f : Nat) : Option Field := (P.underlying t).bind fun | .struct fs => fs[f]? | _ => none

theorem run_isAgg_of {P : Program} {t : TypeId} {b : Bool} (h : tAgg P t = some b) (w : World) : (isAgg t).run P w = .ok b w := by
  unfold tAgg at h
  obtain ⟨d, hd, hb⟩ := Option.map_eq_some_iff.1 h
  unfold isAgg
  simp only [Sem.run_bind, run_underlying hd, Result.andThen_ok]
  cases d <;> simp_all

theorem run_sizeOf_of {P : Program} {t : TypeId} {n : Nat} (h : tSize P t = some n) (w : World) : (sizeOf t).run P w = .ok n w := by
  unfold tSize at h
  obtain ⟨i, hi, hn⟩ := Option.map_eq_some_iff.1 h
  simp [sizeOf, typeInfo, go_sem, hi, hn]

theorem run_underlying_elem {P : Program} {t e : TypeId} (h : tElem P t = some e) : P.underlying t = some (.slice e) := by
  unfold tElem at h
  cases hu : P.underlying t with
  | none => simp [hu] at h
  | some d => cases d <;> simp_all

theorem tField_of {P : Program} {t : TypeId} {f : Nat} {fd : Field} (h : tField P t f = some fd) : ∃ fs, P.underlying t = some (.struct fs) ∧ fs[f]? = some fd := by
  unfold tField at h
  cases hu : P.underlying t with
  | none => simp [hu] at h
  | some d => cases d <;> simp_all

/-- What is known of an operation's types, beside its text. -/
structure Inf where
  n : Nat := 0
  agg : Bool := false
  off : Nat := 0
  zero : List Value := []
  places : List (Nat × Nat) := []
  ks : List (Option IntKind) := []
  acc : List (Nat × Nat) := []
  t : Nat := 0
  deriving Inhabited

/-! ### Operands -/
def nilSlice : Value := .slice none 0 0

def ev (s : St) : Operand → Option TV
  | .tmp n => s.tm[n]?
  | .const v => some (.v (.s v))
  | .func f => some (.v (.fn (.func f) []))
  | .global _ => none

def tov : TV → Option PV
  | .v x => some x
  | .acc _ els => some (.sl false els)
  | .ptr _ _ => none
  | .own _ _ => none

def tovs : List TV → Option (List PV)
  | [] => some []
  | x :: xs => match tov x, tovs xs with
    | some y, some ys => some (y :: ys)
    | _, _ => none

def pv (s : St) (x : Operand) : Option PV := (ev s x).bind tov

def pvs (s : St) : List Operand → Option (List PV)
  | [] => some []
  | x :: xs => match pv s x, pvs s xs with
    | some y, some ys => some (y :: ys)
    | _, _ => none

/-! ### Numbers -/
def binV : BinOp → Value → Value → Option Value
  | .add, .int k a, .int k' b => if k = k' then some (.int k (k.wrap (a + b))) else none
  | .sub, .int k a, .int k' b => if k = k' then some (.int k (k.wrap (a - b))) else none
  | .mul, .int k a, .int k' b => if k = k' then some (.int k (k.wrap (a * b))) else none
  | .quo, .int k a, .int k' b => if k = k' ∧ b ≠ 0 then some (.int k (k.wrap (a.tdiv b))) else none
  | .rem, .int k a, .int k' b => if k = k' ∧ b ≠ 0 then some (.int k (a.tmod b)) else none
  | .eql, .int k a, .int k' b => if k = k' then some (.bool (a == b)) else none
  | .neq, .int k a, .int k' b => if k = k' then some (.bool (a != b)) else none
  | .lss, .int k a, .int k' b => if k = k' then some (.bool (decide (a < b))) else none
  | .leq, .int k a, .int k' b => if k = k' then some (.bool (decide (a ≤ b))) else none
  | .gtr, .int k a, .int k' b => if k = k' then some (.bool (decide (a > b))) else none
  | .geq, .int k a, .int k' b => if k = k' then some (.bool (decide (a ≥ b))) else none
  | .and, .int k a, .int k' b => if k = k' then some (.int k (k.wrap (BitVec.ofInt k.bits a &&& BitVec.ofInt k.bits b).toNat)) else none
  | .or, .int k a, .int k' b => if k = k' then some (.int k (k.wrap (BitVec.ofInt k.bits a ||| BitVec.ofInt k.bits b).toNat)) else none
  | .xor, .int k a, .int k' b => if k = k' then some (.int k (k.wrap (BitVec.ofInt k.bits a ^^^ BitVec.ofInt k.bits b).toNat)) else none
  | .shl, .int k a, .int _ b => if 0 ≤ b then some (.int k (k.wrap (a * 2 ^ (min b.toNat k.bits)))) else none
  | .shr, .int k a, .int _ b => if 0 ≤ b then some (.int k (a.fdiv (2 ^ (min b.toNat k.bits)))) else none
  | _, _, _ => none

theorem run_binV {P : Program} {op : BinOp} {t : TypeId} {a b r : Value} (h : binV op a b = some r) (w : World) : (binOp op t a b).run P w = .ok r w := by
  unfold binV at h
  split at h <;> first
    | cases h
    | (split at h
       · rename_i hk
         cases h
         first
           | (subst hk; simp [binOp, Op.intArith, Op.intCmp, Op.intBits])
           | (obtain ⟨hk, hb⟩ := hk; subst hk; simp [binOp, Op.intDiv, hb])
           | (have hn : ¬ (_ < (0 : Int)) := Int.not_lt.2 hk; simp [binOp, Op.shift, hn])
       · cases h)

theorem run_eqGuard_num {P : Program} {op : BinOp} {t : TypeId} {x y : Operand} {a b : Value} (ha : ∀ l, a ≠ .agg l) (hn : a ≠ .nilIface) (w : World) : (eqGuard op t x y a b).run P w = .ok () w := by
  cases a <;> first | exact absurd rfl (ha _) | exact absurd rfl hn | (cases op <;> simp [eqGuard])

theorem binV_left {op : BinOp} {a b r : Value} (h : binV op a b = some r) : (∀ l, a ≠ .agg l) ∧ a ≠ .nilIface := by
  unfold binV at h
  split at h <;> first | cases h | exact ⟨by simp, by simp⟩

/-- Are two rows of plain cells the same? -/
def cellsEq : List (Option IntKind) → List PV → List PV → Option Bool
  | [], [], [] => some true
  | some k :: ks, .s (.int k1 a) :: xs, .s (.int k2 b) :: ys => if k1 = k ∧ k2 = k then (cellsEq ks xs ys).map ((a == b) && ·) else none
  | none :: ks, .s (.bool a) :: xs, .s (.bool b) :: ys => (cellsEq ks xs ys).map ((a == b) && ·)
  | _, _, _ => none

/-- The fields of a struct are plain cells, one behind the other. -/
def eqKinds (P : Program) : Nat → List Field → List (Option IntKind) → Bool
  | _, [], [] => true
  | i, f :: fs, k :: ks => f.offset == i && !(f.name == "_") && (match P.underlying f.type, k with | some (.int j), some k => j == k | some .bool, none => true | _, _ => false) && eqKinds P (i + 1) fs ks
  | _, _, _ => false

theorem run_part_cell {P : Program} {t : TypeId} {d : TypeDesc} {cs : Array Value} {i : Nat} {v : Value} (hu : P.underlying t = some d) (hd : (match d with | .struct _ | .array _ _ => true | _ => false) = false) (hv : cs[i]? = some v) (w : World) :
    (part t cs i).run P w = .ok v w := by
  have hA : tAgg P t = some false := by
    unfold tAgg; rw [hu]; cases d <;> simp_all
  unfold part
  simp only [Sem.run_bind, run_isAgg_of hA, Result.andThen_ok, Bool.false_eq_true, if_false, hv]
  rfl

theorem run_eqFields {P : Program} {I : Imm} (d : Nat) (xs ys : Array Value) (w : World) : ∀ (fs : List Field) (ks : List (Option IntKind)) (i : Nat) (l m : List PV) (r : Bool), eqKinds P i fs ks = true →
    Cs I l (xs.toList.drop i) → Cs I m (ys.toList.drop i) → cellsEq ks l m = some r → (Op.eqFields (d + 1) xs ys fs).run P w = .ok r w
  | [], ks, i, l, m, r, hk, hl, hm, he => by
    cases ks with
    | cons k ks => simp [eqKinds] at hk
    | nil =>
      cases l <;> cases m <;> simp [cellsEq] at he
      subst he
      simp [Op.eqFields]
  | f :: fs, ks, i, l, m, r, hk, hl, hm, he => by
    cases ks with
    | nil => simp [eqKinds] at hk
    | cons k ks =>
      simp only [eqKinds, Bool.and_eq_true, beq_iff_eq, Bool.not_eq_true', beq_eq_false_iff_ne, ne_eq] at hk
      obtain ⟨⟨⟨ho, hname⟩, hty⟩, hrest⟩ := hk
      have step : ∀ (a b : Value) (r1 s : Bool), xs[i]? = some a → ys[i]? = some b → (∀ w, (part f.type xs f.offset).run P w = .ok a w) → (∀ w, (part f.type ys f.offset).run P w = .ok b w) →
          (Op.equalIn (d + 1) f.type a b).run P w = .ok r1 w → (Op.eqFields (d + 1) xs ys fs).run P w = .ok s w → (Op.eqFields (d + 1) xs ys (f :: fs)).run P w = .ok (r1 && s) w := by
        intro a b r1 s _ _ ha hb he hs
        rw [Op.eqFields]
        simp only [if_pos hname, Sem.run_bind, ha, hb, he, Result.andThen_ok]
        cases r1
        · simp
        · simpa using hs
      cases l with
      | nil => cases k <;> simp [cellsEq] at he
      | cons x l =>
        cases m with
        | nil => cases k <;> cases x <;> simp [cellsEq] at he
        | cons y m =>
          have hl' := hl.drop 1
          have hm' := hm.drop 1
          simp only [List.drop_succ_cons, List.drop_zero, List.drop_drop] at hl' hm'
          obtain ⟨a, ha, hxa⟩ := hl.get (i := 0) rfl
          obtain ⟨b, hb, hyb⟩ := hm.get (i := 0) rfl
          simp only [List.getElem?_drop, Nat.add_zero, Array.getElem?_toList] at ha hb
          cases k with
          | some k =>
            cases x with
            | s v =>
              cases v with
              | int k1 a' =>
                cases y with
                | s u =>
                  cases u with
                  | int k2 b' =>
                    simp only [cellsEq] at he
                    split at he
                    · rename_i hkk
                      obtain ⟨rfl, rfl⟩ := hkk
                      obtain ⟨s, hs, rfl⟩ := Option.map_eq_some_iff.1 he
                      cases hxa; cases hyb
                      have hu : P.underlying f.type = some (.int k2) := by
                        revert hty; cases hu : P.underlying f.type with
                        | none => simp
                        | some d => cases d <;> simp
                      have := run_eqFields d xs ys w fs ks (i + 1) l m s hrest hl' hm' hs
                      exact step _ _ _ _ ha hb (fun w => by rw [ho]; exact run_part_cell hu rfl ha w) (fun w => by rw [ho]; exact run_part_cell hu rfl hb w) (run_equalIn_int w d f.type k2 k2 a' b' hu) this
                    · cases he
                  | _ => simp [cellsEq] at he
                | _ => simp [cellsEq] at he
              | _ => simp [cellsEq] at he
            | _ => simp [cellsEq] at he
          | none =>
            cases x with
            | s v =>
              cases v with
              | bool a' =>
                cases y with
                | s u =>
                  cases u with
                  | bool b' =>
                    simp only [cellsEq] at he
                    obtain ⟨s, hs, rfl⟩ := Option.map_eq_some_iff.1 he
                    cases hxa; cases hyb
                    have hu : P.underlying f.type = some .bool := by
                      revert hty; cases hu : P.underlying f.type with
                      | none => simp
                      | some d => cases d <;> simp
                    have := run_eqFields d xs ys w fs ks (i + 1) l m s hrest hl' hm' hs
                    exact step _ _ _ _ ha hb (fun w => by rw [ho]; exact run_part_cell hu rfl ha w) (fun w => by rw [ho]; exact run_part_cell hu rfl hb w) (run_equalIn_bool' w d f.type a' b' hu) this
                  | _ => simp [cellsEq] at he
                | _ => simp [cellsEq] at he
              | _ => simp [cellsEq] at he
            | _ => simp [cellsEq] at he

end Go.Proofs.Ytnfomjnmigkpmaa.A
