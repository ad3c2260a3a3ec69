/- 'valA': what an operation tells that neither makes nor writes memory; 'infOk': what must be so of its types; the law. -/
import Derived.Test.YtnfomjnmigkpmaaA8
set_option linter.unusedVariables false
set_option linter.unusedSimpArgs false
namespace Go.Proofs.Ytnfomjnmigkpmaa.A
open Go Go.RowKit

def bl (b : Bool) : TV := .v (.s (.bool b))

/-- Equality beyond numbers: 1: bools; 2: structs of plain cells; 3: slices and nil; 4: functions and nil. -/
def eqA (i : Inf) : TV → TV → Option Bool
  | .v (.s (.bool a)), .v (.s (.bool b)) => if i.n = 1 then some (a == b) else none
  | .v (.agg x), .v (.agg y) => if i.n = 2 then cellsEq i.ks x y else none
  | .acc _ els, .v (.s (.slice none 0 0)) => if i.n = 3 then some els.isEmpty else none
  | .v (.sl _ els), .v (.s (.slice none 0 0)) => if i.n = 3 ∧ els.isEmpty = false then some false else none
  | .v (.s (.slice none 0 0)), .v (.s (.slice none 0 0)) => if i.n = 3 then some true else none
  | .v (.fn _ _), .v (.s .nilFunc) => if i.n = 4 then some false else none
  | .v (.s .nilFunc), .v (.s .nilFunc) => if i.n = 4 then some true else none
  | _, _ => none

def num2 (op : BinOp) : TV → TV → Option Value
  | .v (.s x), .v (.s y) => binV op x y
  | _, _ => none

def binA (op : BinOp) (i : Inf) (x y : TV) : Option TV :=
  match num2 op x y with
  | some r => some (.v (.s r))
  | none => match op with
    | .eql => (eqA i x y).map bl
    | .neq => (eqA i x y).map fun b => bl (!b)
    | _ => none

def unA : UnOp → PV → Option TV
  | .not, .s (.bool b) => some (bl (!b))
  | .neg, .s (.int k n) => some (.v (.s (.int k (k.wrap (0 - n)))))
  | .xor, .s (.int k n) => some (.v (.s (.int k (k.wrap (BitVec.ofInt k.bits (if k.signed then -1 else k.max) ^^^ BitVec.ofInt k.bits n).toNat))))
  | _, _ => none

def valA (s : St) (op : Op) (i : Inf) : Option TV :=
  match op with
  | .move x => ev s x
  | .assign x => ev s x
  | .pick c x y => match pv s c with
    | some (.s (.bool t)) => if t then ev s x else ev s y
    | _ => none
  | .load _ x => (ev s x).bind (ldA s i.agg i.n)
  | .fieldAddr _ x _ => (ev s x).bind (fieldAddrA i.off)
  | .field _ x _ => (pv s x).bind (fieldA i.agg i.n i.off)
  | .indexAddr _ x k => match ev s x, pv s k with
    | some p, some q => idxA i.n p q
    | _, _ => none
  | .index _ x k => match pv s x, pv s k with
    | some p, some (.s (.int _ j)) => if 0 ≤ j ∧ j < i.t then fieldA i.agg i.n (j.toNat * i.n) p else none
    | _, _ => none
  | .binOp op _ x y _ => match ev s x, ev s y with
    | some p, some q => binA op i p q
    | _, _ => none
  | .unOp op _ x => (pv s x).bind (unA op)
  | .makeInterface t x => (pv s x).map fun p => .v (.ifc t p)
  | .extract x k => match pv s x with
    | some (.tup l) => (l[k]?).map .v
    | _ => none
  | .makeFunc fn first caps => if first.toList.isEmpty then (capsA s caps.toList).map fun l => .v (.fn fn l) else none
  | .build _ parts => match pvs s (parts.toList.map (·.2)) with
    | some ps => (fillA i.places (i.zero.map .s) ((parts.toList.map (·.1)).zip ps)).map fun l => .v (.agg l)
    | none => none
  | .slice _ x lo hi mx => match pv s x, bndA (lo.map (pv s)), bndA (hi.map (pv s)), bndA (mx.map (pv s)) with
    | some (.sl ex els), some l, some h, some m => (sliceA i.n els ex l h m).map .v
    | _, _, _, _ => none
  | .convert _ _ x => match pv s x, i.ks with
    | some (.s (.int _ n)), [some k] => some (.v (.s (.int k (k.wrap n))))
    | _, _ => none
  | .call c => match c.callee, c.args.toList with
    | .builtin .len, [x] => (pv s x).bind lenA
    | .builtin .max, l => ((pvs s l).bind (extremeA true)).map fun r => .v (.s r)
    | .builtin .min, l => ((pvs s l).bind (extremeA false)).map fun r => .v (.s r)
    | _, _ => none
  | _ => none

/-- Plain constants. -/
def constEq : Value → Value → Bool
  | .int k a, .int k' b => k == k' && a == b
  | .bool a, .bool b => a == b
  | .slice none 0 0, .slice none 0 0 => true
  | .nilFunc, .nilFunc => true
  | .pointer none, .pointer none => true
  | .nilIface, .nilIface => true
  | .string a, .string b => a.data.size == 0 && b.data.size == 0
  | _, _ => false

theorem constEq_eq {a b : Value} (h : constEq a b = true) : a = b := by
  unfold constEq at h
  split at h
  · simp only [Bool.and_eq_true, beq_iff_eq] at h; rw [h.1, h.2]
  · simp only [beq_iff_eq] at h; rw [h]
  · rfl
  · rfl
  · rfl
  · rfl
  · simp only [Bool.and_eq_true, beq_iff_eq] at h
    rename_i a b
    obtain ⟨a⟩ := a
    obtain ⟨b⟩ := b
    have h1 := Array.eq_empty_of_size_eq_zero h.1
    have h2 := Array.eq_empty_of_size_eq_zero h.2
    simp only at h1 h2
    rw [h1, h2]
  · cases h

def constsEq : List Value → List Value → Bool
  | [], [] => true
  | a :: l, b :: m => constEq a b && constsEq l m
  | _, _ => false

theorem constsEq_eq : ∀ {l m : List Value}, constsEq l m = true → l = m
  | [], [], _ => rfl
  | a :: l, b :: m, h => by simp only [constsEq, Bool.and_eq_true] at h; rw [constEq_eq h.1, constsEq_eq h.2]
  | [], _ :: _, h => by simp [constsEq] at h
  | _ :: _, [], h => by simp [constsEq] at h

def tZero (P : Program) (t : TypeId) : Option Value := (P.info? t).bind (·.zero)

theorem run_zero_of {P : Program} {t : TypeId} {v : Value} (h : tZero P t = some v) (w : World) : (zeroValue t).run P w = .ok v w := by
  unfold tZero at h
  obtain ⟨i, hi, hz⟩ := Option.bind_eq_some_iff.1 h
  simp [zeroValue, typeInfo, hi, hz]

/-- Do the places fit the fields? -/
def placesOk (P : Program) : List Field → List (Nat × Nat) → Bool
  | [], [] => true
  | f :: fs, p :: ps => p.1 == f.offset && tSize P f.type == some p.2 && placesOk P fs ps
  | _, _ => false

def infOk (P : Program) (op : Op) (i : Inf) : Bool :=
  match op with
  | .load t _ => tAgg P t == some i.agg && tSize P t == some i.n && (i.agg || i.n == 1)
  | .fieldAddr t _ f => match tField P t f with
    | some fd => fd.offset == i.off && (match tSize P fd.type with | some n => n != 0 | none => false)
    | none => false
  | .field t _ f => match tField P t f with
    | some fd => fd.offset == i.off && tAgg P fd.type == some i.agg && tSize P fd.type == some i.n
    | none => false
  | .indexAddr t _ _ => match tElem P t with
    | some e => tSize P e == some i.n
    | none => false
  | .index t _ _ => match P.underlying t with
    | some (.array len e) => len == i.t && tAgg P e == some i.agg && tSize P e == some i.n
    | _ => false
  | .binOp op t _ _ _ => match op with
    | .eql | .neq => match P.underlying t with
      | some .bool => i.n == 1
      | some (.struct fs) => i.n == 2 && eqKinds P 0 fs.toList i.ks && !P.stoodInHeld t && !P.eqGuardType P.depth t
      | some (.slice _) => i.n == 3
      | some (.func _ _ _) => i.n == 4
      | some (.int _) => i.n == 0
      | _ => false
    | _ => true
  | .makeInterface t _ => match P.underlying t with
    | some (.interface _) => false
    | some _ => true
    | none => false
  | .build t _ => match P.underlying t, tZero P t with
    | some (.struct fs), some (.agg z) => placesOk P fs.toList i.places && constsEq z.toList i.zero
    | _, _ => false
  | .slice t _ _ _ _ => match tElem P t with
    | some e => tSize P e == some i.n
    | none => false
  | .convert src dst _ => match P.underlying src, P.underlying dst, i.ks with
    | some (.int _), some (.int k), [some k'] => k == k'
    | _, _, _ => false
  | .call c => match c.callee, c.argTypes.toList with
    | .builtin .len, [t] => (tElem P t).isSome
    | .builtin .len, _ => false
    | _, _ => true
  | _ => true

end Go.Proofs.Ytnfomjnmigkpmaa.A
