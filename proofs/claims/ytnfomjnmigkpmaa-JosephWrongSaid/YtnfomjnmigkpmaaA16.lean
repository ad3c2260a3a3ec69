/- Contracts of functions and of iterators; code with what is known of it ('AC'); what it tells ('wpA'). -/
import Derived.Test.YtnfomjnmigkpmaaA15
import Derived.Shelf.Abstract
set_option linter.unusedVariables false
set_option linter.unusedSimpArgs false
namespace Go.Proofs.Ytnfomjnmigkpmaa.A
open Go Go.RowKit Go.Shelf

/-- Function f of these values tells r; of the memory that was there nothing turns. -/
def Ok (P : Program) (f : FuncId) (args : List PV) (r : PV) : Prop :=
  Enters P f ∧ ∀ (I : Imm) (w : World) (vs : List Value), Good I w → Cs I args vs →
    Calls P f vs.toArray w fun e w' => ∃ v J, e = .returned v ∧ Below w.heap.size w w' ∧ I.le J ∧ Good J w' ∧ (∀ b, b < w.heap.size → J b = I b) ∧ C J r v

/-- The method of that name of type t is function f, of the value. -/
def Meth (P : Program) (t : TypeId) (name : String) (f : FuncId) : Prop :=
  ∀ (v : Value) (args : Array Value) (w : World), (callMethod (.iface t v) name args).run P w = .ok (.enter f (#[v] ++ args)) w

/-- What abides new blocks. -/
def Abiding (J : Nat → Imm → World → Prop) : Prop :=
  ∀ i I₁ W₁ I₂ W₂, J i I₁ W₁ → Below W₁.heap.size W₁ W₂ → I₁.le I₂ → (∀ b, b < W₁.heap.size → I₂ b = I₁ b) → Good I₂ W₂ → J i I₂ W₂

/-- What a round says to the iterator: on, or no more. -/
def RoundOk (P : Program) (l : Nat) (J : Nat → Imm → World → Prop) (items : List (List PV)) : Prop :=
  ∀ i args I₁ W₁ vs, items[i]? = some args → J i I₁ W₁ → Good I₁ W₁ → Cs I₁ args vs →
    YieldAt Fence.wide 0 P l vs.toArray W₁ fun e W₂ => ∃ I₂, I₁.le I₂ ∧ Good I₂ W₂ ∧ ((e = .returned (.bool true) ∧ J (i + 1) I₂ W₂) ∨ (e = .returned (.bool false) ∧ J (items.length + 1) I₂ W₂))

/-- The iterator f hands over these items, one by one, till a round says 'no more'. -/
def IterOk (P : Program) (f : PV) (items : List (List PV)) : Prop :=
  ∃ k caps, f = .fn (.func k) caps ∧ Enters P k ∧ ∀ (I : Imm) (w : World) (cs : List Value), Good I w → Cs I caps cs →
    ∀ (l : Nat) (J : Nat → Imm → World → Prop), Abiding J → RoundOk P l J items → J 0 I w →
      Calls P k (#[.func (.yield l) #[] #[]] ++ cs.toArray) w fun e W' => (∃ v, e = .returned v) ∧ ∃ I' i, I.le I' ∧ Good I' W' ∧ J i I' W' ∧ (i = items.length ∨ i = items.length + 1)

/-- An operation, and what is known of it. -/
structure AO where
  dst : Option Nat
  op : Op
  guard : Option (Nat × Bool)
  pre : List Nat
  inf : Inf

/-- What is said of a state that no operation does. -/
inductive Gh where
  | freeze (b : Nat)
  | shut (b : Nat)
  | junk (l : List Nat)
  | drop (l : List Nat)
  | forget (t : Nat)
  | row (b off t : Nat)

inductive XA where
  | normal
  | exit (id : Nat)
  | ret

inductive AC where
  | skip
  | reg (draw y : Bool) (ops : List AO)
  | seq (x y : AC)
  | cond (c : Operand) (x y : AC)
  | block (id : Nat) (x : AC)
  | loop (g : List Gh) (x : AC)
  | rf (f : Operand) (ps : List Nat) (g : List Gh) (assign body : AC)
  | exit (id : Nat)
  | ret
  | gh (g : List Gh) (x : AC)
  | dead
  | regd (pa : List (Nat × Nat)) (ops : List AO)

def junkAll : List Nat → List TV → List TV
  | [], l => l
  | d :: ds, l => junkAll ds (l.set d (.v .junk))

def rmAll {β : Type} : List Nat → List (Nat × β) → List (Nat × β)
  | [], l => l
  | d :: ds, l => rmAll ds (rm d l)

def gh1 : Gh → St → Option St
  | .freeze b, s => match lk b s.bx with
    | some cells => (tovs cells).map fun cs => ({ s with bx := upd b (cs.map .v) s.bx } : St).freeze b cs
    | none => if (lk b s.ro).isSome = true then some s else none
  | .shut b, s => match lk b s.bx with
    | some cells => match tovs cells with
      | some cs => if cs.all PV.one = true then some (({ s with bx := upd b (cs.map .v) s.bx } : St).shut b cs) else none
      | none => none
    | none => none
  | .junk l, s => some { s with tm := junkAll l s.tm }
  | .drop l, s => some { s with bx := rmAll l s.bx, ro := rmAll l s.ro }
  | .forget t, s => some (s.newTok t)
  | .row b off t, s => match lk b (s.newTok t).bx with
    | some cells => match cells[off]? with
      | some (.v (.s (.slice none 0 0))) => some { s.newTok t with bx := upd b (cells.set off (.acc t [])) (s.newTok t).bx }
      | _ => some s
    | none => some s

def ghs : List Gh → St → Option St
  | [], s => some s
  | g :: l, s => (gh1 g s).bind (ghs l)

/-- A call of a function of the program's. -/
def callA (P : Program) (its : Option (Nat × List (List PV))) (s : St) (dst : Option Nat) (c : Call) (K : St → Prop) : Prop :=
  match c.callee with
  | .builtin _ => False
  | .value f => match ev s f, pvs s c.args.toList with
    | some (.v (.fn (.func k) caps)), some ps => ∃ r, Ok P k (ps ++ caps) r ∧ K (putT s dst (.v r))
    | some (.v (.fn (.yield l') [])), some ps => match its with
      | some (l, xs) => l' = l ∧ s.bx = [] ∧ s.tk = [] ∧ xs[s.it]? = some ps ∧ K { putT s dst (bl true) with it := s.it + 1 } ∧ K { putT s dst (bl false) with it := xs.length + 1 }
      | none => False
    | _, _ => False
  | .invoke r name => match ev s r, pvs s c.args.toList with
    | some (.v (.ifc t x)), some ps => ∃ f r, Meth P t name f ∧ Ok P f (x :: ps) r ∧ K (putT s dst (.v r))
    | _, _ => False

/-- Is a slice asked whether it is nil? Of a slice without elements that is not known: both answers are followed. -/
def nilTest (o : AO) : Option Operand :=
  match o.op with
  | .binOp .eql _ x (.const (.slice none 0 0)) _ => if o.inf.t = 1 ∧ o.inf.n = 3 then some x else none
  | _ => none

def nilA (s : St) (d : Option Nat) (x : Operand) (K : St → Prop) : Prop :=
  match ev s x with
  | some (.v (.sl _ els)) => ∀ b : Bool, (els.isEmpty = false → b = false) → K (putT s d (bl b))
  | some (.v (.s (.slice none 0 0))) => K (putT s d (bl true))
  | _ => False

def execB (P : Program) (its : Option (Nat × List (List PV))) (s : St) (o : AO) (K : St → Prop) : Prop :=
  match o.op with
  | .call c => match c.callee with
    | .builtin _ => ∃ s', stepA s o.dst o.op o.inf = some s' ∧ K s'
    | _ => callA P its s o.dst c K
  | _ => ∃ s', stepA s o.dst o.op o.inf = some s' ∧ K s'

def execA (P : Program) (its : Option (Nat × List (List PV))) (s : St) (o : AO) (K : St → Prop) : Prop :=
  match nilTest o with
  | some x => nilA s o.dst x K
  | none => execB P its s o K

def wpOp (P : Program) (its : Option (Nat × List (List PV))) (all : List AO) (o : AO) (s : St) (K : St → Prop) : Prop :=
  match o.guard with
  | none => execA P its s o K
  | some (j, want) => match ((all[j]?).bind (·.dst)).bind (s.tm[·]?) with
    | some (.v (.s (.bool b))) => if b = want then execA P its s o K else K (putT s o.dst (.v .junk))
    | _ => False

def wpOpsA (P : Program) (its : Option (Nat × List (List PV))) (all : List AO) : List AO → St → (St → Prop) → Prop
  | [], s, K => K s
  | o :: os, s, K => wpOp P its all o s fun s' => wpOpsA P its all os s' K

/-! ### Regions that draw their order, and make variables -/
/-- Nothing told names variable d, or the rows ts. -/
def TV.freeB (d : Nat) (ts : List Nat) : TV → Bool
  | .v _ => true
  | .ptr b _ => b != d
  | .own b _ => b != d
  | .acc t _ => !ts.contains t

def St.freeB (p : Nat × List Nat) (s : St) : Bool :=
  (lk p.1 s.bx).isNone && s.tm.all (TV.freeB p.1 p.2) && s.bx.all (fun q => q.2.all (TV.freeB p.1 p.2)) && s.sv.all (fun l => l.all (TV.freeB p.1 p.2))

/-- A new variable that an operation makes, with the rows in it. -/
def allocD (o : AO) : Option (Nat × List Nat) := match o.op, o.dst, o.guard with
  | .alloc _, some d, none => some (d, o.inf.acc.map (·.2))
  | _, _, _ => none

def dsL : List AO → List (Nat × List Nat)
  | [] => []
  | o :: os => match allocD o with
    | some p => p :: dsL os
    | none => dsL os

def freeAll : List (Nat × List Nat) → St → Bool
  | [], _ => true
  | p :: ps, s => s.freeB p && freeAll ps s

/-- Slots that point to variables that are not one. -/
def paOk : List (Nat × Nat) → St → Bool
  | [], _ => true
  | p :: ps, s => (match s.tm[p.1]?, s.tm[p.2]? with
    | some (.ptr b _), some (.ptr b' _) => b != b'
    | _, _ => false) && paOk ps s

def wpOpsC (P : Program) (pa : List (Nat × Nat)) (all : List AO) : List AO → St → (St → Prop) → Prop
  | [], s, K => K s
  | o :: os, s, K => wpOp P none all o s fun s' => (freeAll (dsL os) s' && paOk pa s') = true ∧ wpOpsC P pa all os s' K

def setPs : List Nat → List PV → List TV → List TV
  | p :: ps, x :: xs, tm => setPs ps xs (tm.set p (.v x))
  | _, _, tm => tm

/-- The state as a round begins. -/
def enterR (ps : List Nat) (x : List PV) (s : St) : St := { s with tm := setPs ps x (s.sv.headD []) }
/-- The state as the loop is left. -/
def leaveR (s : St) : St := { s with tm := s.sv.headD [], sv := s.sv.tail }
/-- The state between two rounds. -/
def betw (s : St) : St := { s with tm := [] }

def Rounds (g : List Gh) (ps : List Nat) (run : (XA → St → Prop) → St → Prop) (Q : XA → St → Prop) : List (List PV) → St → Prop
  | [], s => Q .normal (leaveR s)
  | x :: xs, s => x.length = ps.length ∧ run (fun e s' => match e with
      | .normal => ∃ s1, ghs g (betw s') = some s1 ∧ Rounds g ps run Q xs s1
      | .ret => Q .ret (leaveR s')
      | .exit id => Q (.exit id) (leaveR s')) (enterR ps x s)

def wpA (P : Program) (its : Option (Nat × List (List PV))) : AC → (XA → St → Prop) → St → Prop
  | .skip, Q, s => Q .normal s
  | .reg d y ops, Q, s => wpOpsA P (if d = true ∧ y = false then none else its) ops ops s (Q .normal)
  | .seq x y, Q, s => wpA P its x (fun e s' => match e with | .normal => wpA P its y Q s' | .ret => Q .ret s' | .exit id => Q (.exit id) s') s
  | .cond c x y, Q, s => match ev s c with
    | some (.v (.s (.bool b))) => if b = true then wpA P its x Q s else wpA P its y Q s
    | _ => False
  | .block id x, Q, s => wpA P its x (fun e s' => match e with | .exit j => if j = id then Q .normal s' else Q (.exit j) s' | .normal => Q .normal s' | .ret => Q .ret s') s
  | .loop g x, Q, s => ∃ (Inv : Nat → St → Prop) (m : Nat) (s0 : St), ghs g s = some s0 ∧ Inv m s0 ∧ ∀ m s, Inv m s →
      wpA P its x (fun e s' => match e with | .normal => ∃ s1 m', ghs g s' = some s1 ∧ m' < m ∧ Inv m' s1 | .ret => Q .ret s' | .exit id => Q (.exit id) s') s
  | .rf f ps g assign body, Q, s => ∃ items p s1, its = none ∧ ev s f = some (.v p) ∧ IterOk P p items ∧ ghs g (betw { s with sv := s.tm :: s.sv }) = some s1 ∧
      Rounds g ps (fun Q' s' => wpA P none assign (fun e s2 => match e with | .normal => wpA P none body Q' s2 | _ => False) s') Q items s1
  | .exit id, Q, s => Q (.exit id) s
  | .ret, Q, s => Q .ret s
  | .dead, _, _ => False
  | .regd pa ops, Q, s => (freeAll (dsL ops) s && paOk pa s) = true ∧ wpOpsC P pa ops ops s (Q .normal)
  | .gh g x, Q, s => ∃ s1, ghs g s = some s1 ∧ wpA P its x Q s1

end Go.Proofs.Ytnfomjnmigkpmaa.A
