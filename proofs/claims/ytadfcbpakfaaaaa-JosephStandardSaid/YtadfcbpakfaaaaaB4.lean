/- Contracts of functions and of iterators; code with what is known of it ('AC'); what it tells ('wpA'). -/
import Derived.Test.YtadfcbpakfaaaaaB3
import Derived.Shelf.Abstract
set_option linter.unusedVariables false
set_option linter.unusedSimpArgs false
namespace Go.Proofs.Ytadfcbpakfaaaaa.A
open Go Go.RowKit Go.Shelf

/-- Function f of these values tells r; of the memory that was there nothing turns. -/
def Ok (P : Program) (f : FuncId) (args : List PV) (r : PV) : Prop :=
  Enters P f ∧ ∀ (I : Imm) (w : World) (vs : List Value), Good I w → Cs I args vs →
    Calls P f vs.toArray w fun e w' => ∃ v J, e = .returned v ∧ Below w.heap.size w w' ∧ I.le J ∧ Good J w' ∧ (∀ b, b < w.heap.size → J b = I b) ∧ C J r v

/-- The method of that name of type t is function f, of the value. -/
def Meth (P : Program) (t : TypeId) (name : String) (f : FuncId) : Prop :=
  ∀ (v : Value) (args : Array Value) (w : World), (callMethod (.iface t v) name args).run P w = .ok (.enter f (#[v] ++ args)) w

/-- What abides new blocks. -/
def Abiding (J : Nat → Imm → World → Prop) : Prop :=
  ∀ i I₁ W₁ I₂ W₂, J i I₁ W₁ → Below W₁.heap.size W₁ W₂ → I₁.le I₂ → (∀ b, b < W₁.heap.size → I₂ b = I₁ b) → Good I₂ W₂ → J i I₂ W₂

/-- What a round says to the iterator: on, or no more. -/
def RoundOk (P : Program) (l : Nat) (J : Nat → Imm → World → Prop) (items : List (List PV)) : Prop :=
  ∀ i args I₁ W₁ vs, items[i]? = some args → J i I₁ W₁ → Good I₁ W₁ → Cs I₁ args vs →
    YieldAt Fence.wide 0 P l vs.toArray W₁ fun e W₂ => ∃ I₂, I₁.le I₂ ∧ Good I₂ W₂ ∧ ((e = .returned (.bool true) ∧ J (i + 1) I₂ W₂) ∨ (e = .returned (.bool false) ∧ J (items.length + 1) I₂ W₂))

/-- The iterator f hands over these items, one by one, till a round says 'no more'. -/
def IterOk (P : Program) (f : PV) (items : List (List PV)) : Prop :=
  ∃ k caps, f = .fn (.func k) caps ∧ Enters P k ∧ ∀ (I : Imm) (w : World) (cs : List Value), Good I w → Cs I caps cs →
    ∀ (l : Nat) (J : Nat → Imm → World → Prop), Abiding J → RoundOk P l J items → J 0 I w →
      Calls P k (#[.func (.yield l) #[] #[]] ++ cs.toArray) w fun e W' => (∃ v, e = .returned v) ∧ ∃ I' i, I.le I' ∧ Good I' W' ∧ J i I' W' ∧ (i = items.length ∨ i = items.length + 1)

/-- An operation, and what is known of it. -/
structure AO where
  dst : Option Nat
  op : Op
  guard : Option (Nat × Bool)
  pre : List Nat
  inf : Inf

/-- What is said of a state that no operation does. -/
inductive Gh where
  | freeze (b : Nat)
  | shut (b : Nat)
  | junk (l : List Nat)
  | drop (l : List Nat)
  | forget (t : Nat)
  | row (b off t : Nat)

inductive XA where
  | normal
  | exit (id : Nat)
  | ret

inductive AC where
  | skip
  | reg (draw y : Bool) (ops : List AO)
  | seq (x y : AC)
  | cond (c : Operand) (x y : AC)
  | block (id : Nat) (x : AC)
  | loop (g : List Gh) (x : AC)
  | rf (f : Operand) (ps : List Nat) (g : List Gh) (assign body : AC)
  | exit (id : Nat)
  | ret
  | gh (g : List Gh) (x : AC)
  | dead
  | regd (pa : List (Nat × Nat)) (ops : List AO)

def junkAll : List Nat → List TV → List TV
  | [], l => l
  | d :: ds, l => junkAll ds (l.set d (.v .junk))

def rmAll {β : Type} : List Nat → List (Nat × β) → List (Nat × β)
  | [], l => l
  | d :: ds, l => rmAll ds (rm d l)

def gh1 : Gh → St → Option St
  | .freeze b, s => match lk b s.bx with
    | some cells => (tovs cells).map fun cs => ({ s with bx := upd b (cs.map .v) s.bx } : St).freeze b cs
    | none => if (lk b s.ro).isSome = true then some s else none
  | .shut b, s => match lk b s.bx with
    | some cells => match tovs cells with
      | some cs => if cs.all PV.one = true then some (({ s with bx := upd b (cs.map .v) s.bx } : St).shut b cs) else none
      | none => none
    | none => none
  | .junk l, s => some { s with tm := junkAll l s.tm }
  | .drop l, s => some { s with bx := rmAll l s.bx, ro := rmAll l s.ro }
  | .forget t, s => some (s.newTok t)
  | .row b off t, s => match lk b (s.newTok t).bx with
    | some cells => match cells[off]? with
      | some (.v (.s (.slice none 0 0))) => some { s.newTok t with bx := upd b (cells.set off (.acc t [])) (s.newTok t).bx }
      | _ => some s
    | none => some s

def ghs : List Gh → St → Option St
  | [], s => some s
  | g :: l, s => (gh1 g s).bind (ghs l)

/-- A call of a function of the program's. -/
def callA (P : Program) (its : Option (Nat × List (List PV))) (s : St) (dst : Option Nat) (c : Call) (K : St → Prop) : Prop :=
  match c.callee with
  | .builtin _ => False
  | .value f => match ev s f, pvs s c.args.toList with
    | some (.v (.fn (.func k) caps)), some ps => ∃ r, Ok P k (ps ++ caps) r ∧ K (putT s dst (.v r))
    | some (.v (.fn (.yield l') [])), some ps => match its with
      | some (l, xs) => l' = l ∧ s.bx = [] ∧ s.tk = [] ∧ xs[s.it]? = some ps ∧ K { putT s dst (bl true) with it := s.it + 1 } ∧ K { putT s dst (bl false) with it := xs.length + 1 }
      | none => False
    | _, _ => False
  | .invoke r name => match ev s r, pvs s c.args.toList with
    | some (.v (.ifc t x)), some ps => ∃ f r, Meth P t name f ∧ Ok P f (x :: ps) r ∧ K (putT s dst (.v r))
    | _, _ => False

/-- Is a slice asked whether it is nil? Of a slice without elements that is not known: both answers are followed. -/
def nilTest (o : AO) : Option Operand :=
  match o.op with
  | .binOp .eql _ x (.const (.slice none 0 0)) _ => if o.inf.t = 1 ∧ o.inf.n = 3 then some x else none
  | _ => none

def nilA (s : St) (d : Option Nat) (x : Operand) (K : St → Prop) : Prop :=
  match ev s x with
  | some (.v (.sl _ els)) => ∀ b : Bool, (els.isEmpty = false → b = false) → K (putT s d (bl b))
  | some (.v (.s (.slice none 0 0))) => K (putT s d (bl true))
  | _ => False

def execB (P : Program) (its : Option (Nat × List (List PV))) (s : St) (o : AO) (K : St → Prop) : Prop :=
  match o.op with
  | .call c => match c.callee with
    | .builtin _ => ∃ s', stepA s o.dst o.op o.inf = some s' ∧ K s'
    | _ => callA P its s o.dst c K
  | _ => ∃ s', stepA s o.dst o.op o.inf = some s' ∧ K s'

def execA (P : Program) (its : Option (Nat × List (List PV))) (s : St) (o : AO) (K : St → Prop) : Prop :=
  match nilTest o with
  | some x => nilA s o.dst x K
  | none => execB P its s o K

def wpOp (P : Program) (its : Option (Nat × List (List PV))) (all : List AO) (o : AO) (s : St) (K : St → Prop) : Prop :=
  match o.guard with
  | none => execA P its s o K
  | some (j, want) => match ((all[j]?).bind (·.dst)).bind (s.tm[·]?) with
    | some (.v (.s (.bool b))) => if b = want then execA P its s o K else K (putT s o.dst (.v .junk))
    | _ => False

def wpOpsA (P : Program) (its : Option (Nat × List (List PV))) (all : List AO) : List AO → St → (St → Prop) → Prop
  | [], s, K => K s
  | o :: os, s, K => wpOp P its all o s fun s' => wpOpsA P its all os s' K

/-! ### Regions that draw their order, and make variables -/
/-- Nothing told names variable d, or the rows ts. -/
def TV.freeB (d : Nat) (ts : List Nat) : TV → Bool
  | .v _ => true
  | .ptr b _ => b != d
  | .own b _ => b != d
  | .acc t _ => !ts.contains t

def St.freeB (p : Nat × List Nat) (s : St) : Bool :=
  (lk p.1 s.bx).isNone && s.tm.all (TV.freeB p.1 p.2) && s.bx.all (fun q => q.2.all (TV.freeB p.1 p.2)) && s.sv.all (fun l => l.all (TV.freeB p.1 p.2))

/-- A new variable that an operation makes, with the rows in it. -/
def allocD (o : AO) : Option (Nat × List Nat) := match o.op, o.dst, o.guard with
  | .alloc _, some d, none => some (d, o.inf.acc.map (·.2))
  | _, _, _ => none

def dsL : List AO → List (Nat × List Nat)
  | [] => []
  | o :: os => match allocD o with
    | some p => p :: dsL os
    | none => dsL os

def freeAll : List (Nat × List Nat) → St → Bool
  | [], _ => true
  | p :: ps, s => s.freeB p && freeAll ps s

/-- Slots that do not point to one variable. -/
def paOk : List (Nat × Nat) → St → Bool
  | [], _ => true
  | p :: ps, s => (match s.tm[p.1]?, s.tm[p.2]? with
    | some (.ptr b _), some (.ptr b' _) => b != b'
    | _, _ => true) && paOk ps s

/-- Is a slot spoken of? -/
def inPa (d : Nat) : List (Nat × Nat) → Bool
  | [] => false
  | p :: ps => p.1 == d || p.2 == d || inPa d ps
/-- The slots that are spoken of, and that these operations write. -/
def nsC (pa : List (Nat × Nat)) : Option Nat → List Nat → List Nat
  | some d, l => if inPa d pa = true then d :: l else l
  | none, l => l
def nsL (pa : List (Nat × Nat)) : List AO → List Nat
  | [] => []
  | o :: os => nsC pa o.dst (nsL pa os)
def nptr (s : St) (d : Nat) : Bool := match s.tm[d]? with
  | some (.ptr _ _) => false
  | _ => true
def nonPs : List Nat → St → Bool
  | [], _ => true
  | d :: ds, s => nptr s d && nonPs ds s

def wpOpsC (P : Program) (pa : List (Nat × Nat)) (all : List AO) : List AO → St → (St → Prop) → Prop
  | [], s, K => K s
  | o :: os, s, K => wpOp P none all o s fun s' => (freeAll (dsL os) s' && (paOk pa s' && nonPs (nsL pa os) s')) = true ∧ wpOpsC P pa all os s' K

def setPs : List Nat → List PV → List TV → List TV
  | p :: ps, x :: xs, tm => setPs ps xs (tm.set p (.v x))
  | _, _, tm => tm

/-- The state as a round begins. -/
def enterR (ps : List Nat) (x : List PV) (s : St) : St := { s with tm := setPs ps x (s.sv.headD []) }
/-- The state as the loop is left. -/
def leaveR (s : St) : St := { s with tm := s.sv.headD [], sv := s.sv.tail }
/-- The state between two rounds. -/
def betw (s : St) : St := { s with tm := [] }

def Rounds (g : List Gh) (ps : List Nat) (run : (XA → St → Prop) → St → Prop) (Q : XA → St → Prop) : List (List PV) → St → Prop
  | [], s => Q .normal (leaveR s)
  | x :: xs, s => x.length = ps.length ∧ run (fun e s' => match e with
      | .normal => ∃ s1, ghs g (betw s') = some s1 ∧ Rounds g ps run Q xs s1
      | .ret => Q .ret (leaveR s')
      | .exit id => Q (.exit id) (leaveR s')) (enterR ps x s)

def wpA (P : Program) (its : Option (Nat × List (List PV))) : AC → (XA → St → Prop) → St → Prop
  | .skip, Q, s => Q .normal s
  | .reg d y ops, Q, s => wpOpsA P (if d = true ∧ y = false then none else its) ops ops s (Q .normal)
  | .seq x y, Q, s => wpA P its x (fun e s' => match e with | .normal => wpA P its y Q s' | .ret => Q .ret s' | .exit id => Q (.exit id) s') s
  | .cond c x y, Q, s => match ev s c with
    | some (.v (.s (.bool b))) => if b = true then wpA P its x Q s else wpA P its y Q s
    | _ => False
  | .block id x, Q, s => wpA P its x (fun e s' => match e with | .exit j => if j = id then Q .normal s' else Q (.exit j) s' | .normal => Q .normal s' | .ret => Q .ret s') s
  | .loop g x, Q, s => ∃ (Inv : Nat → St → Prop) (m : Nat) (s0 : St), ghs g s = some s0 ∧ Inv m s0 ∧ ∀ m s, Inv m s →
      wpA P its x (fun e s' => match e with | .normal => ∃ s1 m', ghs g s' = some s1 ∧ m' < m ∧ Inv m' s1 | .ret => Q .ret s' | .exit id => Q (.exit id) s') s
  | .rf f ps g assign body, Q, s => ∃ items p s1, its = none ∧ ev s f = some (.v p) ∧ IterOk P p items ∧ ghs g (betw { s with sv := s.tm :: s.sv }) = some s1 ∧
      Rounds g ps (fun Q' s' => wpA P none assign (fun e s2 => match e with | .normal => wpA P none body Q' s2 | _ => False) s') Q items s1
  | .exit id, Q, s => Q (.exit id) s
  | .ret, Q, s => Q .ret s
  | .dead, _, _ => False
  | .regd pa ops, Q, s => (freeAll (dsL ops) s && (paOk pa s && nonPs (nsL pa ops) s)) = true ∧ wpOpsC P pa ops ops s (Q .normal)
  | .gh g x, Q, s => ∃ s1, ghs g s = some s1 ∧ wpA P its x Q s1

end Go.Proofs.Ytadfcbpakfaaaaa.A

/- One operation of a region: what is told, the model does. -/
set_option linter.unusedVariables false
set_option linter.unusedSimpArgs false
namespace Go.Proofs.Ytadfcbpakfaaaaa.A
open Go Go.RowKit Go.Shelf

/-- Every function may run; ro: the round that is walked. -/
def wideR (ro : Option Nat) : Fence := { Fence.wide with round := ro }

/-- What the told state is measured against: as the call began; in an iterator: as the last round left it. -/
def Base (its : Option (Nat × List (List PV))) (w00 : World) (I00 : Imm) (J : Nat → Imm → World → Prop) (it : Nat) (w0 : World) (I0 : Imm) : Prop :=
  match its with
  | none => w0 = w00 ∧ I0 = I00
  | some _ => J it I0 w0 ∧ I00.le I0

def Ctx (P : Program) (its : Option (Nat × List (List PV))) (J : Nat → Imm → World → Prop) : Prop :=
  ∀ l xs, its = some (l, xs) → Abiding J ∧ RoundOk P l J xs

section
variable {P : Program} {its : Option (Nat × List (List PV))} {w00 : World} {I00 : Imm} {Jt : Nat → Imm → World → Prop} {ro : Option Nat}
variable {w0 w w' : World} {I0 I J : Imm} {β : Nat → Nat} {κ : Nat → Nat × Nat × Nat} {s s' : St} {sav : List (Array Value)} {a : Act}

/-- The model's state reads as s, measured against something that Base lets in. -/
def Sat (its : Option (Nat × List (List PV))) (B : Nat → World → Imm → Prop) (I : Imm) (s : St) (sav : List (Array Value)) (a : Act) (w : World) : Prop :=
  (its.isSome = true → a.defers = []) ∧ ∃ w0 I0 β κ, B s.it w0 I0 ∧ Sim w0 I0 I β κ s sav a w

theorem put_defers (a : Act) (d : Option Nat) (v : Value) : (a.put d v).defers = a.defers := by cases d <;> rfl

/-- How a told step goes on. -/
def Next1 (its : Option (Nat × List (List PV))) (B : Nat → World → Imm → Prop) (I : Imm) (sav : List (Array Value)) (w : World) (next : Act → World → Prop) (K : St → Prop) : Prop :=
  ∀ s' a' w' J, I.le J → (its = none → KeepsOthers w w') → Sat its B J s' sav a' w' → K s' → next a' w'

theorem KeepsOthers.ofBelow (h : Below w.heap.size w w') : KeepsOthers w w' :=
  ⟨h.size, fun k o hk _ => (h.block k (Array.getElem?_eq_some_iff.1 hk).1).trans hk⟩

theorem stepA_it {dst : Option Nat} {op : Op} {i : Inf} (h : stepA s dst op i = some s') : s'.it = s.it := by
  have hput : ∀ (s : St) (t : TV), (putT s dst t).it = s.it := fun s t => by cases dst <;> rfl
  have hnt : ∀ l (s : St), (newToks l s).it = s.it := fun l => by
    induction l with
    | nil => exact fun _ => rfl
    | cons p l ih => exact fun s => (ih _).trans rfl
  have hval : ∀ {op : Op}, (valA s op i).map (putT s dst) = some s' → s'.it = s.it := fun h => by
    obtain ⟨t, _, rfl⟩ := Option.map_eq_some_iff.1 h
    exact hput s t
  unfold stepA at h
  split at h
  · split at h
    · split at h
      · cases h; simp [putT, St.newBox, St.mapTV, hnt]
      · cases h
    · cases h
  · split at h
    · split at h
      · obtain ⟨cs, _, rfl⟩ := Option.map_eq_some_iff.1 h
        simp [putT, St.newBox, St.mapTV]
      · cases h
    · cases h
  · split at h
    · split at h
      · split at h
        · cases h; exact hput _ _
        · cases h
      · split at h
        · cases h; simp [putT, St.newBox, St.mapTV]
        · cases h
    · cases h
  · split at h
    · obtain ⟨s1, h1, rfl⟩ := Option.map_eq_some_iff.1 h
      rw [hput]
      unfold storeA at h1
      split at h1
      · split at h1
        · split at h1
          · cases h1; rfl
          · cases h1
        · cases h1
      · cases h1
    · cases h
  · split at h
    · split at h
      · cases h; exact hput _ _
      · cases h
    · cases h
  · split at h
    · split at h
      · unfold appA at h
        split at h
        · split at h
          · cases h; rfl
          · cases h
        · split at h
          · cases h
          · split at h
            · cases h; rfl
            · cases h
        · split at h
          · split at h
            · cases h; rfl
            · split at h
              · cases h
              · cases h; rfl
          · cases h
        · cases h
      · cases h
    · exact hval h
  · split at h
    · exact hval h
    · cases h; exact hput _ _
  · exact hval h

theorem wpIn_run {o : Oper} {next : Act → World → Prop} {Q : Exit → Act → World → Prop} (hd : ∀ c, o.op ≠ .defer c) (h : o.uponIn (wideR ro) 0 P a next Q ((execOp a.eval o).run P w)) : o.wpIn (wideR ro) 0 P a w next Q := by
  refine ⟨fun _ _ => trivial, ?_⟩
  rw [Oper.semAt_eq _ _ _ hd]
  exact h

theorem upon_calls {o : Oper} {next : Act → World → Prop} {Q : Exit → Act → World → Prop} {f : FuncId} {args : Array Value} {R : Ending → World → Prop} (hc : Calls P f args w R) (hR : ∀ e w', R e w' → ∃ v, e = .returned v ∧ next (a.put o.dst v) w') :
    o.uponIn (wideR ro) 0 P a next Q (.ok (.enter f args) w) := by
  refine ⟨fun h => by simp [wideR, Fence.wide] at h, ?_⟩
  have h1 : CallsIn (wideR ro) (0 - 1) P f args w R := by
    have := (callsIn_wide (n := 0 - 1)).2 hc
    cases ro with
    | none => exact this
    | some l => exact CallsIn.inRound l this
  refine h1.mono ?_
  intro e w' hr
  obtain ⟨v, rfl, hn⟩ := hR e w' hr
  exact hn

theorem round_ro {l : Nat} {f : FuncId} {tmps : Array Value} {assign body : Code} {R : Ending → World → Prop} (h : RoundIn Fence.wide 0 P l f tmps assign body w R) : RoundIn (wideR ro) (0 - 1) P l f tmps assign body w R := by
  cases ro with
  | none => exact h
  | some l => exact h

theorem sound_step {o : Oper} {ao : AO} {next : Act → World → Prop} {Q : Exit → Act → World → Prop} {K : St → Prop} (hop : ao.op = o.op) (hdst : ao.dst = o.dst) (hi : infOk' P ao.op ao.inf = true)
    (hdf : its.isSome = true → a.defers = []) (hB : Base its w00 I00 Jt s.it w0 I0) (h : Sim w0 I0 I β κ s sav a w) (hs : stepA s ao.dst ao.op ao.inf = some s') (hk : K s') (hn : Next1 its (Base its w00 I00 Jt) I sav w next K) : o.wpIn (wideR ro) 0 P a w next Q := by
  rw [hop] at hi hs
  rw [hdst] at hs
  have hd : ∀ c, o.op ≠ .defer c := fun c e => by rw [e] at hs; simp [stepA, valA] at hs
  refine wpIn_run hd ?_
  obtain ⟨v, w', J, β', κ', hrun, hIJ, hkeep, hsim⟩ := goes_step h hi hs
  have hgo : next (a.put o.dst v) w' := hn s' _ w' J hIJ (fun _ => hkeep) ⟨fun e => by rw [put_defers]; exact hdf e, w0, I0, β', κ', by rw [stepA_it hs]; exact hB, hsim⟩ hk
  rcases hrun with hrun | ⟨hrun, rfl⟩
  · rw [hrun]; exact hgo
  · rw [hrun]; exact hgo

theorem sat_ok {r : PV} {v : Value} (hdf : its.isSome = true → a.defers = []) (hB : Base its w00 I00 Jt s.it w0 I0) (h : Sim w0 I0 I β κ s sav a w) (hb : Below w.heap.size w w') (hJ : I.le J) (hg : Good J w') (hold : ∀ b, b < w.heap.size → J b = I b) (hr : C J r v) (dst : Option Nat) :
    Sat its (Base its w00 I00 Jt) J (putT s dst (.v r)) sav (a.put dst v) w' := by
  refine ⟨fun e => by rw [put_defers]; exact hdf e, w0, I0, β, κ, ?_, (h.grow hb hJ hold hg).putT dst (.v hr)⟩
  have : (putT s dst (.v r)).it = s.it := by cases dst <;> rfl
  rw [this]; exact hB

theorem sound_call {o : Oper} {c : Call} {next : Act → World → Prop} {Q : Exit → Act → World → Prop} {K : St → Prop} (hop : o.op = .call c) (hctx : Ctx P its Jt)
    (hdf : its.isSome = true → a.defers = []) (hB : Base its w00 I00 Jt s.it w0 I0) (h : Sim w0 I0 I β κ s sav a w) (hs : callA P its s o.dst c K) (hn : Next1 its (Base its w00 I00 Jt) I sav w next K) : o.wpIn (wideR ro) 0 P a w next Q := by
  have hd : ∀ c, o.op ≠ .defer c := fun c e => by rw [hop] at e; cases e
  refine wpIn_run hd ?_
  obtain ⟨callee, args, argTypes⟩ := c
  unfold callA at hs
  simp only at hs
  split at hs
  · exact hs.elim
  · rename_i f
    split at hs
    · -- a function of the program's
      rename_i k caps ps hf hps
      obtain ⟨r, ⟨hent, hok⟩, hk⟩ := hs
      obtain ⟨arr, hfv, hcaps⟩ := (ev_R h hf).inv.inv_fn
      have hargs := pvs_C h hps
      have hrun : (execOp a.eval o).run P w = .ok (.enter k (args.map a.eval ++ arr)) w := by
        simp [execOp, hop, resolve, hfv, Deferred.ofValue, invoke, hent (args.map a.eval ++ arr) w]
      rw [hrun]
      have hall : Cs I (ps ++ caps) ((args.map a.eval).toList ++ arr.toList) := by
        rw [Array.toList_map]
        exact hargs.append hcaps
      have hcall := hok I w _ h.good hall
      have e1 : ((args.map a.eval).toList ++ arr.toList).toArray = args.map a.eval ++ arr := by simp
      rw [e1] at hcall
      refine upon_calls hcall ?_
      rintro e w' ⟨v, J, rfl, hb, hJ, hg, hold, hr⟩
      exact ⟨v, rfl, hn _ _ w' J hJ (fun _ => KeepsOthers.ofBelow hb) (sat_ok hdf hB h hb hJ hg hold hr o.dst) hk⟩
    · -- a round
      rename_i l' ps hf hps
      split at hs
      · rename_i its l xs
        obtain ⟨rfl, hbx, htk, hit, hk1, hk2⟩ := hs
        obtain ⟨hab, hround⟩ := hctx _ _ rfl
        obtain ⟨arr, hfv, hcaps⟩ := (ev_R h hf).inv.inv_fn
        have ha0 : arr = #[] := by obtain ⟨arr⟩ := arr; cases hcaps; rfl
        subst ha0
        have hargs := pvs_C h hps
        obtain ⟨hJ0, hle⟩ := hB
        have hJ1 : Jt s.it I w := hab _ _ _ _ _ hJ0 h.below h.ext h.old h.good
        obtain ⟨fn, tmps, assign, body, hy, hr⟩ := hround s.it ps I w _ hit hJ1 h.good hargs
        have hrun : (execOp a.eval o).run P w = .ok (.round l' fn tmps assign body) w := by
          have e1 : (args.toList.map a.eval).toArray = args.map a.eval := by rw [← Array.toList_map, Array.toArray_toList]
          rw [e1] at hy
          simp [execOp, hop, resolve, hfv, Deferred.ofValue, invoke, hy]
        rw [hrun]
        have rebase : ∀ (J2 : Imm) (W2 : World) (b : Bool) (it' : Nat), I.le J2 → Good J2 W2 → Jt it' J2 W2 → Sat (some (l', xs)) (Base (some (l', xs)) w00 I00 Jt) J2 { putT s o.dst (bl b) with it := it' } sav (a.put o.dst (.bool b)) W2 := by
          intro J2 W2 b it' hle2 hg2 hj
          refine ⟨fun e => by rw [put_defers]; exact hdf e, W2, J2, β, κ, ⟨hj, Imm.le_trans hle (Imm.le_trans h.ext hle2)⟩, ?_⟩
          have h2 := h.putT o.dst (x := bl b) (v := .bool b) (.v (.s _))
          have e1 : (putT s o.dst (bl b)).bx = [] ∧ (putT s o.dst (bl b)).tk = [] := by
            cases o.dst <;> exact ⟨hbx, htk⟩
          exact
            { below := Below.refl _ _
              good := hg2
              ext := Imm.le_refl _
              old := fun _ _ => rfl
              tm := by have := h2.tm.map (f := id) (fun _ _ k => k.mono hle2); rwa [List.map_id] at this
              sv := by have := h2.sv.map (f := id) (fun _ _ k => k.mono hle2); rwa [id_map] at this
              box := fun b cells hb => by simp only [e1.1, lk] at hb; cases hb
              rob := fun b cells hb => by
                obtain ⟨ar, k1, k2, k3⟩ := h2.rob b cells hb
                obtain ⟨m, hm'⟩ := hle2 _ _ k1
                refine ⟨_, hm', ?_, by simp; omega⟩
                rw [List.take_append_of_le_length k3]
                exact k2.mono hle2
              inj := fun b b' c c' hb => by simp only [e1.1, lk] at hb; cases hb
              tok := fun t ht => by simp [e1.2, tkOf, lk] at ht
              tinj := fun t t' ht => by simp [e1.2, tkOf, lk] at ht
              dfr := ⟨[], by rw [put_defers, hdf rfl]; rfl, List.nodup_nil, by simp⟩ }
        refine ⟨fun h => by simp [wideR, Fence.wide] at h, ?_⟩
        have hr' := round_ro (ro := ro) hr
        refine hr'.mono ?_
        rintro e W2 ⟨J2, hle2, hg2, ⟨rfl, hj⟩ | ⟨rfl, hj⟩⟩
        · exact hn _ _ W2 J2 hle2 (fun e => by cases e) (rebase J2 W2 true _ hle2 hg2 hj) hk1
        · exact hn _ _ W2 J2 hle2 (fun e => by cases e) (rebase J2 W2 false _ hle2 hg2 hj) hk2
      · exact hs.elim
    · exact hs.elim
  · rename_i r name
    split at hs
    · rename_i t x ps hf hps
      obtain ⟨f, r', hm, ⟨hent, hok⟩, hk⟩ := hs
      have hC := (ev_R h hf).inv
      have hargs := pvs_C h hps
      generalize hrv : a.eval r = rv at hC
      cases hC with
      | @ifc _ _ v hx =>
        have hrun : (execOp a.eval o).run P w = .ok (.enter f (#[v] ++ args.map a.eval)) w := by
          have h1 := hm v (args.map a.eval) w
          have e0 : (#[Value.iface t v] ++ args.map a.eval)[0]? = some (.iface t v) := by simp [Array.getElem?_append]
          have e2 : (args.map a.eval).extract 0 args.size = args.map a.eval := by apply Array.ext <;> simp
          simp [execOp, hop, resolve, hrv, invoke, e0, e2, h1]
        rw [hrun]
        have hall : Cs I (x :: ps) (v :: (args.toList.map a.eval)) := .cons hx hargs
        have hcall := hok I w _ h.good hall
        have e1 : (v :: args.toList.map a.eval).toArray = #[v] ++ args.map a.eval := by simp
        rw [e1] at hcall
        refine upon_calls hcall ?_
        rintro e w' ⟨v', J, rfl, hb, hJ, hg, hold, hr⟩
        exact ⟨v', rfl, hn _ _ w' J hJ (fun _ => KeepsOthers.ofBelow hb) (sat_ok hdf hB h hb hJ hg hold hr o.dst) hk⟩
    · exact hs.elim

end
end Go.Proofs.Ytadfcbpakfaaaaa.A

/- Regions in the text's order; what is said of a state that no operation does. -/
set_option linter.unusedVariables false
set_option linter.unusedSimpArgs false
namespace Go.Proofs.Ytadfcbpakfaaaaa.A
open Go Go.RowKit Go.Shelf

/-- What a region's operations are, without where they stand in the text. -/
def opKey (o : Oper) : Option Nat × Op × Option (Nat × Bool) × List Nat := (o.dst, o.op, o.guard, (o.after.toList.filter fun e => Region.binds .any e).map (·.on))
def AO.key (o : AO) : Option Nat × Op × Option (Nat × Bool) × List Nat := (o.dst, o.op, o.guard, o.pre)

structure OpsAgree (P : Program) (ao : List AO) (ops : Array Oper) : Prop where
  same : ops.toList.map opKey = ao.map AO.key
  inf : ao.all (fun a => infOk' P a.op a.inf) = true

theorem OpsAgree.get {P : Program} {ao : List AO} {ops : Array Oper} (h : OpsAgree P ao ops) {i : Nat} {o : Oper} (ho : ops[i]? = some o) : ∃ a, ao[i]? = some a ∧ a.dst = o.dst ∧ a.op = o.op ∧ a.guard = o.guard ∧ a.pre = (o.after.toList.filter fun e => Region.binds .any e).map (·.on) ∧ infOk' P a.op a.inf = true := by
  have h1 := congrArg (fun l => l[i]?) h.same
  simp only [List.getElem?_map, Array.getElem?_toList, ho, Option.map_some] at h1
  cases ha : ao[i]? with
  | none => rw [ha] at h1; cases h1
  | some a =>
    rw [ha] at h1
    simp only [Option.map_some, Option.some.injEq] at h1
    simp only [opKey, AO.key, Prod.mk.injEq] at h1
    have h2 := h.inf
    rw [List.all_eq_true] at h2
    exact ⟨a, rfl, h1.1.symm, h1.2.1.symm, h1.2.2.1.symm, h1.2.2.2.symm, h2 a (List.mem_of_getElem? ha)⟩

theorem OpsAgree.length {P : Program} {ao : List AO} {ops : Array Oper} (h : OpsAgree P ao ops) : ao.length = ops.size := by
  have := congrArg List.length h.same
  simpa using this.symm

section
variable {P : Program} {its : Option (Nat × List (List PV))} {w00 : World} {I00 : Imm} {Jt : Nat → Imm → World → Prop} {ro : Option Nat}
variable {w0 w w' : World} {I0 I J : Imm} {β : Nat → Nat} {κ : Nat → Nat × Nat × Nat} {s s' : St} {sav : List (Array Value)} {a : Act}

theorem run_nilTest {t e : TypeId} (hu : P.underlying t = some (.slice e)) {ex : Bool} {els : List PV} {u : Value} (hC : C I (.sl ex els) u) (x y : Operand) :
    ∃ b : Bool, (els.isEmpty = false → b = false) ∧ (eqGuard .eql t x y u (.slice none 0 0)).run P w = .ok () w ∧ (binOp .eql t u (.slice none 0 0)).run P w = .ok (.bool b) w := by
  cases hC with
  | sl0 =>
    refine ⟨true, (fun h => by cases h), run_eqGuard_num (by simp) (by simp) w, ?_⟩
    have e1 : binOp .eql t (.slice none 0 0) (.slice none 0 0) = (do pure (.bool (← Op.equal t (.slice none 0 0) (.slice none 0 0)))) := rfl
    have h : (Op.equal t (.slice none 0 0) (.slice none 0 0)).run P w = .ok true w := eqIn_nil_slice 9999 hu none 0 0 0 0 w
    rw [e1]
    simp [h]
  | @sle _ ad =>
    refine ⟨false, fun _ => rfl, run_eqGuard_num (by simp) (by simp) w, ?_⟩
    have e1 : binOp .eql t (.slice (some ad) 0 0) (.slice none 0 0) = (do pure (.bool (← Op.equal t (.slice (some ad) 0 0) (.slice none 0 0)))) := rfl
    have h : (Op.equal t (.slice (some ad) 0 0) (.slice none 0 0)).run P w = .ok false w := eqIn_slice_nil 9999 hu _ _ _ _ _ w
    rw [e1]
    simp [h]
  | @sl _ _ b off n sz cap arr _ _ _ _ _ _ _ =>
    refine ⟨false, fun _ => rfl, run_eqGuard_num (by simp) (by simp) w, ?_⟩
    have e1 : binOp .eql t (.slice (some ⟨b, off, none⟩) n cap) (.slice none 0 0) = (do pure (.bool (← Op.equal t (.slice (some ⟨b, off, none⟩) n cap) (.slice none 0 0)))) := rfl
    have h : (Op.equal t (.slice (some ⟨b, off, none⟩) n cap) (.slice none 0 0)).run P w = .ok false w := eqIn_slice_nil 9999 hu _ _ _ _ _ w
    rw [e1]
    simp [h]

theorem sound_nil {o : Oper} {ao : AO} {x : Operand} {next : Act → World → Prop} {Q : Exit → Act → World → Prop} {K : St → Prop} (hop : ao.op = o.op) (hdst : ao.dst = o.dst) (hi : infOk' P ao.op ao.inf = true)
    (hdf : its.isSome = true → a.defers = []) (hB : Base its w00 I00 Jt s.it w0 I0) (h : Sim w0 I0 I β κ s sav a w) (hx : nilTest ao = some x) (hs : nilA s o.dst x K) (hn : Next1 its (Base its w00 I00 Jt) I sav w next K) : o.wpIn (wideR ro) 0 P a w next Q := by
  unfold nilTest at hx
  split at hx
  · rename_i t x' yt hop'
    split at hx
    · rename_i hfl
      cases hx
      rw [hop'] at hop hi
      obtain ⟨odst, oop, otype, opos, oaf, og⟩ := o
      simp only at hop hs
      subst hop
      have hu : ∃ e, P.underlying t = some (.slice e) := by
        simp only [infOk', infOk] at hi
        exact eqTy_slice (i := ao.inf) hi hfl.2
      obtain ⟨e, hu⟩ := hu
      refine wpIn_run (by simp) ?_
      have hgo : ∀ b : Bool, K (putT s odst (bl b)) → next (a.put odst (.bool b)) w := fun b hK =>
        hn _ _ w I (Imm.le_refl _) (fun _ => KeepsOthers.refl _) ⟨fun e => by rw [put_defers]; exact hdf e, w0, I0, β, κ, by
          have : (putT s odst (.v (.s (.bool b)))).it = s.it := by cases odst <;> rfl
          rw [this]; exact hB, h.putT odst (.v (.s _))⟩ hK
      unfold nilA at hs
      split at hs
      · rename_i ex els hev
        have hC := (ev_R h hev).inv
        obtain ⟨b, h1, h2, h3⟩ := run_nilTest (w := w) hu hC x (.const (.slice none 0 0))
        have hrun : (execOp a.eval ⟨odst, .binOp .eql t x (.const (.slice none 0 0)) yt, otype, opos, oaf, og⟩).run P w = .ok (.value (.bool b)) w := by
          have e0 : a.eval (.const (.slice none 0 0)) = .slice none 0 0 := rfl
          simp [execOp, e0, h2, h3]
        rw [hrun]
        exact hgo b (hs b h1)
      · rename_i hev
        have hC := (ev_R h hev).inv.inv_s
        obtain ⟨b, h1, h2, h3⟩ := run_nilTest (w := w) (I := I) hu (C.sl0 (ex := true)) x (.const (.slice none 0 0))
        have h4 : (binOp .eql t (.slice none 0 0) (.slice none 0 0)).run P w = .ok (.bool true) w := by
          have e1 : binOp .eql t (.slice none 0 0) (.slice none 0 0) = (do pure (.bool (← Op.equal t (.slice none 0 0) (.slice none 0 0)))) := rfl
          have h : (Op.equal t (.slice none 0 0) (.slice none 0 0)).run P w = .ok true w := eqIn_nil_slice 9999 hu none 0 0 0 0 w
          rw [e1]
          simp [h]
        have hrun : (execOp a.eval ⟨odst, .binOp .eql t x (.const (.slice none 0 0)) yt, otype, opos, oaf, og⟩).run P w = .ok (.value (.bool true)) w := by
          have e0 : a.eval (.const (.slice none 0 0)) = .slice none 0 0 := rfl
          simp [execOp, e0, hC, h2, h4]
        rw [hrun]
        exact hgo true hs
      · exact hs.elim
    · cases hx
  · cases hx

theorem sound_exec {o : Oper} {ao : AO} {next : Act → World → Prop} {Q : Exit → Act → World → Prop} {K : St → Prop} (hop : ao.op = o.op) (hdst : ao.dst = o.dst) (hi : infOk' P ao.op ao.inf = true) (hctx : Ctx P its Jt)
    (hdf : its.isSome = true → a.defers = []) (hB : Base its w00 I00 Jt s.it w0 I0) (h : Sim w0 I0 I β κ s sav a w) (hs : execA P its s ao K) (hn : Next1 its (Base its w00 I00 Jt) I sav w next K) : o.wpIn (wideR ro) 0 P a w next Q := by
  unfold execA at hs
  split at hs
  · rename_i x hx
    exact sound_nil hop hdst hi hdf hB h hx (hdst ▸ hs) hn
  unfold execB at hs
  split at hs
  · rename_i c hc
    split at hs
    · obtain ⟨s', h1, h2⟩ := hs
      exact sound_step hop hdst hi hdf hB h h1 h2 hn
    · rw [hdst] at hs
      exact sound_call (hop ▸ hc) hctx hdf hB h hs hn
  · obtain ⟨s', h1, h2⟩ := hs
    exact sound_step hop hdst hi hdf hB h h1 h2 hn

/-- The value that a guard looks at. -/
theorem guard_val {ops : Array Oper} {all : List AO} (hag : OpsAgree P all ops) (h : Sim w0 I0 I β κ s sav a w) {j : Nat} {b : Bool} (hg : ((all[j]?).bind (·.dst)).bind (s.tm[·]?) = some (.v (.s (.bool b)))) : yielded ops a.tmps j = some b := by
  obtain ⟨d, h1, h2⟩ := Option.bind_eq_some_iff.1 hg
  obtain ⟨ao, h3, h4⟩ := Option.bind_eq_some_iff.1 h1
  have hlt : j < ops.size := by rw [← hag.length]; exact (List.getElem?_eq_some_iff.1 h3).1
  obtain ⟨ao', k1, k2, _⟩ := hag.get (Array.getElem?_eq_getElem hlt)
  rw [h3] at k1
  cases k1
  obtain ⟨v, hv, hR⟩ := h.tm.get h2
  have hvb := hR.inv.inv_s
  subst hvb
  unfold yielded
  rw [Array.getElem?_eq_getElem hlt]
  simp only [Option.bind_some]
  rw [← k2, h4]
  simp only [Option.bind_some]
  rw [Array.getElem?_toList] at hv
  rw [hv]

theorem sound_op {ops : Array Oper} {all : List AO} (hag : OpsAgree P all ops) (hctx : Ctx P its Jt) {i : Nat} {rest : List Nat} {ao : AO} {K : St → Prop} {Q : Exit → Act → World → Prop} (hao : all[i]? = some ao)
    (hdf : its.isSome = true → a.defers = []) (hB : Base its w00 I00 Jt s.it w0 I0) (h : Sim w0 I0 I β κ s sav a w) (hs : wpOp P its all ao s K)
    (hn : Next1 its (Base its w00 I00 Jt) I sav w (wpOpsIn (wideR ro) 0 P ops Q rest) K) : wpOpsIn (wideR ro) 0 P ops Q (i :: rest) a w := by
  have hlt : i < ops.size := by rw [← hag.length]; exact (List.getElem?_eq_some_iff.1 hao).1
  obtain ⟨ao', k1, k2, k3, k4, k5, k6⟩ := hag.get (Array.getElem?_eq_getElem hlt)
  rw [hao] at k1
  cases k1
  simp only [wpOpsIn, Array.getElem?_eq_getElem hlt]
  unfold wpOp at hs
  split at hs
  · rename_i hg
    have hw : Region.wanted ops[i] (yielded ops a.tmps) = true := by unfold Region.wanted; rw [← k4, hg]
    rw [if_pos hw]
    exact sound_exec k3 k2 k6 hctx hdf hB h hs hn
  · rename_i j want hg
    split at hs
    · rename_i b hb
      have hy := guard_val hag h hb
      split at hs
      · rename_i hbw
        have hw : Region.wanted ops[i] (yielded ops a.tmps) = true := by unfold Region.wanted; rw [← k4, hg]; simp only [hy, hbw, beq_self_eq_true]
        rw [if_pos hw]
        exact sound_exec k3 k2 k6 hctx hdf hB h hs hn
      · rename_i hbw
        have hw : ¬ (Region.wanted ops[i] (yielded ops a.tmps) = true) := by unfold Region.wanted; rw [← k4, hg]; simp only [hy]; simpa using hbw
        rw [if_neg hw]
        refine ⟨fun _ _ => trivial, ?_⟩
        refine hn _ _ w I (Imm.le_refl _) (fun _ => KeepsOthers.refl _) ⟨fun e => by rw [put_defers]; exact hdf e, w0, I0, β, κ, ?_, h.putT _ (.v (.junk _))⟩ (k2 ▸ hs)
        have : (putT s ops[i].dst (.v .junk)).it = s.it := by cases ops[i].dst <;> rfl
        rw [this]; exact hB
    · exact hs.elim

/-- What is told behind code. -/
def PostA (its : Option (Nat × List (List PV))) (B : Nat → World → Imm → Prop) (I : Imm) (sav : List (Array Value)) (w : World) (Q : XA → St → Prop) : Exit → Act → World → Prop
  | .normal, a', w' => ∃ s' J, Q .normal s' ∧ I.le J ∧ (its = none → KeepsOthers w w') ∧ Sat its B J s' sav a' w'
  | .ret, a', w' => ∃ s' J, Q .ret s' ∧ I.le J ∧ (its = none → KeepsOthers w w') ∧ Sat its B J s' sav a' w'
  | .exit id, a', w' => ∃ s' J, Q (.exit id) s' ∧ I.le J ∧ (its = none → KeepsOthers w w') ∧ Sat its B J s' sav a' w'
  | _, _, _ => False

theorem sound_ops {ops : Array Oper} {all : List AO} (hag : OpsAgree P all ops) (hctx : Ctx P its Jt) {Q : XA → St → Prop} (Iz : Imm) (wz : World) : ∀ (n k : Nat), k + n = ops.size → ∀ {I w s a w0 I0 β κ}, Iz.le I → (its = none → KeepsOthers wz w) →
    (its.isSome = true → a.defers = []) → Base its w00 I00 Jt s.it w0 I0 → Sim w0 I0 I β κ s sav a w → wpOpsA P its all (all.drop k) s (Q .normal) →
    wpOpsIn (wideR ro) 0 P ops (PostA its (Base its w00 I00 Jt) Iz sav wz Q) (List.range' k n) a w
  | 0, k, hk, I, w, s, a, w0, I0, β, κ, hle, hkeep, hdf, hB, h, hs => by
    have e : all.drop k = [] := List.drop_eq_nil_of_le (by rw [hag.length]; omega)
    rw [e] at hs
    exact ⟨s, I, hs, hle, hkeep, hdf, w0, I0, β, κ, hB, h⟩
  | n + 1, k, hk, I, w, s, a, w0, I0, β, κ, hle, hkeep, hdf, hB, h, hs => by
    have hlt : k < all.length := by rw [hag.length]; omega
    have e : all.drop k = all[k] :: all.drop (k + 1) := List.drop_eq_getElem_cons hlt
    rw [e] at hs
    refine sound_op hag hctx (List.getElem?_eq_getElem hlt) hdf hB h hs ?_
    intro s' a' w' J hle' hkeep' ⟨hdf1, w1, I1, β1, κ1, hB1, h1⟩ hK
    exact sound_ops hag hctx Iz wz n (k + 1) (by omega) (Imm.le_trans hle hle') (fun e => (hkeep e).trans (hkeep' e)) hdf1 hB1 h1 hK

/-! ### What no operation does -/
theorem Sim.junkAll (l : List Nat) : ∀ {s : St}, Sim w0 I0 I β κ s sav a w → Sim w0 I0 I β κ { s with tm := A.junkAll l s.tm } sav a w := by
  induction l with
  | nil => exact fun h => h
  | cons d l ih =>
    intro s h
    have htm : Rs I β κ (tkOf s.tk) (s.tm.set d (.v .junk)) a.tmps.toList := by
      have hl := h.tm.length
      by_cases hd : d < a.tmps.toList.length
      · have := h.tm.set d (x := .v .junk) (v := a.tmps.toList[d]) (.v (.junk _))
        rwa [List.set_getElem_self] at this
      · have e : s.tm.set d (.v .junk) = s.tm := List.set_eq_of_length_le (by omega)
        rw [e]
        exact h.tm
    have h1 : Sim w0 I0 I β κ { s with tm := s.tm.set d (.v .junk) } sav a w := { h with tm := htm }
    exact ih h1

theorem lk_rmAll {γ : Type} (ds : List Nat) : ∀ (l : List (Nat × γ)) (b : Nat) (c : γ), lk b (rmAll ds l) = some c → lk b l = some c := by
  induction ds with
  | nil => exact fun _ _ _ h => h
  | cons d ds ih =>
    intro l b c h
    have := ih _ b c h
    rw [lk_rm] at this
    split at this
    · cases this
    · exact this

theorem Sim.boxTo (h : Sim w0 I0 I β κ s sav a w) {b : Nat} {cells cells' : List TV} (hb : lk b s.bx = some cells) (hR : ∀ vs, Rs I β κ (tkOf s.tk) cells vs → Rs I β κ (tkOf s.tk) cells' vs) :
    Sim w0 I0 I β κ { s with bx := upd b cells' s.bx } sav a w := by
  have hold : ∀ j c, lk j (upd b cells' s.bx) = some c → ∃ c0, lk j s.bx = some c0 ∧ (j = b → c0 = cells ∧ c = cells') ∧ (j ≠ b → c0 = c) := by
    intro j c hj
    rw [lk_upd] at hj
    by_cases e : j = b
    · rw [if_pos e] at hj
      cases hj
      subst e
      exact ⟨cells, hb, fun _ => ⟨rfl, rfl⟩, fun e => (e rfl).elim⟩
    · rw [if_neg e] at hj
      exact ⟨c, hj, fun e' => (e e').elim, fun _ => rfl⟩
  exact
    { h with
      box := fun j c hj => by
        obtain ⟨c0, h0, h1, h2⟩ := hold j c hj
        obtain ⟨g1, g2, cs, ty, g3, g4⟩ := h.box j c0 h0
        refine ⟨g1, g2, cs, ty, g3, ?_, g4.2⟩
        by_cases e : j = b
        · obtain ⟨e1, e2⟩ := h1 e
          rw [e2]
          rw [e1] at g4
          exact hR _ g4.1
        · rw [← h2 e]; exact g4.1
      inj := fun j j' c c' hj hj' hβ => by
        obtain ⟨c0, h0, _⟩ := hold j c hj
        obtain ⟨c1, h1, _⟩ := hold j' c' hj'
        exact h.inj _ _ _ _ h0 h1 hβ }

theorem Rs_tovs {tk : Nat → Nat} : ∀ {l : List TV} {cs : List PV} {vs : List Value}, tovs l = some cs → Rs I β κ tk l vs → Rs I β κ tk (cs.map .v) vs
  | [], cs, vs, h, hR => by simp only [tovs, Option.some.injEq] at h; subst h; cases hR; exact .nil
  | x :: l, cs, vs, h, hR => by
    simp only [tovs] at h
    split at h
    · rename_i y ys h1 h2
      cases h
      cases hR with
      | cons g1 g2 => exact .cons (.v (tov_C g1 h1)) (Rs_tovs h2 g2)
    · cases h

theorem gh1_sound {g : Gh} (h : Sim w0 I0 I β κ s sav a w) (hg : gh1 g s = some s') : s'.it = s.it ∧ ∃ J, I.le J ∧ Sim w0 I0 J β κ s' sav a w := by
  cases g with
  | freeze b =>
    simp only [gh1] at hg
    split at hg
    · rename_i cells hb
      obtain ⟨cs, hcs, rfl⟩ := Option.map_eq_some_iff.1 hg
      obtain ⟨J, hJ, hs⟩ := (h.boxTo hb fun vs hR => Rs_tovs hcs hR).freeze (b := b) (cells := cs) (by simp [lk_upd])
      exact ⟨rfl, J, hJ, hs⟩
    · split at hg
      · cases hg; exact ⟨rfl, I, Imm.le_refl _, h⟩
      · cases hg
  | shut b =>
    simp only [gh1] at hg
    split at hg
    · rename_i cells hb
      split at hg
      · rename_i cs hcs
        split at hg
        · rename_i hone
          cases hg
          obtain ⟨J, hJ, hs⟩ := (h.boxTo hb fun vs hR => Rs_tovs hcs hR).shut (b := b) (cells := cs) (by simp [lk_upd]) hone
          exact ⟨rfl, J, hJ, hs⟩
        · cases hg
      · cases hg
    · cases hg
  | junk l => cases hg; exact ⟨rfl, I, Imm.le_refl _, h.junkAll l⟩
  | drop l =>
    cases hg
    exact ⟨rfl, I, Imm.le_refl _,
      { h with
        box := fun b c hc => h.box b c (lk_rmAll l _ _ _ hc)
        rob := fun b c hc => h.rob b c (lk_rmAll l _ _ _ hc)
        inj := fun b b' c c' hc hc' => h.inj b b' c c' (lk_rmAll l _ _ _ hc) (lk_rmAll l _ _ _ hc') }⟩
  | forget t => cases hg; exact ⟨rfl, I, Imm.le_refl _, h.newTok t⟩
  | row b off t =>
    simp only [gh1] at hg
    split at hg
    · rename_i cells hb
      split at hg
      · rename_i hc
        cases hg
        refine ⟨rfl, I, Imm.le_refl _, (h.newTok t).boxTo hb fun vs hR => ?_⟩
        obtain ⟨v, hv, hRv⟩ := hR.get hc
        have hv0 := hRv.inv.inv_s
        have := hR.set off (x := .acc t []) (v := v) (by rw [hv0]; exact .acc0)
        obtain ⟨hlt, hve⟩ := List.getElem?_eq_some_iff.1 hv
        rw [← hve, List.set_getElem_self] at this
        exact this
      · cases hg; exact ⟨rfl, I, Imm.le_refl _, h⟩
    · cases hg; exact ⟨rfl, I, Imm.le_refl _, h⟩

theorem ghs_sound : ∀ (l : List Gh) {s s' : St} {I : Imm}, Sim w0 I0 I β κ s sav a w → ghs l s = some s' → s'.it = s.it ∧ ∃ J, I.le J ∧ Sim w0 I0 J β κ s' sav a w
  | [], s, s', I, h, hg => by simp only [ghs, Option.some.injEq] at hg; subst hg; exact ⟨rfl, I, Imm.le_refl _, h⟩
  | g :: l, s, s', I, h, hg => by
    obtain ⟨s1, h1, h2⟩ := Option.bind_eq_some_iff.1 hg
    obtain ⟨e1, J, hJ, hs⟩ := gh1_sound h h1
    obtain ⟨e2, J2, hJ2, hs2⟩ := ghs_sound l hs h2
    exact ⟨e2.trans e1, J2, Imm.le_trans hJ hJ2, hs2⟩

theorem sat_ghs {B : Nat → World → Imm → Prop} {l : List Gh} (h : Sat its B I s sav a w) (hg : ghs l s = some s') : ∃ J, I.le J ∧ Sat its B J s' sav a w := by
  obtain ⟨hdf, w0, I0, β, κ, hB, hs⟩ := h
  obtain ⟨e, J, hJ, hs'⟩ := ghs_sound l hs hg
  exact ⟨J, hJ, hdf, w0, I0, β, κ, by rw [e]; exact hB, hs'⟩

end
end Go.Proofs.Ytadfcbpakfaaaaa.A

/- A range over a function: the rounds, told one by one. -/
set_option linter.unusedVariables false
set_option linter.unusedSimpArgs false
namespace Go.Proofs.Ytadfcbpakfaaaaa.A
open Go Go.RowKit Go.Shelf

section
variable {P : Program} {ro : Option Nat}
variable {w0 w w' : World} {I0 I J : Imm} {β : Nat → Nat} {κ : Nat → Nat × Nat × Nat} {s s' : St} {sav : List (Array Value)} {a : Act}

theorem OnlyAt.putObj (w : World) (l : Nat) (o : Obj) : OnlyAt l w (w.putObj l o) := ⟨rfl, rfl, rfl, by simp, fun j hj => World.putObj_heap_other hj⟩

theorem Sim.putLoop (h : Sim w0 I0 I β κ s sav a w) {l : Nat} {r : Loop} (hl : w.heap[l]? = some (.loop r)) (hb : w0.heap.size ≤ l) (o : Obj) : Sim w0 I0 I β κ s sav a (w.putObj l o) := by
  have ho := OnlyAt.putObj w l o
  exact
    { below := h.below.trans (ho.below hb)
      good := fun b arr hI => by
        obtain ⟨cs, ty, fz, more, h1, h2⟩ := h.good b arr hI
        exact ⟨cs, ty, fz, more, (ho.block b (fun e => by rw [e, hl] at h1; cases h1)).trans h1, h2⟩
      ext := h.ext
      old := h.old
      tm := h.tm
      sv := h.sv
      box := fun b cells hc => by
        obtain ⟨h1, h2, cs, ty, h3, h4⟩ := h.box b cells hc
        exact ⟨h1, h2, cs, ty, (ho.block _ (fun e => by rw [e, hl] at h3; cases h3)).trans h3, h4⟩
      rob := h.rob
      inj := h.inj
      tok := fun t ht => by
        obtain ⟨h1, cs, ty, arr, h3, h4⟩ := h.tok t ht
        exact ⟨h1, cs, ty, arr, (ho.block _ (fun e => by rw [e, hl] at h3; cases h3)).trans h3, h4⟩
      tinj := h.tinj
      dfr := by
        obtain ⟨Ds, h1, h2, h3⟩ := h.dfr
        exact ⟨Ds, h1, h2, fun D hD => ⟨(h3 D hD).1, (ho.block D (fun e => by have := (h3 D hD).2; rw [e, hl] at this; cases this)).trans (h3 D hD).2⟩⟩ }

theorem Sim.between (h : Sim w0 I0 I β κ s sav a w) : Sim w0 I0 I β κ (betw { s with sv := s.tm :: s.sv }) (a.tmps :: sav) { tmps := #[], defers := [] } w :=
  { below := h.below, good := h.good, ext := h.ext, old := h.old, tm := .nil, sv := .cons h.tm h.sv, box := h.box, rob := h.rob, inj := h.inj, tok := h.tok, tinj := h.tinj, dfr := ⟨[], rfl, List.nodup_nil, by simp⟩ }

/-- The slots of a round forgotten. -/
theorem Sim.forgetTm (h : Sim w0 I0 I β κ s sav a w) : Sim w0 I0 I β κ (betw s) sav { tmps := #[], defers := [] } w :=
  { below := h.below, good := h.good, ext := h.ext, old := h.old, tm := .nil, sv := h.sv, box := h.box, rob := h.rob, inj := h.inj, tok := h.tok, tinj := h.tinj, dfr := ⟨[], rfl, List.nodup_nil, by simp⟩ }

theorem setPs_R {tk : Nat → Nat} : ∀ (ps : List Nat) (x : List PV) (vs : List Value) (tm : List TV) (tms : Array Value), x.length = ps.length → Cs I x vs → Rs I β κ tk tm tms.toList →
    Rs I β κ tk (setPs ps x tm) ((ps.zip vs).foldl (fun t (p, v) => t.setIfInBounds p v) tms).toList
  | [], [], vs, tm, tms, _, hc, h => by cases hc; exact h
  | p :: ps, y :: x, vs, tm, tms, hl, hc, h => by
    cases hc with
    | cons h1 h2 =>
      simp only [setPs, List.zip_cons_cons, List.foldl_cons]
      exact setPs_R ps x _ _ _ (by simpa using hl) h2 (by rw [Array.toList_setIfInBounds]; exact h.set p (.v h1))
  | [], _ :: _, _, _, _, hl, _, _ => by simp at hl
  | _ :: _, [], _, _, _, hl, _, _ => by simp at hl

theorem Sim.enter {ps : Array Nat} {x : List PV} {vs : List Value} {tms : Array Value} (h : Sim w0 I0 I β κ s (tms :: sav) a w) (hx : x.length = ps.toList.length) (hc : Cs I x vs) :
    Sim w0 I0 I β κ (enterR ps.toList x s) (tms :: sav) { tmps := (ps.zip vs.toArray).foldl (fun t (p, v) => t.setIfInBounds p v) tms, defers := [] } w := by
  have hsv := h.sv
  have htm : Rs I β κ (tkOf s.tk) (setPs ps.toList x (s.sv.headD [])) ((ps.zip vs.toArray).foldl (fun t (p, v) => t.setIfInBounds p v) tms).toList := by
    generalize hs : s.sv = l at hsv
    cases hsv with
    | cons h1 h2 =>
      have := setPs_R ps.toList x vs _ tms hx hc h1
      rw [← Array.foldl_toList, Array.toList_zip]
      exact this
  exact { below := h.below, good := h.good, ext := h.ext, old := h.old, tm := htm, sv := h.sv, box := h.box, rob := h.rob, inj := h.inj, tok := h.tok, tinj := h.tinj, dfr := ⟨[], rfl, List.nodup_nil, by simp⟩ }

theorem Sim.leave {tms : Array Value} {df : List Deferred} (h : Sim w0 I0 I β κ s (tms :: sav) a w)
    (hd : ∃ Ds : List Nat, df = Ds.map (fun D => { target := .collected D, args := #[] }) ∧ Ds.Nodup ∧ ∀ D ∈ Ds, w0.heap.size ≤ D ∧ w.heap[D]? = some (.deferred (some []))) :
    Sim w0 I0 I β κ (leaveR s) sav { tmps := tms, defers := df } w := by
  have hsv := h.sv
  have h2 : Rs I β κ (tkOf s.tk) (s.sv.headD []) tms.toList ∧ Rss I β κ (tkOf s.tk) s.sv.tail sav := by
    generalize hs : s.sv = l at hsv
    cases hsv with
    | cons h1 h2 => exact ⟨h1, h2⟩
  exact { below := h.below, good := h.good, ext := h.ext, old := h.old, tm := h2.1, sv := h2.2, box := h.box, rob := h.rob, inj := h.inj, tok := h.tok, tinj := h.tinj, dfr := hd }

/-- How a round's body is left, as a jump. -/
def jumpOf : XA → Option Code
  | .normal => none
  | .ret => some .ret
  | .exit id => some (.exit id)

/-- What holds between the rounds. -/
def BetwRounds (g : List Gh) (ps : List Nat) (run : (XA → St → Prop) → St → Prop) (Q : XA → St → Prop) (items : List (List PV)) (w0 : World) (I0 : Imm) (sav : List (Array Value)) (w : World) (I : Imm) (l : Nat) (rec : LoopState → Option Code → Loop)
    (i : Nat) (I' : Imm) (W : World) : Prop :=
  I.le I' ∧ KeepsOthers w W ∧
    ((i ≤ items.length ∧ ∃ s β κ, Rounds g ps run Q (items.drop i) s ∧ Sim w0 I0 I' β κ s sav { tmps := #[], defers := [] } W ∧ W.heap[l]? = some (.loop (rec .ready none))) ∨
     (i = items.length + 1 ∧ ∃ xa s β κ c, jumpOf xa = some c ∧ Q xa (leaveR s) ∧ Sim w0 I0 I' β κ s sav { tmps := #[], defers := [] } W ∧ W.heap[l]? = some (.loop (rec .done (some c)))))

theorem betw_abiding {g : List Gh} {ps : List Nat} {run : (XA → St → Prop) → St → Prop} {Q : XA → St → Prop} {items : List (List PV)} {l : Nat} {rec : LoopState → Option Code → Loop} :
    Abiding (BetwRounds g ps run Q items w0 I0 sav w I l rec) := by
  rintro i I₁ W₁ I₂ W₂ ⟨hle, hk, hd⟩ hb hle2 hold hg
  refine ⟨Imm.le_trans hle hle2, hk.trans (KeepsOthers.ofBelow hb), ?_⟩
  rcases hd with ⟨hi, s, β, κ, hR, hS, hl⟩ | ⟨hi, xa, s, β, κ, c, hj, hq, hS, hl⟩
  · exact .inl ⟨hi, s, β, κ, hR, hS.grow hb hle2 hold hg, by rw [hb.block _ (Array.getElem?_eq_some_iff.1 hl).1, hl]⟩
  · exact .inr ⟨hi, xa, s, β, κ, c, hj, hq, hS.grow hb hle2 hold hg, by rw [hb.block _ (Array.getElem?_eq_some_iff.1 hl).1, hl]⟩

theorem keepsPut {W : World} (h : KeepsOthers w W) {l : Nat} (hl : w.heap.size ≤ l) (o : Obj) : KeepsOthers w (W.putObj l o) :=
  ⟨by simpa using h.size, fun k o' hk ho => by
    have := (Array.getElem?_eq_some_iff.1 hk).1
    rw [World.putObj_heap_other (by omega)]
    exact h.same k o' hk ho⟩

/-- ONE ROUND, for a body whose wp is known. -/
theorem round_ok {items : List (List PV)} {g : List Gh} {Q : XA → St → Prop} {l : Nat} {fn : FuncId} {ps : Array Tmp} {assign body : Code} {tms : Array Value} {dfb : Nat} {run : (XA → St → Prop) → St → Prop}
    (hbase : w0.heap.size ≤ l) (hlw : w.heap.size ≤ l)
    (hrun : ∀ (Q' : XA → St → Prop) (s : St) (I' : Imm) (β : Nat → Nat) (κ : Nat → Nat × Nat × Nat) (a : Act) (W : World), run Q' s → Sim w0 I0 I' β κ s (tms :: sav) a W → (∃ r, W.heap[l]? = some (.loop r)) →
      ∀ (post : Exit → Act → World → Prop), (∀ xa s' J a' W' β' κ', Q' xa s' → I'.le J → KeepsOthers (W.putObj l (.loop { state := .busy, pending := none, fn, tmps := tms, params := ps, assign, body, defers := dfb })) W' →
          Sim w0 I0 J β' κ' s' (tms :: sav) a' W' → post (match xa with | .normal => .normal | .ret => .ret | .exit id => .exit id) a' W') →
        W.heap[l]? = some (.loop { state := .ready, pending := none, fn, tmps := tms, params := ps, assign, body, defers := dfb }) →
        assign.wpIn (wideR (some l)) 0 P (Exit.then (fun a₁ w₁ => ∃ w₂, (Instr.beginRound l).run P w₁ = .ok () w₂ ∧ body.wpIn (wideR (some l)) 0 P post a₁ w₂) (fun _ _ _ => False)) a W) :
    RoundOk P l (BetwRounds g ps.toList run Q items w0 I0 (tms :: sav) w I l (fun st pe => { state := st, pending := pe, fn, tmps := tms, params := ps, assign, body, defers := dfb })) items := by
  intro i x I₁ W₁ vs hi ⟨hle, hk, hd⟩ hg hc
  have hlt : i < items.length := (List.getElem?_eq_some_iff.1 hi).1
  rcases hd with ⟨_, s, β, κ, hR, hS, hl⟩ | ⟨hi', _⟩
  case inr => omega
  have hdrop : items.drop i = x :: items.drop (i + 1) := by
    rw [List.drop_eq_getElem_cons hlt]
    have := (List.getElem?_eq_some_iff.1 hi).2
    rw [this]
  rw [hdrop] at hR
  obtain ⟨hxl, hbody⟩ := hR
  have hy := run_yield (P := P) (args := vs.toArray) hl (by have := hc.length; simp only [List.size_toArray]; rw [← this, hxl, Array.length_toList])
  refine ⟨fn, _, assign, body, hy, ?_⟩
  have hS1 := hS.enter (ps := ps) (by simpa using hxl) hc
  refine roundIn_of_wpIn (F := Fence.wide) trivial ?_
  refine hrun _ _ _ _ _ _ _ hbody hS1 ⟨_, hl⟩ _ ?_ hl
  intro xa s' J a' W' β' κ' hQ hle' hkeep hS'
  have hlt1 : l < W₁.heap.size := (Array.getElem?_eq_some_iff.1 hl).1
  have hbusy : W'.heap[l]? = some (.loop { state := .busy, pending := none, fn, tmps := tms, params := ps, assign, body, defers := dfb }) := hkeep.same l _ (World.putObj_heap_same hlt1) rfl
  have hlt' : l < W'.heap.size := (Array.getElem?_eq_some_iff.1 hbusy).1
  have hk2 : KeepsOthers w W' := (keepsPut hk hlw _).trans hkeep
  have hsim2 : ∀ o, Sim w0 I0 J β' κ' s' (tms :: sav) a' (W'.putObj l o) := fun o => hS'.putLoop hbusy hbase o
  have fin : ∀ (c : Code), (xa = .ret ∧ c = .ret ∨ ∃ id, xa = .exit id ∧ c = .exit id) → Q xa (leaveR s') →
      ∃ v w'', (Instr.endRound l (some c)).run P W' = .ok v w'' ∧ ∃ I₂, I₁.le I₂ ∧ Good I₂ w'' ∧ ((Ending.returned v = .returned (.bool true) ∧ BetwRounds g ps.toList run Q items w0 I0 (tms :: sav) w I l (fun st pe => { state := st, pending := pe, fn, tmps := tms, params := ps, assign, body, defers := dfb }) (i + 1) I₂ w'') ∨
        (Ending.returned v = .returned (.bool false) ∧ BetwRounds g ps.toList run Q items w0 I0 (tms :: sav) w I l (fun st pe => { state := st, pending := pe, fn, tmps := tms, params := ps, assign, body, defers := dfb }) (items.length + 1) I₂ w'')) := by
    intro c hx hq
    refine ⟨_, _, run_endRound (P := P) (some c) hbusy, J, hle', (hsim2 _).good, .inr ⟨rfl, Imm.le_trans hle hle', keepsPut hk2 hlw _, .inr ⟨rfl, xa, betw s', β', κ', c, ?_, hq, (hsim2 _).forgetTm, ?_⟩⟩⟩
    · rcases hx with ⟨rfl, rfl⟩ | ⟨id, rfl, rfl⟩ <;> rfl
    · exact World.putObj_heap_same hlt'
  cases xa with
  | normal =>
    obtain ⟨s1, hgs, hrest⟩ := hQ
    obtain ⟨e1, J2, hJ2, hs2⟩ := ghs_sound g (hsim2 (.loop { state := .ready, pending := none, fn, tmps := tms, params := ps, assign, body, defers := dfb })).forgetTm hgs
    refine ⟨_, _, run_endRound (P := P) none hbusy, J2, Imm.le_trans hle' hJ2, hs2.good, .inl ⟨rfl, Imm.le_trans hle (Imm.le_trans hle' hJ2), keepsPut hk2 hlw _, .inl ⟨hlt, s1, β', κ', hrest, hs2, World.putObj_heap_same hlt'⟩⟩⟩
  | ret => exact fin .ret (.inl ⟨rfl, rfl⟩) hQ
  | exit id => exact fin (.exit id) (.inr ⟨id, rfl, rfl⟩) hQ

end
end Go.Proofs.Ytadfcbpakfaaaaa.A

/- What 'wpA' tells, the model does. -/
set_option linter.unusedVariables false
set_option linter.unusedSimpArgs false
namespace Go.Proofs.Ytadfcbpakfaaaaa.A
open Go Go.RowKit Go.Shelf

/-- A region that draws its order, whose told run is the text's: see the text on regions. -/
def DrawSound (P : Program) (y : Bool) (ao : List AO) : Prop :=
  ∀ (ops : Array Oper), OpsAgree P ao ops → P.follows .mixedOrders = true → ∀ (its : Option (Nat × List (List PV))) (w00 : World) (I00 : Imm) (Jt : Nat → Imm → World → Prop) (ro : Option Nat) (Q : XA → St → Prop)
    (I : Imm) (w : World) (s : St) (sav : List (Array Value)) (a : Act) (w0 : World) (I0 : Imm) (β : Nat → Nat) (κ : Nat → Nat × Nat × Nat) (t : Nat), Ctx P its Jt → (its.isSome = true → a.defers = []) → Base its w00 I00 Jt s.it w0 I0 → Sim w0 I0 I β κ s sav a w → wpOpsA P (if y = true then its else none) ao ao s (Q .normal) →
    wpOpsIn (wideR ro) 0 P ops (PostA its (Base its w00 I00 Jt) I sav w Q) (Region.linearise .any ops t) a w.drew

/-- The same, of a region that makes variables. -/
def DrawSoundC (P : Program) (pa : List (Nat × Nat)) (ao : List AO) : Prop :=
  ∀ (ops : Array Oper), OpsAgree P ao ops → P.follows .mixedOrders = true → ∀ (its : Option (Nat × List (List PV))) (w00 : World) (I00 : Imm) (Jt : Nat → Imm → World → Prop) (ro : Option Nat) (Q : XA → St → Prop)
    (I : Imm) (w : World) (s : St) (sav : List (Array Value)) (a : Act) (w0 : World) (I0 : Imm) (β : Nat → Nat) (κ : Nat → Nat × Nat × Nat) (t : Nat), Ctx P its Jt → (its.isSome = true → a.defers = []) → Base its w00 I00 Jt s.it w0 I0 → Sim w0 I0 I β κ s sav a w → (freeAll (dsL ao) s && (paOk pa s && nonPs (nsL pa ao) s)) = true → wpOpsC P pa ao ao s (Q .normal) →
    wpOpsIn (wideR ro) 0 P ops (PostA its (Base its w00 I00 Jt) I sav w Q) (Region.linearise .any ops t) a w.drew

/-- The told code is the code. -/
def Ag (P : Program) : AC → Code → Prop
  | .gh _ x, c => Ag P x c
  | .dead, _ => True
  | .skip, .skip => True
  | .skip, .label _ => True
  | .reg d y ao, .region _ ops d' => d = d' ∧ OpsAgree P ao ops ∧ (d = true → P.follows .mixedOrders = true ∧ DrawSound P y ao)
  | .regd pa ao, .region _ ops d' => d' = true ∧ OpsAgree P ao ops ∧ P.follows .mixedOrders = true ∧ DrawSoundC P pa ao
  | .seq x y, .seq c d => Ag P x c ∧ Ag P y d
  | .cond c x y, .cond c' d e => c = c' ∧ Ag P x d ∧ Ag P y e
  | .block id x, .block id' c => id = id' ∧ Ag P x c
  | .loop _ x, .loop c => Ag P x c
  | .rf f ps _ x y, .rangeFunc f' ps' c d => f = f' ∧ ps = ps'.toList ∧ Ag P x c ∧ Ag P y d
  | .exit id, .exit id' => id = id'
  | .ret, .ret => True
  | _, _ => False

section
variable {P : Program}

theorem calls_ro {ro : Option Nat} {f : FuncId} {args : Array Value} {w : World} {R : Ending → World → Prop} (h : Calls P f args w R) : CallsIn (wideR ro) (0 - 1) P f args w R := by
  have := (callsIn_wide (n := 0 - 1)).2 h
  cases ro with
  | none => exact this
  | some l => exact CallsIn.inRound l this

theorem least {p : Nat → Prop} (h : ∃ m, p m) : ∃ m, p m ∧ ∀ k, p k → m ≤ k := by
  obtain ⟨m, hm⟩ := h
  induction m using Nat.strongRecOn with
  | _ m ih =>
    by_cases hk : ∃ k, k < m ∧ p k
    · obtain ⟨k, hlt, hp⟩ := hk
      exact ih k hlt hp
    · exact ⟨m, hm, fun k hp => Nat.le_of_not_lt fun hlt => hk ⟨k, hlt, hp⟩⟩

theorem wpIn_loop_rel {F : Fence} {n : Nat} {c : Code} {Q : Exit → Act → World → Prop} {a : Act} {w : World} (Inv : Nat → Act → World → Prop) {m : Nat} (h0 : Inv m a w)
    (round : ∀ m a w, Inv m a w → c.wpIn F n P (Exit.then (fun a' w' => ∃ m', m' < m ∧ Inv m' a' w') Q) a w) : (Code.loop c).wpIn F n P Q a w := by
  classical
  let μ : Act → World → Nat := fun a w => if h : ∃ m, Inv m a w then (least h).choose else 0
  have hμ : ∀ a w (h : ∃ m, Inv m a w), Inv (μ a w) a w ∧ ∀ k, Inv k a w → μ a w ≤ k := fun a w h => by
    simp only [μ, dif_pos h]
    exact (least h).choose_spec
  refine wpIn_loop (fun a w => ∃ m, Inv m a w) μ ⟨m, h0⟩ ?_
  intro a w hI
  refine wpIn_mono (round (μ a w) a w (hμ a w hI).1) ?_
  intro e a' w' hq
  cases e with
  | normal =>
    obtain ⟨m', hlt, hi⟩ := hq
    exact ⟨⟨m', hi⟩, Nat.lt_of_le_of_lt ((hμ a' w' ⟨m', hi⟩).2 m' hi) hlt⟩
  | _ => exact hq

/-- The record of the round that is walked lies there. -/
def RoundAt (ro : Option Nat) (w : World) : Prop := ∀ l, ro = some l → ∃ r, w.heap[l]? = some (.loop r)

theorem RoundAt.keep {ro : Option Nat} {w w' : World} (h : RoundAt ro w) (hk : KeepsOthers w w') : RoundAt ro w' := fun l hl => by
  obtain ⟨r, hr⟩ := h l hl
  exact ⟨r, hk.same l _ hr rfl⟩

theorem PostA.mono {its : Option (Nat × List (List PV))} {B : Nat → World → Imm → Prop} {I J : Imm} {sav : List (Array Value)} {w w' : World} {Q : XA → St → Prop} (hle : I.le J) (hk : its = none → KeepsOthers w w') {e : Exit} {a2 : Act} {w2 : World}
    (h : PostA its B J sav w' Q e a2 w2) : PostA its B I sav w Q e a2 w2 := by
  cases e with
  | normal => obtain ⟨s', J', h1, h2, h3, h4⟩ := h; exact ⟨s', J', h1, Imm.le_trans hle h2, fun e => (hk e).trans (h3 e), h4⟩
  | ret => obtain ⟨s', J', h1, h2, h3, h4⟩ := h; exact ⟨s', J', h1, Imm.le_trans hle h2, fun e => (hk e).trans (h3 e), h4⟩
  | exit id => obtain ⟨s', J', h1, h2, h3, h4⟩ := h; exact ⟨s', J', h1, Imm.le_trans hle h2, fun e => (hk e).trans (h3 e), h4⟩
  | _ => exact h

theorem sound : ∀ (c : AC) (code : Code), Ag P c code → ∀ (its : Option (Nat × List (List PV))) (w00 : World) (I00 : Imm) (Jt : Nat → Imm → World → Prop) (ro : Option Nat), Ctx P its Jt → (ro.isSome = true → its = none) →
    ∀ (Q : XA → St → Prop) (I : Imm) (w : World) (s : St) (sav : List (Array Value)) (a : Act), wpA P its c Q s → RoundAt ro w → Sat its (Base its w00 I00 Jt) I s sav a w →
      code.wpIn (wideR ro) 0 P (PostA its (Base its w00 I00 Jt) I sav w Q) a w := by
  intro c
  induction c with
  | dead =>
    intro code hag its w00 I00 Jt ro hctx hro Q I w s sav a hs hr hsat
    exact hs.elim
  | gh g x ih =>
    intro code hag its w00 I00 Jt ro hctx hro Q I w s sav a hs hr hsat
    obtain ⟨s1, h1, h2⟩ := hs
    obtain ⟨J, hJ, hsat'⟩ := sat_ghs hsat h1
    exact wpIn_mono (ih code hag its w00 I00 Jt ro hctx hro Q J w s1 sav a h2 hr hsat') fun e a2 w2 h => PostA.mono hJ (fun _ => KeepsOthers.refl _) h
  | skip =>
    intro code hag its w00 I00 Jt ro hctx hro Q I w s sav a hs hr hsat
    cases code <;> first | exact hag.elim | skip
    · exact wpIn_skip ⟨s, I, hs, Imm.le_refl _, fun _ => KeepsOthers.refl _, hsat⟩
    · exact wpIn_label ⟨s, I, hs, Imm.le_refl _, fun _ => KeepsOthers.refl _, hsat⟩
  | reg d y ao =>
    intro code hag its w00 I00 Jt ro hctx hro Q I w s sav a hs hr hsat
    cases code <;> first | exact hag.elim | skip
    rename_i id ops d'
    obtain ⟨rfl, hops, hdraw⟩ := hag
    obtain ⟨hdf, w0, I0, β, κ, hB, h⟩ := hsat
    cases d with
    | false =>
      refine wpIn_region ?_
      have := sound_ops (ro := ro) (Q := Q) hops hctx I w ops.size 0 (by omega) (Imm.le_refl _) (fun _ => KeepsOthers.refl _) hdf hB h (by rw [List.drop_zero]; exact hs)
      rwa [← List.range_eq_range'] at this
    | true =>
      obtain ⟨hmix, hds⟩ := hdraw rfl
      refine wpIn_region_draw fun t => ?_
      have e : Region.schedule (P.follows .mixedOrders) ops t = Region.linearise .any ops t := by simp [Region.schedule, hmix]
      rw [e]
      refine hds ops hops hmix its w00 I00 Jt ro Q I w s sav a w0 I0 β κ t hctx hdf hB h ?_
      cases y
      · exact hs
      · exact hs
  | regd pa ao =>
    intro code hag its w00 I00 Jt ro hctx hro Q I w s sav a hs hr hsat
    cases code <;> first | exact hag.elim | skip
    rename_i id ops d'
    obtain ⟨rfl, hops, hmix, hds⟩ := hag
    obtain ⟨hdf, w0, I0, β, κ, hB, h⟩ := hsat
    refine wpIn_region_draw fun t => ?_
    have e : Region.schedule (P.follows .mixedOrders) ops t = Region.linearise .any ops t := by simp [Region.schedule, hmix]
    rw [e]
    exact hds ops hops hmix its w00 I00 Jt ro Q I w s sav a w0 I0 β κ t hctx hdf hB h hs.1 hs.2
  | seq x y ihx ihy =>
    intro code hag its w00 I00 Jt ro hctx hro Q I w s sav a hs hr hsat
    cases code <;> first | exact hag.elim | skip
    rename_i cx cy
    obtain ⟨h1, h2⟩ := hag
    refine wpIn_seq (wpIn_mono (ihx cx h1 its w00 I00 Jt ro hctx hro _ I w s sav a hs hr hsat) ?_)
    intro e a2 w2 hp
    cases e with
    | normal =>
      obtain ⟨s', J, k1, k2, k3, k4⟩ := hp
      have hr' : RoundAt ro w2 := fun l hl => (hr.keep (k3 (hro (by simp [hl])))) l hl
      exact wpIn_mono (ihy cy h2 its w00 I00 Jt ro hctx hro Q J w2 s' sav a2 k1 hr' k4) fun e a3 w3 h => PostA.mono k2 k3 h
    | ret => exact hp
    | exit id => exact hp
    | _ => exact hp
  | cond c x y ihx ihy =>
    intro code hag its w00 I00 Jt ro hctx hro Q I w s sav a hs hr hsat
    cases code <;> first | exact hag.elim | skip
    rename_i c' cx cy
    obtain ⟨rfl, h1, h2⟩ := hag
    simp only [wpA] at hs
    split at hs
    · rename_i b hb
      obtain ⟨hdf, w0, I0, β, κ, hB, h⟩ := hsat
      have hv := (ev_R h hb).inv.inv_s
      refine wpIn_cond hv ?_
      cases b with
      | true => exact ihx cx h1 its w00 I00 Jt ro hctx hro Q I w s sav a (by simpa using hs) hr ⟨hdf, w0, I0, β, κ, hB, h⟩
      | false => exact ihy cy h2 its w00 I00 Jt ro hctx hro Q I w s sav a (by simpa using hs) hr ⟨hdf, w0, I0, β, κ, hB, h⟩
    · exact hs.elim
  | block id x ih =>
    intro code hag its w00 I00 Jt ro hctx hro Q I w s sav a hs hr hsat
    cases code <;> first | exact hag.elim | skip
    rename_i id' cx
    obtain ⟨rfl, h1⟩ := hag
    refine wpIn_block (wpIn_mono (ih cx h1 its w00 I00 Jt ro hctx hro _ I w s sav a hs hr hsat) ?_)
    intro e a2 w2 hp
    cases e with
    | exit j =>
      obtain ⟨s', J, k1, k2, k3, k4⟩ := hp
      simp only [Exit.inBlock]
      by_cases hj : j = id
      · rw [if_pos hj]
        simp only [hj, if_true] at k1
        exact ⟨s', J, k1, k2, k3, k4⟩
      · rw [if_neg hj]
        simp only [hj, if_false] at k1
        exact ⟨s', J, k1, k2, k3, k4⟩
    | _ => exact hp
  | loop g x ih =>
    intro code hag its w00 I00 Jt ro hctx hro Q I w s sav a hs hr hsat
    cases code <;> first | exact hag.elim | skip
    rename_i cx
    obtain ⟨Inv, m, s0, hg, h0, hround⟩ := hs
    obtain ⟨J0, hJ0, hsat0⟩ := sat_ghs hsat hg
    refine wpIn_loop_rel (fun m a' w' => ∃ s' J', Inv m s' ∧ I.le J' ∧ (its = none → KeepsOthers w w') ∧ Sat its (Base its w00 I00 Jt) J' s' sav a' w') (m := m) ⟨s0, J0, h0, hJ0, fun _ => KeepsOthers.refl _, hsat0⟩ ?_
    rintro m a1 w1 ⟨s1, J1, hi, hle, hk, hs1⟩
    have hr' : RoundAt ro w1 := fun l hl => (hr.keep (hk (hro (by simp [hl])))) l hl
    refine wpIn_mono (ih cx hag its w00 I00 Jt ro hctx hro _ J1 w1 s1 sav a1 (hround m s1 hi) hr' hs1) ?_
    intro e a2 w2 hp
    have hp' := PostA.mono hle hk hp
    cases e with
    | normal =>
      obtain ⟨s', J, ⟨s2, m', k0, k1, k1'⟩, k2, k3, k4⟩ := hp'
      obtain ⟨J2, hJ2, hsat2⟩ := sat_ghs k4 k0
      exact ⟨m', k1, s2, J2, k1', Imm.le_trans k2 hJ2, k3, hsat2⟩
    | ret => exact hp'
    | exit id => exact hp'
    | _ => exact hp'
  | exit id =>
    intro code hag its w00 I00 Jt ro hctx hro Q I w s sav a hs hr hsat
    cases code <;> first | exact hag.elim | skip
    obtain rfl := hag
    exact wpIn_exit ⟨s, I, hs, Imm.le_refl _, fun _ => KeepsOthers.refl _, hsat⟩
  | ret =>
    intro code hag its w00 I00 Jt ro hctx hro Q I w s sav a hs hr hsat
    cases code <;> first | exact hag.elim | skip
    exact wpIn_ret ⟨s, I, hs, Imm.le_refl _, fun _ => KeepsOthers.refl _, hsat⟩
  | rf f ps g x y ihx ihy =>
    intro code hag its w00 I00 Jt ro hctx hro Q I w s sav a hs hr hsat
    cases code <;> first | exact hag.elim | skip
    rename_i f' ps' cx cy
    obtain ⟨rfl, rfl, h1, h2⟩ := hag
    obtain ⟨items, p, s1, hits, hev, ⟨k, caps, hpk, hent, hiter⟩, hg, hR⟩ := hs
    subst hits
    obtain ⟨_, w0, I0, β, κ, ⟨rfl, rfl⟩, h⟩ := hsat
    subst hpk
    obtain ⟨arr, hfv, hcaps⟩ := (ev_R h hev).inv.inv_fn
    have hgo : ∀ (fn : FuncId) (wA : World) (mark : List Deferred) (dfb : Nat), Below w.heap.size w wA → Sim w0 I0 I β κ s sav { a with defers := mark ++ a.defers } wA →
        (Instr.enterLoop fn a.tmps ps' cx cy ro).run P w = .ok (wA.heap.size, mark) (wA.alloc (.loop { state := .ready, pending := none, fn, tmps := a.tmps, params := ps', assign := cx, body := cy, defers := dfb })) →
        CallsIn (wideR ro) (0 - 1) P k (#[.func (.yield wA.heap.size) #[] #[]] ++ arr) (wA.alloc (.loop { state := .ready, pending := none, fn, tmps := a.tmps, params := ps', assign := cx, body := cy, defers := dfb }))
          (rangePost (wideR ro) 0 P wA.heap.size (PostA none (Base none w0 I0 Jt) I sav w Q) { a with defers := mark ++ a.defers }) := by
      intro fn wA mark dfb hwA hA _
      obtain ⟨rec, hrec⟩ : ∃ rec : LoopState → Option Code → Loop, rec = fun st pe => { state := st, pending := pe, fn, tmps := a.tmps, params := ps', assign := cx, body := cy, defers := dfb } := ⟨_, rfl⟩
      have hl1 : (wA.alloc (.loop (rec .ready none))).heap[wA.heap.size]? = some (.loop (rec .ready none)) := World.alloc_heap_new wA _
      have hb1 : w0.heap.size ≤ wA.heap.size := hA.size
      have h1A := hA.alloc (.loop (rec .ready none))
      have hbet := h1A.between
      obtain ⟨_, J1, hJ1, hs1⟩ := ghs_sound g hbet hg
      have hround : RoundOk P wA.heap.size (BetwRounds g ps'.toList (fun Q' s' => wpA P none x (fun e s2 => match e with | .normal => wpA P none y Q' s2 | _ => False) s') Q items w0 I0 (a.tmps :: sav) wA I wA.heap.size rec) items := by
        rw [hrec]
        refine round_ok hb1 (Nat.le_refl _) ?_
        intro Q' s' I' β' κ' a' W hw hS hrr post hpost hlW
        have hx := ihx cx h1 none w0 I0 Jt (some wA.heap.size) (fun _ _ e => by cases e) (fun _ => rfl) _ I' W s' (a.tmps :: sav) a' hw
          (fun l hl => by cases hl; exact hrr) ⟨(fun e => by cases e), w0, I0, β', κ', ⟨rfl, rfl⟩, hS⟩
        refine wpIn_mono hx ?_
        intro e a2 w2 hp
        cases e with
        | normal =>
          obtain ⟨s2, J2, k1, k2, k3, _, w02, I02, β2, κ2, ⟨rfl, rfl⟩, hS2⟩ := hp
          have hl2 := (k3 rfl).same _ _ hlW rfl
          have hlt2 := (Array.getElem?_eq_some_iff.1 hl2).1
          refine ⟨_, run_beginRound hl2 rfl, ?_⟩
          have hS3 := hS2.putLoop hl2 hb1 (.loop { state := .busy, pending := none, fn, tmps := a.tmps, params := ps', assign := cx, body := cy, defers := dfb })
          have hy := ihy cy h2 none w02 I02 Jt (some wA.heap.size) (fun _ _ e => by cases e) (fun _ => rfl) Q' J2 _ s2 (a.tmps :: sav) a2 k1
            (fun l hl => by cases hl; exact ⟨_, World.putObj_heap_same hlt2⟩) ⟨(fun e => by cases e), w02, I02, β2, κ2, ⟨rfl, rfl⟩, hS3⟩
          refine wpIn_mono hy ?_
          have hcomb : ∀ {W' : World}, KeepsOthers (w2.putObj wA.heap.size (.loop { state := .busy, pending := none, fn, tmps := a.tmps, params := ps', assign := cx, body := cy, defers := dfb })) W' →
              KeepsOthers (W.putObj wA.heap.size (.loop { state := .busy, pending := none, fn, tmps := a.tmps, params := ps', assign := cx, body := cy, defers := dfb })) W' := fun {W'} hk =>
            ⟨by have := hk.size; have := (k3 rfl).size; simp at *; omega, fun j o hj ho => by
              by_cases ej : j = wA.heap.size
              · subst ej
                have hltW := (Array.getElem?_eq_some_iff.1 hlW).1
                rw [World.putObj_heap_same hltW] at hj
                cases hj
                exact hk.same _ _ (World.putObj_heap_same hlt2) rfl
              · rw [World.putObj_heap_other ej] at hj
                exact hk.same _ _ (by rw [World.putObj_heap_other ej]; exact (k3 rfl).same _ _ hj ho) ho⟩
          intro e a3 w3 hp
          cases e with
          | normal => obtain ⟨s3, J3, q1, q2, q3, _, w03, I03, β3, κ3, ⟨rfl, rfl⟩, hS4⟩ := hp; exact hpost .normal s3 J3 a3 w3 β3 κ3 q1 (Imm.le_trans k2 q2) (hcomb (q3 rfl)) hS4
          | ret => obtain ⟨s3, J3, q1, q2, q3, _, w03, I03, β3, κ3, ⟨rfl, rfl⟩, hS4⟩ := hp; exact hpost .ret s3 J3 a3 w3 β3 κ3 q1 (Imm.le_trans k2 q2) (hcomb (q3 rfl)) hS4
          | exit id => obtain ⟨s3, J3, q1, q2, q3, _, w03, I03, β3, κ3, ⟨rfl, rfl⟩, hS4⟩ := hp; exact hpost (.exit id) s3 J3 a3 w3 β3 κ3 q1 (Imm.le_trans k2 q2) (hcomb (q3 rfl)) hS4
          | goto _ => exact hp.elim
          | panic _ => exact hp.elim
          | outgrown => exact hp.elim
        | ret => obtain ⟨s2, J2, k1, _⟩ := hp; exact k1.elim
        | exit id => obtain ⟨s2, J2, k1, _⟩ := hp; exact k1.elim
        | goto _ => exact hp.elim
        | panic _ => exact hp.elim
        | outgrown => exact hp.elim
      have hcall := hiter J1 (wA.alloc (.loop (rec .ready none))) arr.toList hs1.good (hcaps.mono hJ1) wA.heap.size _ betw_abiding hround
        ⟨hJ1, KeepsOthers.alloc _ _, .inl ⟨Nat.zero_le _, s1, β, κ, by rw [List.drop_zero]; exact hR, hs1, hl1⟩⟩
      have e1 : #[Value.func (.yield wA.heap.size) #[] #[]] ++ arr.toList.toArray = #[Value.func (.yield wA.heap.size) #[] #[]] ++ arr := by simp
      rw [e1] at hcall
      have hcall' := calls_ro (ro := ro) hcall
      rw [hrec] at hcall'
      refine hcall'.mono ?_
      rintro e W' ⟨⟨v, rfl⟩, I', i, hle, hgd, ⟨hle2, hk2, hd⟩, hi⟩
      have fin : ∀ {s3 : St} {β3 : Nat → Nat} {κ3 : Nat → Nat × Nat × Nat} {r : Loop}, Sim w0 I0 I' β3 κ3 s3 (a.tmps :: sav) { tmps := #[], defers := [] } W' → W'.heap[wA.heap.size]? = some (.loop r) → ∀ o,
          Sat none (Base none w0 I0 Jt) I' (leaveR s3) sav { a with defers := mark ++ a.defers } (W'.putObj wA.heap.size o) ∧ KeepsOthers w (W'.putObj wA.heap.size o) := by
        intro s3 β3 κ3 r hS hl o
        have hS' := hS.putLoop hl hb1 o
        have hkA : KeepsOthers wA (W'.putObj wA.heap.size o) := keepsPut hk2 (Nat.le_refl _) o
        refine ⟨⟨(fun e => by cases e), w0, I0, β3, κ3, ⟨rfl, rfl⟩, hS'.leave ?_⟩, (KeepsOthers.ofBelow hwA).trans hkA⟩
        obtain ⟨Ds, d1, d2, d3⟩ := hA.dfr
        exact ⟨Ds, d1, d2, fun D hD => ⟨(d3 D hD).1, hkA.same _ _ (d3 D hD).2 rfl⟩⟩
      rcases hd with ⟨hin, s3, β3, κ3, hR3, hS, hl⟩ | ⟨hin, xa, s3, β3, κ3, c, hj, hq, hS, hl⟩
      · have e2 : items.drop i = [] := List.drop_eq_nil_of_le (by omega)
        rw [e2] at hR3
        obtain ⟨k1, k2⟩ := fin hS hl (.loop { state := .exhausted, pending := none, fn, tmps := a.tmps, params := ps', assign := cx, body := cy, defers := dfb })
        have hl := hl
        exact ⟨none, _, run_endLoop (P := P) hl (by simp), leaveR s3, I', hR3, hle2, fun _ => k2, k1⟩
      · obtain ⟨k1, k2⟩ := fin hS hl (.loop { state := .exhausted, pending := some c, fn, tmps := a.tmps, params := ps', assign := cx, body := cy, defers := dfb })
        have hl := hl
        refine ⟨some c, _, run_endLoop (P := P) hl (by simp), ?_⟩
        cases xa with
        | normal => cases hj
        | ret => cases hj; exact wpIn_ret ⟨leaveR s3, I', hq, hle2, fun _ => k2, k1⟩
        | exit id => cases hj; exact wpIn_exit ⟨leaveR s3, I', hq, hle2, fun _ => k2, k1⟩
    refine wpIn_rangeFunc ?_
    intro fn _
    have hinv : ∀ (l : Nat) (w1 : World), (resolve a.eval (rangeCall f l) 0).run P w1 = .ok { target := .fn (.func k) arr, args := #[.func (.yield l) #[] #[]] } w1 ∧
        (invoke (.fn (.func k) arr) #[.func (.yield l) #[] #[]]).run P w1 = .ok (.enter k (#[.func (.yield l) #[] #[]] ++ arr)) w1 := fun l w1 =>
      ⟨by simp only [resolve, hfv]; simp [Deferred.ofValue, Act.eval], by simp [invoke, hent (#[.func (.yield l) #[] #[]] ++ arr) w1]⟩
    cases hro' : ro with
    | none =>
      have hA : Sim w0 I0 I β κ s sav { a with defers := [{ target := .collected w.heap.size, args := #[] }] ++ a.defers } (w.alloc (.deferred (some []))) := by
        have h2 := h.alloc (.deferred (some []))
        obtain ⟨Ds, d1, d2, d3⟩ := h2.dfr
        obtain ⟨Ds', d1', d2', d3'⟩ := h.dfr
        refine { h2 with dfr := ⟨w.heap.size :: Ds', by simp [d1'], ?_, ?_⟩ }
        · refine List.nodup_cons.2 ⟨fun hm => ?_, d2'⟩
          have := (Array.getElem?_eq_some_iff.1 (d3' _ hm).2).1
          omega
        · intro D hD
          rcases List.mem_cons.1 hD with rfl | hD
          · exact ⟨h.size, World.alloc_heap_new w _⟩
          · exact ⟨(d3' D hD).1, (Below.heap_alloc w _ D (Array.getElem?_eq_some_iff.1 (d3' D hD).2).1).trans (d3' D hD).2⟩
      have hent2 := run_enterLoop_outer (P := P) (w := w) fn a.tmps ps' cx cy
      have hg2 := hgo fn (w.alloc (.deferred (some []))) [{ target := .collected w.heap.size, args := #[] }] w.heap.size ((Below.refl _ w).alloc (Nat.le_refl _) _) hA (by rw [hro', World.size_alloc]; exact hent2)
      rw [hro'] at hg2
      rw [World.size_alloc] at hg2
      exact ⟨_, _, _, _, _, _, _, _, hent2, (hinv _ _).1, fun _ _ => trivial, (hinv _ _).2, fun e => by simp [wideR, Fence.wide] at e, hg2⟩
    | some l₀ =>
      obtain ⟨r₀, hr₀⟩ := hr l₀ hro'
      have hent2 := run_enterLoop_inner (P := P) hr₀ fn a.tmps ps' cx cy
      have hg2 := hgo fn w [] r₀.defers (Below.refl _ w) (by simpa using h) (by rw [hro']; exact hent2)
      rw [hro'] at hg2
      exact ⟨_, _, _, _, _, _, _, _, hent2, (hinv _ _).1, fun _ _ => trivial, (hinv _ _).2, fun e => by simp [wideR, Fence.wide] at e, hg2⟩

end
end Go.Proofs.Ytadfcbpakfaaaaa.A

/- Contracts out of what is told. -/
set_option linter.unusedVariables false
set_option linter.unusedSimpArgs false
namespace Go.Proofs.Ytadfcbpakfaaaaa.A
open Go Go.RowKit Go.Shelf

/-- A result, as it is told. -/
def res1 (s : St) : ResultVar → Bool × Nat → Option PV
  | .tmp t, _ => (s.tm[t]?).bind tov
  | .cell a _, q => ((s.tm[a]?).bind (ldA s q.1 q.2)).bind tov

def resAll (s : St) : List ResultVar → List (Bool × Nat) → Option (List PV)
  | [], [] => some []
  | v :: vs, q :: qs => match res1 s v q, resAll s vs qs with
    | some x, some xs => some (x :: xs)
    | _, _ => none
  | _, _ => none

def packR : List PV → PV
  | [x] => x
  | l => .tup l

def rinfOk (P : Program) : List ResultVar → List (Bool × Nat) → Bool
  | [], [] => true
  | .tmp _ :: vs, _ :: qs => rinfOk P vs qs
  | .cell _ t :: vs, q :: qs => tAgg P t == some q.1 && tSize P t == some q.2 && (q.1 || q.2 == 1) && rinfOk P vs qs
  | _, _ => false

/-- The state as a call begins. -/
def initS (args : List PV) (n : Nat) : St := { tm := args.map .v ++ List.replicate (n - args.length) (.v .junk), bx := [], ro := [], tk := [], sv := [] }

def RetQ (vs : List ResultVar) (qs : List (Bool × Nat)) (r : PV) : XA → St → Prop
  | .exit _, _ => False
  | _, s => (resAll s vs qs).map packR = some r

section
variable {P : Program}
variable {w0 w w' : World} {I0 I J : Imm} {β : Nat → Nat} {κ : Nat → Nat × Nat × Nat} {s s' : St} {sav : List (Array Value)} {a : Act}

theorem run_res1 (h : Sim w0 I0 I β κ s sav a w) {v : ResultVar} {q : Bool × Nat} {x : PV} (hq : rinfOk P [v] [q] = true) (hx : res1 s v q = some x) :
    ∃ u, (match v with | .tmp t => pure (a.tmps.getD t undef) | .cell c t => do loadVar t (← asAddr (a.tmps.getD c undef)) : Sem Value).run P w = .ok u w ∧ C I x u := by
  cases v with
  | tmp t =>
    obtain ⟨tv, h1, h2⟩ := Option.bind_eq_some_iff.1 hx
    exact ⟨_, rfl, tov_C (ev_R (x := .tmp t) h h1) h2⟩
  | cell c t =>
    obtain ⟨tv, h1, h2⟩ := Option.bind_eq_some_iff.1 hx
    obtain ⟨p, h3, h4⟩ := Option.bind_eq_some_iff.1 h1
    simp only [rinfOk, Bool.and_eq_true, beq_iff_eq, Bool.or_eq_true, and_true] at hq
    have hone : q.1 = false → q.2 = 1 := by
      intro e
      rcases hq.2 with e' | e'
      · rw [e] at e'; cases e'
      · exact e'
    obtain ⟨u, hu, hR⟩ := ldA_sound (x := .tmp c) h hq.1.1 hq.1.2 hone h3 h4
    refine ⟨u, ?_, tov_C hR h2⟩
    have haddr : ∃ ad, a.tmps.getD c undef = .pointer (some ad) := by
      have hev := ev_R (x := .tmp c) h h3
      have e : a.eval (.tmp c) = a.tmps.getD c undef := rfl
      rw [e] at hev
      revert hev h4
      generalize a.tmps.getD c undef = u'
      intro h4 hev
      unfold ldA at h4
      split at h4
      · cases hev.inv; exact ⟨_, rfl⟩
      · cases hev; exact ⟨_, rfl⟩
      · cases h4
    obtain ⟨ad, had⟩ := haddr
    have e : a.eval (.tmp c) = .pointer (some ad) := had
    rw [e] at hu
    simp only [Instr.loadAt, Instr.sureAddr, Sem.run_bind, Sem.run_pure, Result.andThen_ok] at hu
    show (do loadVar t (← asAddr (a.tmps.getD c undef)) : Sem Value).run P w = _
    rw [had]
    simpa [asAddr] using hu

theorem run_resAll (h : Sim w0 I0 I β κ s sav a w) : ∀ {vs : List ResultVar} {qs : List (Bool × Nat)} {xs : List PV}, rinfOk P vs qs = true → resAll s vs qs = some xs →
    ∃ us, (vs.mapM fun | .tmp t => pure (a.tmps.getD t undef) | .cell c t => do loadVar t (← asAddr (a.tmps.getD c undef)) : Sem (List Value)).run P w = .ok us w ∧ Cs I xs us
  | [], [], xs, _, hx => by simp only [resAll, Option.some.injEq] at hx; subst hx; exact ⟨[], rfl, .nil⟩
  | v :: vs, q :: qs, xs, hq, hx => by
    simp only [resAll] at hx
    split at hx
    · rename_i y ys h1 h2
      cases hx
      have hq1 : rinfOk P [v] [q] = true ∧ rinfOk P vs qs = true := by
        cases v with
        | tmp t => exact ⟨rfl, hq⟩
        | cell c t => simp only [rinfOk, Bool.and_eq_true, and_true] at hq ⊢; exact ⟨hq.1, hq.2⟩
      obtain ⟨u, hu, hC⟩ := run_res1 h hq1.1 h1
      obtain ⟨us, hus, hCs⟩ := run_resAll h hq1.2 h2
      refine ⟨u :: us, ?_, .cons hC hCs⟩
      simp only [List.mapM_cons, Sem.run_bind]
      rw [hu]
      simp only [Result.andThen_ok, Sem.run_bind]
      rw [hus]
      rfl
    · cases hx
  | [], _ :: _, _, hq, _ => by simp [rinfOk] at hq
  | _ :: _, [], _, hq, _ => by rename_i v vs _; cases v <;> simp [rinfOk] at hq

theorem run_results (h : Sim w0 I0 I β κ s sav a w) {fn : Func} {qs : List (Bool × Nat)} {r : PV} (hq : rinfOk P fn.results.toList qs = true) (hr : (resAll s fn.results.toList qs).map packR = some r) :
    ∃ u, (results fn a.tmps).run P w = .ok u w ∧ C I r u := by
  obtain ⟨xs, hx, rfl⟩ := Option.map_eq_some_iff.1 hr
  obtain ⟨us, hus, hC⟩ := run_resAll h hq hx
  have hrun : (results fn a.tmps).run P w = .ok (match us with | [v] => v | _ => .tuple us.toArray) w := by
    unfold results
    rw [Array.mapM_eq_mapM_toList]
    simp only [Sem.run_bind, Sem.run_map]
    refine (congrArg (fun x => (Result.andThen x _).andThen _) (Eq.trans ?_ hus)).trans ?_
    · congr 2
    · simp only [Result.andThen_ok, Sem.run_pure]
      match us with
      | [] => rfl
      | [v] => rfl
      | _ :: _ :: _ => simp
  refine ⟨_, hrun, ?_⟩
  cases hC with
  | nil => exact .tup .nil
  | cons h1 h2 => cases h2 with
    | nil => exact h1
    | cons h2 h3 => exact .tup (.cons h1 (.cons h2 h3))

theorem Sim.putOther (h : Sim w0 I0 I β κ s sav a w) {l : Nat} {o o' : Obj} (hl : w.heap[l]? = some o) (ho : o.isCells = false) (hb : w0.heap.size ≤ l) {df : List Deferred}
    (hd : ∃ Ds : List Nat, df = Ds.map (fun D => { target := .collected D, args := #[] }) ∧ Ds.Nodup ∧ ∀ D ∈ Ds, w0.heap.size ≤ D ∧ (w.putObj l o').heap[D]? = some (.deferred (some []))) :
    Sim w0 I0 I β κ s sav { tmps := a.tmps, defers := df } (w.putObj l o') := by
  have hon := OnlyAt.putObj w l o'
  exact
    { below := h.below.trans (hon.below hb)
      good := fun b arr hI => by
        obtain ⟨cs, ty, fz, more, h1, h2⟩ := h.good b arr hI
        exact ⟨cs, ty, fz, more, (hon.block b (fun e => by rw [e, hl] at h1; cases h1; cases ho)).trans h1, h2⟩
      ext := h.ext
      old := h.old
      tm := h.tm
      sv := h.sv
      box := fun b cells hc => by
        obtain ⟨h1, h2, cs, ty, h3, h4⟩ := h.box b cells hc
        exact ⟨h1, h2, cs, ty, (hon.block _ (fun e => by rw [e, hl] at h3; cases h3; cases ho)).trans h3, h4⟩
      rob := h.rob
      inj := h.inj
      tok := fun t ht => by
        obtain ⟨h1, cs, ty, arr, h3, h4⟩ := h.tok t ht
        exact ⟨h1, cs, ty, arr, (hon.block _ (fun e => by rw [e, hl] at h3; cases h3; cases ho)).trans h3, h4⟩
      tinj := h.tinj
      dfr := hd }

/-- What a call leaves. -/
def Left (w0 : World) (I0 : Imm) (r : PV) (e : Ending) (w' : World) : Prop := ∃ v J, e = .returned v ∧ Below w0.heap.size w0 w' ∧ I0.le J ∧ Good J w' ∧ (∀ b, b < w0.heap.size → J b = I0 b) ∧ C J r v

theorem leaves_of {F : Fence} {n : Nat} {fn : Func} {qs : List (Bool × Nat)} {r : PV} (hq : rinfOk P fn.results.toList qs = true) (hr : (resAll s fn.results.toList qs).map packR = some r) : ∀ (Ds : List Nat) (w : World), Ds.Nodup → (∀ D ∈ Ds, w0.heap.size ≤ D ∧ w.heap[D]? = some (.deferred (some []))) →
    Sim w0 I0 I β κ s sav { tmps := a.tmps, defers := Ds.map (fun D => { target := .collected D, args := #[] }) } w → LeavesInM F n P fn a.tmps (Left w0 I0 r) (Ds.map (fun D => { target := .collected D, args := #[] })) .returning w
  | [], w, _, _, h => by
    obtain ⟨u, hu, hC⟩ := run_results h hq hr
    exact ⟨u, hu, u, I, rfl, h.below, h.ext, h.good, h.old, hC⟩
  | D :: Ds, w, hnd, hD, h => by
    obtain ⟨hn1, hn2⟩ := List.nodup_cons.1 hnd
    have hD0 := hD D (by simp)
    have hrest : ∀ D' ∈ Ds, w0.heap.size ≤ D' ∧ (w.putObj D (.deferred none)).heap[D']? = some (.deferred (some [])) := fun D' hm => by
      have := hD D' (by simp [hm])
      exact ⟨this.1, by rw [World.putObj_heap_other (fun e => hn1 (by rw [← e]; exact hm))]; exact this.2⟩
    refine ⟨by simp, .inl ⟨D, _, rfl, run_takeDeferred hD0.2, leaves_of hq hr Ds _ hn2 hrest ?_⟩⟩
    exact h.putOther hD0.2 rfl hD0.1 ⟨Ds, rfl, hn2, hrest⟩

theorem initS_sim {vs : List Value} {args : List PV} (n : Nat) (hg : Good I w) (hc : Cs I args vs) :
    Sim w I I (fun _ => 0) (fun _ => (0, 0, 0)) (initS args n) [] { tmps := vs.toArray ++ Array.replicate (n - vs.toArray.size) undef, defers := [] } w where
  below := Below.refl _ _
  good := hg
  ext := Imm.le_refl _
  old := fun _ _ => rfl
  tm := by
    have hl := hc.length
    have hj : ∀ k, Rs I (fun _ => 0) (fun _ => (0, 0, 0)) (tkOf []) (List.replicate k (.v .junk)) (List.replicate k undef) := fun k => by
      induction k with
      | zero => exact .nil
      | succ k ih => exact .cons (.v (.junk _)) ih
    have := (Rs.of_Cs (β := fun _ => 0) (κ := fun _ => (0, 0, 0)) (tk := tkOf []) hc).append (hj (n - args.length))
    simpa [initS, hl] using this
  sv := .nil
  box := fun b c hb => by simp [initS, lk] at hb
  rob := fun b c hb => by simp [initS, lk] at hb
  inj := fun b b' c c' hb => by simp [initS, lk] at hb
  tok := fun t ht => by simp [initS, tkOf, lk] at ht
  tinj := fun t t' ht => by simp [initS, tkOf, lk] at ht
  dfr := ⟨[], rfl, List.nodup_nil, by simp⟩

/-- A FUNCTION's CONTRACT, out of what its code tells. -/
theorem ok_of {f : FuncId} {fn : Func} {code : Code} {ac : AC} {qs : List (Bool × Nat)} {args : List PV} {r : PV} (hf : P.funcs[f]? = some fn) (hname : (fn.name == "runtime.NumGoroutine") = false) (hb : fn.body = some code) (hag : Ag P ac code)
    (hq : rinfOk P fn.results.toList qs = true) (hwp : wpA P none ac (RetQ fn.results.toList qs r) (initS args fn.ntmps)) : Ok P f args r := by
  refine ⟨enters_of hf hname hb, fun I w vs hg hc => ?_⟩
  refine (callsIn_wide (n := 0)).1 ?_
  refine (callsIn_of_wp_marks (R := Left w I r) hf hb trivial ?_ rfl).mono ?_
  · have hs := sound ac code hag none w I (fun _ _ _ => True) none (fun _ _ e => by cases e) (fun _ => rfl) _ I w (initS args fn.ntmps) [] { tmps := vs.toArray ++ Array.replicate (fn.ntmps - vs.toArray.size) undef, defers := [] } hwp (fun _ e => by cases e)
      ⟨(fun e => by cases e), w, I, _, _, ⟨rfl, rfl⟩, initS_sim fn.ntmps hg hc⟩
    refine wpIn_mono hs ?_
    intro e a2 w2 hp
    have fin : ∀ {xa : XA}, (xa = .normal ∨ xa = .ret) → (∃ s' J, RetQ fn.results.toList qs r xa s' ∧ I.le J ∧ (none (α := Nat × List (List PV)) = none → KeepsOthers w w2) ∧ Sat none (Base none w I (fun _ _ _ => True)) J s' [] a2 w2) →
        LeavesInM Fence.wide 0 P fn a2.tmps (Left w I r) a2.defers .returning w2 := by
      rintro xa hxa ⟨s', J, hr, hle, _, _, w1, I1, β1, κ1, ⟨rfl, rfl⟩, hS⟩
      have hr' : (resAll s' fn.results.toList qs).map packR = some r := by rcases hxa with rfl | rfl <;> exact hr
      obtain ⟨Ds, d1, d2, d3⟩ := hS.dfr
      obtain ⟨tms, dfs⟩ := a2
      simp only at d1
      subst d1
      exact leaves_of (a := ⟨tms, _⟩) hq hr' Ds w2 d2 d3 hS
    cases e with
    | normal => exact fin (.inl rfl) hp
    | ret => exact fin (.inr rfl) hp
    | exit id => obtain ⟨s', J, hr, _⟩ := hp; exact hr.elim
    | goto _ => exact hp.elim
    | panic _ => exact hp.elim
    | outgrown => exact hp.elim
  · rintro e w' ⟨v, J, h1, h2, h3, h4, h5, h6⟩
    exact ⟨v, J, h1, h2, h3, h4, h5, h6⟩

/-- AN ITERATOR's CONTRACT, out of what its code tells. -/
theorem iter_of {f : FuncId} {fn : Func} {code : Code} {ac : AC} {caps : List PV} {items : List (List PV)} (hf : P.funcs[f]? = some fn) (hname : (fn.name == "runtime.NumGoroutine") = false) (hb : fn.body = some code) (hag : Ag P ac code)
    (hq : fn.results.toList = [])
    (hwp : ∀ l, wpA P (some (l, items)) ac (fun e s => match e with | .exit _ => False | _ => s.it = items.length ∨ s.it = items.length + 1) (initS (.fn (.yield l) [] :: caps) fn.ntmps)) : IterOk P (.fn (.func f) caps) items := by
  refine ⟨f, caps, rfl, enters_of hf hname hb, fun I w cs hg hc l J hab hround hJ0 => ?_⟩
  refine (callsIn_wide (n := 0)).1 ?_
  have hctx : Ctx P (some (l, items)) J := fun l' xs e => by cases e; exact ⟨hab, hround⟩
  have hall : Cs I (.fn (.yield l) [] :: caps) (.func (.yield l) #[] #[] :: cs) := .cons (.fn .nil) hc
  have e1 : #[Value.func (.yield l) #[] #[]] ++ cs.toArray = (Value.func (.yield l) #[] #[] :: cs).toArray := by simp
  rw [e1]
  refine callsIn_of_wp hf hb trivial ?_ rfl
  have hs := sound ac code hag (some (l, items)) w I J none hctx (fun e => by cases e) _ I w (initS (.fn (.yield l) [] :: caps) fn.ntmps) [] { tmps := (Value.func (.yield l) #[] #[] :: cs).toArray ++ Array.replicate (fn.ntmps - (Value.func (.yield l) #[] #[] :: cs).toArray.size) undef, defers := [] }
    (hwp l) (fun _ e => by cases e) ⟨fun _ => rfl, w, I, _, _, ⟨hJ0, Imm.le_refl _⟩, initS_sim fn.ntmps hg hall⟩
  refine wpIn_mono hs ?_
  intro e a2 w2 hp
  have fin : (∃ s' J', (s'.it = items.length ∨ s'.it = items.length + 1) ∧ I.le J' ∧ (some (l, items) = none → KeepsOthers w w2) ∧ Sat (some (l, items)) (Base (some (l, items)) w I J) J' s' [] a2 w2) →
      a2.defers = [] ∧ ∃ v, (results fn a2.tmps).run P w2 = .ok v w2 ∧ ((∃ v', Ending.returned v = .returned v') ∧ ∃ I' i, I.le I' ∧ Good I' w2 ∧ J i I' w2 ∧ (i = items.length ∨ i = items.length + 1)) := by
    rintro ⟨s', J', hi, hle, _, hdf, w1, I1, β1, κ1, ⟨hJ, hle1⟩, hS⟩
    refine ⟨hdf rfl, .tuple #[], ?_, ⟨_, rfl⟩, J', s'.it, hle, hS.good, hab _ _ _ _ _ hJ hS.below hS.ext hS.old hS.good, hi⟩
    have e0 : fn.results = #[] := by
      have := congrArg List.toArray hq
      simpa using this
    simp [results, e0]
  cases e with
  | normal => exact fin hp
  | ret => exact fin hp
  | exit id => obtain ⟨s', J', hr, _⟩ := hp; exact hr.elim
  | goto _ => exact hp.elim
  | panic _ => exact hp.elim
  | outgrown => exact hp.elim

end
end Go.Proofs.Ytadfcbpakfaaaaa.A

