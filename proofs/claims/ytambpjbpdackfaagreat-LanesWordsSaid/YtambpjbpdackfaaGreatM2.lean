/- Contracts of functions and of iterators; code with what is known of it ('AC'); what it tells ('wpA'). -/
import Derived.Test.YtambpjbpdackfaaGreatM1
import Derived.Shelf.Abstract
import Derived.Orders
import Derived.WalkKit
import Derived.ProofKit
import Derived.OpenShut
import Derived.ChangeOld
import Derived.SizedLaws
import Derived.MapFrom
import Derived.Test.YtambpjbpdackfaaGreatProg
import Derived.Lib.Mul64
import Derived.Shelf.Small.Bits
set_option linter.unusedVariables false
set_option linter.unusedSimpArgs false
namespace Go.Proofs.YtambpjbpdackfaaGreat.A
open Go Go.RowKit Go.Shelf

/-- Function f of these values tells r; of the memory that was there nothing turns. -/
def Ok (P : Program) (f : FuncId) (args : List PV) (r : PV) : Prop :=
  Enters P f ∧ ∀ (I : Imm) (w : World) (vs : List Value), Good I w → Cs I args vs →
    Calls P f vs.toArray w fun e w' => ∃ v J, e = .returned v ∧ Below w.heap.size w w' ∧ I.le J ∧ Good J w' ∧ (∀ b, b < w.heap.size → J b = I b) ∧ C J r v

/-- Function f of these values, and of this memory that it may write, tells r, and leaves the memory as R says. -/
def OkM (P : Program) (f : FuncId) (args : List PV) (m : Mem) (R : PV → Mem → Prop) : Prop :=
  Enters P f ∧ ∀ (I : Imm) (w : World) (vs : List Value), Good I w → MemAt I m w → Cs I args vs →
    Calls P f vs.toArray w fun e w' => ∃ v J r m', e = .returned v ∧ R r m' ∧ BelowL ⟨w, fun c => (m c).isSome⟩ w' ∧ I.le J ∧ Good J w' ∧ (∀ b, b < w.heap.size → J b = I b) ∧ MemAt J m' w' ∧ (∀ c, c < w.heap.size → m c = none → m' c = none) ∧ C J r v

/-! ### Told again, more closely: of memory as it is now -/
mutual
inductive Tell (m : Mem) : PV → PV → Prop
  | same (x : PV) : Tell m x x
  | row {ex : Bool} {c off n cap sz : Nat} {cells els : List PV} : m c = some cells → (∀ e ∈ els, e.cells.length = sz) → n = els.length → off + (flat els).length ≤ cells.length → n ≤ cap → (ex = true → cap = n) →
      Tells m ((cells.drop off).take (flat els).length) (flat els) → Tell m (.s (.slice (some ⟨c, off, none⟩) n cap)) (.sl ex els)
  | nil {ex : Bool} : Tell m (.s (.slice none 0 0)) (.sl ex [])
  | empty {ex : Bool} {a : Addr} : Tell m (.s (.slice (some a) 0 0)) (.sl ex [])
  | vp {c off : Nat} {cells l : List PV} : m c = some cells → off + l.length ≤ cells.length → Tells m ((cells.drop off).take l.length) l → Tell m (.s (.pointer (some ⟨c, off, none⟩))) (.vp l)
  | vpIn {l l' : List PV} : Tells m l l' → Tell m (.vp l) (.vp l')
  | slIn {ex : Bool} {sz : Nat} {els els' : List PV} : (∀ e ∈ els, e.cells.length = sz) → (∀ e ∈ els', e.cells.length = sz) → els'.length = els.length → Tells m (flat els) (flat els') → Tell m (.sl ex els) (.sl ex els')
  | fn {f : Fn} {l l' : List PV} : Tells m l l' → Tell m (.fn f l) (.fn f l')
  | agg {l l' : List PV} : Tells m l l' → Tell m (.agg l) (.agg l')
  | tup {l l' : List PV} : Tells m l l' → Tell m (.tup l) (.tup l')
inductive Tells (m : Mem) : List PV → List PV → Prop
  | nil : Tells m [] []
  | cons {x y : PV} {xs ys : List PV} : Tell m x y → Tells m xs ys → Tells m (x :: xs) (y :: ys)
end
theorem Tells.length {m : Mem} : ∀ {l l' : List PV}, Tells m l l' → l.length = l'.length
  | _, _, .nil => rfl
  | _, _, .cons _ h => by simp [Tells.length h]
theorem Tells.append {m : Mem} : ∀ {l l' k k' : List PV}, Tells m l l' → Tells m k k' → Tells m (l ++ k) (l' ++ k')
  | _, _, _, _, .nil, h => h
  | _, _, _, _, .cons h1 h2, h => .cons h1 (Tells.append h2 h)

/-- More memory, otherwise the same. -/
def MemLe (m m' : Mem) : Prop := ∀ c x, m c = some x → m' c = some x
theorem MemLe.refl (m : Mem) : MemLe m m := fun _ _ h => h
theorem MemLe.put {m : Mem} {c : Nat} (x : List PV) (h : m c = none) : MemLe m (m.put c x) := fun d y hd => by
  have e : d ≠ c := fun e => by rw [e, h] at hd; cases hd
  rw [Mem.put_other _ _ e]; exact hd
mutual
theorem Tell.mono {m m' : Mem} (h : MemLe m m') : ∀ {x y : PV}, Tell m x y → Tell m' x y
  | _, _, .same x => .same x
  | _, _, .row hm hu hn hl hcap hex ht => .row (h _ _ hm) hu hn hl hcap hex (Tells.mono h ht)
  | _, _, .nil => .nil
  | _, _, .empty => .empty
  | _, _, .vp hm hl ht => .vp (h _ _ hm) hl (Tells.mono h ht)
  | _, _, .vpIn ht => .vpIn (Tells.mono h ht)
  | _, _, .slIn hu hu' hl ht => .slIn hu hu' hl (Tells.mono h ht)
  | _, _, .fn ht => .fn (Tells.mono h ht)
  | _, _, .agg ht => .agg (Tells.mono h ht)
  | _, _, .tup ht => .tup (Tells.mono h ht)
theorem Tells.mono {m m' : Mem} (h : MemLe m m') : ∀ {x y : List PV}, Tells m x y → Tells m' x y
  | _, _, .nil => .nil
  | _, _, .cons h1 h2 => .cons (Tell.mono h h1) (Tells.mono h h2)
end
theorem Tells.same (m : Mem) : ∀ (l : List PV), Tells m l l
  | [] => .nil
  | x :: l => .cons (.same x) (Tells.same m l)

/-- What is known, if that memory is not written. -/
def memI (I : Imm) (m : Mem) (w : World) : Imm := fun b => match m b with
  | some _ => (match w.heap[b]? with | some (.cells cs _ _) => some cs.toList | _ => none)
  | none => I b

theorem memI_le {I : Imm} {m : Mem} {w : World} (h : MemAt I m w) : I.le (memI I m w) := fun b arr hb => by
  unfold memI
  cases hm : m b with
  | none => exact ⟨[], by simpa using hb⟩
  | some x => have := (h b x hm).1; rw [hb] at this; cases this
theorem memI_good {I : Imm} {m : Mem} {w : World} (hg : Good I w) (h : MemAt I m w) : Good (memI I m w) w := fun b arr hb => by
  unfold memI at hb
  cases hm : m b with
  | none => rw [hm] at hb; exact hg b arr hb
  | some x =>
    rw [hm] at hb
    obtain ⟨_, cs, ty, hw, _⟩ := h b x hm
    simp only [hw, Option.some.injEq] at hb
    subst hb
    exact ⟨cs, ty, (0, 0), [], hw, by simp⟩
theorem memI_at {I : Imm} {m : Mem} {w : World} (h : MemAt I m w) {c : Nat} {cells : List PV} (hc : m c = some cells) : ∃ arr, memI I m w c = some arr ∧ Cs (memI I m w) cells arr := by
  obtain ⟨_, cs, ty, hw, hC⟩ := h c cells hc
  refine ⟨cs.toList, by simp [memI, hc, hw], hC.mono (memI_le h)⟩

mutual
theorem Tell.sound {I : Imm} {m : Mem} {w : World} (h : MemAt I m w) : ∀ {x y : PV} {v : Value}, Tell m x y → C (memI I m w) x v → C (memI I m w) y v
  | _, _, _, .same x, hC => hC
  | _, _, _, .row hm hu hn hl hcap hex ht, hC => by
    cases hC
    obtain ⟨arr, ha, hcs⟩ := memI_at h hm
    have hlen := hcs.length
    refine .sl ha hu hn ?_ (by omega) hcap hex
    exact Tells.sound h ht ((hcs.drop _).take _)
  | _, _, _, .nil, hC => by cases hC; exact .sl0
  | _, _, _, .empty, hC => by cases hC; exact .sle
  | _, _, _, .vp hm hl ht, hC => by
    cases hC
    obtain ⟨arr, ha, hcs⟩ := memI_at h hm
    have hlen := hcs.length
    exact .vp ha (Tells.sound h ht ((hcs.drop _).take _)) (by omega)
  | _, _, _, .vpIn ht, hC => by
    cases hC with
    | vp ha hc hl =>
      have e := Tells.length ht
      exact .vp ha (by rw [e] at hc; exact Tells.sound h ht hc) (by omega)
  | _, _, _, .slIn (els := els) hu hu' hlen ht, hC => by
    have e := Tells.length ht
    cases hC with
    | sl0 => have : _ = [] := List.eq_nil_of_length_eq_zero hlen; subst this; exact .sl0
    | sle => have : _ = [] := List.eq_nil_of_length_eq_zero hlen; subst this; exact .sle
    | sl ha huu hn hc hl hcap hex => exact .sl ha hu' (by omega) (by rw [e] at hc; exact Tells.sound h ht hc) (by omega) hcap hex
  | _, _, _, .fn ht, hC => by cases hC with | fn hC => exact .fn (Tells.sound h ht hC)
  | _, _, _, .agg ht, hC => by cases hC with | agg hC => exact .agg (Tells.sound h ht hC)
  | _, _, _, .tup ht, hC => by cases hC with | tup hC => exact .tup (Tells.sound h ht hC)
theorem Tells.sound {I : Imm} {m : Mem} {w : World} (h : MemAt I m w) : ∀ {xs ys : List PV} {vs : List Value}, Tells m xs ys → Cs (memI I m w) xs vs → Cs (memI I m w) ys vs
  | _, _, _, .nil, hC => hC
  | _, _, _, .cons ht hts, hC => by cases hC with | cons h1 h2 => exact .cons (Tell.sound h ht h1) (Tells.sound h hts h2)
end
mutual
/-- Does it read alike whatever is known? -/
def RF : PV → Bool
  | .s _ => true
  | .junk => true
  | .agg l => RFs l
  | .tup l => RFs l
  | .ifc _ x => RF x
  | .fn _ l => RFs l
  | _ => false
def RFs : List PV → Bool
  | [] => true
  | x :: l => RF x && RFs l
end
mutual
theorem RF.any {I J : Imm} : ∀ {x : PV} {v : Value}, RF x = true → C I x v → C J x v
  | _, _, _, .s v => .s v
  | _, _, _, .junk v => .junk v
  | _, _, h, .agg hC => .agg (RFs.any (by simpa [RF] using h) hC)
  | _, _, h, .tup hC => .tup (RFs.any (by simpa [RF] using h) hC)
  | _, _, h, .fn hC => .fn (RFs.any (by simpa [RF] using h) hC)
  | _, _, h, .ifc hC => .ifc (RF.any (by simpa [RF] using h) hC)
  | _, _, h, .sl .. => by simp [RF] at h
  | _, _, h, .sl0 => by simp [RF] at h
  | _, _, h, .sle => by simp [RF] at h
  | _, _, h, .vp .. => by simp [RF] at h
theorem RFs.any {I J : Imm} : ∀ {xs : List PV} {vs : List Value}, RFs xs = true → Cs I xs vs → Cs J xs vs
  | _, _, _, .nil => .nil
  | _, _, h, .cons h1 h2 => by
    simp only [RFs, Bool.and_eq_true] at h
    exact .cons (RF.any h.1 h1) (RFs.any h.2 h2)
end
/-- Memory, and more of it. -/
def Mem.join (a b : Mem) : Mem := fun c => match b c with | some x => some x | none => a c
/-- The method of that name of type t is function f, of the value. -/
def Meth (P : Program) (t : TypeId) (name : String) (f : FuncId) : Prop :=
  ∀ (v : Value) (args : Array Value) (w : World), (callMethod (.iface t v) name args).run P w = .ok (.enter f (#[v] ++ args)) w

/-- What abides new blocks. -/
def Abiding (J : Nat → Imm → World → Prop) : Prop :=
  ∀ i I₁ W₁ I₂ W₂, J i I₁ W₁ → Below W₁.heap.size W₁ W₂ → I₁.le I₂ → (∀ b, b < W₁.heap.size → I₂ b = I₁ b) → Good I₂ W₂ → J i I₂ W₂

/-- What an iterator hands over in one round: values, and memory that is the round's own then. -/
abbrev Item := List PV → Mem → Prop
/-- What a round says to the iterator: on, or no more. -/
def RoundOk (P : Program) (l : Nat) (J : Nat → Imm → World → Prop) (items : List Item) : Prop :=
  ∀ i x args m I₀ W₀ I₁ W₁ vs, items[i]? = some x → x args m → J i I₀ W₀ → Below W₀.heap.size W₀ W₁ → I₀.le I₁ → (∀ b, b < W₀.heap.size → I₁ b = I₀ b) → Good I₁ W₁ → MemAt I₁ m W₁ → (∀ c cells, m c = some cells → W₀.heap.size ≤ c) → Cs I₁ args vs →
    YieldAt Fence.wide 0 P l vs.toArray W₁ fun e W₂ => ∃ I₂, I₁.le I₂ ∧ Good I₂ W₂ ∧ ((e = .returned (.bool true) ∧ J (i + 1) I₂ W₂) ∨ (e = .returned (.bool false) ∧ J (items.length + 1) I₂ W₂))

/-- The iterator f hands over these items, one by one, till a round says 'no more'. -/
def IterOkM (P : Program) (f : PV) (items : List Item) : Prop :=
  ∃ k caps, f = .fn (.func k) caps ∧ Enters P k ∧ ∀ (I : Imm) (w : World) (cs : List Value), Good I w → Cs I caps cs →
    ∀ (l : Nat) (J : Nat → Imm → World → Prop), Abiding J → RoundOk P l J items → J 0 I w →
      Calls P k (#[.func (.yield l) #[] #[]] ++ cs.toArray) w fun e W' => (∃ v, e = .returned v) ∧ ∃ I' i, I.le I' ∧ Good I' W' ∧ J i I' W' ∧ (i = items.length ∨ i = items.length + 1)
/-- An operation, and what is known of it. -/
structure AO where
  dst : Option Nat
  op : Op
  guard : Option (Nat × Bool)
  pre : List Nat
  inf : Inf

/-- What is said of a state that no operation does. -/
inductive Gh where
  | freeze (b : Nat)
  | shut (b : Nat)
  | junk (l : List Nat)
  | drop (l : List Nat)
  | forget (t : Nat)
  | row (b off t : Nat)

inductive XA where
  | normal
  | exit (id : Nat)
  | ret

inductive AC where
  | skip
  | reg (draw y : Bool) (ops : List AO)
  | seq (x y : AC)
  | cond (c : Operand) (x y : AC)
  | block (id : Nat) (x : AC)
  | loop (g : List Gh) (x : AC)
  | rf (f : Operand) (ps : List Nat) (g : List Gh) (assign body : AC)
  | exit (id : Nat)
  | ret
  | gh (g : List Gh) (x : AC)
  | dead
  | regd (pa : List (Nat × Nat)) (ops : List AO)
  | regn (ord : List Nat) (ops : List AO)
  | regi (ops : List AO)

def junkAll : List Nat → List TV → List TV
  | [], l => l
  | d :: ds, l => junkAll ds (l.set d (.v .junk))

def rmAll {β : Type} : List Nat → List (Nat × β) → List (Nat × β)
  | [], l => l
  | d :: ds, l => rmAll ds (rm d l)

def gh1 : Gh → St → Option St
  | .freeze b, s => match lk b s.bx with
    | some cells => (tovs cells).map fun cs => ({ s with bx := upd b (cs.map .v) s.bx } : St).freeze b cs
    | none => if (lk b s.ro).isSome = true then some s else none
  | .shut b, s => match lk b s.bx with
    | some cells => match tovs cells with
      | some cs => if cs.all PV.one = true then some (({ s with bx := upd b (cs.map .v) s.bx } : St).shut b cs) else none
      | none => none
    | none => none
  | .junk l, s => some { s with tm := junkAll l s.tm }
  | .drop l, s => some { s with bx := rmAll l s.bx, ro := rmAll l s.ro }
  | .forget t, s => some (s.newTok t)
  | .row b off t, s => match lk b (s.newTok t).bx with
    | some cells => match cells[off]? with
      | some (.v (.s (.slice none 0 0))) => some { s.newTok t with bx := upd b (cells.set off (.acc t [])) (s.newTok t).bx }
      | _ => some s
    | none => some s

def ghs : List Gh → St → Option St
  | [], s => some s
  | g :: l, s => (gh1 g s).bind (ghs l)

/-- A call of a function of the program's. -/
def callA (P : Program) (its : Option (Nat × List Item)) (s : St) (dst : Option Nat) (c : Call) (K : St → Prop) : Prop :=
  match c.callee with
  | .builtin _ => False
  | .value f => match ev s f, pvs s c.args.toList with
    | some (.v (.fn (.func k) caps)), some ps => ∃ r, Ok P k (ps ++ caps) r ∧ K (putT s dst (.v r))
    | some (.v (.fn (.yield l') [])), some ps => match its with
      | some (l, xs) => l' = l ∧ s.bx = [] ∧ s.tk = [] ∧ (∃ x, xs[s.it]? = some x ∧ x ps s.mm) ∧ K { putT s dst (bl true) with it := s.it + 1, mm := nomem } ∧ K { putT s dst (bl false) with it := xs.length + 1, mm := nomem }
      | none => False
    | _, _ => False
  | .invoke r name => match ev s r, pvs s c.args.toList with
    | some (.v (.ifc t x)), some ps => ∃ f r, Meth P t name f ∧ Ok P f (x :: ps) r ∧ K (putT s dst (.v r))
    | _, _ => False

/-! ### What is done with memory that is known, and may be written -/
/-- A call to which memory is lent, but not to be written. -/
def lendA (P : Program) (s : St) (dst : Option Nat) (c : Call) (K : St → Prop) : Prop :=
  match c.callee with
  | .value f => match ev s f, pvs s c.args.toList with
    | some (.v (.fn (.func k) caps)), some ps => ∃ l r, Tells s.mm (ps ++ caps) l ∧ Ok P k l r ∧ RF r = true ∧ K (putT s dst (.v r))
    | _, _ => False
  | _ => False
/-- The same, of a function that hands new memory back. -/
def lendNewA (P : Program) (s : St) (dst : Option Nat) (c : Call) (K : St → Prop) : Prop :=
  match c.callee with
  | .value f => match ev s f, pvs s c.args.toList with
    | some (.v (.fn (.func k) caps)), some ps => ∃ l R, Tells s.mm (ps ++ caps) l ∧ OkM P k l nomem R ∧ (∀ r m', R r m' → RF r = true ∧ ∀ c cells, m' c = some cells → RFs cells = true) ∧
        ∀ r m', R r m' → (∀ c, (m' c).isSome = true → s.mm c = none) → K { putT s dst (.v r) with mm := s.mm.join m' }
    | _, _ => False
  | _ => False
/-- A call to which memory is handed over, to be written. -/
def memA (P : Program) (s : St) (dst : Option Nat) (c : Call) (K : St → Prop) : Prop :=
  match c.callee with
  | .value f => match ev s f, pvs s c.args.toList with
    | some (.v (.fn (.func k) caps)), some ps => ∃ R, OkM P k (ps ++ caps) s.mm R ∧ ∀ r m', R r m' → K { putT s dst (.v r) with mm := m' }
    | _, _ => False
  | _ => False
/-- New memory. -/
def newA (s : St) (dst : Option Nat) (op : Op) (i : Inf) (K : St → Prop) : Prop :=
  match op with
  | .alloc _ => ∀ c, s.mm c = none → K { putT s dst (.v (.s (.pointer (some ⟨c, 0, none⟩)))) with mm := s.mm.put c (i.zero.map .s) }
  | .box _ x => match pv s x with
    | some p => p.ok = true ∧ ∀ c, s.mm c = none → K { putT s dst (.v (.s (.pointer (some ⟨c, 0, none⟩)))) with mm := s.mm.put c p.cells }
    | none => False
  | .makeSlice _ l c => match ev s l, ev s c with
    | some (.v (.s (.int _ n))), some (.v (.s (.int _ m))) => n = m ∧ 0 ≤ n ∧ n * i.t ≤ 140737488355328 ∧ n * i.n ≤ 16777216 ∧
        ∀ c, s.mm c = none → K { putT s dst (.v (.s (.slice (some ⟨c, 0, none⟩) n.toNat n.toNat))) with mm := s.mm.put c (List.replicate n.toNat (i.zero.map PV.s)).flatten }
    | _, _ => False
  | _ => False
/-- Something is appended that is told closely first. -/
def appMA (s : St) (dst : Option Nat) (c : Call) (i : Inf) (K : St → Prop) : Prop :=
  match c.callee, c.args.toList, dst with
  | .builtin .append, [x, y], some d => match ev s x, pv s y with
    | some p, some q => ∃ ys s', Tell s.mm q (.sl false ys) ∧ RFs (flat ys) = true ∧ appA s d i p ys = some s' ∧ K s'
    | _, _ => False
  | _, _, _ => False
/-- A row is copied over another one. -/
def copyA (s : St) (dst : Option Nat) (c : Call) (i : Inf) (K : St → Prop) : Prop :=
  match c.callee, c.args.toList with
  | .builtin .copy, [x, y] => match pv s x, pv s y with
    | some (.s (.slice (some ⟨b, off, none⟩) n _)), some q => ∃ ys cells, Tell s.mm q (.sl false ys) ∧ RFs (flat ys) = true ∧ s.mm b = some cells ∧ ys.all (fun e => e.ok && e.cells.length == i.n) = true ∧ ys.length ≤ n ∧ off + (flat ys).length ≤ cells.length ∧
        K { putT s dst (.v (.s (.int .i64 (ys.length : Nat)))) with mm := s.mm.put b (cells.take off ++ flat ys ++ cells.drop (off + (flat ys).length)) }
    | _, _ => False
  | _, _ => False

/-- Something is appended to a row that has room. -/
def appInA (s : St) (dst : Option Nat) (c : Call) (i : Inf) (K : St → Prop) : Prop :=
  match c.callee, c.args.toList with
  | .builtin .append, [x, y] => match pv s x, pv s y with
    | some (.s (.slice (some ⟨b, off, none⟩) n cap)), some q => ∃ ys cells, Tell s.mm q (.sl false ys) ∧ RFs (flat ys) = true ∧ s.mm b = some cells ∧ ys.all (fun e => e.ok && e.cells.length == i.n) = true ∧ n + ys.length ≤ cap ∧ off + n * i.n + (flat ys).length ≤ cells.length ∧
        K { putT s dst (.v (.s (.slice (some ⟨b, off, none⟩) (n + ys.length) cap))) with mm := s.mm.put b (cells.take (off + n * i.n) ++ flat ys ++ cells.drop (off + n * i.n + (flat ys).length)) }
    | _, _ => False
  | _, _ => False
/-- Something is appended to a row that has no room: new memory. -/
def growA (s : St) (dst : Option Nat) (c : Call) (i : Inf) (K : St → Prop) : Prop :=
  match c.callee, c.args.toList with
  | .builtin .append, [x, y] => match pv s x, pv s y with
    | some p, some q => ∃ els ys, Tell s.mm p (.sl true els) ∧ Tell s.mm q (.sl false ys) ∧ RFs (flat els) = true ∧ RFs (flat ys) = true ∧ fits i.n i.t els ys = true ∧ (ys = [] → K (putT s dst (.v p))) ∧
        (ys ≠ [] → ∀ c cap k, s.mm c = none → els.length + ys.length ≤ cap → (flat (els ++ ys)).length + k = cap * i.n → K { putT s dst (.v (.s (.slice (some ⟨c, 0, none⟩) (els.length + ys.length) cap))) with mm := s.mm.put c (flat (els ++ ys) ++ List.replicate k .junk) })
    | _, _ => False
  | _, _ => False

/-- A row of its own, of these elements, with what its array can take. -/
def RowA (els : List PV) (r : PV) (m : Mem) : Prop :=
  ∃ c cap k sz, els ≠ [] ∧ els.length ≤ cap ∧ (∀ e ∈ els, e.cells.length = sz) ∧ (flat els).length + k = cap * sz ∧ r = .s (.slice (some ⟨c, 0, none⟩) els.length cap) ∧ m = nomem.put c (flat els ++ List.replicate k .junk)
abbrev OkA (P : Program) (f : FuncId) (args els : List PV) : Prop := OkM P f args nomem (RowA els)
/-- A call of a function that hands a new row back, to which something will be appended. -/
def lendAccA (P : Program) (s : St) (dst : Option Nat) (c : Call) (K : St → Prop) : Prop :=
  match c.callee, dst with
  | .value f, some d => match ev s f, pvs s c.args.toList with
    | some (.v (.fn (.func k) caps)), some ps => ∃ l els, Tells s.mm (ps ++ caps) l ∧ OkA P k l els ∧ RFs (flat els) = true ∧ K (putT { s.newTok d with tk := upd d els.length (s.newTok d).tk } (some d) (.acc d els))
    | _, _ => False
  | _, _ => False

def execM (P : Program) (s : St) (o : AO) (K : St → Prop) : Prop :=
  match o.inf.mc, o.op with
  | 1, .call c => lendA P s o.dst c K
  | 2, .call c => memA P s o.dst c K
  | 3, op => newA s o.dst op o.inf K
  | 4, .call c => appMA s o.dst c o.inf K
  | 5, .call c => copyA s o.dst c o.inf K
  | 6, .call c => lendNewA P s o.dst c K
  | 7, .call c => appInA s o.dst c o.inf K
  | 8, .call c => growA s o.dst c o.inf K
  | 9, .call c => lendAccA P s o.dst c K ∨ lendA P s o.dst c K
  | _, _ => False

/-- Is a slice asked whether it is nil? Of a slice without elements that is not known: both answers are followed. -/
def nilTest (o : AO) : Option Operand :=
  match o.op with
  | .binOp .eql _ x (.const (.slice none 0 0)) _ => if o.inf.t = 1 ∧ o.inf.n = 3 then some x else none
  | _ => none

def nilA (s : St) (d : Option Nat) (x : Operand) (K : St → Prop) : Prop :=
  match ev s x with
  | some (.v (.sl _ els)) => ∀ b : Bool, (els.isEmpty = false → b = false) → K (putT s d (bl b))
  | some (.v (.s (.slice none 0 0))) => K (putT s d (bl true))
  | some (.acc _ els) => K (putT s d (bl els.isEmpty))
  | _ => False

def execB (P : Program) (its : Option (Nat × List Item)) (s : St) (o : AO) (K : St → Prop) : Prop :=
  match o.op with
  | .call c => match c.callee with
    | .builtin _ => ∃ s', stepA s o.dst o.op o.inf = some s' ∧ K s'
    | _ => callA P its s o.dst c K
  | _ => ∃ s', stepA s o.dst o.op o.inf = some s' ∧ K s'

def execA (P : Program) (its : Option (Nat × List Item)) (s : St) (o : AO) (K : St → Prop) : Prop :=
  match o.inf.mc with
  | 0 => match nilTest o with
    | some x => nilA s o.dst x K
    | none => execB P its s o K
  | _ + 1 => execM P s o K

def wpOp (P : Program) (its : Option (Nat × List Item)) (all : List AO) (o : AO) (s : St) (K : St → Prop) : Prop :=
  match o.guard with
  | none => execA P its s o K
  | some (j, want) => match ((all[j]?).bind (·.dst)).bind (s.tm[·]?) with
    | some (.v (.s (.bool b))) => if b = want then execA P its s o K else K (putT s o.dst (.v (.tup [])))
    | some (.v (.tup [])) => K (putT s o.dst (.v (.tup [])))
    | _ => False

def wpOpsA (P : Program) (its : Option (Nat × List Item)) (all : List AO) : List AO → St → (St → Prop) → Prop
  | [], s, K => K s
  | o :: os, s, K => wpOp P its all o s fun s' => wpOpsA P its all os s' K

/-! ### Regions that draw their order, and make variables -/
/-- Nothing told names variable d, or the rows ts. -/
def TV.freeB (d : Nat) (ts : List Nat) : TV → Bool
  | .v _ => true
  | .ptr b _ => b != d
  | .own b _ => b != d
  | .acc t _ => !ts.contains t

def St.freeB (p : Nat × List Nat) (s : St) : Bool :=
  (lk p.1 s.bx).isNone && s.tm.all (TV.freeB p.1 p.2) && s.bx.all (fun q => q.2.all (TV.freeB p.1 p.2)) && s.sv.all (fun l => l.all (TV.freeB p.1 p.2))

/-- A new variable that an operation makes, with the rows in it. -/
def allocD (o : AO) : Option (Nat × List Nat) := match o.op, o.dst, o.guard, o.inf.mc with
  | .alloc _, some d, none, 0 => some (d, o.inf.acc.map (·.2))
  | _, _, _, _ => none

def dsL : List AO → List (Nat × List Nat)
  | [] => []
  | o :: os => match allocD o with
    | some p => p :: dsL os
    | none => dsL os

def freeAll : List (Nat × List Nat) → St → Bool
  | [], _ => true
  | p :: ps, s => s.freeB p && freeAll ps s

/-- Slots that do not point to one variable. -/
def paOk : List (Nat × Nat) → St → Bool
  | [], _ => true
  | p :: ps, s => (match s.tm[p.1]?, s.tm[p.2]? with
    | _, some (.v (.s (.pointer _))) => false
    | some (.ptr b _), some (.ptr b' _) => b != b'
    | _, _ => true) && paOk ps s

/-- Is a slot spoken of? -/
def inPa (d : Nat) : List (Nat × Nat) → Bool
  | [] => false
  | p :: ps => p.1 == d || p.2 == d || inPa d ps
/-- The slots that are spoken of, and that these operations write. -/
def nsC (pa : List (Nat × Nat)) : Option Nat → List Nat → List Nat
  | some d, l => if inPa d pa = true then d :: l else l
  | none, l => l
def nsL (pa : List (Nat × Nat)) : List AO → List Nat
  | [] => []
  | o :: os => nsC pa o.dst (nsL pa os)
def nptr (s : St) (d : Nat) : Bool := match s.tm[d]? with
  | some (.ptr _ _) => false
  | some (.v (.s (.pointer _))) => false
  | _ => true
def nonPs : List Nat → St → Bool
  | [], _ => true
  | d :: ds, s => nptr s d && nonPs ds s

def wpOpsC (P : Program) (pa : List (Nat × Nat)) (all : List AO) : List AO → St → (St → Prop) → Prop
  | [], s, K => K s
  | o :: os, s, K => wpOp P none all o s fun s' => (freeAll (dsL os) s' && (paOk pa s' && nonPs (nsL pa os) s')) = true ∧ wpOpsC P pa all os s' K

def setPs : List Nat → List PV → List TV → List TV
  | p :: ps, x :: xs, tm => setPs ps xs (tm.set p (.v x))
  | _, _, tm => tm

/-- The state as a round begins. -/
def enterR (ps : List Nat) (x : List PV) (s : St) : St := { s with tm := setPs ps x (s.sv.headD []) }
/-- The state as the loop is left. -/
def leaveR (s : St) : St := { s with tm := s.sv.headD [], sv := s.sv.tail }
/-- The state between two rounds. -/
def betw (s : St) : St := { s with tm := [] }

def Rounds (g : List Gh) (ps : List Nat) (run : (XA → St → Prop) → St → Prop) (Q : XA → St → Prop) : List Item → St → Prop
  | [], s => Q .normal (leaveR s)
  | x :: xs, s => ∀ p m, x p m → (∀ c, (m c).isSome = true → s.mm c = none) → p.length = ps.length ∧ run (fun e s' => match e with
      | .normal => ∃ s1, ghs g (betw s') = some s1 ∧ Rounds g ps run Q xs s1
      | .ret => Q .ret (leaveR s')
      | .exit id => Q (.exit id) (leaveR s')) (enterR ps p { s with mm := s.mm.join m })

def wpA (P : Program) (its : Option (Nat × List Item)) : AC → (XA → St → Prop) → St → Prop
  | .skip, Q, s => Q .normal s
  | .reg d y ops, Q, s => wpOpsA P (if d = true ∧ y = false then none else its) ops ops s (Q .normal)
  | .seq x y, Q, s => wpA P its x (fun e s' => match e with | .normal => wpA P its y Q s' | .ret => Q .ret s' | .exit id => Q (.exit id) s') s
  | .cond c x y, Q, s => match ev s c with
    | some (.v (.s (.bool b))) => if b = true then wpA P its x Q s else wpA P its y Q s
    | _ => False
  | .block id x, Q, s => wpA P its x (fun e s' => match e with | .exit j => if j = id then Q .normal s' else Q (.exit j) s' | .normal => Q .normal s' | .ret => Q .ret s') s
  | .loop g x, Q, s => ∃ (Inv : Nat → St → Prop) (m : Nat) (s0 : St), ghs g s = some s0 ∧ Inv m s0 ∧ ∀ m s, Inv m s →
      wpA P its x (fun e s' => match e with | .normal => ∃ s1 m', ghs g s' = some s1 ∧ m' < m ∧ Inv m' s1 | .ret => Q .ret s' | .exit id => Q (.exit id) s') s
  | .rf f ps g assign body, Q, s => ∃ items p s1, its = none ∧ ev s f = some (.v p) ∧ IterOkM P p items ∧ ghs g (betw { s with sv := s.tm :: s.sv }) = some s1 ∧
      Rounds g ps (fun Q' s' => wpA P none assign (fun e s2 => match e with | .normal => wpA P none body Q' s2 | _ => False) s') Q items s1
  | .exit id, Q, s => Q (.exit id) s
  | .ret, Q, s => Q .ret s
  | .dead, _, _ => False
  | .regd pa ops, Q, s => (freeAll (dsL ops) s && (paOk pa s && nonPs (nsL pa ops) s)) = true ∧ wpOpsC P pa ops ops s (Q .normal)
  | .regn ord ops, Q, s => wpOpsA P none ops (ord.filterMap (ops[·]?)) s (Q .normal)
  | .regi ops, Q, s => ∃ Inv : (Nat → Bool) → St → Prop, Inv (fun _ => false) s ∧ (∀ (D : Nat → Bool) (i : Nat) (o : AO) (s : St), ops[i]? = some o → D i = false → (∀ j ∈ o.pre, D j = true) → Inv D s → wpOp P none ops o s (Inv fun j => D j || j == i)) ∧
      ∀ (D : Nat → Bool) (s : St), (∀ j, j < ops.length → D j = true) → Inv D s → Q .normal s
  | .gh g x, Q, s => ∃ s1, ghs g s = some s1 ∧ wpA P its x Q s1

end Go.Proofs.YtambpjbpdackfaaGreat.A


/- One operation of a region: what is told, the model does. -/
set_option linter.unusedVariables false
set_option linter.unusedSimpArgs false
namespace Go.Proofs.YtambpjbpdackfaaGreat.A
open Go Go.RowKit Go.Shelf

/-- Every function may run; ro: the round that is walked. -/
def wideR (ro : Option Nat) : Fence := { Fence.wide with round := ro }

/-- What the told state is measured against: as the call began; in an iterator: as the last round left it. -/
def Base (its : Option (Nat × List Item)) (w00 : Bs) (I00 : Imm) (J : Nat → Imm → World → Prop) (it : Nat) (w0 : Bs) (I0 : Imm) : Prop :=
  match its with
  | none => w0 = w00 ∧ I0 = I00
  | some _ => (∀ k, w0.ln k = false) ∧ J it I0 w0.w ∧ I00.le I0

def Ctx (P : Program) (its : Option (Nat × List Item)) (J : Nat → Imm → World → Prop) : Prop :=
  ∀ l xs, its = some (l, xs) → Abiding J ∧ RoundOk P l J xs

section
variable {P : Program} {its : Option (Nat × List Item)} {w00 : Bs} {I00 : Imm} {Jt : Nat → Imm → World → Prop} {ro : Option Nat}
variable {w0 : Bs} {w w' : World} {I0 I J : Imm} {β : Nat → Nat} {κ : Nat → Nat × Nat × Nat} {s s' : St} {sav : List (Array Value)} {a : Act}

/-- The model's state reads as s, measured against something that Base lets in. -/
def Sat (its : Option (Nat × List Item)) (B : Nat → Bs → Imm → Prop) (I : Imm) (s : St) (sav : List (Array Value)) (a : Act) (w : World) : Prop :=
  (its.isSome = true → a.defers = []) ∧ ∃ w0 I0 β κ, B s.it w0 I0 ∧ Sim w0 I0 I β κ s sav a w

theorem put_defers (a : Act) (d : Option Nat) (v : Value) : (a.put d v).defers = a.defers := by cases d <;> rfl

/-- How a told step goes on. -/
def Next1 (its : Option (Nat × List Item)) (B : Nat → Bs → Imm → Prop) (I : Imm) (sav : List (Array Value)) (w : World) (next : Act → World → Prop) (K : St → Prop) : Prop :=
  ∀ s' a' w' J, I.le J → (its = none → KeepsOthers w w') → Sat its B J s' sav a' w' → K s' → next a' w'

theorem KeepsOthers.ofBelow (h : Below w.heap.size w w') : KeepsOthers w w' :=
  ⟨h.size, fun k o hk _ => (h.block k (Array.getElem?_eq_some_iff.1 hk).1).trans hk⟩

theorem stepA_it {dst : Option Nat} {op : Op} {i : Inf} (h : stepA s dst op i = some s') : s'.it = s.it := by
  have hput : ∀ (s : St) (t : TV), (putT s dst t).it = s.it := fun s t => by cases dst <;> rfl
  have hnt : ∀ l (s : St), (newToks l s).it = s.it := fun l => by
    induction l with
    | nil => exact fun _ => rfl
    | cons p l ih => exact fun s => (ih _).trans rfl
  have hval : ∀ {op : Op}, (valA s op i).map (putT s dst) = some s' → s'.it = s.it := fun h => by
    obtain ⟨t, _, rfl⟩ := Option.map_eq_some_iff.1 h
    exact hput s t
  unfold stepA at h
  split at h
  · split at h
    · split at h
      · cases h; simp [putT, St.newBox, St.mapTV, hnt]
      · cases h
    · cases h
  · split at h
    · split at h
      · obtain ⟨cs, _, rfl⟩ := Option.map_eq_some_iff.1 h
        simp [putT, St.newBox, St.mapTV]
      · cases h
    · cases h
  · split at h
    · split at h
      · cases h
      · split at h
        · split at h
          · cases h; exact hput _ _
          · cases h
        · split at h
          · cases h; simp [putT, St.newBox, St.mapTV]
          · cases h
    · cases h
  · split at h
    · obtain ⟨s1, h1, rfl⟩ := Option.map_eq_some_iff.1 h
      rw [hput]
      unfold storeA at h1
      split at h1
      · split at h1
        · split at h1
          · cases h1; rfl
          · cases h1
        · cases h1
      · split at h1
        · obtain ⟨_, _, rfl⟩ := Option.map_eq_some_iff.1 h1; rfl
        · cases h1
      · cases h1
    · cases h
  · split at h
    · split at h
      · cases h; exact hput _ _
      · cases h
    · cases h
  · split at h
    · split at h
      · unfold appA at h
        split at h
        · split at h
          · cases h; rfl
          · cases h
        · split at h
          · cases h
          · split at h
            · cases h; rfl
            · cases h
        · split at h
          · split at h
            · cases h; rfl
            · split at h
              · cases h
              · cases h; rfl
          · cases h
        · cases h
      · cases h
    · exact hval h
  · split at h
    · exact hval h
    · cases h; exact hput _ _
  · exact hval h

theorem wpIn_run {o : Oper} {next : Act → World → Prop} {Q : Exit → Act → World → Prop} (hd : ∀ c, o.op ≠ .defer c) (h : o.uponIn (wideR ro) 0 P a next Q ((execOp a.eval o).run P w)) : o.wpIn (wideR ro) 0 P a w next Q := by
  refine ⟨fun _ _ => trivial, ?_⟩
  rw [Oper.semAt_eq _ _ _ hd]
  exact h

theorem upon_calls {o : Oper} {next : Act → World → Prop} {Q : Exit → Act → World → Prop} {f : FuncId} {args : Array Value} {R : Ending → World → Prop} (hc : Calls P f args w R) (hR : ∀ e w', R e w' → ∃ v, e = .returned v ∧ next (a.put o.dst v) w') :
    o.uponIn (wideR ro) 0 P a next Q (.ok (.enter f args) w) := by
  refine ⟨fun h => by simp [wideR, Fence.wide] at h, ?_⟩
  have h1 : CallsIn (wideR ro) (0 - 1) P f args w R := by
    have := (callsIn_wide (n := 0 - 1)).2 hc
    cases ro with
    | none => exact this
    | some l => exact CallsIn.inRound l this
  refine h1.mono ?_
  intro e w' hr
  obtain ⟨v, rfl, hn⟩ := hR e w' hr
  exact hn

theorem round_ro {l : Nat} {f : FuncId} {tmps : Array Value} {assign body : Code} {R : Ending → World → Prop} (h : RoundIn Fence.wide 0 P l f tmps assign body w R) : RoundIn (wideR ro) (0 - 1) P l f tmps assign body w R := by
  cases ro with
  | none => exact h
  | some l => exact h

theorem sound_step {o : Oper} {ao : AO} {next : Act → World → Prop} {Q : Exit → Act → World → Prop} {K : St → Prop} (hop : ao.op = o.op) (hdst : ao.dst = o.dst) (hi : infOk' P ao.op ao.inf = true)
    (hdf : its.isSome = true → a.defers = []) (hB : Base its w00 I00 Jt s.it w0 I0) (h : Sim w0 I0 I β κ s sav a w) (hs : stepA s ao.dst ao.op ao.inf = some s') (hk : K s') (hn : Next1 its (Base its w00 I00 Jt) I sav w next K) : o.wpIn (wideR ro) 0 P a w next Q := by
  rw [hop] at hi hs
  rw [hdst] at hs
  have hd : ∀ c, o.op ≠ .defer c := fun c e => by rw [e] at hs; simp [stepA, valA] at hs
  refine wpIn_run hd ?_
  obtain ⟨v, w', J, β', κ', hrun, hIJ, hkeep, hsim⟩ := goes_step h hi hs
  have hgo : next (a.put o.dst v) w' := hn s' _ w' J hIJ (fun _ => hkeep) ⟨fun e => by rw [put_defers]; exact hdf e, w0, I0, β', κ', by rw [stepA_it hs]; exact hB, hsim⟩ hk
  rcases hrun with hrun | ⟨hrun, rfl⟩
  · rw [hrun]; exact hgo
  · rw [hrun]; exact hgo

theorem sat_ok {r : PV} {v : Value} (hdf : its.isSome = true → a.defers = []) (hB : Base its w00 I00 Jt s.it w0 I0) (h : Sim w0 I0 I β κ s sav a w) (hb : Below w.heap.size w w') (hJ : I.le J) (hg : Good J w') (hold : ∀ b, b < w.heap.size → J b = I b) (hr : C J r v) (dst : Option Nat) :
    Sat its (Base its w00 I00 Jt) J (putT s dst (.v r)) sav (a.put dst v) w' := by
  refine ⟨fun e => by rw [put_defers]; exact hdf e, w0, I0, β, κ, ?_, (h.grow hb hJ hold hg).putT dst (.v hr)⟩
  have : (putT s dst (.v r)).it = s.it := by cases dst <;> rfl
  rw [this]; exact hB

theorem sound_call {o : Oper} {c : Call} {next : Act → World → Prop} {Q : Exit → Act → World → Prop} {K : St → Prop} (hop : o.op = .call c) (hctx : Ctx P its Jt)
    (hdf : its.isSome = true → a.defers = []) (hB : Base its w00 I00 Jt s.it w0 I0) (h : Sim w0 I0 I β κ s sav a w) (hs : callA P its s o.dst c K) (hn : Next1 its (Base its w00 I00 Jt) I sav w next K) : o.wpIn (wideR ro) 0 P a w next Q := by
  have hd : ∀ c, o.op ≠ .defer c := fun c e => by rw [hop] at e; cases e
  refine wpIn_run hd ?_
  obtain ⟨callee, args, argTypes⟩ := c
  unfold callA at hs
  simp only at hs
  split at hs
  · exact hs.elim
  · rename_i f
    split at hs
    · -- a function of the program's
      rename_i k caps ps hf hps
      obtain ⟨r, ⟨hent, hok⟩, hk⟩ := hs
      obtain ⟨arr, hfv, hcaps⟩ := (ev_R h hf).inv.inv_fn
      have hargs := pvs_C h hps
      have hrun : (execOp a.eval o).run P w = .ok (.enter k (args.map a.eval ++ arr)) w := by
        simp [execOp, hop, resolve, hfv, Deferred.ofValue, invoke, hent (args.map a.eval ++ arr) w]
      rw [hrun]
      have hall : Cs I (ps ++ caps) ((args.map a.eval).toList ++ arr.toList) := by
        rw [Array.toList_map]
        exact hargs.append hcaps
      have hcall := hok I w _ h.good hall
      have e1 : ((args.map a.eval).toList ++ arr.toList).toArray = args.map a.eval ++ arr := by simp
      rw [e1] at hcall
      refine upon_calls hcall ?_
      rintro e w' ⟨v, J, rfl, hb, hJ, hg, hold, hr⟩
      exact ⟨v, rfl, hn _ _ w' J hJ (fun _ => KeepsOthers.ofBelow hb) (sat_ok hdf hB h hb hJ hg hold hr o.dst) hk⟩
    · -- a round
      rename_i l' ps hf hps
      split at hs
      · rename_i its l xs
        obtain ⟨rfl, hbx, htk, ⟨x, hit, hxm⟩, hk1, hk2⟩ := hs
        obtain ⟨hab, hround⟩ := hctx _ _ rfl
        obtain ⟨arr, hfv, hcaps⟩ := (ev_R h hf).inv.inv_fn
        have ha0 : arr = #[] := by obtain ⟨arr⟩ := arr; cases hcaps; rfl
        subst ha0
        have hargs := pvs_C h hps
        obtain ⟨hln, hJ0, hle⟩ := hB
        obtain ⟨fn, tmps, assign, body, hy, hr⟩ := hround s.it x ps s.mm I0 w0.w I w _ hit hxm hJ0 (h.below.all hln) h.ext h.old h.good (fun c cells hc => (h.mem c cells hc).2)
          (fun c cells hc => by
            rcases (h.mem c cells hc).1 with e | e
            · exact e
            · rw [hln] at e; cases e) hargs
        have hrun : (execOp a.eval o).run P w = .ok (.round l' fn tmps assign body) w := by
          have e1 : (args.toList.map a.eval).toArray = args.map a.eval := by rw [← Array.toList_map, Array.toArray_toList]
          rw [e1] at hy
          simp [execOp, hop, resolve, hfv, Deferred.ofValue, invoke, hy]
        rw [hrun]
        have rebase : ∀ (J2 : Imm) (W2 : World) (b : Bool) (it' : Nat), I.le J2 → Good J2 W2 → Jt it' J2 W2 → Sat (some (l', xs)) (Base (some (l', xs)) w00 I00 Jt) J2 { putT s o.dst (bl b) with it := it', mm := nomem } sav (a.put o.dst (.bool b)) W2 := by
          intro J2 W2 b it' hle2 hg2 hj
          refine ⟨fun e => by rw [put_defers]; exact hdf e, Bs.of W2, J2, β, κ, ⟨fun _ => rfl, hj, Imm.le_trans hle (Imm.le_trans h.ext hle2)⟩, ?_⟩
          have h2 := h.putT o.dst (x := bl b) (v := .bool b) (.v (.s _))
          have e1 : (putT s o.dst (bl b)).bx = [] ∧ (putT s o.dst (bl b)).tk = [] := by
            cases o.dst <;> exact ⟨hbx, htk⟩
          exact
            { below := BelowL.refl (Bs.of W2)
              good := hg2
              ext := Imm.le_refl _
              old := fun _ _ => rfl
              tm := by have := h2.tm.map (f := id) (fun _ _ k => k.mono hle2); rwa [List.map_id] at this
              sv := by have := h2.sv.map (f := id) (fun _ _ k => k.mono hle2); rwa [id_map] at this
              box := fun b cells hb => by simp only [e1.1, lk] at hb; cases hb
              mem := fun c cells hc => by cases hc
              mbx := fun b cells hb => by simp only [e1.1, lk] at hb; cases hb
              rob := fun b cells hb => by
                obtain ⟨ar, k1, k2, k3⟩ := h2.rob b cells hb
                obtain ⟨m, hm'⟩ := hle2 _ _ k1
                refine ⟨_, hm', ?_, by simp; omega⟩
                rw [List.take_append_of_le_length k3]
                exact k2.mono hle2
              inj := fun b b' c c' hb => by simp only [e1.1, lk] at hb; cases hb
              tok := fun t ht => by simp [e1.2, tkOf, lk] at ht
              tinj := fun t t' ht => by simp [e1.2, tkOf, lk] at ht
              dfr := ⟨[], by rw [put_defers, hdf rfl]; rfl, List.nodup_nil, by simp⟩ }
        refine ⟨fun h => by simp [wideR, Fence.wide] at h, ?_⟩
        have hr' := round_ro (ro := ro) hr
        refine hr'.mono ?_
        rintro e W2 ⟨J2, hle2, hg2, ⟨rfl, hj⟩ | ⟨rfl, hj⟩⟩
        · exact hn _ _ W2 J2 hle2 (fun e => by cases e) (rebase J2 W2 true _ hle2 hg2 hj) hk1
        · exact hn _ _ W2 J2 hle2 (fun e => by cases e) (rebase J2 W2 false _ hle2 hg2 hj) hk2
      · exact hs.elim
    · exact hs.elim
  · rename_i r name
    split at hs
    · rename_i t x ps hf hps
      obtain ⟨f, r', hm, ⟨hent, hok⟩, hk⟩ := hs
      have hC := (ev_R h hf).inv
      have hargs := pvs_C h hps
      generalize hrv : a.eval r = rv at hC
      cases hC with
      | @ifc _ _ v hx =>
        have hrun : (execOp a.eval o).run P w = .ok (.enter f (#[v] ++ args.map a.eval)) w := by
          have h1 := hm v (args.map a.eval) w
          have e0 : (#[Value.iface t v] ++ args.map a.eval)[0]? = some (.iface t v) := by simp [Array.getElem?_append]
          have e2 : (args.map a.eval).extract 0 args.size = args.map a.eval := by apply Array.ext <;> simp
          simp [execOp, hop, resolve, hrv, invoke, e0, e2, h1]
        rw [hrun]
        have hall : Cs I (x :: ps) (v :: (args.toList.map a.eval)) := .cons hx hargs
        have hcall := hok I w _ h.good hall
        have e1 : (v :: args.toList.map a.eval).toArray = #[v] ++ args.map a.eval := by simp
        rw [e1] at hcall
        refine upon_calls hcall ?_
        rintro e w' ⟨v', J, rfl, hb, hJ, hg, hold, hr⟩
        exact ⟨v', rfl, hn _ _ w' J hJ (fun _ => KeepsOthers.ofBelow hb) (sat_ok hdf hB h hb hJ hg hold hr o.dst) hk⟩
    · exact hs.elim


/-! ### Memory that is known, and may be written -/
theorem KeepsOthers.ofM {m : Mem} (hm : MemAt I m w) (h : BelowL ⟨w, fun c => (m c).isSome⟩ w') : KeepsOthers w w' :=
  ⟨h.size, fun k o hk ho => by
    cases hc : m k with
    | none => exact (h.block k (Array.getElem?_eq_some_iff.1 hk).1 (by simp [hc])).trans hk
    | some x =>
      obtain ⟨_, cs, ty, h3, _⟩ := hm k x hc
      rw [hk] at h3
      cases h3
      cases ho⟩

theorem Sim.memAt (h : Sim w0 I0 I β κ s sav a w) : MemAt I s.mm w := fun c cells hc => (h.mem c cells hc).2

theorem Sim.afterM {m' : Mem} (h : Sim w0 I0 I β κ s sav a w) (hb : BelowL ⟨w, fun c => (s.mm c).isSome⟩ w') (hJ : I.le J) (hg : Good J w') (hold : ∀ b, b < w.heap.size → J b = I b) (hm : MemAt J m' w') (hnew : ∀ c, c < w.heap.size → s.mm c = none → m' c = none) :
    Sim w0 I0 J β κ { s with mm := m' } sav a w' := by
  have hsz : w.heap.size ≤ w'.heap.size := hb.size
  have keep : ∀ k, k < w.heap.size → s.mm k = none → w'.heap[k]? = w.heap[k]? := fun k hk hn => hb.block k hk (by simp [hn])
  exact
    { below := ⟨hb.os.trans h.below.os, hb.tape.trans h.below.tape, hb.output.trans h.below.output, Nat.le_trans h.size hsz, fun k hk hl => by
        have hn : s.mm k = none := by
          cases hc : s.mm k with
          | none => rfl
          | some x =>
            rcases (h.mem k x hc).1 with e | e
            · omega
            · rw [hl] at e; cases e
        exact (keep k (Nat.lt_of_lt_of_le hk h.size) hn).trans (h.below.block k hk hl)⟩
      good := hg
      ext := Imm.le_trans h.ext hJ
      old := fun b hlt => (hold b (Nat.lt_of_lt_of_le hlt h.size)).trans (h.old b hlt)
      tm := by have := h.tm.map (f := id) (fun _ _ k => k.mono hJ); rwa [List.map_id] at this
      sv := by have := h.sv.map (f := id) (fun _ _ k => k.mono hJ); simpa using this
      box := fun b cells hc => by
        obtain ⟨h1, h2, cs, ty, h3, h4⟩ := h.box b cells hc
        have hlt := (Array.getElem?_eq_some_iff.1 h3).1
        refine ⟨h1, by rw [hold _ hlt, h2], cs, ty, by rw [keep _ hlt (h.mbx b cells hc), h3], ?_, h4.2⟩
        have := h4.1.map (f := id) (fun _ _ k => k.mono hJ)
        rwa [List.map_id] at this
      mem := fun c cells hc => by
        replace hc : m' c = some cells := hc
        refine ⟨?_, hm c cells hc⟩
        by_cases hlt : c < w.heap.size
        · cases hs : s.mm c with
          | none => rw [hnew c hlt hs] at hc; cases hc
          | some x => exact (h.mem c x hs).1
        · exact .inl (Nat.le_trans h.size (by omega))
      mbx := fun b cells hc => by
        obtain ⟨_, _, cs, ty, h3, _⟩ := h.box b cells hc
        exact hnew _ (Array.getElem?_eq_some_iff.1 h3).1 (h.mbx b cells hc)
      rob := fun b cells hc => by
        obtain ⟨arr, h1, h2, h3⟩ := h.rob b cells hc
        obtain ⟨m, hm⟩ := hJ _ _ h1
        refine ⟨_, hm, ?_, by simp; omega⟩
        rw [List.take_append_of_le_length h3]
        exact h2.mono hJ
      inj := h.inj
      tok := fun t ht => by
        obtain ⟨h1, cs, ty, arr, h2, h3, h4, h5⟩ := h.tok t ht
        have hlt := (Array.getElem?_eq_some_iff.1 h2).1
        have hn : s.mm (κ t).1 = none := by
          cases hc : s.mm (κ t).1 with
          | none => rfl
          | some x => have := (h.mem _ x hc).2.1; rw [h4] at this; cases this
        exact ⟨h1, cs, ty, arr, by rw [keep _ hlt hn, h2], h3, by rw [hold _ hlt, h4], h5⟩
      tinj := h.tinj
      dfr := by
        obtain ⟨Ds, h1, h2, h3⟩ := h.dfr
        refine ⟨Ds, h1, h2, fun D hD => ⟨(h3 D hD).1, ?_⟩⟩
        have h4 := (h3 D hD).2
        have hn : s.mm D = none := by
          cases hc : s.mm D with
          | none => rfl
          | some x => obtain ⟨_, _, cs, ty, h5, _⟩ := h.mem _ x hc; rw [h4] at h5; cases h5
        rw [keep D (Array.getElem?_eq_some_iff.1 h4).1 hn, h4] }

theorem BelowL.ofNone {w w' : World} (h : BelowL ⟨w, fun c => (nomem c).isSome⟩ w') : Below w.heap.size w w' := h.all fun _ => rfl

theorem putT_mm (s : St) (d : Option Nat) (t : TV) (m : Mem) : { putT s d t with mm := m } = putT { s with mm := m } d t := by cases d <;> rfl

theorem sat_put {tv : TV} {v : Value} (hdf : its.isSome = true → a.defers = []) (hB : Base its w00 I00 Jt s.it w0 I0) (h : Sim w0 I0 J β κ s sav a w') (hr : R J β κ (tkOf s.tk) tv v) (dst : Option Nat) :
    Sat its (Base its w00 I00 Jt) J (putT s dst tv) sav (a.put dst v) w' := by
  refine ⟨fun e => by rw [put_defers]; exact hdf e, w0, I0, β, κ, ?_, h.putT dst hr⟩
  have : (putT s dst tv).it = s.it := by cases dst <;> rfl
  rw [this]; exact hB

theorem sound_lend {o : Oper} {c : Call} {next : Act → World → Prop} {Q : Exit → Act → World → Prop} {K : St → Prop} (hop : o.op = .call c)
    (hdf : its.isSome = true → a.defers = []) (hB : Base its w00 I00 Jt s.it w0 I0) (h : Sim w0 I0 I β κ s sav a w) (hs : lendA P s o.dst c K) (hn : Next1 its (Base its w00 I00 Jt) I sav w next K) : o.wpIn (wideR ro) 0 P a w next Q := by
  have hd : ∀ c, o.op ≠ .defer c := fun c e => by rw [hop] at e; cases e
  refine wpIn_run hd ?_
  obtain ⟨callee, args, argTypes⟩ := c
  unfold lendA at hs
  simp only at hs
  split at hs
  · rename_i f
    split at hs
    · rename_i k caps ps hf hps
      obtain ⟨l, r, ht, ⟨hent, hok⟩, hrf, hk⟩ := hs
      obtain ⟨arr, hfv, hcaps⟩ := (ev_R h hf).inv.inv_fn
      have hargs := pvs_C h hps
      have hrun : (execOp a.eval o).run P w = .ok (.enter k (args.map a.eval ++ arr)) w := by
        simp [execOp, hop, resolve, hfv, Deferred.ofValue, invoke, hent (args.map a.eval ++ arr) w]
      rw [hrun]
      have hall : Cs I (ps ++ caps) ((args.map a.eval).toList ++ arr.toList) := by
        rw [Array.toList_map]
        exact hargs.append hcaps
      have hle := memI_le h.memAt
      have hcall := hok (memI I s.mm w) w _ (memI_good h.good h.memAt) (Tells.sound h.memAt ht (hall.mono hle))
      have e1 : ((args.map a.eval).toList ++ arr.toList).toArray = args.map a.eval ++ arr := by simp
      rw [e1] at hcall
      refine upon_calls hcall ?_
      rintro e w' ⟨v, J, rfl, hb, hJ, hg, hold, hr⟩
      have h2 := h.grow hb (Imm.le_refl _) (fun _ _ => rfl) (h.good.below hb)
      exact ⟨v, rfl, hn _ _ w' I (Imm.le_refl _) (fun _ => KeepsOthers.ofBelow hb) (sat_put hdf hB h2 (.v (RF.any hrf hr)) o.dst) hk⟩
    · exact hs.elim
  · exact hs.elim

theorem sound_lendNew {o : Oper} {c : Call} {next : Act → World → Prop} {Q : Exit → Act → World → Prop} {K : St → Prop} (hop : o.op = .call c)
    (hdf : its.isSome = true → a.defers = []) (hB : Base its w00 I00 Jt s.it w0 I0) (h : Sim w0 I0 I β κ s sav a w) (hs : lendNewA P s o.dst c K) (hn : Next1 its (Base its w00 I00 Jt) I sav w next K) : o.wpIn (wideR ro) 0 P a w next Q := by
  have hd : ∀ c, o.op ≠ .defer c := fun c e => by rw [hop] at e; cases e
  refine wpIn_run hd ?_
  obtain ⟨callee, args, argTypes⟩ := c
  unfold lendNewA at hs
  simp only at hs
  split at hs
  · rename_i f
    split at hs
    · rename_i k caps ps hf hps
      obtain ⟨l, R', ht, ⟨hent, hok⟩, hrf, hk⟩ := hs
      obtain ⟨arr, hfv, hcaps⟩ := (ev_R h hf).inv.inv_fn
      have hargs := pvs_C h hps
      have hrun : (execOp a.eval o).run P w = .ok (.enter k (args.map a.eval ++ arr)) w := by
        simp [execOp, hop, resolve, hfv, Deferred.ofValue, invoke, hent (args.map a.eval ++ arr) w]
      rw [hrun]
      have hall : Cs I (ps ++ caps) ((args.map a.eval).toList ++ arr.toList) := by
        rw [Array.toList_map]
        exact hargs.append hcaps
      have hle := memI_le h.memAt
      have hcall := hok (memI I s.mm w) w _ (memI_good h.good h.memAt) (fun c cells hc => by cases hc) (Tells.sound h.memAt ht (hall.mono hle))
      have e1 : ((args.map a.eval).toList ++ arr.toList).toArray = args.map a.eval ++ arr := by simp
      rw [e1] at hcall
      refine upon_calls hcall ?_
      rintro e w' ⟨v, J, r, m', rfl, hR, hb', hJ, hg, hold, hM, hnw, hr⟩
      have hb := hb'.ofNone
      obtain ⟨hrf1, hrf2⟩ := hrf r m' hR
      have hge : ∀ c cells, m' c = some cells → w.heap.size ≤ c := fun c cells hc => by
        by_cases hlt : c < w.heap.size
        · rw [hnw c hlt rfl] at hc; cases hc
        · omega
      have h2 := h.grow hb (Imm.le_refl _) (fun _ _ => rfl) (h.good.below hb)
      have h3 : Sim w0 I0 I β κ { s with mm := s.mm.join m' } sav a w' :=
        { h2 with
          mem := fun c cells hc => by
            replace hc : (s.mm.join m') c = some cells := hc
            unfold Mem.join at hc
            cases hm : m' c with
            | none => rw [hm] at hc; exact h2.mem c cells hc
            | some x =>
              rw [hm] at hc
              cases hc
              have hcge := hge c cells hm
              obtain ⟨_, cs, ty, k1, k2⟩ := hM c cells hm
              exact ⟨.inl (Nat.le_trans h.size hcge), Imm.none_new h.good hcge, cs, ty, k1, RFs.any (hrf2 c cells hm) k2⟩
          mbx := fun b cells hb => by
            obtain ⟨_, _, cs, ty, k3, _⟩ := h.box b cells hb
            have hlt := (Array.getElem?_eq_some_iff.1 k3).1
            show (s.mm.join m') (β b) = none
            unfold Mem.join
            rw [hnw _ hlt rfl]
            exact h.mbx b cells hb }
      have hfresh : ∀ c, (m' c).isSome = true → s.mm c = none := fun c hc => by
        obtain ⟨x, hx⟩ := Option.isSome_iff_exists.1 hc
        exact h.memNone (hge c x hx)
      refine ⟨v, rfl, hn _ _ w' I (Imm.le_refl _) (fun _ => KeepsOthers.ofBelow hb) (sat_put (s := { s with mm := s.mm.join m' }) hdf hB h3 (.v (RF.any hrf1 hr)) o.dst) ?_⟩
      rw [← putT_mm]
      exact hk r m' hR hfresh
    · exact hs.elim
  · exact hs.elim

theorem sound_mem {o : Oper} {c : Call} {next : Act → World → Prop} {Q : Exit → Act → World → Prop} {K : St → Prop} (hop : o.op = .call c)
    (hdf : its.isSome = true → a.defers = []) (hB : Base its w00 I00 Jt s.it w0 I0) (h : Sim w0 I0 I β κ s sav a w) (hs : memA P s o.dst c K) (hn : Next1 its (Base its w00 I00 Jt) I sav w next K) : o.wpIn (wideR ro) 0 P a w next Q := by
  have hd : ∀ c, o.op ≠ .defer c := fun c e => by rw [hop] at e; cases e
  refine wpIn_run hd ?_
  obtain ⟨callee, args, argTypes⟩ := c
  unfold memA at hs
  simp only at hs
  split at hs
  · rename_i f
    split at hs
    · rename_i k caps ps hf hps
      obtain ⟨R', ⟨hent, hok⟩, hk⟩ := hs
      obtain ⟨arr, hfv, hcaps⟩ := (ev_R h hf).inv.inv_fn
      have hargs := pvs_C h hps
      have hrun : (execOp a.eval o).run P w = .ok (.enter k (args.map a.eval ++ arr)) w := by
        simp [execOp, hop, resolve, hfv, Deferred.ofValue, invoke, hent (args.map a.eval ++ arr) w]
      rw [hrun]
      have hall : Cs I (ps ++ caps) ((args.map a.eval).toList ++ arr.toList) := by
        rw [Array.toList_map]
        exact hargs.append hcaps
      have hcall := hok I w _ h.good h.memAt hall
      have e1 : ((args.map a.eval).toList ++ arr.toList).toArray = args.map a.eval ++ arr := by simp
      rw [e1] at hcall
      refine upon_calls hcall ?_
      rintro e w' ⟨v, J, r, m', rfl, hR, hb, hJ, hg, hold, hM, hnw, hr⟩
      have h2 := h.afterM hb hJ hg hold hM hnw
      refine ⟨v, rfl, hn _ _ w' J hJ (fun _ => KeepsOthers.ofM h.memAt hb) (sat_put (s := { s with mm := m' }) hdf hB h2 (.v hr) o.dst) ?_⟩
      rw [← putT_mm]
      exact hk r m' hR
    · exact hs.elim
  · exact hs.elim

/-- A block of the call's own told as a row that is being appended to. -/
theorem Sim.ownAt (h : Sim w0 I0 I β κ s sav a w) (t cap sz : Nat) (els : List PV) (c : Nat) (cs : Array Value) (ty : TypeId) (hne : els ≠ []) (ht : tkOf s.tk t < els.length) (hb0 : w0.heap.size ≤ c) (hw : w.heap[c]? = some (.cells cs ty (0, 0)))
    (hI : I c = none) (hm : s.mm c = none) (hbx : ∀ b cells, lk b s.bx = some cells → β b ≠ c) (htk : ∀ t, 0 < tkOf s.tk t → (κ t).1 ≠ c) (hcs : cs.size = cap * sz) (hcap : els.length ≤ cap) (hu : ∀ e ∈ els, e.cells.length = sz) (hc : Cs I (flat els) (cs.toList.take (flat els).length)) :
    ∃ J κ', I.le J ∧ Sim w0 I0 J β κ' { s with tk := upd t els.length s.tk } sav a w ∧ R J β κ' (tkOf (upd t els.length s.tk)) (.acc t els) (.slice (some ⟨c, 0, none⟩) els.length cap) := by
  have hfl := flat_length hu
  have hcl : cs.toList.length = cap * sz := by rw [← hcs]; exact Array.length_toList
  have hle : els.length * sz ≤ cs.toList.length := by rw [hcl]; exact Nat.mul_le_mul_right _ hcap
  have hIJ : I.le (fun k => if k = c then some (cs.toList.take (els.length * sz)) else I k) := fun k arr hk => by
    by_cases e : k = c
    · rw [e, hI] at hk; cases hk
    · exact ⟨[], by simp [e, hk]⟩
  have hrow : RowAt (fun k => if k = c then some (cs.toList.take (els.length * sz)) else I k) c sz els :=
    ⟨cs.toList.take (els.length * sz), by simp, hu, by rw [hfl, List.take_take, Nat.min_self]; rw [hfl] at hc; exact hc.mono hIJ, by rw [hfl, List.length_take]; omega⟩
  have hmap : ∀ x u, R I β κ (tkOf s.tk) x u → R (fun k => if k = c then some (cs.toList.take (els.length * sz)) else I k) β (fun j => if j = t then (c, cap, sz) else κ j) (tkOf (upd t els.length s.tk)) (id x) u :=
    fun x u k => k.longer hIJ ht
  refine ⟨_, fun j => if j = t then (c, cap, sz) else κ j, hIJ, ?_, .acc hne rfl hcap hrow (by rw [tkOf_upd, if_pos rfl]; exact Nat.le_refl _) (fun _ => by simp)⟩
  exact
    { below := h.below
      good := fun k arr hk => by
        by_cases e : k = c
        · simp only [e, if_true, Option.some.injEq] at hk
          subst hk
          exact ⟨cs, ty, (0, 0), cs.toList.drop (els.length * sz), by rw [e]; exact hw, (List.take_append_drop _ _).symm⟩
        · simp only [e, if_false] at hk
          exact h.good k arr hk
      ext := Imm.le_trans h.ext hIJ
      old := fun b hb => by
        have : b ≠ c := fun e => by subst e; omega
        simp only [this, if_false]
        exact h.old b hb
      tm := by have := h.tm.map hmap; rwa [List.map_id] at this
      sv := by have := h.sv.map hmap; rwa [id_map] at this
      box := fun b cells hb => by
        obtain ⟨h1, h2, cs', ty', h3, h4⟩ := h.box b cells hb
        refine ⟨h1, by simp only [hbx b cells hb, if_false]; exact h2, cs', ty', h3, ?_, h4.2⟩
        have := h4.1.map hmap
        rwa [List.map_id] at this
      mem := fun b x hb => by
        replace hb : s.mm b = some x := hb
        obtain ⟨h1, h2, cs', ty', h3, h4⟩ := h.mem b x hb
        have e : b ≠ c := fun e => by rw [e, hm] at hb; cases hb
        exact ⟨h1, by simp only [e, if_false]; exact h2, cs', ty', h3, h4.mono hIJ⟩
      mbx := h.mbx
      rob := fun b cells hb => by
        obtain ⟨arr, k1, k2, k3⟩ := h.rob b cells hb
        obtain ⟨m, hm'⟩ := hIJ _ _ k1
        refine ⟨_, hm', ?_, by simp; omega⟩
        rw [List.take_append_of_le_length k3]
        exact k2.mono hIJ
      inj := h.inj
      tok := fun t' ht' => by
        simp only [tkOf_upd] at ht' ⊢
        by_cases e : t' = t
        · simp only [e, if_true]
          exact ⟨hb0, cs, ty, cs.toList.take (els.length * sz), hw, hcs, rfl, by rw [List.length_take]; omega, hcap⟩
        · simp only [e, if_false] at ht' ⊢
          obtain ⟨q1, cs', ty', arr, q2, q3, q4, q5⟩ := h.tok t' ht'
          have hne' := htk t' ht'
          exact ⟨q1, cs', ty', arr, q2, q3, by simp only [hne', if_false]; exact q4, q5⟩
      tinj := fun t1 t2 h1 h2 hκ => by
        simp only [tkOf_upd] at h1 h2
        by_cases e1 : t1 = t <;> by_cases e2 : t2 = t
        · rw [e1, e2]
        · simp only [e1, e2, if_true, if_false] at h1 h2 hκ
          exact absurd hκ.symm (htk t2 h2)
        · simp only [e1, e2, if_true, if_false] at h1 h2 hκ
          exact absurd hκ (htk t1 h1)
        · simp only [e1, e2, if_false] at h1 h2 hκ
          exact h.tinj t1 t2 h1 h2 hκ
      dfr := h.dfr }

theorem RFs_app : ∀ {a b : List PV}, RFs a = true → RFs b = true → RFs (a ++ b) = true
  | [], _, _, h => h
  | x :: a, b, h, k => by
    simp only [RFs, Bool.and_eq_true, List.cons_append] at h ⊢
    exact ⟨h.1, RFs_app h.2 k⟩
theorem RFs_junks : ∀ (k : Nat), RFs (List.replicate k .junk) = true
  | 0 => rfl
  | k + 1 => by simp [List.replicate_succ, RFs, RF, RFs_junks k]
theorem sound_lendAcc {o : Oper} {c : Call} {next : Act → World → Prop} {Q : Exit → Act → World → Prop} {K : St → Prop} (hop : o.op = .call c)
    (hdf : its.isSome = true → a.defers = []) (hB : Base its w00 I00 Jt s.it w0 I0) (h : Sim w0 I0 I β κ s sav a w) (hs : lendAccA P s o.dst c K) (hn : Next1 its (Base its w00 I00 Jt) I sav w next K) : o.wpIn (wideR ro) 0 P a w next Q := by
  have hd : ∀ c, o.op ≠ .defer c := fun c e => by rw [hop] at e; cases e
  refine wpIn_run hd ?_
  obtain ⟨callee, args, argTypes⟩ := c
  unfold lendAccA at hs
  simp only at hs
  split at hs
  · rename_i f d hdst
    split at hs
    · rename_i k caps ps hf hps
      obtain ⟨l, els, ht, ⟨hent, hok⟩, hrf, hk⟩ := hs
      obtain ⟨arr, hfv, hcaps⟩ := (ev_R h hf).inv.inv_fn
      have hargs := pvs_C h hps
      have hrun : (execOp a.eval o).run P w = .ok (.enter k (args.map a.eval ++ arr)) w := by
        simp [execOp, hop, resolve, hfv, Deferred.ofValue, invoke, hent (args.map a.eval ++ arr) w]
      rw [hrun]
      have hall : Cs I (ps ++ caps) ((args.map a.eval).toList ++ arr.toList) := by
        rw [Array.toList_map]
        exact hargs.append hcaps
      have hle := memI_le h.memAt
      have hcall := hok (memI I s.mm w) w _ (memI_good h.good h.memAt) (fun c cells hc => by cases hc) (Tells.sound h.memAt ht (hall.mono hle))
      have e1 : ((args.map a.eval).toList ++ arr.toList).toArray = args.map a.eval ++ arr := by simp
      rw [e1] at hcall
      refine upon_calls hcall ?_
      rintro e w' ⟨v, J, r, m', rfl, ⟨b, cap, q, sz, hne, hcap, hu, hlen, rfl, rfl⟩, hb', hJ, hg, hold, hM, hnw, hr⟩
      have hb := hb'.ofNone
      have hmb : (nomem.put b (flat els ++ List.replicate q PV.junk)) b = some (flat els ++ List.replicate q PV.junk) := Mem.put_same _ _ _
      have hge : w.heap.size ≤ b := by
        by_cases hlt : b < w.heap.size
        · rw [hnw b hlt rfl] at hmb; cases hmb
        · omega
      have h2 := h.grow hb (Imm.le_refl _) (fun _ _ => rfl) (h.good.below hb)
      obtain ⟨_, cs, ty, k1, k2⟩ := hM b _ hmb
      have hcI : Cs I (flat els ++ List.replicate q .junk) cs.toList := RFs.any (RFs_app hrf (RFs_junks q)) k2
      have hsz : cs.size = cap * sz := by
        have := hcI.length
        simp only [List.length_append, List.length_replicate] at this
        have e2 : cs.toList.length = cs.size := Array.length_toList
        omega
      have hpre : Cs I (flat els) (cs.toList.take (flat els).length) := by
        have := hcI.take (flat els).length
        rwa [List.take_left] at this
      have h3 := h2.newTok d
      have hbx : ∀ b' cells, lk b' (s.newTok d).bx = some cells → β b' ≠ b := fun b' cells hb' e => by
        simp only [St.newTok, St.mapTV, lk_map, Option.map_eq_some_iff] at hb'
        obtain ⟨c', hb', _⟩ := hb'
        obtain ⟨_, _, cs', ty', z, _⟩ := h.box b' c' hb'
        have := (Array.getElem?_eq_some_iff.1 z).1
        omega
      have htk : ∀ t, 0 < tkOf (s.newTok d).tk t → (κ t).1 ≠ b := fun t ht e => by
        have ht' : 0 < tkOf s.tk t := by
          simp only [St.newTok, tkOf_upd] at ht
          split at ht
          · omega
          · exact ht
        obtain ⟨_, cs', ty', arr', z, _⟩ := h.tok t ht'
        have := (Array.getElem?_eq_some_iff.1 z).1
        omega
      have e0 : tkOf (s.newTok d).tk d = 0 := by simp [St.newTok, tkOf_upd]
      have hpos : 0 < els.length := List.length_pos_iff.2 hne
      obtain ⟨J2, κ', hIJ, hS, hR⟩ := h3.ownAt d cap sz els b cs ty hne (by omega) (Nat.le_trans h.size hge) k1 (Imm.none_new h.good hge) (h.memNone hge) hbx htk hsz hcap hu hpre
      have hvv := hr.inv_s
      subst hvv
      have hk' : K (putT { s.newTok d with tk := upd d els.length (s.newTok d).tk } o.dst (.acc d els)) := by rw [hdst]; exact hk
      refine ⟨_, rfl, hn _ _ w' J2 hIJ (fun _ => KeepsOthers.ofBelow hb) ⟨fun e => by rw [put_defers]; exact hdf e, w0, I0, β, κ', ?_, hS.putT o.dst hR⟩ hk'⟩
      have : (putT { s.newTok d with tk := upd d els.length (s.newTok d).tk } o.dst (.acc d els)).it = s.it := by cases o.dst <;> rfl
      rw [this]; exact hB
    · exact hs.elim
  · exact hs.elim

end
end Go.Proofs.YtambpjbpdackfaaGreat.A


/- Memory that is known, and may be written: new memory, rows appended and copied out of it; what is told, the model does. -/
set_option linter.unusedVariables false
set_option linter.unusedSimpArgs false
namespace Go.Proofs.YtambpjbpdackfaaGreat.A
open Go Go.RowKit Go.Shelf

section
variable {P : Program} {its : Option (Nat × List Item)} {w00 : Bs} {I00 : Imm} {Jt : Nat → Imm → World → Prop} {ro : Option Nat}
variable {w0 : Bs} {w w' : World} {I0 I J : Imm} {β : Nat → Nat} {κ : Nat → Nat × Nat × Nat} {s s' : St} {sav : List (Array Value)} {a : Act}

theorem cs_consts (I : Imm) : ∀ (l : List Value), Cs I (l.map .s) l
  | [] => .nil
  | x :: l => .cons (.s x) (cs_consts I l)

theorem made_many {z : Array Value} {l : List Value} (hz : z.toList = l) (hl : 0 < l.length) : ∀ (n : Nat), (madeCells z (n * l.length)).toList = (List.replicate n l).flatten := by
  intro n
  have hs : z.size = l.length := by rw [← hz]; simp
  apply List.ext_getElem?
  intro j
  have key : ∀ n j : Nat, (List.replicate n l).flatten[j]? = if j < n * l.length then l[j % l.length]? else none := by
    intro n
    induction n with
    | zero => intro j; simp
    | succ n ih =>
      intro j
      rw [List.replicate_succ, List.flatten_cons, List.getElem?_append]
      by_cases h : j < l.length
      · rw [if_pos h, if_pos (by rw [Nat.add_mul]; omega), Nat.mod_eq_of_lt h]
      · rw [if_neg h, ih, Nat.add_mul, Nat.one_mul]
        have e : (j - l.length) % l.length = j % l.length := by
          have : j = j - l.length + l.length := by omega
          conv => rhs; rw [this, Nat.add_mod_right]
        rw [e]
        by_cases h2 : j - l.length < n * l.length
        · rw [if_pos h2, if_pos (by omega)]
        · rw [if_neg h2, if_neg (by omega)]
  rw [key]
  subst hz
  rw [Array.length_toList] at hl ⊢
  by_cases hj : j < n * z.size
  · have hlt : j % z.size < z.size := Nat.mod_lt _ hl
    rw [if_pos hj]
    simp only [madeCells, Array.toList_map, Array.toList_range, List.getElem?_map, List.getElem?_range hj, Option.map_some, Array.getElem?_toList]
    rw [getElem!_pos z _ hlt, Array.getElem?_eq_getElem hlt]
  · rw [if_neg hj]
    simp only [madeCells, Array.toList_map, Array.toList_range, List.getElem?_map]
    rw [List.getElem?_eq_none (by rw [List.length_range]; omega)]
    rfl

theorem sound_new {o : Oper} {i : Inf} {next : Act → World → Prop} {Q : Exit → Act → World → Prop} {K : St → Prop} (hi : infOk' P o.op i = true) (hmc : i.mc = 3)
    (hdf : its.isSome = true → a.defers = []) (hB : Base its w00 I00 Jt s.it w0 I0) (h : Sim w0 I0 I β κ s sav a w) (hs : newA s o.dst o.op i K) (hn : Next1 its (Base its w00 I00 Jt) I sav w next K) : o.wpIn (wideR ro) 0 P a w next Q := by
  have hfree : s.mm w.heap.size = none := h.memNone (Nat.le_refl _)
  have fin : ∀ (cells : List PV) (cs : Array Value) (ty : TypeId) (v : Value), Cs I cells cs.toList → (∀ c, o.op ≠ .defer c) → (execOp a.eval o).run P w = .ok (.value v) (w.alloc (.cells cs ty)) →
      K { putT s o.dst (.v (.s v)) with mm := s.mm.put w.heap.size cells } → o.wpIn (wideR ro) 0 P a w next Q := by
    intro cells cs ty v hC hd hrun hK
    refine wpIn_run hd ?_
    rw [hrun]
    have h2 := h.memNew (ty := ty) hC
    refine hn _ _ _ I (Imm.le_refl _) (fun _ => KeepsOthers.alloc w _) (sat_put (s := { s with mm := s.mm.put w.heap.size cells }) hdf hB h2 (.v (.s v)) o.dst) ?_
    rw [← putT_mm]
    exact hK
  unfold newA at hs
  split at hs
  · rename_i t ho
    rw [ho] at hi
    simp only [infOk'] at hi
    split at hi
    · rename_i z hz
      simp only [Bool.and_eq_true] at hi
      have hzero := constsEq_eq hi.1
      exact fin _ z.cells t _ (by rw [hzero]; exact cs_consts I _) (fun c e => by rw [ho] at e; cases e) (by simp [execOp, ho, Instr.alloc, run_zero_of hz, newVar, newRow]) (hs _ hfree)
    · cases hi
  · rename_i t x ho
    split at hs
    · rename_i p hp
      obtain ⟨hok, hs⟩ := hs
      obtain ⟨h1, h2⟩ := (pv_C h hp).okCells hok
      exact fin _ (a.eval x).cells t _ h1 (fun c e => by rw [ho] at e; cases e) (by simp [execOp, ho, Instr.box, newVar, newRow]) (hs _ hfree)
    · exact hs.elim
  · rename_i t l c ho
    rw [ho] at hi
    simp only [infOk'] at hi
    split at hs
    · rename_i k n k' m hl hc
      obtain ⟨rfl, h0, hby, hbig, hs⟩ := hs
      split at hi
      · rename_i e he
        rw [if_pos hmc] at hi
        simp only [Bool.and_eq_true, beq_iff_eq, bne_iff_ne, ne_eq] at hi
        obtain ⟨⟨⟨h1, h2⟩, h3⟩, h4⟩ := hi
        split at h4
        · rename_i z hz
          simp only [Bool.and_eq_true, beq_iff_eq] at h4
          obtain ⟨h5, h6⟩ := h4
          obtain ⟨ti, hti, hzz⟩ := Option.bind_eq_some_iff.1 hz
          have hsz : ti.size = i.n := by simpa [tSize, hti] using h1
          have hbt : ti.bytes = i.t := by simpa [hti] using h2
          have hzero := constsEq_eq h5
          have e1 : a.eval l = .int k n := (ev_R h hl).inv.inv_s
          have e2 : a.eval c = .int k' n := (ev_R h hc).inv.inv_s
          have hn1 : n ≤ n * i.n := by
            have := Int.mul_le_mul_of_nonneg_left (show (1 : Int) ≤ (i.n : Int) by omega) h0
            omega
          have hrun := run_make (P := P) w t e ti z (run_underlying_elem he) hti hzz k k' n n h0 (Int.le_refl _) (by rw [hbt, Int.mul_comm]; omega) (by omega)
          rw [hsz, ← h6] at hrun
          have hcells := made_many hzero (by omega) n.toNat
          refine fin (List.replicate n.toNat (i.zero.map PV.s)).flatten (madeCells z.cells (n.toNat * i.zero.length)) e _ ?_ (fun c e => by rw [ho] at e; cases e) (by simp [execOp, ho, e1, e2, hrun]) (hs _ hfree)
          · rw [hcells]
            generalize n.toNat = q
            induction q with
            | zero => exact .nil
            | succ q ih =>
              rw [List.replicate_succ, List.replicate_succ, List.flatten_cons, List.flatten_cons]
              exact (cs_consts I _).append ih
        · cases h4
      · cases hi
    · exact hs.elim
  · exact hs.elim

/-- A row, where it lies, out of a slice that reads as it. -/
theorem src_C {u : Value} {ys : List PV} {t' e' : TypeId} {n : Nat} (hg : Good J w) (hC : C J (.sl false ys) u) (hu : ys.all (fun e => e.ok && e.cells.length == n) = true) (he : tElem P t' = some e') : ∃ news, Src P n t' u ys.length news w ∧ Cs J (flat ys) news := by
  have hk := run_underlying_elem he
  have hun : ∀ e ∈ ys, e.cells.length = n := fun e he => by
    have := List.all_eq_true.1 hu e he
    simp only [Bool.and_eq_true, beq_iff_eq] at this
    exact this.2
  have hok : (flat ys).all PV.cell = true := flat_ok fun e he => by
    have := List.all_eq_true.1 hu e he
    simp only [Bool.and_eq_true, beq_iff_eq] at this
    exact this.1
  cases hC with
  | sl0 => exact ⟨[], Src.ofNil w hk 0, .nil⟩
  | sle => exact ⟨[], Src.ofSlice w hk _ 0 0 [] (by simp) (fun j u hj => by simp at hj) (fun u hu => by cases hu), .nil⟩
  | @sl _ _ b off m sz cap arr hI huu hm hc hl hcap hex =>
    subst hm
    have hfl := flat_length hun
    obtain ⟨cs, ty, fz, more, hw, hcs⟩ := hg b arr hI
    refine ⟨(arr.drop off).take (flat ys).length, Src.ofSlice w hk ⟨b, off, none⟩ ys.length cap _ (by simp only [List.length_take, List.length_drop]; omega) ?_ (hc.cell hok), hc⟩
    intro j u hj
    rw [addr_add]
    exact cellsAt_of hw ⟨(flat ys).length, by rw [hcs, List.drop_append_of_le_length (by omega), List.take_append_of_le_length (by simp; omega)]⟩ j u hj

theorem src_tell {y : Operand} {q : PV} {ys : List PV} {t' e' : TypeId} {n : Nat} (h : Sim w0 I0 I β κ s sav a w) (hq : pv s y = some q) (ht : Tell s.mm q (.sl false ys)) (hf : RFs (flat ys) = true) (hu : ys.all (fun e => e.ok && e.cells.length == n) = true) (he : tElem P t' = some e') :
    ∃ news, Src P n t' (a.eval y) ys.length news w ∧ Cs I (flat ys) news := by
  obtain ⟨news, h1, h2⟩ := src_C (memI_good h.good h.memAt) (Tell.sound h.memAt ht ((pv_C h hq).mono (memI_le h.memAt))) hu he
  exact ⟨news, h1, RFs.any hf h2⟩

theorem sound_appM {o : Oper} {i : Inf} {c : Call} {next : Act → World → Prop} {Q : Exit → Act → World → Prop} {K : St → Prop} (hop : o.op = .call c) (hi : infOk' P o.op i = true)
    (hdf : its.isSome = true → a.defers = []) (hB : Base its w00 I00 Jt s.it w0 I0) (h : Sim w0 I0 I β κ s sav a w) (hs : appMA s o.dst c i K) (hn : Next1 its (Base its w00 I00 Jt) I sav w next K) : o.wpIn (wideR ro) 0 P a w next Q := by
  have hd : ∀ c, o.op ≠ .defer c := fun c e => by rw [hop] at e; cases e
  refine wpIn_run hd ?_
  obtain ⟨callee, args, argTypes⟩ := c
  rw [hop] at hi
  unfold appMA at hs
  split at hs
  · rename_i x y d hc hargs hdst
    simp only at hc hargs
    subst hc
    split at hs
    · rename_i p q hx hy
      obtain ⟨ys, s', ht, hf, happ, hK⟩ := hs
      simp only [infOk'] at hi
      split at hi
      · rename_i t t' _ hts
        split at hi
        · rename_i e he
          simp only [Bool.and_eq_true, beq_iff_eq, bne_iff_ne, ne_eq] at hi
          obtain ⟨⟨⟨⟨h1, h2⟩, h3⟩, h4⟩, h5⟩ := hi
          split at h5
          · rename_i z hz
            simp only [beq_iff_eq] at h5
            obtain ⟨ti, hti, hzz⟩ := Option.bind_eq_some_iff.1 hz
            have T : AppTy P t t' e z ti i.n i.t :=
              { te := he, te' := Option.isSome_iff_exists.1 h1, info := hti, size := by simpa [tSize, hti] using h2, bts := by simpa [hti] using h4, zero := hzz, zsize := h5, pos := h3 }
            obtain ⟨e', he'⟩ := T.te'
            obtain ⟨v, w', J, β', κ', hrun, hIJ, hk, hsim⟩ := app_sound' (ty := o.type) (y := y) T h hx (fun hu => src_tell h hy ht hf hu he') happ
            have ha : args = #[x, y] := by obtain ⟨args⟩ := args; simpa using hargs
            have hat : argTypes = #[t, t'] := by obtain ⟨argTypes⟩ := argTypes; simpa using hts
            subst ha
            subst hat
            have hrun' : (execOp a.eval o).run P w = .ok (.value v) w' := by simp [execOp, hop, resolve, invoke, builtin, hrun]
            rw [hrun']
            have hit : s'.it = s.it := by
              unfold appA at happ
              split at happ
              · split at happ
                · cases happ; rfl
                · cases happ
              · split at happ
                · cases happ
                · split at happ
                  · cases happ; rfl
                  · cases happ
              · split at happ
                · split at happ
                  · cases happ; rfl
                  · split at happ
                    · cases happ
                    · cases happ; rfl
                · cases happ
              · cases happ
            refine hn s' _ w' J hIJ (fun _ => hk) ⟨fun e => by rw [put_defers]; exact hdf e, w0, I0, β', κ', by rw [hit]; exact hB, by rw [hdst]; exact hsim⟩ hK
          · cases h5
        · cases hi
      · cases hi
      all_goals first | (simp_all; done) | (rename_i e _; cases e)
    · exact hs.elim
  · exact hs.elim

theorem sound_copy {o : Oper} {i : Inf} {c : Call} {next : Act → World → Prop} {Q : Exit → Act → World → Prop} {K : St → Prop} (hop : o.op = .call c) (hi : infOk' P o.op i = true)
    (hdf : its.isSome = true → a.defers = []) (hB : Base its w00 I00 Jt s.it w0 I0) (h : Sim w0 I0 I β κ s sav a w) (hs : copyA s o.dst c i K) (hn : Next1 its (Base its w00 I00 Jt) I sav w next K) : o.wpIn (wideR ro) 0 P a w next Q := by
  have hd : ∀ c, o.op ≠ .defer c := fun c e => by rw [hop] at e; cases e
  refine wpIn_run hd ?_
  obtain ⟨callee, args, argTypes⟩ := c
  rw [hop] at hi
  unfold copyA at hs
  split at hs
  · rename_i x y hc hargs
    simp only at hc hargs
    subst hc
    split at hs
    · rename_i b off n cap q hx hy
      obtain ⟨ys, cells, ht, hf, hm, hall, hle, hfit, hK⟩ := hs
      simp only [infOk'] at hi
      have ha : args = #[x, y] := by obtain ⟨args⟩ := args; simpa using hargs
      subst ha
      have hun : ∀ e ∈ ys, e.cells.length = i.n := fun e he => by
        have := List.all_eq_true.1 hall e he
        simp only [Bool.and_eq_true, beq_iff_eq] at this
        exact this.2
      split at hi
      · simp_all
      · simp_all
      · rename_i t t' _ hts
        have hat : argTypes = #[t, t'] := by obtain ⟨argTypes⟩ := argTypes; simpa using hts
        subst hat
        split at hi
        · rename_i e he
          simp only [Bool.and_eq_true, beq_iff_eq] at hi
          obtain ⟨e', he'⟩ := Option.isSome_iff_exists.1 hi.1
          obtain ⟨news, hsrc, hnews⟩ := src_tell (n := i.n) h hy ht hf hall he'
          obtain ⟨hmay, hIb, cs, ty, hw, hcs⟩ := h.mem b cells hm
          have hfl := flat_length hun
          have hnl := hnews.length
          have hcl := hcs.length
          have hx0 : a.eval x = .slice (some ⟨b, off, none⟩) n cap := (pv_C h hx).inv_s
          have hst := run_storeCells_at (P := P) b off ty news 0 cs w hw (by simp only [Array.length_toList] at hcl; omega) hsrc.one
          simp only [Nat.add_zero] at hst
          have hmin : Nat.min ys.length n = ys.length := Nat.min_eq_left hle
          have hln := hsrc.len w
          have hce := hsrc.cells
          have hrun : (execOp a.eval o).run P w = .ok (.value (goInt ys.length)) (w.setRow b (cs.toList.take off ++ news ++ cs.toList.drop (off + news.length)).toArray) := by
            simp [execOp, hop, resolve, invoke, builtin, Builtin.copy_, run_underlying (run_underlying_elem he), run_sizeOf_of hi.2, hx0, hln, hmin, hce, hst]
          rw [hrun]
          have honly := OnlyAt.setRow w b (cs.toList.take off ++ news ++ cs.toList.drop (off + news.length)).toArray
          have hheap := setRow_heap w b cs (cs.toList.take off ++ news ++ cs.toList.drop (off + news.length)).toArray ty (0, 0) hw
          have h2 := h.memStore hm honly hheap (cells' := cells.take off ++ flat ys ++ cells.drop (off + (flat ys).length))
            (by rw [hnl]; simpa using ((hcs.take off).append hnews).append (hcs.drop (off + news.length)))
          refine hn _ _ _ I (Imm.le_refl _) (fun _ => KeepsOthers.onlyAt honly hw) (sat_put (s := { s with mm := s.mm.put b (cells.take off ++ flat ys ++ cells.drop (off + (flat ys).length)) }) hdf hB h2 (.v (.s _)) o.dst) ?_
          rw [← putT_mm]
          exact hK
        · cases hi
      · cases hi
      all_goals first | (simp_all; done) | (rename_i e _; cases e)
    · exact hs.elim
  · exact hs.elim

theorem cs_rest (I : Imm) : ∀ (l : List Value), Cs I (List.replicate l.length .junk) l
  | [] => .nil
  | x :: l => .cons (.junk x) (cs_rest I l)

theorem sound_appIn {o : Oper} {i : Inf} {c : Call} {next : Act → World → Prop} {Q : Exit → Act → World → Prop} {K : St → Prop} (hop : o.op = .call c) (hi : infOk' P o.op i = true)
    (hdf : its.isSome = true → a.defers = []) (hB : Base its w00 I00 Jt s.it w0 I0) (h : Sim w0 I0 I β κ s sav a w) (hs : appInA s o.dst c i K) (hn : Next1 its (Base its w00 I00 Jt) I sav w next K) : o.wpIn (wideR ro) 0 P a w next Q := by
  have hd : ∀ c, o.op ≠ .defer c := fun c e => by rw [hop] at e; cases e
  refine wpIn_run hd ?_
  obtain ⟨callee, args, argTypes⟩ := c
  rw [hop] at hi
  unfold appInA at hs
  split at hs
  · rename_i x y hc hargs
    simp only at hc hargs
    subst hc
    split at hs
    · rename_i b off n cap q hx hy
      obtain ⟨ys, cells, ht, hf, hm, hall, hle, hfit, hK⟩ := hs
      simp only [infOk'] at hi
      have ha : args = #[x, y] := by obtain ⟨args⟩ := args; simpa using hargs
      subst ha
      have hun : ∀ e ∈ ys, e.cells.length = i.n := fun e he => by
        have := List.all_eq_true.1 hall e he
        simp only [Bool.and_eq_true, beq_iff_eq] at this
        exact this.2
      split at hi
      · rename_i t t' _ hts
        have hat : argTypes = #[t, t'] := by obtain ⟨argTypes⟩ := argTypes; simpa using hts
        subst hat
        split at hi
        · rename_i e he
          simp only [Bool.and_eq_true, beq_iff_eq, bne_iff_ne, ne_eq] at hi
          obtain ⟨⟨⟨⟨h1, h2⟩, h3⟩, h4⟩, h5⟩ := hi
          split at h5
          · rename_i z hz
            obtain ⟨ti, hti, hzz⟩ := Option.bind_eq_some_iff.1 hz
            have hsz : ti.size = i.n := by simpa [tSize, hti] using h2
            obtain ⟨e', he'⟩ := Option.isSome_iff_exists.1 h1
            obtain ⟨news, hsrc, hnews⟩ := src_tell (n := i.n) h hy ht hf hall he'
            obtain ⟨hmay, hIb, cs, ty, hw, hcs⟩ := h.mem b cells hm
            have hnl := hnews.length
            have hcl := hcs.length
            have hx0 : a.eval x = .slice (some ⟨b, off, none⟩) n cap := (pv_C h hx).inv_s
            have hsrc' : Src P ti.size t' (a.eval y) ys.length news w := by rw [hsz]; exact hsrc
            have hcsz : off + n * i.n + news.length ≤ cs.size := by rw [← hnl]; simpa [hcl] using hfit
            have hrun0 := run_append_room_src w t t' o.type e ti (run_underlying_elem he) hti b off n cap (a.eval y) ys.length news hsrc' hle
              (fun j hj => by
                have : off + n * ti.size + j < cs.size := by rw [hsz]; omega
                simp [World.cell?, hw, this])
              (fun j hj => by simp [World.frozen?, hw])
            rw [hsz] at hrun0
            have hrun : (execOp a.eval o).run P w = .ok (.value (.slice (some ⟨b, off, none⟩) (n + ys.length) cap)) (w.setCells b (off + n * i.n) news) := by
              simp [execOp, hop, resolve, invoke, builtin, hx0, hrun0]
            rw [hrun]
            have honly := OnlyAt.setCells b news (off + n * i.n) w
            obtain ⟨cs', w1, w2, w3⟩ := setCells_heap b news (off + n * i.n) w cs hw hcsz
            have h2 := h.memStore hm honly w1 (cells' := cells.take (off + n * i.n) ++ flat ys ++ cells.drop (off + n * i.n + (flat ys).length))
              (by rw [w2, hnl]; exact ((hcs.take _).append hnews).append (hcs.drop _))
            refine hn _ _ _ I (Imm.le_refl _) (fun _ => KeepsOthers.onlyAt honly hw) (sat_put (s := { s with mm := s.mm.put b (cells.take (off + n * i.n) ++ flat ys ++ cells.drop (off + n * i.n + (flat ys).length)) }) hdf hB h2 (.v (.s _)) o.dst) ?_
            rw [← putT_mm]
            exact hK
          · cases h5
        · cases hi
      · cases hi
      all_goals first | (simp_all; done) | (rename_i e _; cases e)
    · exact hs.elim
  · exact hs.elim

theorem sound_grow {o : Oper} {i : Inf} {c : Call} {next : Act → World → Prop} {Q : Exit → Act → World → Prop} {K : St → Prop} (hop : o.op = .call c) (hi : infOk' P o.op i = true)
    (hdf : its.isSome = true → a.defers = []) (hB : Base its w00 I00 Jt s.it w0 I0) (h : Sim w0 I0 I β κ s sav a w) (hs : growA s o.dst c i K) (hn : Next1 its (Base its w00 I00 Jt) I sav w next K) : o.wpIn (wideR ro) 0 P a w next Q := by
  have hd : ∀ c, o.op ≠ .defer c := fun c e => by rw [hop] at e; cases e
  refine wpIn_run hd ?_
  obtain ⟨callee, args, argTypes⟩ := c
  rw [hop] at hi
  unfold growA at hs
  split at hs
  · rename_i x y hc hargs
    simp only at hc hargs
    subst hc
    split at hs
    · rename_i p q hx hy
      obtain ⟨els, ys, htx, hty, hrx, hry, hfit, hK0, hK⟩ := hs
      simp only [infOk'] at hi
      have ha : args = #[x, y] := by obtain ⟨args⟩ := args; simpa using hargs
      subst ha
      split at hi
      · rename_i t t' _ hts
        have hat : argTypes = #[t, t'] := by obtain ⟨argTypes⟩ := argTypes; simpa using hts
        subst hat
        split at hi
        · rename_i e he
          simp only [Bool.and_eq_true, beq_iff_eq, bne_iff_ne, ne_eq] at hi
          obtain ⟨⟨⟨⟨h1, h2⟩, h3⟩, h4⟩, h5⟩ := hi
          split at h5
          · rename_i z hz
            simp only [beq_iff_eq] at h5
            obtain ⟨ti, hti, hzz⟩ := Option.bind_eq_some_iff.1 hz
            have T : AppTy P t t' e z ti i.n i.t :=
              { te := he, te' := Option.isSome_iff_exists.1 h1, info := hti, size := by simpa [tSize, hti] using h2, bts := by simpa [hti] using h4, zero := hzz, zsize := h5, pos := h3 }
            obtain ⟨e', he'⟩ := T.te'
            have hT : P.underlying t = some (.slice e) := run_underlying_elem T.te
            obtain ⟨hu1, hu2, hu3, hb, helsok⟩ := fits_spec hfit
            obtain ⟨news, hsrc, hnews⟩ := src_tell (n := i.n) h hy hty hry hu2 he'
            obtain ⟨base, olds, hxe, hol, hcf, hold⟩ : ∃ base olds, a.eval x = .slice base els.length els.length ∧ olds.length = els.length * i.n ∧ Cs (memI I s.mm w) (flat els) olds ∧
                (Builtin.firstCells i.n els.length (.slice base els.length els.length)).run P w.drew = .ok olds.toArray w.drew := by
              have hC := Tell.sound h.memAt htx ((pv_C h hx).mono (memI_le h.memAt))
              have hg := memI_good h.good h.memAt
              generalize a.eval x = u at hC
              cases hC with
              | sl0 => exact ⟨none, [], rfl, by simp, .nil, by simpa using run_firstCells_none (P := P) w.drew i.n 0 0 0⟩
              | @sle _ ad => exact ⟨some ad, [], rfl, by simp, .nil, run_firstCells_some (P := P) w.drew i.n 0 ad 0 0 [] (by simp) (fun j v hj => by simp at hj)⟩
              | @sl _ _ b off m sz cap arr hI huu hm hc hl hcap hex =>
                subst hm
                have hc1 := hex rfl
                subst hc1
                obtain ⟨cs1, ty1, fz1, more1, q1, q2⟩ := hg b arr hI
                have hfl := flat_length hu1
                refine ⟨some ⟨b, off, none⟩, (arr.drop off).take (flat els).length, rfl, by simp only [List.length_take, List.length_drop]; omega, hc, ?_⟩
                refine run_firstCells_some (P := P) w.drew i.n els.length ⟨b, off, none⟩ els.length els.length _ (by simp only [List.length_take, List.length_drop]; omega) (fun j v hj => ?_)
                rw [addr_add]
                show w.cell? _ = _
                exact cellsAt_of q1 ⟨(flat els).length, by rw [q2, List.drop_append_of_le_length (by omega), List.take_append_of_le_length (by simp; omega)]⟩ j v hj
            by_cases hy0 : ys = []
            · subst hy0
              have hn0 : news = [] := by cases hnews; rfl
              subst hn0
              have hfc : (Builtin.firstCells i.n 0 (a.eval y)).run P w = .ok #[] w := hsrc.cells
              have hln : (Builtin.lenOf (a.eval y)).run P w = .ok 0 w := hsrc.len w
              have hrun1 : (Builtin.append_ #[t, t'] o.type #[a.eval x, a.eval y]).run P w = .ok (a.eval x) w := by
                rw [hxe]
                rcases hsrc.kind with ⟨e2, hk⟩ | hk <;> cases base <;> simp [Builtin.append_, run_underlying hT, run_underlying hk, sizeOf, typeInfo, T.info, hln, T.size, hfc, storeCells]
              have hrun : (execOp a.eval o).run P w = .ok (.value (a.eval x)) w := by simp [execOp, hop, resolve, invoke, builtin, hrun1]
              rw [hrun]
              exact hn _ _ _ I (Imm.le_refl _) (fun _ => KeepsOthers.refl _) (sat_put (s := s) hdf hB h (.v (pv_C h hx)) o.dst) (hK0 rfl)
            · have hpos : 0 < ys.length := List.length_pos_iff.2 hy0
              obtain ⟨cap', cs, hrun1, hcap, hcs, htake⟩ := run_grow (ty := o.type) T (base := base) (len := els.length) (cap := els.length) (olds := olds) hsrc hold (by omega) hb hol
              rw [← hxe] at hrun1
              have hrun : (execOp a.eval o).run P w = .ok (.value (.slice (some ⟨w.heap.size, 0, none⟩) (els.length + ys.length) cap')) (w.drew.alloc (.cells cs e)) := by simp [execOp, hop, resolve, invoke, builtin, hrun1]
              rw [hrun]
              have hcfl : Cs I (flat (els ++ ys)) (olds ++ news) := by rw [flat_append]; exact (RFs.any hrx hcf).append hnews
              have hfl : (flat (els ++ ys)).length = (els.length + ys.length) * i.n := by
                rw [flat_length (els := els ++ ys) (fun x hx => by
                  rcases List.mem_append.1 hx with hx | hx
                  · exact hu1 x hx
                  · exact hu3 x hx), List.length_append]
              have hmul : (els.length + ys.length) * i.n ≤ cap' * i.n := Nat.mul_le_mul_right _ hcap
              have hdrop : (cs.toList.drop ((els.length + ys.length) * i.n)).length = cap' * i.n - (els.length + ys.length) * i.n := by rw [List.length_drop, Array.length_toList, hcs]
              have hC : Cs I (flat (els ++ ys) ++ List.replicate (cap' * i.n - (els.length + ys.length) * i.n) .junk) cs.toList := by
                rw [← List.take_append_drop ((els.length + ys.length) * i.n) cs.toList, htake, ← hdrop]
                exact hcfl.append (cs_rest I _)
              have hfree : s.mm w.heap.size = none := h.memNone (Nat.le_refl _)
              have h2 := h.drew.memNew (ty := e) hC
              refine hn _ _ _ I (Imm.le_refl _) (fun _ => KeepsOthers.drewAlloc w _) (sat_put (s := { s with mm := s.mm.put w.heap.size (flat (els ++ ys) ++ List.replicate (cap' * i.n - (els.length + ys.length) * i.n) .junk) }) hdf hB h2 (.v (.s _)) o.dst) ?_
              rw [← putT_mm]
              exact hK hy0 w.heap.size cap' _ hfree hcap (by rw [hfl]; omega)
          · cases h5
        · cases hi
      · cases hi
      all_goals first | (simp_all; done) | (rename_i e _; cases e)
    · exact hs.elim
  · exact hs.elim

end
end Go.Proofs.YtambpjbpdackfaaGreat.A


/- Regions in the text's order; what is said of a state that no operation does. -/
set_option linter.unusedVariables false
set_option linter.unusedSimpArgs false
namespace Go.Proofs.YtambpjbpdackfaaGreat.A
open Go Go.RowKit Go.Shelf

/-- What a region's operations are, without where they stand in the text. -/
def opKey (o : Oper) : Option Nat × Op × Option (Nat × Bool) × List Nat := (o.dst, o.op, o.guard, (o.after.toList.filter fun e => Region.binds .any e).map (·.on))
def AO.key (o : AO) : Option Nat × Op × Option (Nat × Bool) × List Nat := (o.dst, o.op, o.guard, o.pre)

structure OpsAgree (P : Program) (ao : List AO) (ops : Array Oper) : Prop where
  same : ops.toList.map opKey = ao.map AO.key
  inf : ao.all (fun a => infOk' P a.op a.inf) = true

theorem OpsAgree.get {P : Program} {ao : List AO} {ops : Array Oper} (h : OpsAgree P ao ops) {i : Nat} {o : Oper} (ho : ops[i]? = some o) : ∃ a, ao[i]? = some a ∧ a.dst = o.dst ∧ a.op = o.op ∧ a.guard = o.guard ∧ a.pre = (o.after.toList.filter fun e => Region.binds .any e).map (·.on) ∧ infOk' P a.op a.inf = true := by
  have h1 := congrArg (fun l => l[i]?) h.same
  simp only [List.getElem?_map, Array.getElem?_toList, ho, Option.map_some] at h1
  cases ha : ao[i]? with
  | none => rw [ha] at h1; cases h1
  | some a =>
    rw [ha] at h1
    simp only [Option.map_some, Option.some.injEq] at h1
    simp only [opKey, AO.key, Prod.mk.injEq] at h1
    have h2 := h.inf
    rw [List.all_eq_true] at h2
    exact ⟨a, rfl, h1.1.symm, h1.2.1.symm, h1.2.2.1.symm, h1.2.2.2.symm, h2 a (List.mem_of_getElem? ha)⟩

theorem OpsAgree.length {P : Program} {ao : List AO} {ops : Array Oper} (h : OpsAgree P ao ops) : ao.length = ops.size := by
  have := congrArg List.length h.same
  simpa using this.symm

section
variable {P : Program} {its : Option (Nat × List Item)} {w00 : Bs} {I00 : Imm} {Jt : Nat → Imm → World → Prop} {ro : Option Nat}
variable {w0 : Bs} {w w' : World} {I0 I J : Imm} {β : Nat → Nat} {κ : Nat → Nat × Nat × Nat} {s s' : St} {sav : List (Array Value)} {a : Act}

theorem run_nilTest {t e : TypeId} (hu : P.underlying t = some (.slice e)) {ex : Bool} {els : List PV} {u : Value} (hC : C I (.sl ex els) u) (x y : Operand) :
    ∃ b : Bool, (els.isEmpty = false → b = false) ∧ (eqGuard .eql t x y u (.slice none 0 0)).run P w = .ok () w ∧ (binOp .eql t u (.slice none 0 0)).run P w = .ok (.bool b) w := by
  cases hC with
  | sl0 =>
    refine ⟨true, (fun h => by cases h), run_eqGuard_num (by simp) (by simp) w, ?_⟩
    have e1 : binOp .eql t (.slice none 0 0) (.slice none 0 0) = (do pure (.bool (← Op.equal t (.slice none 0 0) (.slice none 0 0)))) := rfl
    have h : (Op.equal t (.slice none 0 0) (.slice none 0 0)).run P w = .ok true w := eqIn_nil_slice 9999 hu none 0 0 0 0 w
    rw [e1]
    simp [h]
  | @sle _ ad =>
    refine ⟨false, fun _ => rfl, run_eqGuard_num (by simp) (by simp) w, ?_⟩
    have e1 : binOp .eql t (.slice (some ad) 0 0) (.slice none 0 0) = (do pure (.bool (← Op.equal t (.slice (some ad) 0 0) (.slice none 0 0)))) := rfl
    have h : (Op.equal t (.slice (some ad) 0 0) (.slice none 0 0)).run P w = .ok false w := eqIn_slice_nil 9999 hu _ _ _ _ _ w
    rw [e1]
    simp [h]
  | @sl _ _ b off n sz cap arr _ _ _ _ _ _ _ =>
    refine ⟨false, fun _ => rfl, run_eqGuard_num (by simp) (by simp) w, ?_⟩
    have e1 : binOp .eql t (.slice (some ⟨b, off, none⟩) n cap) (.slice none 0 0) = (do pure (.bool (← Op.equal t (.slice (some ⟨b, off, none⟩) n cap) (.slice none 0 0)))) := rfl
    have h : (Op.equal t (.slice (some ⟨b, off, none⟩) n cap) (.slice none 0 0)).run P w = .ok false w := eqIn_slice_nil 9999 hu _ _ _ _ _ w
    rw [e1]
    simp [h]

theorem sound_nil {o : Oper} {ao : AO} {x : Operand} {next : Act → World → Prop} {Q : Exit → Act → World → Prop} {K : St → Prop} (hop : ao.op = o.op) (hdst : ao.dst = o.dst) (hi : infOk' P ao.op ao.inf = true)
    (hdf : its.isSome = true → a.defers = []) (hB : Base its w00 I00 Jt s.it w0 I0) (h : Sim w0 I0 I β κ s sav a w) (hx : nilTest ao = some x) (hs : nilA s o.dst x K) (hn : Next1 its (Base its w00 I00 Jt) I sav w next K) : o.wpIn (wideR ro) 0 P a w next Q := by
  unfold nilTest at hx
  split at hx
  · rename_i t x' yt hop'
    split at hx
    · rename_i hfl
      cases hx
      rw [hop'] at hop hi
      obtain ⟨odst, oop, otype, opos, oaf, og⟩ := o
      simp only at hop hs
      subst hop
      have hu : ∃ e, P.underlying t = some (.slice e) := by
        simp only [infOk', infOk] at hi
        exact eqTy_slice (i := ao.inf) hi hfl.2
      obtain ⟨e, hu⟩ := hu
      refine wpIn_run (by simp) ?_
      have hgo : ∀ b : Bool, K (putT s odst (bl b)) → next (a.put odst (.bool b)) w := fun b hK =>
        hn _ _ w I (Imm.le_refl _) (fun _ => KeepsOthers.refl _) ⟨fun e => by rw [put_defers]; exact hdf e, w0, I0, β, κ, by
          have : (putT s odst (.v (.s (.bool b)))).it = s.it := by cases odst <;> rfl
          rw [this]; exact hB, h.putT odst (.v (.s _))⟩ hK
      unfold nilA at hs
      split at hs
      · rename_i ex els hev
        have hC := (ev_R h hev).inv
        obtain ⟨b, h1, h2, h3⟩ := run_nilTest (w := w) hu hC x (.const (.slice none 0 0))
        have hrun : (execOp a.eval ⟨odst, .binOp .eql t x (.const (.slice none 0 0)) yt, otype, opos, oaf, og⟩).run P w = .ok (.value (.bool b)) w := by
          have e0 : a.eval (.const (.slice none 0 0)) = .slice none 0 0 := rfl
          simp [execOp, e0, h2, h3]
        rw [hrun]
        exact hgo b (hs b h1)
      · rename_i hev
        have hC := (ev_R h hev).inv.inv_s
        obtain ⟨b, h1, h2, h3⟩ := run_nilTest (w := w) (I := I) hu (C.sl0 (ex := true)) x (.const (.slice none 0 0))
        have h4 : (binOp .eql t (.slice none 0 0) (.slice none 0 0)).run P w = .ok (.bool true) w := by
          have e1 : binOp .eql t (.slice none 0 0) (.slice none 0 0) = (do pure (.bool (← Op.equal t (.slice none 0 0) (.slice none 0 0)))) := rfl
          have h : (Op.equal t (.slice none 0 0) (.slice none 0 0)).run P w = .ok true w := eqIn_nil_slice 9999 hu none 0 0 0 0 w
          rw [e1]
          simp [h]
        have hrun : (execOp a.eval ⟨odst, .binOp .eql t x (.const (.slice none 0 0)) yt, otype, opos, oaf, og⟩).run P w = .ok (.value (.bool true)) w := by
          have e0 : a.eval (.const (.slice none 0 0)) = .slice none 0 0 := rfl
          simp [execOp, e0, hC, h2, h4]
        rw [hrun]
        exact hgo true hs
      · rename_i tk els hev
        have hR := ev_R h hev
        have hrun : (execOp a.eval ⟨odst, .binOp .eql t x (.const (.slice none 0 0)) yt, otype, opos, oaf, og⟩).run P w = .ok (.value (.bool els.isEmpty)) w := by
          have e0 : a.eval (.const (.slice none 0 0)) = .slice none 0 0 := rfl
          generalize hu0 : a.eval x = u at hR
          cases hR with
          | acc0 =>
            obtain ⟨b, h1, h2, h3⟩ := run_nilTest (w := w) (I := I) hu (C.sl0 (ex := true)) x (.const (.slice none 0 0))
            have h4 : (binOp .eql t (.slice none 0 0) (.slice none 0 0)).run P w = .ok (.bool true) w := by
              have e1 : binOp .eql t (.slice none 0 0) (.slice none 0 0) = (do pure (.bool (← Op.equal t (.slice none 0 0) (.slice none 0 0)))) := rfl
              have h : (Op.equal t (.slice none 0 0) (.slice none 0 0)).run P w = .ok true w := eqIn_nil_slice 9999 hu none 0 0 0 0 w
              rw [e1]
              simp [h]
            simp [execOp, e0, hu0, h2, h4]
          | @acc _ _ c n cap sz g1 g2 g3 g4 g5 g6 =>
            have hemp : els.isEmpty = false := by cases els <;> simp_all
            have h2 : (eqGuard .eql t x (.const (.slice none 0 0)) (.slice (some ⟨c, 0, none⟩) n cap) (.slice none 0 0)).run P w = .ok () w := run_eqGuard_num (by simp) (by simp) w
            have h4 : (binOp .eql t (.slice (some ⟨c, 0, none⟩) n cap) (.slice none 0 0)).run P w = .ok (.bool false) w := by
              have e1 : binOp .eql t (.slice (some ⟨c, 0, none⟩) n cap) (.slice none 0 0) = (do pure (.bool (← Op.equal t (.slice (some ⟨c, 0, none⟩) n cap) (.slice none 0 0)))) := rfl
              have h : (Op.equal t (.slice (some ⟨c, 0, none⟩) n cap) (.slice none 0 0)).run P w = .ok false w := eqIn_slice_nil 9999 hu _ _ _ _ _ w
              rw [e1]
              simp [h]
            rw [hemp]
            simp [execOp, e0, hu0, h2, h4]
        rw [hrun]
        exact hgo _ hs
      · exact hs.elim
    · cases hx
  · cases hx

theorem sound_exec {o : Oper} {ao : AO} {next : Act → World → Prop} {Q : Exit → Act → World → Prop} {K : St → Prop} (hop : ao.op = o.op) (hdst : ao.dst = o.dst) (hi : infOk' P ao.op ao.inf = true) (hctx : Ctx P its Jt)
    (hdf : its.isSome = true → a.defers = []) (hB : Base its w00 I00 Jt s.it w0 I0) (h : Sim w0 I0 I β κ s sav a w) (hs : execA P its s ao K) (hn : Next1 its (Base its w00 I00 Jt) I sav w next K) : o.wpIn (wideR ro) 0 P a w next Q := by
  unfold execA at hs
  split at hs
  · split at hs
    · rename_i x hx
      exact sound_nil hop hdst hi hdf hB h hx (hdst ▸ hs) hn
    unfold execB at hs
    split at hs
    · rename_i c hc
      split at hs
      · obtain ⟨s', h1, h2⟩ := hs
        exact sound_step hop hdst hi hdf hB h h1 h2 hn
      · rw [hdst] at hs
        exact sound_call (hop ▸ hc) hctx hdf hB h hs hn
    · obtain ⟨s', h1, h2⟩ := hs
      exact sound_step hop hdst hi hdf hB h h1 h2 hn
  · rename_i k hk
    unfold execM at hs
    rw [hop] at hi
    rw [hop, hdst] at hs
    split at hs
    · rename_i c _ hc; exact sound_lend hc hdf hB h hs hn
    · rename_i c _ hc; exact sound_mem hc hdf hB h hs hn
    · rename_i hc; exact sound_new hi hc hdf hB h hs hn
    · rename_i c _ hc; exact sound_appM hc hi hdf hB h hs hn
    · rename_i c _ hc; exact sound_copy hc hi hdf hB h hs hn
    · rename_i c _ hc; exact sound_lendNew hc hdf hB h hs hn
    · rename_i c _ hc; exact sound_appIn hc hi hdf hB h hs hn
    · rename_i c _ hc; exact sound_grow hc hi hdf hB h hs hn
    · rename_i c _ hc
      rcases hs with hs | hs
      · exact sound_lendAcc hc hdf hB h hs hn
      · exact sound_lend hc hdf hB h hs hn
    · exact hs.elim

/-- The value that a guard looks at. -/
theorem guard_val {ops : Array Oper} {all : List AO} (hag : OpsAgree P all ops) (h : Sim w0 I0 I β κ s sav a w) {j : Nat} {b : Bool} (hg : ((all[j]?).bind (·.dst)).bind (s.tm[·]?) = some (.v (.s (.bool b)))) : yielded ops a.tmps j = some b := by
  obtain ⟨d, h1, h2⟩ := Option.bind_eq_some_iff.1 hg
  obtain ⟨ao, h3, h4⟩ := Option.bind_eq_some_iff.1 h1
  have hlt : j < ops.size := by rw [← hag.length]; exact (List.getElem?_eq_some_iff.1 h3).1
  obtain ⟨ao', k1, k2, _⟩ := hag.get (Array.getElem?_eq_getElem hlt)
  rw [h3] at k1
  cases k1
  obtain ⟨v, hv, hR⟩ := h.tm.get h2
  have hvb := hR.inv.inv_s
  subst hvb
  unfold yielded
  rw [Array.getElem?_eq_getElem hlt]
  simp only [Option.bind_some]
  rw [← k2, h4]
  simp only [Option.bind_some]
  rw [Array.getElem?_toList] at hv
  rw [hv]

/-- What a guard looks at was passed by itself. -/
theorem guard_none {ops : Array Oper} {all : List AO} (hag : OpsAgree P all ops) (h : Sim w0 I0 I β κ s sav a w) {j : Nat} (hg : ((all[j]?).bind (·.dst)).bind (s.tm[·]?) = some (.v (.tup []))) : yielded ops a.tmps j = none := by
  obtain ⟨d, h1, h2⟩ := Option.bind_eq_some_iff.1 hg
  obtain ⟨ao, h3, h4⟩ := Option.bind_eq_some_iff.1 h1
  have hlt : j < ops.size := by rw [← hag.length]; exact (List.getElem?_eq_some_iff.1 h3).1
  obtain ⟨ao', k1, k2, _⟩ := hag.get (Array.getElem?_eq_getElem hlt)
  rw [h3] at k1
  cases k1
  obtain ⟨v, hv, hR⟩ := h.tm.get h2
  have hC := hR.inv
  cases hC with
  | tup hl =>
    unfold yielded
    rw [Array.getElem?_eq_getElem hlt]
    simp only [Option.bind_some]
    rw [← k2, h4]
    simp only [Option.bind_some]
    rw [Array.getElem?_toList] at hv
    rw [hv]
theorem sound_op {ops : Array Oper} {all : List AO} (hag : OpsAgree P all ops) (hctx : Ctx P its Jt) {i : Nat} {rest : List Nat} {ao : AO} {K : St → Prop} {Q : Exit → Act → World → Prop} (hao : all[i]? = some ao)
    (hdf : its.isSome = true → a.defers = []) (hB : Base its w00 I00 Jt s.it w0 I0) (h : Sim w0 I0 I β κ s sav a w) (hs : wpOp P its all ao s K)
    (hn : Next1 its (Base its w00 I00 Jt) I sav w (wpOpsIn (wideR ro) 0 P ops Q rest) K) : wpOpsIn (wideR ro) 0 P ops Q (i :: rest) a w := by
  have hlt : i < ops.size := by rw [← hag.length]; exact (List.getElem?_eq_some_iff.1 hao).1
  obtain ⟨ao', k1, k2, k3, k4, k5, k6⟩ := hag.get (Array.getElem?_eq_getElem hlt)
  rw [hao] at k1
  cases k1
  simp only [wpOpsIn, Array.getElem?_eq_getElem hlt]
  unfold wpOp at hs
  split at hs
  · rename_i hg
    have hw : Region.wanted ops[i] (yielded ops a.tmps) = true := by unfold Region.wanted; rw [← k4, hg]
    rw [if_pos hw]
    exact sound_exec k3 k2 k6 hctx hdf hB h hs hn
  · rename_i j want hg
    split at hs
    · rename_i b hb
      have hy := guard_val hag h hb
      split at hs
      · rename_i hbw
        have hw : Region.wanted ops[i] (yielded ops a.tmps) = true := by unfold Region.wanted; rw [← k4, hg]; simp only [hy, hbw, beq_self_eq_true]
        rw [if_pos hw]
        exact sound_exec k3 k2 k6 hctx hdf hB h hs hn
      · rename_i hbw
        have hw : ¬ (Region.wanted ops[i] (yielded ops a.tmps) = true) := by unfold Region.wanted; rw [← k4, hg]; simp only [hy]; simpa using hbw
        rw [if_neg hw]
        refine ⟨fun _ _ => trivial, ?_⟩
        refine hn _ _ w I (Imm.le_refl _) (fun _ => KeepsOthers.refl _) ⟨fun e => by rw [put_defers]; exact hdf e, w0, I0, β, κ, ?_, h.putT _ (.v (.tup .nil))⟩ (k2 ▸ hs)
        have : (putT s ops[i].dst (.v (.tup []))).it = s.it := by cases ops[i].dst <;> rfl
        rw [this]; exact hB
    · rename_i hb
      have hy := guard_none hag h hb
      have hw : ¬ (Region.wanted ops[i] (yielded ops a.tmps) = true) := by unfold Region.wanted; rw [← k4, hg]; simp only [hy]; simp
      rw [if_neg hw]
      refine ⟨fun _ _ => trivial, ?_⟩
      refine hn _ _ w I (Imm.le_refl _) (fun _ => KeepsOthers.refl _) ⟨fun e => by rw [put_defers]; exact hdf e, w0, I0, β, κ, ?_, h.putT _ (.v (.tup .nil))⟩ (k2 ▸ hs)
      have : (putT s ops[i].dst (.v (.tup []))).it = s.it := by cases ops[i].dst <;> rfl
      rw [this]; exact hB
    · exact hs.elim

/-- What is told behind code. -/
def PostA (its : Option (Nat × List Item)) (B : Nat → Bs → Imm → Prop) (I : Imm) (sav : List (Array Value)) (w : World) (Q : XA → St → Prop) : Exit → Act → World → Prop
  | .normal, a', w' => ∃ s' J, Q .normal s' ∧ I.le J ∧ (its = none → KeepsOthers w w') ∧ Sat its B J s' sav a' w'
  | .ret, a', w' => ∃ s' J, Q .ret s' ∧ I.le J ∧ (its = none → KeepsOthers w w') ∧ Sat its B J s' sav a' w'
  | .exit id, a', w' => ∃ s' J, Q (.exit id) s' ∧ I.le J ∧ (its = none → KeepsOthers w w') ∧ Sat its B J s' sav a' w'
  | _, _, _ => False

theorem sound_ops {ops : Array Oper} {all : List AO} (hag : OpsAgree P all ops) (hctx : Ctx P its Jt) {Q : XA → St → Prop} (Iz : Imm) (wz : World) : ∀ (n k : Nat), k + n = ops.size → ∀ {I w s a w0 I0 β κ}, Iz.le I → (its = none → KeepsOthers wz w) →
    (its.isSome = true → a.defers = []) → Base its w00 I00 Jt s.it w0 I0 → Sim w0 I0 I β κ s sav a w → wpOpsA P its all (all.drop k) s (Q .normal) →
    wpOpsIn (wideR ro) 0 P ops (PostA its (Base its w00 I00 Jt) Iz sav wz Q) (List.range' k n) a w
  | 0, k, hk, I, w, s, a, w0, I0, β, κ, hle, hkeep, hdf, hB, h, hs => by
    have e : all.drop k = [] := List.drop_eq_nil_of_le (by rw [hag.length]; omega)
    rw [e] at hs
    exact ⟨s, I, hs, hle, hkeep, hdf, w0, I0, β, κ, hB, h⟩
  | n + 1, k, hk, I, w, s, a, w0, I0, β, κ, hle, hkeep, hdf, hB, h, hs => by
    have hlt : k < all.length := by rw [hag.length]; omega
    have e : all.drop k = all[k] :: all.drop (k + 1) := List.drop_eq_getElem_cons hlt
    rw [e] at hs
    refine sound_op hag hctx (List.getElem?_eq_getElem hlt) hdf hB h hs ?_
    intro s' a' w' J hle' hkeep' ⟨hdf1, w1, I1, β1, κ1, hB1, h1⟩ hK
    exact sound_ops hag hctx Iz wz n (k + 1) (by omega) (Imm.le_trans hle hle') (fun e => (hkeep e).trans (hkeep' e)) hdf1 hB1 h1 hK

/-! ### What no operation does -/
theorem Sim.junkAll (l : List Nat) : ∀ {s : St}, Sim w0 I0 I β κ s sav a w → Sim w0 I0 I β κ { s with tm := A.junkAll l s.tm } sav a w := by
  induction l with
  | nil => exact fun h => h
  | cons d l ih =>
    intro s h
    have htm : Rs I β κ (tkOf s.tk) (s.tm.set d (.v .junk)) a.tmps.toList := by
      have hl := h.tm.length
      by_cases hd : d < a.tmps.toList.length
      · have := h.tm.set d (x := .v .junk) (v := a.tmps.toList[d]) (.v (.junk _))
        rwa [List.set_getElem_self] at this
      · have e : s.tm.set d (.v .junk) = s.tm := List.set_eq_of_length_le (by omega)
        rw [e]
        exact h.tm
    have h1 : Sim w0 I0 I β κ { s with tm := s.tm.set d (.v .junk) } sav a w := { h with tm := htm }
    exact ih h1

theorem lk_rmAll {γ : Type} (ds : List Nat) : ∀ (l : List (Nat × γ)) (b : Nat) (c : γ), lk b (rmAll ds l) = some c → lk b l = some c := by
  induction ds with
  | nil => exact fun _ _ _ h => h
  | cons d ds ih =>
    intro l b c h
    have := ih _ b c h
    rw [lk_rm] at this
    split at this
    · cases this
    · exact this

theorem Sim.boxTo (h : Sim w0 I0 I β κ s sav a w) {b : Nat} {cells cells' : List TV} (hb : lk b s.bx = some cells) (hR : ∀ vs, Rs I β κ (tkOf s.tk) cells vs → Rs I β κ (tkOf s.tk) cells' vs) :
    Sim w0 I0 I β κ { s with bx := upd b cells' s.bx } sav a w := by
  have hold : ∀ j c, lk j (upd b cells' s.bx) = some c → ∃ c0, lk j s.bx = some c0 ∧ (j = b → c0 = cells ∧ c = cells') ∧ (j ≠ b → c0 = c) := by
    intro j c hj
    rw [lk_upd] at hj
    by_cases e : j = b
    · rw [if_pos e] at hj
      cases hj
      subst e
      exact ⟨cells, hb, fun _ => ⟨rfl, rfl⟩, fun e => (e rfl).elim⟩
    · rw [if_neg e] at hj
      exact ⟨c, hj, fun e' => (e e').elim, fun _ => rfl⟩
  exact
    { h with
      box := fun j c hj => by
        obtain ⟨c0, h0, h1, h2⟩ := hold j c hj
        obtain ⟨g1, g2, cs, ty, g3, g4⟩ := h.box j c0 h0
        refine ⟨g1, g2, cs, ty, g3, ?_, g4.2⟩
        by_cases e : j = b
        · obtain ⟨e1, e2⟩ := h1 e
          rw [e2]
          rw [e1] at g4
          exact hR _ g4.1
        · rw [← h2 e]; exact g4.1
      mbx := fun j c hj => by
        obtain ⟨c0, h0, _⟩ := hold j c hj
        exact h.mbx j c0 h0
      inj := fun j j' c c' hj hj' hβ => by
        obtain ⟨c0, h0, _⟩ := hold j c hj
        obtain ⟨c1, h1, _⟩ := hold j' c' hj'
        exact h.inj _ _ _ _ h0 h1 hβ }

theorem Rs_tovs {tk : Nat → Nat} : ∀ {l : List TV} {cs : List PV} {vs : List Value}, tovs l = some cs → Rs I β κ tk l vs → Rs I β κ tk (cs.map .v) vs
  | [], cs, vs, h, hR => by simp only [tovs, Option.some.injEq] at h; subst h; cases hR; exact .nil
  | x :: l, cs, vs, h, hR => by
    simp only [tovs] at h
    split at h
    · rename_i y ys h1 h2
      cases h
      cases hR with
      | cons g1 g2 => exact .cons (.v (tov_C g1 h1)) (Rs_tovs h2 g2)
    · cases h

theorem gh1_sound {g : Gh} (h : Sim w0 I0 I β κ s sav a w) (hg : gh1 g s = some s') : s'.it = s.it ∧ ∃ J, I.le J ∧ Sim w0 I0 J β κ s' sav a w := by
  cases g with
  | freeze b =>
    simp only [gh1] at hg
    split at hg
    · rename_i cells hb
      obtain ⟨cs, hcs, rfl⟩ := Option.map_eq_some_iff.1 hg
      obtain ⟨J, hJ, hs⟩ := (h.boxTo hb fun vs hR => Rs_tovs hcs hR).freeze (b := b) (cells := cs) (by simp [lk_upd])
      exact ⟨rfl, J, hJ, hs⟩
    · split at hg
      · cases hg; exact ⟨rfl, I, Imm.le_refl _, h⟩
      · cases hg
  | shut b =>
    simp only [gh1] at hg
    split at hg
    · rename_i cells hb
      split at hg
      · rename_i cs hcs
        split at hg
        · rename_i hone
          cases hg
          obtain ⟨J, hJ, hs⟩ := (h.boxTo hb fun vs hR => Rs_tovs hcs hR).shut (b := b) (cells := cs) (by simp [lk_upd]) hone
          exact ⟨rfl, J, hJ, hs⟩
        · cases hg
      · cases hg
    · cases hg
  | junk l => cases hg; exact ⟨rfl, I, Imm.le_refl _, h.junkAll l⟩
  | drop l =>
    cases hg
    exact ⟨rfl, I, Imm.le_refl _,
      { h with
        box := fun b c hc => h.box b c (lk_rmAll l _ _ _ hc)
        mbx := fun b c hc => h.mbx b c (lk_rmAll l _ _ _ hc)
        rob := fun b c hc => h.rob b c (lk_rmAll l _ _ _ hc)
        inj := fun b b' c c' hc hc' => h.inj b b' c c' (lk_rmAll l _ _ _ hc) (lk_rmAll l _ _ _ hc') }⟩
  | forget t => cases hg; exact ⟨rfl, I, Imm.le_refl _, h.newTok t⟩
  | row b off t =>
    simp only [gh1] at hg
    split at hg
    · rename_i cells hb
      split at hg
      · rename_i hc
        cases hg
        refine ⟨rfl, I, Imm.le_refl _, (h.newTok t).boxTo hb fun vs hR => ?_⟩
        obtain ⟨v, hv, hRv⟩ := hR.get hc
        have hv0 := hRv.inv.inv_s
        have := hR.set off (x := .acc t []) (v := v) (by rw [hv0]; exact .acc0)
        obtain ⟨hlt, hve⟩ := List.getElem?_eq_some_iff.1 hv
        rw [← hve, List.set_getElem_self] at this
        exact this
      · cases hg; exact ⟨rfl, I, Imm.le_refl _, h⟩
    · cases hg; exact ⟨rfl, I, Imm.le_refl _, h⟩

theorem ghs_sound : ∀ (l : List Gh) {s s' : St} {I : Imm}, Sim w0 I0 I β κ s sav a w → ghs l s = some s' → s'.it = s.it ∧ ∃ J, I.le J ∧ Sim w0 I0 J β κ s' sav a w
  | [], s, s', I, h, hg => by simp only [ghs, Option.some.injEq] at hg; subst hg; exact ⟨rfl, I, Imm.le_refl _, h⟩
  | g :: l, s, s', I, h, hg => by
    obtain ⟨s1, h1, h2⟩ := Option.bind_eq_some_iff.1 hg
    obtain ⟨e1, J, hJ, hs⟩ := gh1_sound h h1
    obtain ⟨e2, J2, hJ2, hs2⟩ := ghs_sound l hs h2
    exact ⟨e2.trans e1, J2, Imm.le_trans hJ hJ2, hs2⟩

theorem sat_ghs {B : Nat → Bs → Imm → Prop} {l : List Gh} (h : Sat its B I s sav a w) (hg : ghs l s = some s') : ∃ J, I.le J ∧ Sat its B J s' sav a w := by
  obtain ⟨hdf, w0, I0, β, κ, hB, hs⟩ := h
  obtain ⟨e, J, hJ, hs'⟩ := ghs_sound l hs hg
  exact ⟨J, hJ, hdf, w0, I0, β, κ, by rw [e]; exact hB, hs'⟩

end
end Go.Proofs.YtambpjbpdackfaaGreat.A


/- A range over a function: the rounds, told one by one. -/
set_option linter.unusedVariables false
set_option linter.unusedSimpArgs false
namespace Go.Proofs.YtambpjbpdackfaaGreat.A
open Go Go.RowKit Go.Shelf

section
variable {P : Program} {ro : Option Nat}
variable {w0 : Bs} {w w' : World} {I0 I J : Imm} {β : Nat → Nat} {κ : Nat → Nat × Nat × Nat} {s s' : St} {sav : List (Array Value)} {a : Act}

theorem OnlyAt.putObj (w : World) (l : Nat) (o : Obj) : OnlyAt l w (w.putObj l o) := ⟨rfl, rfl, rfl, by simp, fun j hj => World.putObj_heap_other hj⟩

theorem Sim.putLoop (h : Sim w0 I0 I β κ s sav a w) {l : Nat} {r : Loop} (hl : w.heap[l]? = some (.loop r)) (hb : w0.heap.size ≤ l) (o : Obj) : Sim w0 I0 I β κ s sav a (w.putObj l o) := by
  have ho := OnlyAt.putObj w l o
  exact
    { below := h.below.trans (ho.below hb)
      good := fun b arr hI => by
        obtain ⟨cs, ty, fz, more, h1, h2⟩ := h.good b arr hI
        exact ⟨cs, ty, fz, more, (ho.block b (fun e => by rw [e, hl] at h1; cases h1)).trans h1, h2⟩
      ext := h.ext
      old := h.old
      tm := h.tm
      sv := h.sv
      mem := h.memKeep (Imm.le_refl _) (fun c x hc => (h.mem c x hc).2.1) (fun c x hc => ho.block c (fun e => by obtain ⟨_, _, cs, ty, h3, _⟩ := h.mem c x hc; rw [e, hl] at h3; cases h3))
      mbx := h.mbx
      box := fun b cells hc => by
        obtain ⟨h1, h2, cs, ty, h3, h4⟩ := h.box b cells hc
        exact ⟨h1, h2, cs, ty, (ho.block _ (fun e => by rw [e, hl] at h3; cases h3)).trans h3, h4⟩
      rob := h.rob
      inj := h.inj
      tok := fun t ht => by
        obtain ⟨h1, cs, ty, arr, h3, h4⟩ := h.tok t ht
        exact ⟨h1, cs, ty, arr, (ho.block _ (fun e => by rw [e, hl] at h3; cases h3)).trans h3, h4⟩
      tinj := h.tinj
      dfr := by
        obtain ⟨Ds, h1, h2, h3⟩ := h.dfr
        exact ⟨Ds, h1, h2, fun D hD => ⟨(h3 D hD).1, (ho.block D (fun e => by have := (h3 D hD).2; rw [e, hl] at this; cases this)).trans (h3 D hD).2⟩⟩ }

theorem Sim.between (h : Sim w0 I0 I β κ s sav a w) : Sim w0 I0 I β κ (betw { s with sv := s.tm :: s.sv }) (a.tmps :: sav) { tmps := #[], defers := [] } w :=
  { below := h.below, mem := h.mem, mbx := h.mbx, good := h.good, ext := h.ext, old := h.old, tm := .nil, sv := .cons h.tm h.sv, box := h.box, rob := h.rob, inj := h.inj, tok := h.tok, tinj := h.tinj, dfr := ⟨[], rfl, List.nodup_nil, by simp⟩ }

/-- The slots of a round forgotten. -/
theorem Sim.forgetTm (h : Sim w0 I0 I β κ s sav a w) : Sim w0 I0 I β κ (betw s) sav { tmps := #[], defers := [] } w :=
  { below := h.below, mem := h.mem, mbx := h.mbx, good := h.good, ext := h.ext, old := h.old, tm := .nil, sv := h.sv, box := h.box, rob := h.rob, inj := h.inj, tok := h.tok, tinj := h.tinj, dfr := ⟨[], rfl, List.nodup_nil, by simp⟩ }

theorem setPs_R {tk : Nat → Nat} : ∀ (ps : List Nat) (x : List PV) (vs : List Value) (tm : List TV) (tms : Array Value), x.length = ps.length → Cs I x vs → Rs I β κ tk tm tms.toList →
    Rs I β κ tk (setPs ps x tm) ((ps.zip vs).foldl (fun t (p, v) => t.setIfInBounds p v) tms).toList
  | [], [], vs, tm, tms, _, hc, h => by cases hc; exact h
  | p :: ps, y :: x, vs, tm, tms, hl, hc, h => by
    cases hc with
    | cons h1 h2 =>
      simp only [setPs, List.zip_cons_cons, List.foldl_cons]
      exact setPs_R ps x _ _ _ (by simpa using hl) h2 (by rw [Array.toList_setIfInBounds]; exact h.set p (.v h1))
  | [], _ :: _, _, _, _, hl, _, _ => by simp at hl
  | _ :: _, [], _, _, _, hl, _, _ => by simp at hl

theorem Sim.enter {ps : Array Nat} {x : List PV} {vs : List Value} {tms : Array Value} (h : Sim w0 I0 I β κ s (tms :: sav) a w) (hx : x.length = ps.toList.length) (hc : Cs I x vs) :
    Sim w0 I0 I β κ (enterR ps.toList x s) (tms :: sav) { tmps := (ps.zip vs.toArray).foldl (fun t (p, v) => t.setIfInBounds p v) tms, defers := [] } w := by
  have hsv := h.sv
  have htm : Rs I β κ (tkOf s.tk) (setPs ps.toList x (s.sv.headD [])) ((ps.zip vs.toArray).foldl (fun t (p, v) => t.setIfInBounds p v) tms).toList := by
    generalize hs : s.sv = l at hsv
    cases hsv with
    | cons h1 h2 =>
      have := setPs_R ps.toList x vs _ tms hx hc h1
      rw [← Array.foldl_toList, Array.toList_zip]
      exact this
  exact { below := h.below, mem := h.mem, mbx := h.mbx, good := h.good, ext := h.ext, old := h.old, tm := htm, sv := h.sv, box := h.box, rob := h.rob, inj := h.inj, tok := h.tok, tinj := h.tinj, dfr := ⟨[], rfl, List.nodup_nil, by simp⟩ }

theorem Sim.leave {tms : Array Value} {df : List Deferred} (h : Sim w0 I0 I β κ s (tms :: sav) a w)
    (hd : ∃ Ds : List Nat, df = Ds.map (fun D => { target := .collected D, args := #[] }) ∧ Ds.Nodup ∧ ∀ D ∈ Ds, w0.heap.size ≤ D ∧ w.heap[D]? = some (.deferred (some []))) :
    Sim w0 I0 I β κ (leaveR s) sav { tmps := tms, defers := df } w := by
  have hsv := h.sv
  have h2 : Rs I β κ (tkOf s.tk) (s.sv.headD []) tms.toList ∧ Rss I β κ (tkOf s.tk) s.sv.tail sav := by
    generalize hs : s.sv = l at hsv
    cases hsv with
    | cons h1 h2 => exact ⟨h1, h2⟩
  exact { below := h.below, mem := h.mem, mbx := h.mbx, good := h.good, ext := h.ext, old := h.old, tm := h2.1, sv := h2.2, box := h.box, rob := h.rob, inj := h.inj, tok := h.tok, tinj := h.tinj, dfr := hd }

/-- How a round's body is left, as a jump. -/
def jumpOf : XA → Option Code
  | .normal => none
  | .ret => some .ret
  | .exit id => some (.exit id)

/-- What holds between the rounds. -/
def BetwRounds (g : List Gh) (ps : List Nat) (run : (XA → St → Prop) → St → Prop) (Q : XA → St → Prop) (items : List Item) (w0 : Bs) (I0 : Imm) (sav : List (Array Value)) (w : World) (I : Imm) (l : Nat) (rec : LoopState → Option Code → Loop)
    (i : Nat) (I' : Imm) (W : World) : Prop :=
  I.le I' ∧ KeepsOthers w W ∧
    ((i ≤ items.length ∧ ∃ s β κ, Rounds g ps run Q (items.drop i) s ∧ Sim w0 I0 I' β κ s sav { tmps := #[], defers := [] } W ∧ W.heap[l]? = some (.loop (rec .ready none))) ∨
     (i = items.length + 1 ∧ ∃ xa s β κ c, jumpOf xa = some c ∧ Q xa (leaveR s) ∧ Sim w0 I0 I' β κ s sav { tmps := #[], defers := [] } W ∧ W.heap[l]? = some (.loop (rec .done (some c)))))

theorem betw_abiding {g : List Gh} {ps : List Nat} {run : (XA → St → Prop) → St → Prop} {Q : XA → St → Prop} {items : List Item} {l : Nat} {rec : LoopState → Option Code → Loop} :
    Abiding (BetwRounds g ps run Q items w0 I0 sav w I l rec) := by
  rintro i I₁ W₁ I₂ W₂ ⟨hle, hk, hd⟩ hb hle2 hold hg
  refine ⟨Imm.le_trans hle hle2, hk.trans (KeepsOthers.ofBelow hb), ?_⟩
  rcases hd with ⟨hi, s, β, κ, hR, hS, hl⟩ | ⟨hi, xa, s, β, κ, c, hj, hq, hS, hl⟩
  · exact .inl ⟨hi, s, β, κ, hR, hS.grow hb hle2 hold hg, by rw [hb.block _ (Array.getElem?_eq_some_iff.1 hl).1, hl]⟩
  · exact .inr ⟨hi, xa, s, β, κ, c, hj, hq, hS.grow hb hle2 hold hg, by rw [hb.block _ (Array.getElem?_eq_some_iff.1 hl).1, hl]⟩

theorem keepsPut {W : World} (h : KeepsOthers w W) {l : Nat} (hl : w.heap.size ≤ l) (o : Obj) : KeepsOthers w (W.putObj l o) :=
  ⟨by simpa using h.size, fun k o' hk ho => by
    have := (Array.getElem?_eq_some_iff.1 hk).1
    rw [World.putObj_heap_other (by omega)]
    exact h.same k o' hk ho⟩

/-- ONE ROUND, for a body whose wp is known. -/
theorem round_ok {items : List Item} {g : List Gh} {Q : XA → St → Prop} {l : Nat} {fn : FuncId} {ps : Array Tmp} {assign body : Code} {tms : Array Value} {dfb : Nat} {run : (XA → St → Prop) → St → Prop}
    (hbase : w0.heap.size ≤ l) (hlw : w.heap.size ≤ l)
    (hrun : ∀ (Q' : XA → St → Prop) (s : St) (I' : Imm) (β : Nat → Nat) (κ : Nat → Nat × Nat × Nat) (a : Act) (W : World), run Q' s → Sim w0 I0 I' β κ s (tms :: sav) a W → (∃ r, W.heap[l]? = some (.loop r)) →
      ∀ (post : Exit → Act → World → Prop), (∀ xa s' J a' W' β' κ', Q' xa s' → I'.le J → KeepsOthers (W.putObj l (.loop { state := .busy, pending := none, fn, tmps := tms, params := ps, assign, body, defers := dfb })) W' →
          Sim w0 I0 J β' κ' s' (tms :: sav) a' W' → post (match xa with | .normal => .normal | .ret => .ret | .exit id => .exit id) a' W') →
        W.heap[l]? = some (.loop { state := .ready, pending := none, fn, tmps := tms, params := ps, assign, body, defers := dfb }) →
        assign.wpIn (wideR (some l)) 0 P (Exit.then (fun a₁ w₁ => ∃ w₂, (Instr.beginRound l).run P w₁ = .ok () w₂ ∧ body.wpIn (wideR (some l)) 0 P post a₁ w₂) (fun _ _ _ => False)) a W) :
    RoundOk P l (BetwRounds g ps.toList run Q items w0 I0 (tms :: sav) w I l (fun st pe => { state := st, pending := pe, fn, tmps := tms, params := ps, assign, body, defers := dfb })) items := by
  intro i x args m I₀ W₀ I₁ W₁ vs hi hxm ⟨hle0, hk0, hd⟩ hbW hleI hold hg hm hge hc
  have hlt : i < items.length := (List.getElem?_eq_some_iff.1 hi).1
  rcases hd with ⟨_, s, β, κ, hR, hS0, hl0⟩ | ⟨hi', _⟩
  case inr => omega
  have hle : I.le I₁ := Imm.le_trans hle0 hleI
  have hk : KeepsOthers w W₁ := hk0.trans (KeepsOthers.ofBelow hbW)
  have hl : W₁.heap[l]? = some (.loop { state := .ready, pending := none, fn, tmps := tms, params := ps, assign, body, defers := dfb }) := by
    rw [hbW.block _ (Array.getElem?_eq_some_iff.1 hl0).1, hl0]
  have hfr : ∀ c, (m c).isSome = true → s.mm c = none := fun c hc => by
    obtain ⟨y, hy⟩ := Option.isSome_iff_exists.1 hc
    exact hS0.memNone (hge c y hy)
  have hSg := hS0.grow hbW hleI hold hg
  have hS : Sim w0 I0 I₁ β κ { s with mm := s.mm.join m } (tms :: sav) { tmps := #[], defers := [] } W₁ :=
    { hSg with
      mem := fun c cells hc => by
        replace hc : (s.mm.join m) c = some cells := hc
        unfold Mem.join at hc
        cases hmc : m c with
        | none => rw [hmc] at hc; exact hSg.mem c cells hc
        | some y =>
          rw [hmc] at hc
          cases hc
          exact ⟨.inl (Nat.le_trans hS0.size (hge c cells hmc)), hm c cells hmc⟩
      mbx := fun b cells hb => by
        obtain ⟨_, _, cs, ty, k3, _⟩ := hS0.box b cells hb
        have hlt := (Array.getElem?_eq_some_iff.1 k3).1
        show (s.mm.join m) (β b) = none
        unfold Mem.join
        cases hmc : m (β b) with
        | none => exact hS0.mbx b cells hb
        | some y => have := hge _ y hmc; omega }
  have hdrop : items.drop i = x :: items.drop (i + 1) := by
    rw [List.drop_eq_getElem_cons hlt]
    have := (List.getElem?_eq_some_iff.1 hi).2
    rw [this]
  rw [hdrop] at hR
  obtain ⟨hxl, hbody⟩ := hR args m hxm hfr
  have hy := run_yield (P := P) (args := vs.toArray) hl (by have := hc.length; simp only [List.size_toArray]; rw [← this, hxl, Array.length_toList])
  refine ⟨fn, _, assign, body, hy, ?_⟩
  have hS1 := hS.enter (ps := ps) (by simpa using hxl) hc
  refine roundIn_of_wpIn (F := Fence.wide) trivial ?_
  refine hrun _ _ _ _ _ _ _ hbody hS1 ⟨_, hl⟩ _ ?_ hl
  intro xa s' J a' W' β' κ' hQ hle' hkeep hS'
  have hlt1 : l < W₁.heap.size := (Array.getElem?_eq_some_iff.1 hl).1
  have hbusy : W'.heap[l]? = some (.loop { state := .busy, pending := none, fn, tmps := tms, params := ps, assign, body, defers := dfb }) := hkeep.same l _ (World.putObj_heap_same hlt1) rfl
  have hlt' : l < W'.heap.size := (Array.getElem?_eq_some_iff.1 hbusy).1
  have hk2 : KeepsOthers w W' := (keepsPut hk hlw _).trans hkeep
  have hsim2 : ∀ o, Sim w0 I0 J β' κ' s' (tms :: sav) a' (W'.putObj l o) := fun o => hS'.putLoop hbusy hbase o
  have fin : ∀ (c : Code), (xa = .ret ∧ c = .ret ∨ ∃ id, xa = .exit id ∧ c = .exit id) → Q xa (leaveR s') →
      ∃ v w'', (Instr.endRound l (some c)).run P W' = .ok v w'' ∧ ∃ I₂, I₁.le I₂ ∧ Good I₂ w'' ∧ ((Ending.returned v = .returned (.bool true) ∧ BetwRounds g ps.toList run Q items w0 I0 (tms :: sav) w I l (fun st pe => { state := st, pending := pe, fn, tmps := tms, params := ps, assign, body, defers := dfb }) (i + 1) I₂ w'') ∨
        (Ending.returned v = .returned (.bool false) ∧ BetwRounds g ps.toList run Q items w0 I0 (tms :: sav) w I l (fun st pe => { state := st, pending := pe, fn, tmps := tms, params := ps, assign, body, defers := dfb }) (items.length + 1) I₂ w'')) := by
    intro c hx hq
    refine ⟨_, _, run_endRound (P := P) (some c) hbusy, J, hle', (hsim2 _).good, .inr ⟨rfl, Imm.le_trans hle hle', keepsPut hk2 hlw _, .inr ⟨rfl, xa, betw s', β', κ', c, ?_, hq, (hsim2 _).forgetTm, ?_⟩⟩⟩
    · rcases hx with ⟨rfl, rfl⟩ | ⟨id, rfl, rfl⟩ <;> rfl
    · exact World.putObj_heap_same hlt'
  cases xa with
  | normal =>
    obtain ⟨s1, hgs, hrest⟩ := hQ
    obtain ⟨e1, J2, hJ2, hs2⟩ := ghs_sound g (hsim2 (.loop { state := .ready, pending := none, fn, tmps := tms, params := ps, assign, body, defers := dfb })).forgetTm hgs
    refine ⟨_, _, run_endRound (P := P) none hbusy, J2, Imm.le_trans hle' hJ2, hs2.good, .inl ⟨rfl, Imm.le_trans hle (Imm.le_trans hle' hJ2), keepsPut hk2 hlw _, .inl ⟨hlt, s1, β', κ', hrest, hs2, World.putObj_heap_same hlt'⟩⟩⟩
  | ret => exact fin .ret (.inl ⟨rfl, rfl⟩) hQ
  | exit id => exact fin (.exit id) (.inr ⟨id, rfl, rfl⟩) hQ

end
end Go.Proofs.YtambpjbpdackfaaGreat.A


/- What 'wpA' tells, the model does. -/
set_option linter.unusedVariables false
set_option linter.unusedSimpArgs false
namespace Go.Proofs.YtambpjbpdackfaaGreat.A
open Go Go.RowKit Go.Shelf

/-- A region that draws its order, whose told run is the text's: see the text on regions. -/
def DrawSound (P : Program) (y : Bool) (ao : List AO) : Prop :=
  ∀ (ops : Array Oper), OpsAgree P ao ops → P.follows .mixedOrders = true → ∀ (its : Option (Nat × List Item)) (w00 : Bs) (I00 : Imm) (Jt : Nat → Imm → World → Prop) (ro : Option Nat) (Q : XA → St → Prop)
    (I : Imm) (w : World) (s : St) (sav : List (Array Value)) (a : Act) (w0 : Bs) (I0 : Imm) (β : Nat → Nat) (κ : Nat → Nat × Nat × Nat) (t : Nat), Ctx P its Jt → (its.isSome = true → a.defers = []) → Base its w00 I00 Jt s.it w0 I0 → Sim w0 I0 I β κ s sav a w → wpOpsA P (if y = true then its else none) ao ao s (Q .normal) →
    wpOpsIn (wideR ro) 0 P ops (PostA its (Base its w00 I00 Jt) I sav w Q) (Region.linearise .any ops t) a w.drew

/-- The same, of a region that makes variables. -/
def DrawSoundC (P : Program) (pa : List (Nat × Nat)) (ao : List AO) : Prop :=
  ∀ (ops : Array Oper), OpsAgree P ao ops → P.follows .mixedOrders = true → ∀ (its : Option (Nat × List Item)) (w00 : Bs) (I00 : Imm) (Jt : Nat → Imm → World → Prop) (ro : Option Nat) (Q : XA → St → Prop)
    (I : Imm) (w : World) (s : St) (sav : List (Array Value)) (a : Act) (w0 : Bs) (I0 : Imm) (β : Nat → Nat) (κ : Nat → Nat × Nat × Nat) (t : Nat), Ctx P its Jt → (its.isSome = true → a.defers = []) → Base its w00 I00 Jt s.it w0 I0 → Sim w0 I0 I β κ s sav a w → (freeAll (dsL ao) s && (paOk pa s && nonPs (nsL pa ao) s)) = true → wpOpsC P pa ao ao s (Q .normal) →
    wpOpsIn (wideR ro) 0 P ops (PostA its (Base its w00 I00 Jt) I sav w Q) (Region.linearise .any ops t) a w.drew

/-- The same, of a region told in another order than the text's. -/
def DrawSoundN (P : Program) (ord : List Nat) (ao : List AO) : Prop :=
  ∀ (ops : Array Oper), OpsAgree P ao ops → P.follows .mixedOrders = true → ∀ (its : Option (Nat × List Item)) (w00 : Bs) (I00 : Imm) (Jt : Nat → Imm → World → Prop) (ro : Option Nat) (Q : XA → St → Prop)
    (I : Imm) (w : World) (s : St) (sav : List (Array Value)) (a : Act) (w0 : Bs) (I0 : Imm) (β : Nat → Nat) (κ : Nat → Nat × Nat × Nat) (t : Nat), Ctx P its Jt → (its.isSome = true → a.defers = []) → Base its w00 I00 Jt s.it w0 I0 → Sim w0 I0 I β κ s sav a w → wpOpsA P none ao (ord.filterMap (ao[·]?)) s (Q .normal) →
    wpOpsIn (wideR ro) 0 P ops (PostA its (Base its w00 I00 Jt) I sav w Q) (Region.linearise .any ops t) a w.drew

/-- The same, of a region told for any order: what holds of the state when these operations are done. -/
def DrawSoundI (P : Program) (ao : List AO) : Prop :=
  ∀ (ops : Array Oper), OpsAgree P ao ops → P.follows .mixedOrders = true → ∀ (its : Option (Nat × List Item)) (w00 : Bs) (I00 : Imm) (Jt : Nat → Imm → World → Prop) (ro : Option Nat) (Q : XA → St → Prop)
    (I : Imm) (w : World) (s : St) (sav : List (Array Value)) (a : Act) (w0 : Bs) (I0 : Imm) (β : Nat → Nat) (κ : Nat → Nat × Nat × Nat) (t : Nat), Ctx P its Jt → (its.isSome = true → a.defers = []) → Base its w00 I00 Jt s.it w0 I0 → Sim w0 I0 I β κ s sav a w → wpA P its (.regi ao) Q s →
    wpOpsIn (wideR ro) 0 P ops (PostA its (Base its w00 I00 Jt) I sav w Q) (Region.linearise .any ops t) a w.drew

/-- The told code is the code. -/
def Ag (P : Program) : AC → Code → Prop
  | .gh _ x, c => Ag P x c
  | .dead, _ => True
  | .skip, .skip => True
  | .skip, .label _ => True
  | .reg d y ao, .region _ ops d' => d = d' ∧ OpsAgree P ao ops ∧ (d = true → P.follows .mixedOrders = true ∧ DrawSound P y ao)
  | .regd pa ao, .region _ ops d' => d' = true ∧ OpsAgree P ao ops ∧ P.follows .mixedOrders = true ∧ DrawSoundC P pa ao
  | .regn ord ao, .region _ ops d' => d' = true ∧ OpsAgree P ao ops ∧ P.follows .mixedOrders = true ∧ DrawSoundN P ord ao
  | .regi ao, .region _ ops d' => d' = true ∧ OpsAgree P ao ops ∧ P.follows .mixedOrders = true ∧ DrawSoundI P ao
  | .seq x y, .seq c d => Ag P x c ∧ Ag P y d
  | .cond c x y, .cond c' d e => c = c' ∧ Ag P x d ∧ Ag P y e
  | .block id x, .block id' c => id = id' ∧ Ag P x c
  | .loop _ x, .loop c => Ag P x c
  | .rf f ps _ x y, .rangeFunc f' ps' c d => f = f' ∧ ps = ps'.toList ∧ Ag P x c ∧ Ag P y d
  | .exit id, .exit id' => id = id'
  | .ret, .ret => True
  | _, _ => False

section
variable {P : Program}

theorem calls_ro {ro : Option Nat} {f : FuncId} {args : Array Value} {w : World} {R : Ending → World → Prop} (h : Calls P f args w R) : CallsIn (wideR ro) (0 - 1) P f args w R := by
  have := (callsIn_wide (n := 0 - 1)).2 h
  cases ro with
  | none => exact this
  | some l => exact CallsIn.inRound l this

theorem least {p : Nat → Prop} (h : ∃ m, p m) : ∃ m, p m ∧ ∀ k, p k → m ≤ k := by
  obtain ⟨m, hm⟩ := h
  induction m using Nat.strongRecOn with
  | _ m ih =>
    by_cases hk : ∃ k, k < m ∧ p k
    · obtain ⟨k, hlt, hp⟩ := hk
      exact ih k hlt hp
    · exact ⟨m, hm, fun k hp => Nat.le_of_not_lt fun hlt => hk ⟨k, hlt, hp⟩⟩

theorem wpIn_loop_rel {F : Fence} {n : Nat} {c : Code} {Q : Exit → Act → World → Prop} {a : Act} {w : World} (Inv : Nat → Act → World → Prop) {m : Nat} (h0 : Inv m a w)
    (round : ∀ m a w, Inv m a w → c.wpIn F n P (Exit.then (fun a' w' => ∃ m', m' < m ∧ Inv m' a' w') Q) a w) : (Code.loop c).wpIn F n P Q a w := by
  classical
  let μ : Act → World → Nat := fun a w => if h : ∃ m, Inv m a w then (least h).choose else 0
  have hμ : ∀ a w (h : ∃ m, Inv m a w), Inv (μ a w) a w ∧ ∀ k, Inv k a w → μ a w ≤ k := fun a w h => by
    simp only [μ, dif_pos h]
    exact (least h).choose_spec
  refine wpIn_loop (fun a w => ∃ m, Inv m a w) μ ⟨m, h0⟩ ?_
  intro a w hI
  refine wpIn_mono (round (μ a w) a w (hμ a w hI).1) ?_
  intro e a' w' hq
  cases e with
  | normal =>
    obtain ⟨m', hlt, hi⟩ := hq
    exact ⟨⟨m', hi⟩, Nat.lt_of_le_of_lt ((hμ a' w' ⟨m', hi⟩).2 m' hi) hlt⟩
  | _ => exact hq

/-- The record of the round that is walked lies there. -/
def RoundAt (ro : Option Nat) (w : World) : Prop := ∀ l, ro = some l → ∃ r, w.heap[l]? = some (.loop r)

theorem RoundAt.keep {ro : Option Nat} {w w' : World} (h : RoundAt ro w) (hk : KeepsOthers w w') : RoundAt ro w' := fun l hl => by
  obtain ⟨r, hr⟩ := h l hl
  exact ⟨r, hk.same l _ hr rfl⟩

theorem PostA.mono {its : Option (Nat × List Item)} {B : Nat → Bs → Imm → Prop} {I J : Imm} {sav : List (Array Value)} {w w' : World} {Q : XA → St → Prop} (hle : I.le J) (hk : its = none → KeepsOthers w w') {e : Exit} {a2 : Act} {w2 : World}
    (h : PostA its B J sav w' Q e a2 w2) : PostA its B I sav w Q e a2 w2 := by
  cases e with
  | normal => obtain ⟨s', J', h1, h2, h3, h4⟩ := h; exact ⟨s', J', h1, Imm.le_trans hle h2, fun e => (hk e).trans (h3 e), h4⟩
  | ret => obtain ⟨s', J', h1, h2, h3, h4⟩ := h; exact ⟨s', J', h1, Imm.le_trans hle h2, fun e => (hk e).trans (h3 e), h4⟩
  | exit id => obtain ⟨s', J', h1, h2, h3, h4⟩ := h; exact ⟨s', J', h1, Imm.le_trans hle h2, fun e => (hk e).trans (h3 e), h4⟩
  | _ => exact h

theorem sound : ∀ (c : AC) (code : Code), Ag P c code → ∀ (its : Option (Nat × List Item)) (w00 : Bs) (I00 : Imm) (Jt : Nat → Imm → World → Prop) (ro : Option Nat), Ctx P its Jt → (ro.isSome = true → its = none) →
    ∀ (Q : XA → St → Prop) (I : Imm) (w : World) (s : St) (sav : List (Array Value)) (a : Act), wpA P its c Q s → RoundAt ro w → Sat its (Base its w00 I00 Jt) I s sav a w →
      code.wpIn (wideR ro) 0 P (PostA its (Base its w00 I00 Jt) I sav w Q) a w := by
  intro c
  induction c with
  | dead =>
    intro code hag its w00 I00 Jt ro hctx hro Q I w s sav a hs hr hsat
    exact hs.elim
  | gh g x ih =>
    intro code hag its w00 I00 Jt ro hctx hro Q I w s sav a hs hr hsat
    obtain ⟨s1, h1, h2⟩ := hs
    obtain ⟨J, hJ, hsat'⟩ := sat_ghs hsat h1
    exact wpIn_mono (ih code hag its w00 I00 Jt ro hctx hro Q J w s1 sav a h2 hr hsat') fun e a2 w2 h => PostA.mono hJ (fun _ => KeepsOthers.refl _) h
  | skip =>
    intro code hag its w00 I00 Jt ro hctx hro Q I w s sav a hs hr hsat
    cases code <;> first | exact hag.elim | skip
    · exact wpIn_skip ⟨s, I, hs, Imm.le_refl _, fun _ => KeepsOthers.refl _, hsat⟩
    · exact wpIn_label ⟨s, I, hs, Imm.le_refl _, fun _ => KeepsOthers.refl _, hsat⟩
  | reg d y ao =>
    intro code hag its w00 I00 Jt ro hctx hro Q I w s sav a hs hr hsat
    cases code <;> first | exact hag.elim | skip
    rename_i id ops d'
    obtain ⟨rfl, hops, hdraw⟩ := hag
    obtain ⟨hdf, w0, I0, β, κ, hB, h⟩ := hsat
    cases d with
    | false =>
      refine wpIn_region ?_
      have := sound_ops (ro := ro) (Q := Q) hops hctx I w ops.size 0 (by omega) (Imm.le_refl _) (fun _ => KeepsOthers.refl _) hdf hB h (by rw [List.drop_zero]; exact hs)
      rwa [← List.range_eq_range'] at this
    | true =>
      obtain ⟨hmix, hds⟩ := hdraw rfl
      refine wpIn_region_draw fun t => ?_
      have e : Region.schedule (P.follows .mixedOrders) ops t = Region.linearise .any ops t := by simp [Region.schedule, hmix]
      rw [e]
      refine hds ops hops hmix its w00 I00 Jt ro Q I w s sav a w0 I0 β κ t hctx hdf hB h ?_
      cases y
      · exact hs
      · exact hs
  | regd pa ao =>
    intro code hag its w00 I00 Jt ro hctx hro Q I w s sav a hs hr hsat
    cases code <;> first | exact hag.elim | skip
    rename_i id ops d'
    obtain ⟨rfl, hops, hmix, hds⟩ := hag
    obtain ⟨hdf, w0, I0, β, κ, hB, h⟩ := hsat
    refine wpIn_region_draw fun t => ?_
    have e : Region.schedule (P.follows .mixedOrders) ops t = Region.linearise .any ops t := by simp [Region.schedule, hmix]
    rw [e]
    exact hds ops hops hmix its w00 I00 Jt ro Q I w s sav a w0 I0 β κ t hctx hdf hB h hs.1 hs.2
  | regn ord ao =>
    intro code hag its w00 I00 Jt ro hctx hro Q I w s sav a hs hr hsat
    cases code <;> first | exact hag.elim | skip
    rename_i id ops d'
    obtain ⟨rfl, hops, hmix, hds⟩ := hag
    obtain ⟨hdf, w0, I0, β, κ, hB, h⟩ := hsat
    refine wpIn_region_draw fun t => ?_
    have e : Region.schedule (P.follows .mixedOrders) ops t = Region.linearise .any ops t := by simp [Region.schedule, hmix]
    rw [e]
    exact hds ops hops hmix its w00 I00 Jt ro Q I w s sav a w0 I0 β κ t hctx hdf hB h hs
  | regi ao =>
    intro code hag its w00 I00 Jt ro hctx hro Q I w s sav a hs hr hsat
    cases code <;> first | exact hag.elim | skip
    rename_i id ops d'
    obtain ⟨rfl, hops, hmix, hds⟩ := hag
    obtain ⟨hdf, w0, I0, β, κ, hB, h⟩ := hsat
    refine wpIn_region_draw fun t => ?_
    have e : Region.schedule (P.follows .mixedOrders) ops t = Region.linearise .any ops t := by simp [Region.schedule, hmix]
    rw [e]
    exact hds ops hops hmix its w00 I00 Jt ro Q I w s sav a w0 I0 β κ t hctx hdf hB h hs
  | seq x y ihx ihy =>
    intro code hag its w00 I00 Jt ro hctx hro Q I w s sav a hs hr hsat
    cases code <;> first | exact hag.elim | skip
    rename_i cx cy
    obtain ⟨h1, h2⟩ := hag
    refine wpIn_seq (wpIn_mono (ihx cx h1 its w00 I00 Jt ro hctx hro _ I w s sav a hs hr hsat) ?_)
    intro e a2 w2 hp
    cases e with
    | normal =>
      obtain ⟨s', J, k1, k2, k3, k4⟩ := hp
      have hr' : RoundAt ro w2 := fun l hl => (hr.keep (k3 (hro (by simp [hl])))) l hl
      exact wpIn_mono (ihy cy h2 its w00 I00 Jt ro hctx hro Q J w2 s' sav a2 k1 hr' k4) fun e a3 w3 h => PostA.mono k2 k3 h
    | ret => exact hp
    | exit id => exact hp
    | _ => exact hp
  | cond c x y ihx ihy =>
    intro code hag its w00 I00 Jt ro hctx hro Q I w s sav a hs hr hsat
    cases code <;> first | exact hag.elim | skip
    rename_i c' cx cy
    obtain ⟨rfl, h1, h2⟩ := hag
    simp only [wpA] at hs
    split at hs
    · rename_i b hb
      obtain ⟨hdf, w0, I0, β, κ, hB, h⟩ := hsat
      have hv := (ev_R h hb).inv.inv_s
      refine wpIn_cond hv ?_
      cases b with
      | true => exact ihx cx h1 its w00 I00 Jt ro hctx hro Q I w s sav a (by simpa using hs) hr ⟨hdf, w0, I0, β, κ, hB, h⟩
      | false => exact ihy cy h2 its w00 I00 Jt ro hctx hro Q I w s sav a (by simpa using hs) hr ⟨hdf, w0, I0, β, κ, hB, h⟩
    · exact hs.elim
  | block id x ih =>
    intro code hag its w00 I00 Jt ro hctx hro Q I w s sav a hs hr hsat
    cases code <;> first | exact hag.elim | skip
    rename_i id' cx
    obtain ⟨rfl, h1⟩ := hag
    refine wpIn_block (wpIn_mono (ih cx h1 its w00 I00 Jt ro hctx hro _ I w s sav a hs hr hsat) ?_)
    intro e a2 w2 hp
    cases e with
    | exit j =>
      obtain ⟨s', J, k1, k2, k3, k4⟩ := hp
      simp only [Exit.inBlock]
      by_cases hj : j = id
      · rw [if_pos hj]
        simp only [hj, if_true] at k1
        exact ⟨s', J, k1, k2, k3, k4⟩
      · rw [if_neg hj]
        simp only [hj, if_false] at k1
        exact ⟨s', J, k1, k2, k3, k4⟩
    | _ => exact hp
  | loop g x ih =>
    intro code hag its w00 I00 Jt ro hctx hro Q I w s sav a hs hr hsat
    cases code <;> first | exact hag.elim | skip
    rename_i cx
    obtain ⟨Inv, m, s0, hg, h0, hround⟩ := hs
    obtain ⟨J0, hJ0, hsat0⟩ := sat_ghs hsat hg
    refine wpIn_loop_rel (fun m a' w' => ∃ s' J', Inv m s' ∧ I.le J' ∧ (its = none → KeepsOthers w w') ∧ Sat its (Base its w00 I00 Jt) J' s' sav a' w') (m := m) ⟨s0, J0, h0, hJ0, fun _ => KeepsOthers.refl _, hsat0⟩ ?_
    rintro m a1 w1 ⟨s1, J1, hi, hle, hk, hs1⟩
    have hr' : RoundAt ro w1 := fun l hl => (hr.keep (hk (hro (by simp [hl])))) l hl
    refine wpIn_mono (ih cx hag its w00 I00 Jt ro hctx hro _ J1 w1 s1 sav a1 (hround m s1 hi) hr' hs1) ?_
    intro e a2 w2 hp
    have hp' := PostA.mono hle hk hp
    cases e with
    | normal =>
      obtain ⟨s', J, ⟨s2, m', k0, k1, k1'⟩, k2, k3, k4⟩ := hp'
      obtain ⟨J2, hJ2, hsat2⟩ := sat_ghs k4 k0
      exact ⟨m', k1, s2, J2, k1', Imm.le_trans k2 hJ2, k3, hsat2⟩
    | ret => exact hp'
    | exit id => exact hp'
    | _ => exact hp'
  | exit id =>
    intro code hag its w00 I00 Jt ro hctx hro Q I w s sav a hs hr hsat
    cases code <;> first | exact hag.elim | skip
    obtain rfl := hag
    exact wpIn_exit ⟨s, I, hs, Imm.le_refl _, fun _ => KeepsOthers.refl _, hsat⟩
  | ret =>
    intro code hag its w00 I00 Jt ro hctx hro Q I w s sav a hs hr hsat
    cases code <;> first | exact hag.elim | skip
    exact wpIn_ret ⟨s, I, hs, Imm.le_refl _, fun _ => KeepsOthers.refl _, hsat⟩
  | rf f ps g x y ihx ihy =>
    intro code hag its w00 I00 Jt ro hctx hro Q I w s sav a hs hr hsat
    cases code <;> first | exact hag.elim | skip
    rename_i f' ps' cx cy
    obtain ⟨rfl, rfl, h1, h2⟩ := hag
    obtain ⟨items, p, s1, hits, hev, ⟨k, caps, hpk, hent, hiter⟩, hg, hR⟩ := hs
    subst hits
    obtain ⟨_, w0, I0, β, κ, ⟨rfl, rfl⟩, h⟩ := hsat
    subst hpk
    obtain ⟨arr, hfv, hcaps⟩ := (ev_R h hev).inv.inv_fn
    have hgo : ∀ (fn : FuncId) (wA : World) (mark : List Deferred) (dfb : Nat), Below w.heap.size w wA → Sim w0 I0 I β κ s sav { a with defers := mark ++ a.defers } wA →
        (Instr.enterLoop fn a.tmps ps' cx cy ro).run P w = .ok (wA.heap.size, mark) (wA.alloc (.loop { state := .ready, pending := none, fn, tmps := a.tmps, params := ps', assign := cx, body := cy, defers := dfb })) →
        CallsIn (wideR ro) (0 - 1) P k (#[.func (.yield wA.heap.size) #[] #[]] ++ arr) (wA.alloc (.loop { state := .ready, pending := none, fn, tmps := a.tmps, params := ps', assign := cx, body := cy, defers := dfb }))
          (rangePost (wideR ro) 0 P wA.heap.size (PostA none (Base none w0 I0 Jt) I sav w Q) { a with defers := mark ++ a.defers }) := by
      intro fn wA mark dfb hwA hA _
      obtain ⟨rec, hrec⟩ : ∃ rec : LoopState → Option Code → Loop, rec = fun st pe => { state := st, pending := pe, fn, tmps := a.tmps, params := ps', assign := cx, body := cy, defers := dfb } := ⟨_, rfl⟩
      have hl1 : (wA.alloc (.loop (rec .ready none))).heap[wA.heap.size]? = some (.loop (rec .ready none)) := World.alloc_heap_new wA _
      have hb1 : w0.heap.size ≤ wA.heap.size := hA.size
      have h1A := hA.alloc (.loop (rec .ready none))
      have hbet := h1A.between
      obtain ⟨_, J1, hJ1, hs1⟩ := ghs_sound g hbet hg
      have hround : RoundOk P wA.heap.size (BetwRounds g ps'.toList (fun Q' s' => wpA P none x (fun e s2 => match e with | .normal => wpA P none y Q' s2 | _ => False) s') Q items w0 I0 (a.tmps :: sav) wA I wA.heap.size rec) items := by
        rw [hrec]
        refine round_ok hb1 (Nat.le_refl _) ?_
        intro Q' s' I' β' κ' a' W hw hS hrr post hpost hlW
        have hx := ihx cx h1 none w0 I0 Jt (some wA.heap.size) (fun _ _ e => by cases e) (fun _ => rfl) _ I' W s' (a.tmps :: sav) a' hw
          (fun l hl => by cases hl; exact hrr) ⟨(fun e => by cases e), w0, I0, β', κ', ⟨rfl, rfl⟩, hS⟩
        refine wpIn_mono hx ?_
        intro e a2 w2 hp
        cases e with
        | normal =>
          obtain ⟨s2, J2, k1, k2, k3, _, w02, I02, β2, κ2, ⟨rfl, rfl⟩, hS2⟩ := hp
          have hl2 := (k3 rfl).same _ _ hlW rfl
          have hlt2 := (Array.getElem?_eq_some_iff.1 hl2).1
          refine ⟨_, run_beginRound hl2 rfl, ?_⟩
          have hS3 := hS2.putLoop hl2 hb1 (.loop { state := .busy, pending := none, fn, tmps := a.tmps, params := ps', assign := cx, body := cy, defers := dfb })
          have hy := ihy cy h2 none w02 I02 Jt (some wA.heap.size) (fun _ _ e => by cases e) (fun _ => rfl) Q' J2 _ s2 (a.tmps :: sav) a2 k1
            (fun l hl => by cases hl; exact ⟨_, World.putObj_heap_same hlt2⟩) ⟨(fun e => by cases e), w02, I02, β2, κ2, ⟨rfl, rfl⟩, hS3⟩
          refine wpIn_mono hy ?_
          have hcomb : ∀ {W' : World}, KeepsOthers (w2.putObj wA.heap.size (.loop { state := .busy, pending := none, fn, tmps := a.tmps, params := ps', assign := cx, body := cy, defers := dfb })) W' →
              KeepsOthers (W.putObj wA.heap.size (.loop { state := .busy, pending := none, fn, tmps := a.tmps, params := ps', assign := cx, body := cy, defers := dfb })) W' := fun {W'} hk =>
            ⟨by have := hk.size; have := (k3 rfl).size; simp at *; omega, fun j o hj ho => by
              by_cases ej : j = wA.heap.size
              · subst ej
                have hltW := (Array.getElem?_eq_some_iff.1 hlW).1
                rw [World.putObj_heap_same hltW] at hj
                cases hj
                exact hk.same _ _ (World.putObj_heap_same hlt2) rfl
              · rw [World.putObj_heap_other ej] at hj
                exact hk.same _ _ (by rw [World.putObj_heap_other ej]; exact (k3 rfl).same _ _ hj ho) ho⟩
          intro e a3 w3 hp
          cases e with
          | normal => obtain ⟨s3, J3, q1, q2, q3, _, w03, I03, β3, κ3, ⟨rfl, rfl⟩, hS4⟩ := hp; exact hpost .normal s3 J3 a3 w3 β3 κ3 q1 (Imm.le_trans k2 q2) (hcomb (q3 rfl)) hS4
          | ret => obtain ⟨s3, J3, q1, q2, q3, _, w03, I03, β3, κ3, ⟨rfl, rfl⟩, hS4⟩ := hp; exact hpost .ret s3 J3 a3 w3 β3 κ3 q1 (Imm.le_trans k2 q2) (hcomb (q3 rfl)) hS4
          | exit id => obtain ⟨s3, J3, q1, q2, q3, _, w03, I03, β3, κ3, ⟨rfl, rfl⟩, hS4⟩ := hp; exact hpost (.exit id) s3 J3 a3 w3 β3 κ3 q1 (Imm.le_trans k2 q2) (hcomb (q3 rfl)) hS4
          | goto _ => exact hp.elim
          | panic _ => exact hp.elim
          | outgrown => exact hp.elim
        | ret => obtain ⟨s2, J2, k1, _⟩ := hp; exact k1.elim
        | exit id => obtain ⟨s2, J2, k1, _⟩ := hp; exact k1.elim
        | goto _ => exact hp.elim
        | panic _ => exact hp.elim
        | outgrown => exact hp.elim
      have hcall := hiter J1 (wA.alloc (.loop (rec .ready none))) arr.toList hs1.good (hcaps.mono hJ1) wA.heap.size _ betw_abiding hround
        ⟨hJ1, KeepsOthers.alloc _ _, .inl ⟨Nat.zero_le _, s1, β, κ, by rw [List.drop_zero]; exact hR, hs1, hl1⟩⟩
      have e1 : #[Value.func (.yield wA.heap.size) #[] #[]] ++ arr.toList.toArray = #[Value.func (.yield wA.heap.size) #[] #[]] ++ arr := by simp
      rw [e1] at hcall
      have hcall' := calls_ro (ro := ro) hcall
      rw [hrec] at hcall'
      refine hcall'.mono ?_
      rintro e W' ⟨⟨v, rfl⟩, I', i, hle, hgd, ⟨hle2, hk2, hd⟩, hi⟩
      have fin : ∀ {s3 : St} {β3 : Nat → Nat} {κ3 : Nat → Nat × Nat × Nat} {r : Loop}, Sim w0 I0 I' β3 κ3 s3 (a.tmps :: sav) { tmps := #[], defers := [] } W' → W'.heap[wA.heap.size]? = some (.loop r) → ∀ o,
          Sat none (Base none w0 I0 Jt) I' (leaveR s3) sav { a with defers := mark ++ a.defers } (W'.putObj wA.heap.size o) ∧ KeepsOthers w (W'.putObj wA.heap.size o) := by
        intro s3 β3 κ3 r hS hl o
        have hS' := hS.putLoop hl hb1 o
        have hkA : KeepsOthers wA (W'.putObj wA.heap.size o) := keepsPut hk2 (Nat.le_refl _) o
        refine ⟨⟨(fun e => by cases e), w0, I0, β3, κ3, ⟨rfl, rfl⟩, hS'.leave ?_⟩, (KeepsOthers.ofBelow hwA).trans hkA⟩
        obtain ⟨Ds, d1, d2, d3⟩ := hA.dfr
        exact ⟨Ds, d1, d2, fun D hD => ⟨(d3 D hD).1, hkA.same _ _ (d3 D hD).2 rfl⟩⟩
      rcases hd with ⟨hin, s3, β3, κ3, hR3, hS, hl⟩ | ⟨hin, xa, s3, β3, κ3, c, hj, hq, hS, hl⟩
      · have e2 : items.drop i = [] := List.drop_eq_nil_of_le (by omega)
        rw [e2] at hR3
        obtain ⟨k1, k2⟩ := fin hS hl (.loop { state := .exhausted, pending := none, fn, tmps := a.tmps, params := ps', assign := cx, body := cy, defers := dfb })
        have hl := hl
        exact ⟨none, _, run_endLoop (P := P) hl (by simp), leaveR s3, I', hR3, hle2, fun _ => k2, k1⟩
      · obtain ⟨k1, k2⟩ := fin hS hl (.loop { state := .exhausted, pending := some c, fn, tmps := a.tmps, params := ps', assign := cx, body := cy, defers := dfb })
        have hl := hl
        refine ⟨some c, _, run_endLoop (P := P) hl (by simp), ?_⟩
        cases xa with
        | normal => cases hj
        | ret => cases hj; exact wpIn_ret ⟨leaveR s3, I', hq, hle2, fun _ => k2, k1⟩
        | exit id => cases hj; exact wpIn_exit ⟨leaveR s3, I', hq, hle2, fun _ => k2, k1⟩
    refine wpIn_rangeFunc ?_
    intro fn _
    have hinv : ∀ (l : Nat) (w1 : World), (resolve a.eval (rangeCall f l) 0).run P w1 = .ok { target := .fn (.func k) arr, args := #[.func (.yield l) #[] #[]] } w1 ∧
        (invoke (.fn (.func k) arr) #[.func (.yield l) #[] #[]]).run P w1 = .ok (.enter k (#[.func (.yield l) #[] #[]] ++ arr)) w1 := fun l w1 =>
      ⟨by simp only [resolve, hfv]; simp [Deferred.ofValue, Act.eval], by simp [invoke, hent (#[.func (.yield l) #[] #[]] ++ arr) w1]⟩
    cases hro' : ro with
    | none =>
      have hA : Sim w0 I0 I β κ s sav { a with defers := [{ target := .collected w.heap.size, args := #[] }] ++ a.defers } (w.alloc (.deferred (some []))) := by
        have h2 := h.alloc (.deferred (some []))
        obtain ⟨Ds, d1, d2, d3⟩ := h2.dfr
        obtain ⟨Ds', d1', d2', d3'⟩ := h.dfr
        refine { h2 with dfr := ⟨w.heap.size :: Ds', by simp [d1'], ?_, ?_⟩ }
        · refine List.nodup_cons.2 ⟨fun hm => ?_, d2'⟩
          have := (Array.getElem?_eq_some_iff.1 (d3' _ hm).2).1
          omega
        · intro D hD
          rcases List.mem_cons.1 hD with rfl | hD
          · exact ⟨h.size, World.alloc_heap_new w _⟩
          · exact ⟨(d3' D hD).1, (Below.heap_alloc w _ D (Array.getElem?_eq_some_iff.1 (d3' D hD).2).1).trans (d3' D hD).2⟩
      have hent2 := run_enterLoop_outer (P := P) (w := w) fn a.tmps ps' cx cy
      have hg2 := hgo fn (w.alloc (.deferred (some []))) [{ target := .collected w.heap.size, args := #[] }] w.heap.size ((Below.refl _ w).alloc (Nat.le_refl _) _) hA (by rw [hro', World.size_alloc]; exact hent2)
      rw [hro'] at hg2
      rw [World.size_alloc] at hg2
      exact ⟨_, _, _, _, _, _, _, _, hent2, (hinv _ _).1, fun _ _ => trivial, (hinv _ _).2, fun e => by simp [wideR, Fence.wide] at e, hg2⟩
    | some l₀ =>
      obtain ⟨r₀, hr₀⟩ := hr l₀ hro'
      have hent2 := run_enterLoop_inner (P := P) hr₀ fn a.tmps ps' cx cy
      have hg2 := hgo fn w [] r₀.defers (Below.refl _ w) (by simpa using h) (by rw [hro']; exact hent2)
      rw [hro'] at hg2
      exact ⟨_, _, _, _, _, _, _, _, hent2, (hinv _ _).1, fun _ _ => trivial, (hinv _ _).2, fun e => by simp [wideR, Fence.wide] at e, hg2⟩

end
end Go.Proofs.YtambpjbpdackfaaGreat.A


/- Contracts out of what is told. -/
set_option linter.unusedVariables false
set_option linter.unusedSimpArgs false
namespace Go.Proofs.YtambpjbpdackfaaGreat.A
open Go Go.RowKit Go.Shelf

def rinfOk (P : Program) : List ResultVar → List (Bool × Nat) → Bool
  | [], [] => true
  | .tmp _ :: vs, _ :: qs => rinfOk P vs qs
  | .cell _ t :: vs, q :: qs => tAgg P t == some q.1 && tSize P t == some q.2 && (q.1 || q.2 == 1) && rinfOk P vs qs
  | _, _ => false

section
variable {P : Program}
variable {w0 : Bs} {w w' : World} {I0 I J : Imm} {β : Nat → Nat} {κ : Nat → Nat × Nat × Nat} {s s' : St} {sav : List (Array Value)} {a : Act}

theorem noMem (I : Imm) (w : World) : MemAt I nomem w := fun _ _ h => by cases h
/-! ### Functions that hand a new row back -/
/-- A row of its own, of these elements. -/
def NewRow (els : List PV) (r : PV) (m : Mem) : Prop :=
  (els = [] ∧ m = nomem ∧ ∃ a, r = .s (.slice a 0 0)) ∨
  (els ≠ [] ∧ ∃ c cap k, els.length ≤ cap ∧ r = .s (.slice (some ⟨c, 0, none⟩) els.length cap) ∧ m = nomem.put c (flat els ++ List.replicate k .junk))
abbrev OkN (P : Program) (f : FuncId) (args els : List PV) : Prop := OkM P f args nomem (NewRow els)

theorem RFs_append : ∀ {a b : List PV}, RFs a = true → RFs b = true → RFs (a ++ b) = true
  | [], _, _, h => h
  | x :: a, b, h, k => by
    simp only [RFs, Bool.and_eq_true, List.cons_append] at h ⊢
    exact ⟨h.1, RFs_append h.2 k⟩
theorem RFs_junk : ∀ (k : Nat), RFs (List.replicate k .junk) = true
  | 0 => rfl
  | k + 1 => by simp [List.replicate_succ, RFs, RF, RFs_junk k]
theorem NewRow.rf {els : List PV} (h : RFs (flat els) = true) (r : PV) (m : Mem) (hr : NewRow els r m) : RF r = true ∧ ∀ c cells, m c = some cells → RFs cells = true := by
  rcases hr with ⟨rfl, rfl, a, rfl⟩ | ⟨hne, c, cap, k, h1, rfl, rfl⟩
  · exact ⟨rfl, fun c cells hc => by cases hc⟩
  · refine ⟨rfl, fun d cells hd => ?_⟩
    by_cases e : d = c
    · subst e
      rw [Mem.put_same] at hd
      cases hd
      exact RFs_append h (RFs_junk k)
    · rw [Mem.put_other _ _ e] at hd
      cases hd

/-- What writes nothing that was there, told as a function. -/
theorem Ok.ofM {f : FuncId} {args : List PV} {r : PV} {R : PV → Mem → Prop} (h : OkM P f args nomem R) (hR : ∀ r' m', R r' m' → Tell m' r' r) : Ok P f args r := by
  refine ⟨h.1, fun I w vs hg hc => (h.2 I w vs hg (noMem I w) hc).mono ?_⟩
  rintro e w' ⟨v, J, r', m', rfl, hr, hb, hJ, hg', hold, hm, hnew, hC⟩
  have hle := memI_le hm
  refine ⟨v, memI J m' w', rfl, hb.ofNone, Imm.le_trans hJ hle, memI_good hg' hm, fun b hb => ?_, Tell.sound hm (hR r' m' hr) (hC.mono hle)⟩
  unfold memI
  rw [hnew b hb rfl]
  exact hold b hb

theorem NewRow.tell {els : List PV} {sz : Nat} (hu : ∀ e ∈ els, e.cells.length = sz) (r : PV) (m : Mem) (h : NewRow els r m) : Tell m r (.sl false els) := by
  rcases h with ⟨rfl, rfl, a, rfl⟩ | ⟨hne, c, cap, k, h1, rfl, rfl⟩
  · cases a with
    | none => exact .nil
    | some a => exact .empty
  · refine .row (Mem.put_same _ _ _) hu rfl (by simp) h1 (fun h => by cases h) ?_
    rw [List.drop_zero, List.take_left]
    exact Tells.same _ _
theorem OkN.ok {f : FuncId} {args els : List PV} {sz : Nat} (hu : ∀ e ∈ els, e.cells.length = sz) (h : OkN P f args els) : Ok P f args (.sl false els) := Ok.ofM h (NewRow.tell hu)

theorem OkM.mono {f : FuncId} {args : List PV} {m : Mem} {R R' : PV → Mem → Prop} (h : OkM P f args m R) (hR : ∀ r m', R r m' → R' r m') : OkM P f args m R' :=
  ⟨h.1, fun I w vs hg hm hc => (h.2 I w vs hg hm hc).mono fun e w' ⟨v, J, r, m', h1, h2, h3⟩ => ⟨v, J, r, m', h1, hR r m' h2, h3⟩⟩

end
end Go.Proofs.YtambpjbpdackfaaGreat.A


/- Regions that draw their order: what is told in the text's order is done in every order. -/
set_option linter.unusedVariables false
set_option linter.unusedSimpArgs false
namespace Go.Proofs.YtambpjbpdackfaaGreat.A
open Go Go.RowKit Go.Shelf

/-! ### What an operation looks at -/
def opds : Op → List Operand
  | .move x | .assign x | .load _ x | .fieldAddr _ x _ | .field _ x _ | .unOp _ _ x | .makeInterface _ x | .extract x _ | .convert _ _ x | .box _ x => [x]
  | .pick c x y => [c, x, y]
  | .indexAddr _ x k => [x, k]
  | .index _ x k => [x, k]
  | .binOp _ _ x y _ => [x, y]
  | .store _ x y => [x, y]
  | .makeSlice _ l c => [l, c]
  | .makeFunc _ _ caps => caps.toList
  | .build _ parts => parts.toList.map (·.2)
  | .buildSlice _ _ parts => parts.toList.map (·.2)
  | .slice _ x lo hi mx => x :: (lo.toList ++ hi.toList ++ mx.toList)
  | .call c => (match c.callee with | .value f => [f] | .invoke r _ => [r] | .builtin _ => []) ++ c.args.toList
  | _ => []

def looksB : Op → Bool
  | .load _ _ => true
  | .store _ _ _ => true
  | _ => false
def turnsB : Op → Bool
  | .store _ _ _ => true
  | _ => false
def usesT : Op → Bool
  | .call c => (match c.callee with | .builtin .append => true | _ => false)
  | _ => false
/-- Is it a call of a function that stands in a slot? -/
def via : Op → Bool
  | .call c => (match c.callee with | .value (.func _) => false | .value _ => true | _ => false)
  | _ => false

def calm0 (y : Bool) (o : AO) : Bool :=
  (nilTest o).isNone && !(y && via o.op) && match o.op with
  | .alloc _ => false
  | .box _ _ => false
  | .makeSlice _ _ _ => o.inf.agg && o.inf.acc.isEmpty
  | _ => o.inf.acc.isEmpty

def isCall : Op → Bool
  | .call _ => true
  | _ => false
def calm (y : Bool) (o : AO) : Bool := (o.inf.mc == 0 && calm0 y o) || (o.inf.mc == 1 && isCall o.op)
/-- Does it look at memory that may be written? -/
def looksO (o : AO) : Bool := looksB o.op || o.inf.mc == 1

def gslot (all : List AO) (o : AO) : Option Nat := match o.guard with
  | some (j, _) => (all[j]?).bind (·.dst)
  | none => none

def slots (all : List AO) (o : AO) : List Nat := (opds o.op).filterMap (fun | .tmp n => some n | _ => none) ++ (gslot all o).toList

def apart (all : List AO) (x y : AO) : Bool := match x.dst with
  | some d => !(slots all y).contains d && y.dst != some d
  | none => true

def indep (v : Bool) (all : List AO) (x y : AO) : Bool :=
  calm v x && calm v y && apart all x y && apart all y x && !(turnsB x.op && looksO y) && !(turnsB y.op && looksO x) && !(usesT x.op && usesT y.op)

/-- Is x before oi by the edges? -/
def reach (ao : List AO) (x : Nat) : Nat → List Nat → Bool
  | 0, _ => false
  | d + 1, l => l.contains x || l.any fun j => match ao[j]? with | some o => reach ao x d o.pre | none => false

def drawOk (v : Bool) (ao : List AO) : Bool :=
  (List.range ao.length).all fun i => match ao[i]? with
    | none => false
    | some oi => oi.pre.all (fun j => decide (j < i)) && (List.range i).all fun x => match ao[x]? with
      | none => false
      | some ox => oi.pre.contains x || indep v ao ox oi || reach ao x 6 oi.pre

/-! ### What an operation turns -/
structure Up where
  tm : Option (Nat × TV)
  bx : Option (Nat × List TV)
  tk : Option (Nat × Nat)
  mm : Option (Nat × List PV)

def Up.on (u : Up) (s : St) : St :=
  { s with
    tm := match u.tm with | some (d, x) => s.tm.set d x | none => s.tm
    bx := match u.bx with | some (b, c) => upd b c s.bx | none => s.bx
    tk := match u.tk with | some (t, n) => upd t n s.tk | none => s.tk
    mm := match u.mm with | some (c, x) => s.mm.put c x | none => s.mm }

/-- The two states look alike to the operation. -/
structure Alike (all : List AO) (o : AO) (s s2 : St) : Prop where
  ops : ∀ x ∈ opds o.op, ev s x = ev s2 x
  gd : ∀ d, gslot all o = some d → s.tm[d]? = s2.tm[d]?
  ro : s.ro = s2.ro
  bx : looksB o.op = true → ∀ z ∈ opds o.op, ∀ b off, ev s z = some (.ptr b off) → lk b s.bx = lk b s2.bx
  tk : usesT o.op = true → s.tk = s2.tk
  mm : looksO o = true → MemLe s.mm s2.mm

section
variable {P : Program}

variable {its : Option (Nat × List Item)}

end
end Go.Proofs.YtambpjbpdackfaaGreat.A


/- Regions that draw their order, second part. -/
set_option linter.unusedVariables false
set_option linter.unusedSimpArgs false
namespace Go.Proofs.YtambpjbpdackfaaGreat.A
open Go Go.RowKit Go.Shelf

section
variable {P : Program}

variable {its : Option (Nat × List Item)}

end
end Go.Proofs.YtambpjbpdackfaaGreat.A


/- Regions that draw their order, and make variables. -/
set_option linter.unusedVariables false
set_option linter.unusedSimpArgs false
namespace Go.Proofs.YtambpjbpdackfaaGreat.A
open Go Go.RowKit Go.Shelf

section
variable {P : Program}

/-- x reads through a slot, y writes through another one: of these it is known that they point to two variables. -/
def indepP (pa : List (Nat × Nat)) (all : List AO) (x y : AO) : Bool :=
  calm false x && calm false y && apart all x y && apart all y x && !(usesT x.op && usesT y.op) && match x.op, y.op with
    | .load _ (.tmp n), .store _ (.tmp m) _ => pa.contains (n, m)
    | _, _ => false

/-- May y, that stands behind x, go first? -/
def indepC (pa : List (Nat × Nat)) (all : List AO) (x y : AO) : Bool := match allocD x, allocD y with
  | none, none => indep false all x y || indepP pa all x y
  | none, some _ => calm false x && !turnsB x.op && !usesT x.op && apart all x y && apart all y x
  | some _, some _ => true
  | some _, none => false

def nsO (pa : List (Nat × Nat)) (o : AO) : List Nat := nsC pa o.dst []
/-- No slot that is spoken of is written twice. -/
def nsDist (pa : List (Nat × Nat)) (all : List AO) : Bool :=
  (List.range all.length).all fun i => (List.range all.length).all fun j => i == j || match all[i]?, all[j]? with
    | some p, some q => (nsO pa p).all fun d => q.dst != some d
    | _, _ => true
/-- All that is made is apart. -/
def distinctA (all : List AO) : Bool :=
  (List.range all.length).all fun i => (List.range all.length).all fun j => i == j || match (all[i]?).bind allocD, (all[j]?).bind allocD with
    | some p, some q => p.1 != q.1 && p.2.all (fun t => !q.2.contains t) && q.2.all (fun t => !p.2.contains t)
    | _, _ => true

/-- Does what the region's edges leave open not matter? -/
def drawOkC (pa : List (Nat × Nat)) (ao : List AO) : Bool :=
  (List.range ao.length).all fun i => match ao[i]? with
    | none => false
    | some oi => oi.pre.all (fun j => decide (j < i)) && (List.range i).all fun x => match ao[x]? with
      | none => false
      | some ox => oi.pre.contains x || indepC pa ao ox oi || reach ao x 6 oi.pre

end
end Go.Proofs.YtambpjbpdackfaaGreat.A


/- Regions that draw their order, told in another order than the text's: new memory as late as may be. -/
set_option linter.unusedVariables false
set_option linter.unusedSimpArgs false
namespace Go.Proofs.YtambpjbpdackfaaGreat.A
open Go Go.RowKit Go.Shelf

/-- Does it make new memory? -/
def newO (o : AO) : Bool := o.inf.mc == 3 && o.guard.isNone && (match o.op with | .alloc _ => true | .box _ _ => true | .makeSlice _ _ _ => true | _ => false)

/-- May y, that stands behind x, go first? -/
def indepN (all : List AO) (x y : AO) : Bool := indep false all x y || (calm false x && newO y && !turnsB x.op && apart all x y && apart all y x)

section
variable {P : Program}

/-- x stands ahead of i. -/
def RelO (ao : List AO) (x i : Nat) : Prop := (∀ ox, ao[x]? = some ox → i ∉ ox.pre) ∧ ∀ oi, ao[i]? = some oi → reach ao x 7 oi.pre = false → ∃ ox, ao[x]? = some ox ∧ indepN ao ox oi = true
structure OrdOk (ord : List Nat) (ao : List AO) : Prop where
  mem : ∀ i, i ∈ ord ↔ i < ao.length
  nodup : ord.Nodup
  pair : ord.Pairwise (RelO ao)
  self : ∀ (i : Nat) (oi : AO), ao[i]? = some oi → i ∉ oi.pre ∧ ∀ j ∈ oi.pre, j < ao.length

def relB (ao : List AO) (x i : Nat) : Bool := match ao[x]?, ao[i]? with
  | some ox, some oi => x != i && !ox.pre.contains i && (oi.pre.contains x || indepN ao ox oi || reach ao x 6 oi.pre)
  | _, _ => false
def pairB (r : Nat → Nat → Bool) : List Nat → Bool
  | [] => true
  | x :: l => l.all (r x) && pairB r l
def ordB (ord : List Nat) (ao : List AO) : Bool :=
  ord.all (fun i => decide (i < ao.length)) && (List.range ao.length).all (fun i => ord.contains i) && pairB (relB ao) ord &&
    (List.range ao.length).all fun i => match ao[i]? with | some o => !o.pre.contains i && o.pre.all (fun j => decide (j < ao.length)) | none => false

variable {its : Option (Nat × List Item)}

/-! ### Regions told for any order -/
/-- All that an operation waits for stands before it. -/
def backB (ao : List AO) : Bool := (List.range ao.length).all fun i => match ao[i]? with | some o => o.pre.all (fun j => decide (j < i)) | none => false
end
end Go.Proofs.YtambpjbpdackfaaGreat.A


/- Code with what is known of it, put together from the code and from hints; a check of the hints; contracts. -/
set_option linter.unusedVariables false
set_option linter.unusedSimpArgs false
namespace Go.Proofs.YtambpjbpdackfaaGreat.A
open Go Go.RowKit Go.Shelf

/-- What is known beside the code: of operations (by their number in the region), of loops. -/
inductive Hint where
  | o
  | r (l : List (Nat × Inf))
  | y (l : List (Nat × Inf))
  | s (x y : Hint)
  | b (x : Hint)
  | l (g : List Gh) (x : Hint)
  | f (g : List Gh) (x y : Hint)
  | g (g : List Gh) (x : Hint)
  | no
  | d (pa : List (Nat × Nat)) (l : List (Nat × Inf))
  | n (ord : List Nat) (l : List (Nat × Inf))
  | i (l : List (Nat × Inf))

def ao (o : Oper) (i : Inf) : AO := ⟨o.dst, o.op, o.guard, (o.after.toList.filter fun e => Region.binds .any e).map (·.on), i⟩

def aoL : Nat → List Oper → List (Nat × Inf) → List AO
  | _, [], _ => []
  | k, o :: os, l => ao o ((lk k l).getD {}) :: aoL (k + 1) os l

def acOf : Hint → Code → AC
  | .no, _ => .dead
  | .d pa l, .region _ ops _ => .regd pa (aoL 0 ops.toList l)
  | .n ord l, .region _ ops _ => .regn ord (aoL 0 ops.toList l)
  | .i l, .region _ ops _ => .regi (aoL 0 ops.toList l)
  | .g g h, c => .gh g (acOf h c)
  | .o, .skip => .skip
  | .o, .label _ => .skip
  | .o, .region _ ops d => .reg d false (aoL 0 ops.toList [])
  | .r l, .region _ ops d => .reg d false (aoL 0 ops.toList l)
  | .y l, .region _ ops d => .reg d true (aoL 0 ops.toList l)
  | .s a b, .seq x y => .seq (acOf a x) (acOf b y)
  | .s a b, .cond c x y => .cond c (acOf a x) (acOf b y)
  | .b a, .block id x => .block id (acOf a x)
  | .l g a, .loop x => .loop g (acOf a x)
  | .f g a b, .rangeFunc f ps x y => .rf f ps.toList g (acOf a x) (acOf b y)
  | .o, .exit id => .exit id
  | .o, .ret => .ret
  | _, _ => .skip

/-- Do the hints fit the code, and the types? -/
def okC (P : Program) : Hint → Code → Bool
  | .no, _ => true
  | .d pa l, .region _ ops d => (aoL 0 ops.toList l).all (fun a => infOk' P a.op a.inf) && (d && (drawOkC pa (aoL 0 ops.toList l) && (distinctA (aoL 0 ops.toList l) && nsDist pa (aoL 0 ops.toList l))))
  | .n ord l, .region _ ops d => (aoL 0 ops.toList l).all (fun a => infOk' P a.op a.inf) && (d && ordB ord (aoL 0 ops.toList l))
  | .i l, .region _ ops d => (aoL 0 ops.toList l).all (fun a => infOk' P a.op a.inf) && (d && backB (aoL 0 ops.toList l))
  | .g _ h, c => okC P h c
  | .o, .skip => true
  | .o, .label _ => true
  | .o, .region _ ops d => (aoL 0 ops.toList []).all (fun a => infOk' P a.op a.inf) && (!d || drawOk false (aoL 0 ops.toList []))
  | .r l, .region _ ops d => (aoL 0 ops.toList l).all (fun a => infOk' P a.op a.inf) && (!d || drawOk false (aoL 0 ops.toList l))
  | .y l, .region _ ops d => (aoL 0 ops.toList l).all (fun a => infOk' P a.op a.inf) && (!d || drawOk true (aoL 0 ops.toList l))
  | .s a b, .seq x y => okC P a x && okC P b y
  | .s a b, .cond _ x y => okC P a x && okC P b y
  | .b a, .block _ x => okC P a x
  | .l _ a, .loop x => okC P a x
  | .f _ a b, .rangeFunc _ _ x y => okC P a x && okC P b y
  | .o, .exit _ => true
  | .o, .ret => true
  | _, _ => false

end Go.Proofs.YtambpjbpdackfaaGreat.A


/- Rules for reckoning what code tells, step by step. -/
set_option linter.unusedVariables false
set_option linter.unusedSimpArgs false
namespace Go.Proofs.YtambpjbpdackfaaGreat.A
open Go Go.RowKit Go.Shelf

/-- A step that tells a state, and what is asked of it. -/
def opt (o : Option St) (K : St → Prop) : Prop := match o with | some s => K s | none => False
@[congr] theorem opt_congr {o o' : Option St} {K : St → Prop} (h : o = o') : opt o K = opt o' K := by rw [h]

/-- A truth value that a guard or a condition looks at. -/
def gB (o : Option TV) (s : St) (x y : St → Prop) : Prop := match o with | some (.v (.s (.bool b))) => if b = true then x s else y s | _ => False
@[congr] theorem wpA_congr {P : Program} {its : Option (Nat × List Item)} {ac : AC} {Q : XA → St → Prop} {s s' : St} (h : s = s') : wpA P its ac Q s = wpA P its ac Q s' := by rw [h]
@[congr] theorem wpOpsA_congr {P : Program} {its : Option (Nat × List Item)} {all l : List AO} {K : St → Prop} {s s' : St} (h : s = s') : wpOpsA P its all l s K = wpOpsA P its all l s' K := by rw [h]
@[congr] theorem wpOpsC_congr {P : Program} {pa : List (Nat × Nat)} {all l : List AO} {K : St → Prop} {s s' : St} (h : s = s') : wpOpsC P pa all l s K = wpOpsC P pa all l s' K := by rw [h]
@[congr] theorem wpOp_congr {P : Program} {its : Option (Nat × List Item)} {all : List AO} {o : AO} {K : St → Prop} {s s' : St} (h : s = s') : wpOp P its all o s K = wpOp P its all o s' K := by rw [h]
@[congr] theorem execA_congr {P : Program} {its : Option (Nat × List Item)} {o : AO} {K : St → Prop} {s s' : St} (h : s = s') : execA P its s o K = execA P its s' o K := by rw [h]
@[congr] theorem callA_congr {P : Program} {its : Option (Nat × List Item)} {d : Option Nat} {c : Call} {K : St → Prop} {s s' : St} (h : s = s') : callA P its s d c K = callA P its s' d c K := by rw [h]

/-! ### Code -/
def seqK (P : Program) (its : Option (Nat × List Item)) (y : AC) (Q : XA → St → Prop) : XA → St → Prop := fun e s' => match e with | .normal => wpA P its y Q s' | .ret => Q .ret s' | .exit id => Q (.exit id) s'
def blockK (id : Nat) (Q : XA → St → Prop) : XA → St → Prop := fun e s' => match e with | .exit j => if j = id then Q .normal s' else Q (.exit j) s' | .normal => Q .normal s' | .ret => Q .ret s'
def wpK (P : Program) (its : Option (Nat × List Item)) (a : Hint) (x : Code) (Q : XA → St → Prop) : St → Prop := fun s => wpA P its (acOf a x) Q s
def execK (P : Program) (its : Option (Nat × List Item)) (d : Option Nat) (op : Op) (i : Inf) (K : St → Prop) : St → Prop := fun s => execA P its s ⟨d, op, none, [], i⟩ K
def junkK (d : Option Nat) (K : St → Prop) : St → Prop := fun s => K (putT s d (.v (.tup [])))
def opsK (P : Program) (its : Option (Nat × List Item)) (all l : List AO) (K : St → Prop) : St → Prop := fun s' => wpOpsA P its all l s' K
section
variable {P : Program} {its : Option (Nat × List Item)} {Q : XA → St → Prop} {s : St} {K : St → Prop}

/-! ### Regions that draw their order, and make variables -/
/-! ### Regions told in another order -/
/-! ### Operations -/
/-- Was what a guard looks at passed by? -/
def gU : Option TV → Prop → Prop → Prop
  | some (.v (.tup [])), _, y => y
  | _, x, _ => x
/-- Where the operation that a guard looks at lays its value. -/
def slotAt (all : List AO) (j : Nat) : Option Nat := (all[j]?).bind (·.dst)
@[congr] theorem slotAt_congr {all : List AO} {j : Nat} : slotAt all j = slotAt all j := rfl
theorem op_guard (all : List AO) (d : Option Nat) (op : Op) (t : TypeId) (p : String) (af : Array Edge) (j : Nat) (i : Inf) :
    wpOp P its all (ao ⟨d, op, t, p, af, some (j, true)⟩ i) s K = gU ((slotAt all j).bind (s.tm[·]?)) (gB ((slotAt all j).bind (s.tm[·]?)) s (execK P its d op i K) (junkK d K)) (junkK d K s) := by
  have key : ∀ (o : Option TV) (x y : St → Prop), (match o with | some (.v (.s (.bool b))) => if b = true then x s else y s | some (.v (.tup [])) => y s | _ => False) = gU o (gB o s x y) (y s) := by
    intro o x y
    rcases o with _ | (z | _ | _ | _)
    · rfl
    · cases z with
      | s v => cases v <;> rfl
      | tup l => cases l <;> rfl
      | _ => rfl
    all_goals rfl
  exact key ((slotAt all j).bind (s.tm[·]?)) (execK P its d op i K) (junkK d K)
/-! ### Memory that is known, and may be written -/
/-! ### A loop over an iterator -/
/-! ### States, by their parts -/
variable {tm : List TV} {bx : List (Nat × List TV)} {ro : List (Nat × List PV)} {tk : List (Nat × Nat)} {sv : List (List TV)} {it : Nat} {mm : Mem}
end
end Go.Proofs.YtambpjbpdackfaaGreat.A


/- From a law's arguments, as the row tells them, to what is known of them; from a contract to the row's end. -/
set_option linter.unusedVariables false
set_option linter.unusedSimpArgs false
namespace Go.Proofs.YtambpjbpdackfaaGreat.A
open Go Go.RowKit Go.Shelf Go.ChangeShapes Go.WideShapes Go.ChangeAt

/-- All that lies there, is known. -/
def allI (w : World) : Imm := fun b => match w.heap[b]? with | some (.cells cs _ _) => some cs.toList | _ => none
theorem good_all (w : World) : Good (allI w) w := fun b arr h => by
  unfold allI at h
  split at h
  · rename_i cs ty fz hw
    cases h
    exact ⟨cs, ty, fz, [], hw, by simp⟩
  · cases h

/-- The row's end: the law says true, and nothing that was there has turned. -/
theorem ok_end {P : Program} {f : FuncId} {args : List PV} {W : World} {vs : List Value} (h : Ok P f args (.s (.bool true))) (hc : Cs (allI W) args vs) :
    Calls P f vs.toArray W fun e w' => e = .returned (.bool true) ∧ Below W.heap.size W w' :=
  (h.2 (allI W) W vs (good_all W) hc).mono fun e w' ⟨v, J, he, hb, _, _, _, hv⟩ => by
    cases hv
    exact ⟨he, hb⟩
end Go.Proofs.YtambpjbpdackfaaGreat.A


/- Arguments of any shape (numbers, truths, slices and structs of these), read: 'shape' of a type, 'FitL' of what is told. -/
set_option linter.unusedVariables false
set_option linter.unusedSimpArgs false
namespace Go.Proofs.YtambpjbpdackfaaGreat.A
open Go Go.RowKit Go.Shelf Go.ChangeShapes Go.WideShapes Go.ChangeAt

/-- What a cell is. -/
inductive CSh where
  | int (k : IntKind)
  | bool
  | str
  | sl (ag : Bool) (els : List CSh)

def offsOk (P : Program) : Nat → List Field → Option Nat
  | o, [] => some o
  | o, f :: fs => if f.offset = o then offsOk P (o + P.cellsOf f.type) fs else none

/-- The cells of a type. -/
def shape (P : Program) : Nat → TypeId → Option (List CSh)
  | 0, _ => none
  | m + 1, t => match P.underlying t with
    | some .bool => some [.bool]
    | some .string => some [.str]
    | some (.int k) => some [.int k]
    | some (.slice e) => (shape P m e).bind fun l => if l.length = P.cellsOf e ∧ 0 < l.length then some [.sl (match P.underlying e with | some (.struct _) => true | some (.array _ _) => true | _ => false) l] else none
    | some (.struct fs) => if offsOk P 0 fs.toList = some (P.cellsOf t) then (fs.toList.mapM fun f => (shape P m f.type).bind fun l => if l.length = P.cellsOf f.type then some l else none).map List.flatten else none
    | _ => none

def packE (ag : Bool) (cs : List PV) : PV := if ag then .agg cs else cs.headD .junk

mutual
def FitC : CSh → PV → Prop
  | .int k, x => ∃ n, x = .s (.int k n) ∧ (Lit.int k n).wf = true
  | .bool, x => ∃ b, x = .s (.bool b)
  | .str, x => ∃ s, x = .s (.string s)
  | .sl ag l, x => ∃ els, x = .sl false els ∧ ∀ e ∈ els, ∃ cs, e = packE ag cs ∧ FitL l cs
def FitL : List CSh → List PV → Prop
  | [], xs => xs = []
  | c :: l, xs => ∃ y ys, xs = y :: ys ∧ FitC c y ∧ FitL l ys
end
theorem FitC.one {c : CSh} {x : PV} (h : FitC c x) : x.one = true := by
  cases c with
  | int k => simp only [FitC] at h; obtain ⟨n, rfl, _⟩ := h; rfl
  | bool => simp only [FitC] at h; obtain ⟨n, rfl⟩ := h; rfl
  | str => simp only [FitC] at h; obtain ⟨n, rfl⟩ := h; rfl
  | sl ag l => simp only [FitC] at h; obtain ⟨n, rfl, _⟩ := h; rfl
theorem FitL.length : ∀ {l : List CSh} {xs : List PV}, FitL l xs → xs.length = l.length
  | [], xs, h => by simp only [FitL] at h; subst h; rfl
  | c :: l, xs, h => by
    simp only [FitL] at h
    obtain ⟨y, ys, rfl, _, h2⟩ := h
    simp [FitL.length h2]
theorem FitL.append : ∀ {l m : List CSh} {xs ys : List PV}, FitL l xs → FitL m ys → FitL (l ++ m) (xs ++ ys)
  | [], m, xs, ys, h, k => by simp only [FitL] at h; subst h; exact k
  | c :: l, m, xs, ys, h, k => by
    simp only [FitL] at h
    obtain ⟨z, zs, rfl, h1, h2⟩ := h
    simp only [List.cons_append, FitL]
    exact ⟨z, _, rfl, h1, FitL.append h2 k⟩
theorem packE_cells {ag : Bool} {l : List CSh} {cs : List PV} (hag : ag = false → l.length = 1) (h : FitL l cs) : (packE ag cs).cells = cs := by
  cases ag with
  | true => rfl
  | false =>
    have h1 := hag rfl
    match l, h1 with
    | [c], _ =>
      simp only [FitL] at h
      obtain ⟨y, ys, rfl, h2, rfl⟩ := h
      have := h2.one
      cases y <;> simp_all [packE, PV.cells, PV.one]

section
variable {H : Type} {enc : TypeId × Value → H} {P : Program} {W : World} {base : Nat} {held : Bool}

theorem struct_fit {n : Nat} {cs : List Value} (m : Nat)
    (ih : ∀ t sh, shape P m t = some sh → ∀ fuel cs y, DataW.trod enc P W base (fun _ => true) held fuel t cs = some y → ∃ xs, FitL sh xs ∧ Cs (allI W) xs cs) :
    ∀ (fs : List Field) (o : Nat) (ls : List (List CSh)) (ys : List (DataW H × List MemPlace)), offsOk P o fs = some cs.length → (fs.mapM fun f => (shape P m f.type).bind fun l => if l.length = P.cellsOf f.type then some l else none) = some ls →
      (∀ (i : Nat) (f : Field), fs[i]? = some f → DataW.trod enc P W base (fun _ => true) held n f.type ((cs.drop f.offset).take (P.cellsOf f.type)) = ys[i]?) → ys.length = fs.length → o ≤ cs.length → ∃ xs, FitL ls.flatten xs ∧ Cs (allI W) xs (cs.drop o)
  | [], o, ls, ys, ho, hl, hf, _, hoc => by
    simp only [offsOk, Option.some.injEq] at ho
    subst ho
    simp at hl
    subst hl
    exact ⟨[], rfl, by rw [List.drop_length]; exact .nil⟩
  | f :: fs, o, ls, ys, ho, hl, hf, hlen, hoc => by
    simp only [offsOk] at ho
    split at ho
    · rename_i hoff
      subst hoff
      simp only [List.mapM_cons, Option.bind_eq_bind, Option.pure_def] at hl
      obtain ⟨l1, h1, h2⟩ := Option.bind_eq_some_iff.1 hl
      obtain ⟨l2, h3, h4⟩ := Option.bind_eq_some_iff.1 h2
      cases h4
      obtain ⟨l1', k1, k2⟩ := Option.bind_eq_some_iff.1 h1
      split at k2
      · rename_i hlen1
        cases k2
        have h0 := hf 0 f rfl
        match ys, hlen with
        | y :: ys, hlen =>
          obtain ⟨xs, g1, g2⟩ := ih _ _ k1 _ _ _ h0
          have hx := g1.length
          have hc := g2.length
          have hmono : ∀ (fs : List Field) (o : Nat) (k : Nat), offsOk P o fs = some k → o ≤ k := by
            intro fs
            induction fs with
            | nil => intro o k h; simp only [offsOk, Option.some.injEq] at h; omega
            | cons f fs ih =>
              intro o k h
              simp only [offsOk] at h
              split at h
              · have := ih _ _ h; omega
              · cases h
          have hle := hmono _ _ _ ho
          obtain ⟨xs2, g3, g4⟩ := struct_fit m ih fs (f.offset + P.cellsOf f.type) l2 ys ho h3 (fun i f' hi => by simpa using hf (i + 1) f' (by simpa using hi)) (by simpa using hlen) hle
          refine ⟨xs ++ xs2, by rw [List.flatten_cons]; exact g1.append g3, ?_⟩
          have e : cs.drop f.offset = (cs.drop f.offset).take (P.cellsOf f.type) ++ cs.drop (f.offset + P.cellsOf f.type) := by
            rw [← List.drop_drop, List.take_append_drop]
          rw [e]
          exact g2.append g4
      · cases k2
    · cases ho

theorem flat_snoc (els : List PV) (e : PV) : flat (els ++ [e]) = flat els ++ e.cells := by simp [flat]

theorem trod_fit : ∀ (m : Nat) (t : TypeId) (sh : List CSh), shape P m t = some sh → ∀ (fuel : Nat) (cs : List Value) (y : DataW H × List MemPlace), DataW.trod enc P W base (fun _ => true) held fuel t cs = some y → ∃ xs, FitL sh xs ∧ Cs (allI W) xs cs
  | 0, t, sh, h, _, _, _, _ => by simp [shape] at h
  | m + 1, t, sh, h, fuel, cs, y, hy => by
    unfold shape at h
    split at h
    · rename_i ht
      cases h
      obtain ⟨b, rfl, _⟩ := DataW.trod_bool ht hy
      exact ⟨[.s (.bool b)], ⟨_, _, rfl, ⟨_, rfl⟩, rfl⟩, .cons (.s _) .nil⟩
    · rename_i ht
      cases h
      obtain ⟨s, rfl, _⟩ := DataW.trod_string ht hy
      exact ⟨[.s (.string s)], ⟨_, _, rfl, ⟨_, rfl⟩, rfl⟩, .cons (.s _) .nil⟩
    · rename_i k ht
      cases h
      obtain ⟨n, rfl, _, hw⟩ := DataW.trod_int ht hy
      exact ⟨[.s (.int k n)], ⟨_, _, rfl, ⟨_, rfl, hw⟩, rfl⟩, .cons (.s _) .nil⟩
    · rename_i e ht
      obtain ⟨l, hl, h2⟩ := Option.bind_eq_some_iff.1 h
      split at h2
      · rename_i hsz
        obtain ⟨hsz, hpos⟩ := hsz
        simp only [Option.some.injEq] at h2
        generalize hag : (match P.underlying e with | some (.struct _) => true | some (.array _ _) => true | _ => false) = ag at h2
        subst h2
        have hone : ag = false → l.length = 1 := by
          intro e1
          subst e1
          cases m with
          | zero => simp [shape] at hl
          | succ m =>
            unfold shape at hl
            split at hl <;> rename_i hu
            · cases hl; rfl
            · cases hl; rfl
            · cases hl; rfl
            · obtain ⟨l', _, h3⟩ := Option.bind_eq_some_iff.1 hl
              split at h3
              · cases h3; rfl
              · cases h3
            · rw [hu] at hag; cases hag
            · cases hl
        rcases DataW.trod_slice ht hy with ⟨rfl, _⟩ | ⟨x, len, cap, elems, rest, n, _, rfl, _, hb, hlc, hm, hlen, hel, hsp, _⟩
        · exact ⟨[.sl false []], ⟨_, _, rfl, ⟨[], rfl, by simp⟩, rfl⟩, .cons .sl0 .nil⟩
        · obtain ⟨hr1, hr2⟩ := hsp rfl
          have key : ∀ k, k < cap → ∃ cs y, W.cells? base (x.add (k * P.cellsOf e)) (P.cellsOf e) = some cs ∧ DataW.trod enc P W base (fun _ => true) held n e cs = some y := fun k hk => by
            by_cases h1 : k < len
            · have := hel k h1
              rw [List.getElem?_eq_getElem (by omega)] at this
              obtain ⟨cs, hcs, h3⟩ := Option.bind_eq_some_iff.1 this
              exact ⟨cs, _, hcs, h3⟩
            · have := hr2 (k - len) (by omega)
              rw [List.getElem?_eq_getElem (by omega), show len + (k - len) = k by omega] at this
              obtain ⟨cs, hcs, h3⟩ := Option.bind_eq_some_iff.1 this
              exact ⟨cs, _, hcs, h3⟩
          by_cases h0 : cap = 0
          · subst h0
            have : len = 0 := by omega
            subst this
            exact ⟨[.sl false []], ⟨_, _, rfl, ⟨[], rfl, by simp⟩, rfl⟩, .cons .sle .nil⟩
          · rw [hsz] at hpos
            have at_ : ∀ k, k < cap → ∀ j, j < P.cellsOf e → ∃ v, W.cell? (x.add (k * P.cellsOf e + j)) = some v := fun k hk j hj => by
              obtain ⟨cs, y, hcs, _⟩ := key k hk
              obtain ⟨_, h1, h2⟩ := World.cells?_some hcs
              have := h2 j hj
              rw [Addr.add_add, List.getElem?_eq_getElem (by omega)] at this
              exact ⟨_, this⟩
            obtain ⟨v0, hv0⟩ := at_ 0 (by omega) 0 hpos
            obtain ⟨b, off, spot⟩ := x
            have hspot : spot = none := by
              have : (⟨b, off, spot⟩ : Addr).add (0 * P.cellsOf e + 0) = ⟨b, off, spot⟩ := by simp [Addr.add]
              rw [this] at hv0
              exact World.cell?_spot hv0
            subst hspot
            have hcell : ∀ k, k < cap → ∃ cs y, DataW.trod enc P W base (fun _ => true) held n e cs = some y ∧ cs.length = P.cellsOf e ∧ ∀ j, j < P.cellsOf e → W.cell? ⟨b, off + (k * P.cellsOf e + j), none⟩ = cs[j]? := fun k hk => by
              obtain ⟨cs, y, hcs, hy⟩ := key k hk
              obtain ⟨_, h1, h2⟩ := World.cells?_some hcs
              refine ⟨cs, y, hy, h1, fun j hj => ?_⟩
              have := h2 j hj
              rw [Addr.add_add, Go.WideShapes.add_plain] at this
              exact this
            have hv1 := hv0
            have e0 : (⟨b, off, none⟩ : Addr).add (0 * P.cellsOf e + 0) = ⟨b, off, none⟩ := by simp [Addr.add]
            rw [e0] at hv1
            unfold World.cell? at hv1
            cases hw : W.heap[b]? with
            | none => rw [hw] at hv1; cases hv1
            | some o =>
              cases o with
              | cells arr ty fz =>
                have hI : allI W b = some arr.toList := by simp [allI, hw]
                have hget : ∀ k, k < cap → ∃ cs y, DataW.trod enc P W base (fun _ => true) held n e cs = some y ∧ cs.length = P.cellsOf e ∧ off + (k + 1) * P.cellsOf e ≤ arr.toList.length ∧ (arr.toList.drop (off + k * P.cellsOf e)).take (P.cellsOf e) = cs := fun k hk => by
                  obtain ⟨cs, y, h1, h2, h3⟩ := hcell k hk
                  have hin : ∀ j, j < P.cellsOf e → arr.toList[off + k * P.cellsOf e + j]? = cs[j]? := fun j hj => by
                    have := h3 j hj
                    simp only [World.cell?, hw] at this
                    rw [Nat.add_assoc]
                    simpa using this
                  have hlast := hin (P.cellsOf e - 1) (by omega)
                  rw [List.getElem?_eq_getElem (show P.cellsOf e - 1 < cs.length by omega)] at hlast
                  have hlt := (List.getElem?_eq_some_iff.1 hlast).1
                  refine ⟨cs, y, h1, h2, by rw [Nat.add_mul]; omega, ?_⟩
                  apply List.ext_getElem?
                  intro j
                  by_cases hj : j < P.cellsOf e
                  · rw [List.getElem?_take_of_lt hj, List.getElem?_drop]
                    exact hin j hj
                  · rw [List.getElem?_eq_none (by simp; omega), List.getElem?_eq_none (by omega)]
                have rows : ∀ k, k ≤ len → ∃ els : List PV, els.length = k ∧ (∀ q ∈ els, ∃ cs, q = packE ag cs ∧ FitL l cs) ∧ (∀ q ∈ els, q.cells.length = P.cellsOf e) ∧ (flat els).length = k * P.cellsOf e ∧ Cs (allI W) (flat els) ((arr.toList.drop off).take (k * P.cellsOf e)) := by
                  intro k
                  induction k with
                  | zero => exact fun _ => ⟨[], rfl, by simp, by simp, by simp [flat], by simp [flat]; exact .nil⟩
                  | succ k ihk =>
                    intro hk
                    obtain ⟨els, q1, q2, q3, q4, q5⟩ := ihk (by omega)
                    obtain ⟨cs, y, h1, h2, h3, h4⟩ := hget k (by omega)
                    obtain ⟨xs, g1, g2⟩ := trod_fit m e l hl n cs y h1
                    have hcx := packE_cells hone g1
                    have hxl := g1.length
                    refine ⟨els ++ [packE ag xs], by simp [q1], ?_, ?_, ?_, ?_⟩
                    · intro q hq
                      rcases List.mem_append.1 hq with hq | hq
                      · exact q2 q hq
                      · rw [List.mem_singleton.1 hq]; exact ⟨xs, rfl, g1⟩
                    · intro q hq
                      rcases List.mem_append.1 hq with hq | hq
                      · exact q3 q hq
                      · rw [List.mem_singleton.1 hq, hcx, hxl, hsz]
                    · rw [flat_snoc, List.length_append, q4, hcx, hxl, hsz, Nat.add_mul, Nat.one_mul]
                    · rw [flat_snoc, hcx, Nat.add_mul, Nat.one_mul, List.take_add, List.drop_drop, h4]
                      exact q5.append g2
                obtain ⟨els, q1, q2, q3, q4, q5⟩ := rows len (Nat.le_refl _)
                refine ⟨[.sl false els], ⟨_, _, rfl, ⟨els, rfl, q2⟩, rfl⟩, .cons (.sl hI q3 q1.symm (by rw [q4]; exact q5) ?_ hlc (fun h => by cases h)) .nil⟩
                rw [q4]
                obtain ⟨_, _, _, _, h3, _⟩ := hget (cap - 1) (by omega)
                have e1 : (cap - 1 + 1) * P.cellsOf e = cap * P.cellsOf e := by rw [Nat.sub_add_cancel (by omega)]
                rw [e1] at h3
                have := Nat.mul_le_mul_right (P.cellsOf e) hlc
                omega
              | _ => rw [hw] at hv1; cases hv1
      · cases h2
    · rename_i fs ht
      split at h
      · rename_i hoffs
        obtain ⟨ls, h1, rfl⟩ := Option.map_eq_some_iff.1 h
        obtain ⟨xs, n, _, _, hl, hlen, hf⟩ := DataW.trod_struct ht hy
        obtain ⟨zs, k1, k2⟩ := struct_fit (n := n) (cs := cs) m (trod_fit m) fs.toList 0 ls xs (by rw [hl]; exact hoffs) h1 (fun i f hi => hf i f (by simpa using hi)) (by simpa using hlen) (Nat.zero_le _)
        exact ⟨zs, k1, by simpa using k2⟩
      · cases h
    · cases h

/-- A slice that comes in. -/
theorem row_slice {t e : TypeId} {c : CSh} {v : Value} {d : DataW H} {ps : List MemPlace} {r : Reach} {b0 : Nat}
    (m : Nat) (ht : P.underlying t = some (.slice e)) (hs : shape P m t = some [c]) (hv : Value.okWide P W r b0 t v) (h : DataW.Trod enc P W base (fun _ => true) held t v d ps) :
    ∃ x, FitC c x ∧ C (allI W) x v := by
  obtain ⟨fuel, hf⟩ := h
  obtain ⟨xs, h1, h2⟩ := trod_fit m t _ hs _ _ _ hf
  obtain ⟨a, len, cap, rfl⟩ := okWide_slice ht hv
  simp only [FitL] at h1
  obtain ⟨y, ys, rfl, h3, rfl⟩ := h1
  simp only [Value.cells] at h2
  cases h2 with
  | cons h4 h5 => exact ⟨y, h3, h4⟩

/-- A list of things that are all of one form. -/
theorem map_of_all {α : Type} {f : α → PV} {p : α → Prop} : ∀ {l : List PV}, (∀ e ∈ l, ∃ a, e = f a ∧ p a) → ∃ us : List α, l = us.map f ∧ ∀ a ∈ us, p a
  | [], _ => ⟨[], rfl, by simp⟩
  | x :: l, h => by
    obtain ⟨a, rfl, ha⟩ := h x (by simp)
    obtain ⟨us, rfl, has⟩ := map_of_all fun e he => h e (List.mem_cons_of_mem _ he)
    refine ⟨a :: us, rfl, ?_⟩
    intro b hb
    rcases List.mem_cons.1 hb with rfl | hb
    · exact ha
    · exact has b hb
theorem FitC.ints {k : IntKind} {x : PV} (h : FitC (.sl false [.int k]) x) : ∃ zs : List Int, x = .sl false (zs.map fun n => .s (.int k n)) ∧ ∀ n ∈ zs, (Lit.int k n).wf = true := by
  simp only [FitC, FitL] at h
  obtain ⟨els, rfl, h⟩ := h
  obtain ⟨zs, rfl, h2⟩ := map_of_all (f := fun n => PV.s (.int k n)) (p := fun n => (Lit.int k n).wf = true) (l := els) (fun e he => by
    obtain ⟨cs, rfl, y, ys, rfl, ⟨n, rfl, hn⟩, rfl⟩ := h e he
    exact ⟨n, rfl, hn⟩)
  exact ⟨zs, rfl, h2⟩
end
end Go.Proofs.YtambpjbpdackfaaGreat.A


/- All rules of reckoning, as one. -/
set_option linter.unusedVariables false
set_option maxRecDepth 100000
namespace Go.Proofs.YtambpjbpdackfaaGreat.A
open Go Go.RowKit Go.Shelf
end Go.Proofs.YtambpjbpdackfaaGreat.A


set_option linter.unusedVariables false
namespace Go.Proofs.YtambpjbpdackfaaGreat.A
open Go Go.RowKit Go.Shelf

/-! ### simp goes into the state, not into the code that is still to come -/
section
variable {P : Program} {its : Option (Nat × List Item)} {s s' : St} {K : St → Prop} {Q : XA → St → Prop}
@[congr] theorem wpA_cg {c : AC} (h : s = s') : wpA P its c Q s = wpA P its c Q s' := by rw [h]
@[congr] theorem wpOpsA_cg {all l : List AO} (h : s = s') : wpOpsA P its all l s K = wpOpsA P its all l s' K := by rw [h]
@[congr] theorem wpOp_cg {all : List AO} {o o' : AO} (ho : o = o') (h : s = s') : wpOp P its all o s K = wpOp P its all o' s' K := by rw [h, ho]
@[congr] theorem execA_cg {o o' : AO} (h : s = s') (ho : o = o') : execA P its s o K = execA P its s' o' K := by rw [h, ho]
@[congr] theorem opsK_cg {all l : List AO} (h : s = s') : opsK P its all l K s = opsK P its all l K s' := by rw [h]
@[congr] theorem seqK_cg {y : AC} {e e' : XA} (he : e = e') (h : s = s') : seqK P its y Q e s = seqK P its y Q e' s' := by rw [h, he]
@[congr] theorem blockK_cg {id : Nat} {e e' : XA} (he : e = e') (h : s = s') : blockK id Q e s = blockK id Q e' s' := by rw [h, he]
@[congr] theorem wpK_cg {a : Hint} {x : Code} (h : s = s') : wpK P its a x Q s = wpK P its a x Q s' := by rw [h]
@[congr] theorem gB_cg {o o' : Option TV} {x y : St → Prop} (ho : o = o') (h : s = s') : gB o s x y = gB o' s' x y := by rw [h, ho]
@[congr] theorem gU_cg {o o' : Option TV} {x y : Prop} (ho : o = o') : gU o x y = gU o' x y := by rw [ho]
@[congr] theorem opt_cg {o o' : Option St} (ho : o = o') : opt o K = opt o' K := by rw [ho]
@[congr] theorem callA_cg {d : Option Nat} {c : Call} (h : s = s') : callA P its s d c K = callA P its s' d c K := by rw [h]
end
end Go.Proofs.YtambpjbpdackfaaGreat.A


/- The other rules of reckoning, as one: what is reckoned case by case. -/
set_option linter.unusedVariables false
set_option maxRecDepth 100000
namespace Go.Proofs.YtambpjbpdackfaaGreat.A
open Go Go.RowKit Go.Shelf
end Go.Proofs.YtambpjbpdackfaaGreat.A


/- What holds behind code holds with less said, too ('wpA_mono'); two branches that are gone on with as one ('cond_join'). -/
set_option linter.unusedVariables false
set_option linter.unusedSimpArgs false
namespace Go.Proofs.YtambpjbpdackfaaGreat.A
open Go Go.RowKit

section
variable {P : Program} {its : Option (Nat × List Item)}
end
end Go.Proofs.YtambpjbpdackfaaGreat.A


/- A region that lays a literal of a map, and looks things up in it; code put together of parts, told each in its own way. -/
set_option linter.unusedVariables false
set_option linter.unusedSimpArgs false
namespace Go.Proofs.YtambpjbpdackfaaGreat.A
open Go Go.RowKit Go.Shelf

/-- What a map holds, told. -/
inductive Ents (I : Imm) : List (Int × PV) → List MapEntry → Prop
  | nil : Ents I [] []
  | cons {k : Int} {p : PV} {e : MapEntry} {l : List (Int × PV)} {es : List MapEntry} : e.key = .int .i64 k → C I p e.val → Ents I l es → Ents I ((k, p) :: l) (e :: es)
theorem Ents.mono {I J : Imm} (h : I.le J) {l : List (Int × PV)} {es : List MapEntry} (k : Ents I l es) : Ents J l es := by
  induction k with
  | nil => exact .nil
  | cons h1 h2 _ ih => exact .cons h1 (h2.mono h) ih
def isMapT (P : Program) (t : TypeId) : Bool := match P.underlying t with
  | some (.map k _) => (match P.underlying k with | some (.int .i64) => true | _ => false)
  | _ => false
/-- What must be so of the operations of such a region. -/
def mapOk (P : Program) (o : AO) : Bool :=
  o.guard.isNone && match o.op with
  | .insert t _ _ _ => isMapT P t && o.dst.isNone
  | .lookup t _ _ ok => isMapT P t && (!ok && (match P.underlying t with | some (.map _ e) => (match tZero P e with | some z => constEq z (o.inf.zero.headD .nilFunc) | none => false) | _ => false))
  | op => infOk' P op o.inf
def isMake : AO → Bool
  | ⟨_, .makeMap _ none, none, _, _⟩ => true
  | _ => false
def regMOk (P : Program) : List AO → Bool
  | o :: os => isMake o && os.all (mapOk P)
  | [] => false

section
variable {P : Program} {w00 : Bs} {I00 : Imm} {Jt : Nat → Imm → World → Prop} {ro : Option Nat}
variable {w0 : Bs} {w w' : World} {I0 I J : Imm} {β : Nat → Nat} {κ : Nat → Nat × Nat × Nat} {s s' : St} {sav : List (Array Value)} {a : Act}

/-- Code, told in a way of its own. -/
def Told (P : Program) (code : Code) (T : (XA → St → Prop) → St → Prop) : Prop :=
  ∀ (w00 : Bs) (I00 : Imm) (Q : XA → St → Prop) (I : Imm) (w : World) (s : St) (sav : List (Array Value)) (a : Act), T Q s → Sat none (Base none w00 I00 (fun _ _ _ => True)) I s sav a w →
    code.wpIn (wideR none) 0 P (PostA none (Base none w00 I00 (fun _ _ _ => True)) I sav w Q) a w
/-! ### Rules -/
variable {K : St → Prop} {Q : XA → St → Prop}
end
end Go.Proofs.YtambpjbpdackfaaGreat.A


set_option linter.unusedVariables false
namespace Go.Proofs.YtambpjbpdackfaaGreat.A
open Go Go.RowKit Go.Shelf
/- couplet/coupletlaw08.HouseFolds -/
/- couplet/coupletlaw10.RootEncloses -/
/- couplet/coupletlaw16.CompareBounds -/
/- couplet/coupletlaw15.LanesBegin -/
/- couplet/coupletlaw15.LanesStep -/
/- couplet/coupletlaw15.LanesNews -/
/- couplet/coupletlaw15.LanesOwn -/
/- couplet/coupletlaw15.LanesWords -/
/- couplet/coupletlaw16.CompareCalm -/
/- couplet/coupletlaw15.LanesMeet -/
/- couplet/coupletlaw15.LanesFault -/
/- couplet/coupletlaw16.CompareRows -/
/- couplet/coupletlaw16.CompareTrips -/
/- couplet/coupletlaw15.LanesSeed -/
/- couplet/mat.New(couplet/env.Num) -/
/- couplet/mat.New(couplet/env.Num) -/
/- couplet/coupletlaw08.awake -/
/- couplet/house.Fold(couplet/env.Num) -/
/- couplet/coupletlaw08.Same -/
/- couplet/coupletref08.Fold -/
/- couplet/coupletref08.Fold -/
/- couplet/coupletlaw08.Numbers -/
/- couplet/coupletlaw09.Few -/
/- couplet/coupletlaw10.awake -/
/- couplet/coupletref07.Clear -/
/- couplet/mat.Whole(couplet/frac.Frac) -/
/- couplet/mat.Whole(couplet/frac.Frac) -/
/- couplet/joseph.Predict(couplet/frac.Frac) -/
/- couplet/coupletlaw09.Start -/
/- couplet/joseph.Update(couplet/frac.Frac) -/
/- couplet/vec.Whole(couplet/frac.Frac) -/
/- couplet/frac.New -/
/- couplet/coupletlaw10.lanes -/
/- couplet/coupletlaw09.Within -/
/- (couplet/root.State(couplet/env.Num)).Cover -/
/- couplet/coupletlaw15.Few -/
/- couplet/coupletlaw16.awake -/
/- couplet/coupletlaw15.Play -/
/- couplet/compare.Odds -/
/- couplet/coupletlaw15.awake -/
/- couplet/lanes.Begin -/
/- couplet/check.Sound -/
/- (couplet/lanes.Pair).Right -/
/- (couplet/lanes.Pair).Ruined -/
/- couplet/check.Parts -/
/- couplet/coupletlaw15.points -/
/- couplet/coupletlaw09.Rows -/
/- couplet/coupletref09.Square -/
/- (couplet/lanes.Pair).After -/
/- couplet/coupletlaw09.Row -/
/- couplet/coupletref09.Predict -/
/- couplet/coupletref10.Predict -/
/- couplet/coupletref09.Update -/
/- couplet/coupletref10.Update -/
/- couplet/env.Meet -/
/- (couplet/lanes.Pair).Own -/
/- (couplet/lanes.Pair).Words -/
/- couplet/env.Wrong -/
/- (couplet/lanes.Pair).State -/
/- (couplet/lanes.Pair).State -/
/- (couplet/lanes.Pair).Cover -/
/- couplet/compare.Trips -/
/- couplet/compare.Widest -/
/- (couplet/lanes.Pair).Fault -/
/- (couplet/env.Num).Add -/
/- couplet/env.Point -/
/- (couplet/mat.Mat(couplet/env.Num)).Mirror -/
/- couplet/compare.Rows -/
/- couplet/coupletref16.Gap -/
/- couplet/coupletlaw03.Given -/
/- couplet/compare.Far -/
/- (couplet/lanes.Pair).Seed -/
/- slices.Clone(()couplet/env.Num,couplet/env.Num) -/
/- slices.Clone(()couplet/env.Num,couplet/env.Num) -/
/- (couplet/mat.Mat(couplet/env.Num)).Right -/
/- couplet/house.Fold(couplet/frac.Frac) -/
/- (couplet/mat.Mat(couplet/frac.Frac)).At -/
/- (couplet/mat.Mat(couplet/env.Num)).All -/
/- couplet/house.fold(couplet/env.Num) -/
/- couplet/house.Signs(couplet/env.Num) -/
/- couplet/tri.Clear(couplet/env.Num) -/
/- couplet/coupletref03.Do -/
/- couplet/coupletref08.Dot -/
/- couplet/coupletref08.neg -/
/- couplet/root.New(couplet/frac.Frac) -/
/- couplet/root.Update(couplet/frac.Frac) -/
/- couplet/mat.Whole(couplet/env.Num) -/
/- couplet/mat.Whole(couplet/env.Num) -/
/- couplet/root.New(couplet/env.Num) -/
/- couplet/vec.Whole(couplet/env.Num) -/
/- couplet/root.Update(couplet/env.Num) -/
/- couplet/env.Encloses -/
/- (couplet/mat.Mat(couplet/env.Num)).At -/
/- (couplet/root.State(couplet/frac.Frac)).Right -/
/- couplet/mat.New(couplet/frac.Frac) -/
/- couplet/mat.New(couplet/frac.Frac) -/
/- couplet/tri.Square(couplet/frac.Frac) -/
/- (couplet/mat.Mat(couplet/frac.Frac)).Apply -/
/- (couplet/joseph.State(couplet/frac.Frac)).Right -/
/- couplet/joseph.turned(couplet/frac.Frac) -/
/- couplet/joseph.New(couplet/frac.Frac) -/
/- couplet/vec.Dot(couplet/frac.Frac) -/
/- couplet/mat.Unit(couplet/frac.Frac) -/
/- (couplet/mat.Mat(couplet/frac.Frac)).Mul -/
/- (couplet/mat.Mat(couplet/frac.Frac)).Sub -/
/- couplet/vec.Scale(couplet/frac.Frac) -/
/- couplet/vec.Scale(couplet/frac.Frac) -/
/- (couplet/mat.Mat(couplet/frac.Frac)).Turn -/
/- couplet/vec.Add(couplet/frac.Frac) -/
/- couplet/vec.Add(couplet/frac.Frac) -/
/- couplet/frac.Wrong -/
/- couplet/frac.common -/
/- couplet/root.Predict(couplet/env.Num) -/
/- (couplet/env.Num).Of -/
/- (couplet/root.State(couplet/env.Num)).Right -/
/- couplet/tri.Square(couplet/env.Num) -/
/- couplet/compare.Gap -/
/- (couplet/env.Num).Fine -/
/- couplet/compare.least -/
/- couplet/wide.MulDiv -/
/- couplet/wide.Compare -/
/- couplet/lanes.square -/
/- couplet/lanes.points -/
/- couplet/joseph.New(couplet/env.Num) -/
/- couplet/check.Sound$1 -/
/- slices.ContainsFunc(()int,int) -/
/- (couplet/joseph.State(couplet/env.Num)).Right -/
/- (couplet/lanes.Pair).Ruined$1 -/
/- slices.ContainsFunc(()couplet/env.Num,couplet/env.Num) -/
/- slices.Concat(()couplet/env.Num,couplet/env.Num) -/
/- slices.Concat(()couplet/env.Num,couplet/env.Num) -/
/- couplet/frame.Right -/
/- slices.Clone(()int,int) -/
/- slices.Clone(()int,int) -/
/- couplet/coupletref09.mirror -/
/- couplet/coupletref09.Mul -/
/- couplet/coupletref09.Turn -/
/- couplet/joseph.Predict(couplet/env.Num) -/
/- couplet/joseph.Update(couplet/env.Num) -/
/- couplet/coupletref09.each -/
/- couplet/coupletref09.whole -/
/- (couplet/lanes.Pair).matrix -/
/- couplet/compare.greatest -/
/- (couplet/env.Num).Add$1 -/
/- couplet/fx.Add -/
/- couplet/env.made -/
/- couplet/fx.Right -/
/- couplet/compare.Rows$1 -/
/- couplet/coupletref03.Fine -/
/- couplet/compare.Far$1 -/
/- couplet/tri.Root(couplet/env.Num) -/
/- (couplet/mat.Mat(couplet/env.Num)).Right$1 -/
/- (couplet/mat.Mat(couplet/frac.Frac)).Right -/
/- (couplet/mat.Mat(couplet/frac.Frac)).All -/
/- couplet/house.fold(couplet/frac.Frac) -/
/- couplet/house.Signs(couplet/frac.Frac) -/
/- couplet/tri.Clear(couplet/frac.Frac) -/
/- (couplet/mat.Mat(couplet/env.Num)).All$1 -/
/- (couplet/mat.Mat(couplet/env.Num)).All$1 -/
/- (couplet/mat.Mat(couplet/env.Num)).Row -/
/- (couplet/mat.Mat(couplet/env.Num)).Row -/
/- couplet/vec.Dot(couplet/env.Num) -/
/- couplet/vec.Sub(couplet/env.Num) -/
/- couplet/vec.Sub(couplet/env.Num) -/
/- couplet/vec.Scale(couplet/env.Num) -/
/- couplet/vec.Scale(couplet/env.Num) -/
/- couplet/tri.square(couplet/env.Num) -/
/- couplet/tri.made(couplet/env.Num) -/
/- couplet/tri.Clear(couplet/env.Num)$1 -/
/- couplet/coupletref03.one -/
/- slices.Clone(()couplet/frac.Frac,couplet/frac.Frac) -/
/- slices.Clone(()couplet/frac.Frac,couplet/frac.Frac) -/
/- couplet/root.column(couplet/frac.Frac) -/
/- slices.Concat(()couplet/frac.Frac,couplet/frac.Frac) -/
/- slices.Concat(()couplet/frac.Frac,couplet/frac.Frac) -/
/- (couplet/mat.Mat(couplet/env.Num)).Turn -/
/- couplet/root.column(couplet/env.Num) -/
/- couplet/vec.Add(couplet/env.Num) -/
/- couplet/vec.Add(couplet/env.Num) -/
/- couplet/wide.Right -/
/- couplet/tri.square(couplet/frac.Frac) -/
/- (couplet/mat.Mat(couplet/frac.Frac)).Mirror -/
/- (couplet/mat.Mat(couplet/frac.Frac)).Add -/
/- couplet/vec.Sum(couplet/frac.Frac) -/
/- couplet/vec.of(couplet/frac.Frac) -/
/- couplet/vec.of(couplet/frac.Frac) -/
/- couplet/vec.Dot(couplet/frac.Frac)$1 -/
/- (couplet/mat.Mat(couplet/frac.Frac)).each -/
/- couplet/vec.Sub(couplet/frac.Frac) -/
/- couplet/vec.Sub(couplet/frac.Frac) -/
/- couplet/vec.Add(couplet/frac.Frac)$1 -/
/- (couplet/mat.Mat(couplet/env.Num)).Apply -/
/- (couplet/mat.Mat(couplet/env.Num)).Mul -/
/- (couplet/mat.Mat(couplet/env.Num)).Beside -/
/- couplet/fx.Of -/
/- couplet/wide.right -/
/- couplet/wide.times -/
/- couplet/wide.size -/
/- math/bits.Div64 -/
/- couplet/wide.Compare$1 -/
/- couplet/wide.below -/
/- slices.IndexFunc(()int,int) -/
/- slices.IndexFunc(()couplet/env.Num,couplet/env.Num) -/
/- slices.Grow(()couplet/env.Num,couplet/env.Num) -/
/- couplet/frame.Right$1 -/
/- couplet/frame.Many -/
/- couplet/joseph.turned(couplet/env.Num) -/
/- couplet/mat.Unit(couplet/env.Num) -/
/- (couplet/mat.Mat(couplet/env.Num)).Sub -/
/- couplet/fx.told -/
/- slices.Min(()int,int) -/
/- slices.Max(()int,int) -/
/- couplet/coupletref02.Right -/
/- couplet/tri.Root(couplet/env.Num)$1 -/
/- couplet/tri.Root(couplet/env.Num)$2 -/
/- (couplet/mat.Mat(couplet/frac.Frac)).Right$1 -/
/- (couplet/mat.Mat(couplet/frac.Frac)).All$1 -/
/- (couplet/mat.Mat(couplet/frac.Frac)).All$1 -/
/- (couplet/mat.Mat(couplet/frac.Frac)).Row -/
/- (couplet/mat.Mat(couplet/frac.Frac)).Row -/
/- couplet/tri.made(couplet/frac.Frac) -/
/- couplet/tri.Clear(couplet/frac.Frac)$1 -/
/- couplet/vec.Sum(couplet/env.Num) -/
/- couplet/vec.of(couplet/env.Num) -/
/- couplet/vec.of(couplet/env.Num) -/
/- couplet/vec.Dot(couplet/env.Num)$1 -/
/- couplet/vec.Sub(couplet/env.Num)$1 -/
/- couplet/coupletref02.Told -/
/- couplet/coupletref02.Mul -/
/- couplet/coupletref02.Div -/
/- couplet/coupletref02.Root -/
/- couplet/coupletref01.Less -/
/- couplet/coupletref01.Times -/
/- slices.Grow(()couplet/frac.Frac,couplet/frac.Frac) -/
/- couplet/vec.Add(couplet/env.Num)$1 -/
/- couplet/vec.Pairs(couplet/frac.Frac) -/
/- couplet/vec.Sub(couplet/frac.Frac)$1 -/
/- math/bits.Mul64 -/
/- math/bits.LeadingZeros64 -/
/- (couplet/mat.Mat(couplet/env.Num)).Add -/
/- (couplet/mat.Mat(couplet/env.Num)).each -/
/- couplet/vec.Pairs(couplet/env.Num) -/
/- couplet/coupletref01.MulDiv -/
/- couplet/coupletref01.Root -/
/- couplet/coupletref01.Bits -/
/- couplet/coupletref01.Add -/
/- couplet/coupletref01.Up -/
/- couplet/vec.Pairs(couplet/frac.Frac)$1 -/
/- math/bits.Len64 -/
/- couplet/vec.Pairs(couplet/env.Num)$1 -/
/- couplet/coupletref01.Right -/
/- couplet/coupletref01.size -/
/- couplet/coupletref01.Sub -/
/- couplet/coupletref01.Number -/
/- (couplet/env.Num).Div -/
/- (couplet/env.Num).Mul -/
/- (couplet/env.Num).Neg -/
/- (couplet/env.Num).Root -/
/- (couplet/env.Num).Sign -/
/- (couplet/env.Num).Sub -/
/- couplet/fx.Div -/
/- couplet/env.all -/
/- couplet/fx.Mul -/
/- (couplet/env.Num).Root$1 -/
/- couplet/fx.Root -/
/- (couplet/env.Num).Sub$1 -/
/- couplet/fx.Sub -/
/- couplet/wide.Root -/
/- (couplet/frac.Frac).Add -/
/- (couplet/frac.Frac).Div -/
/- (couplet/frac.Frac).Fine -/
/- (couplet/frac.Frac).Mul -/
/- (couplet/frac.Frac).Neg -/
/- (couplet/frac.Frac).Of -/
/- (couplet/frac.Frac).Root -/
/- (couplet/frac.Frac).Sign -/
/- (couplet/frac.Frac).Sub -/
/- couplet/frac.of -/
/- (couplet/frac.Frac).Div$1 -/
/- (couplet/frac.Frac).Mul$1 -/
/- (couplet/frac.Frac).Neg$1 -/
/- couplet/frac.root -/
end Go.Proofs.YtambpjbpdackfaaGreat.A


set_option linter.unusedVariables false
set_option linter.unusedSimpArgs false
set_option maxRecDepth 100000
namespace Go.Proofs.YtambpjbpdackfaaGreat.A
open Go Go.RowKit Go.Shelf

abbrev num (n : Int) : PV := .s (.int .i64 n)
abbrev tru (b : Bool) : PV := .s (.bool b)
abbrev jk : TV := .v .junk

/-! ### Fractions -/
structure Fr where
  n : Int
  d : Int
  bad : Bool
  deriving DecidableEq

abbrev frV (x : Fr) : PV := .agg [num x.n, num x.d, tru x.bad]
abbrev Fr.wrong : Fr := ⟨0, 0, true⟩
def newF (n d : Int) : Fr :=
  if n > 1152921504606846976 ∨ n < -1152921504606846976 ∨ d > 1152921504606846976 ∨ d < -1152921504606846976 ∨ d = 0 then .wrong else
    let m : Int := if d < 0 then -n else n
    let e : Int := if d < 0 then -d else d
    let k : Int := Int.gcd m e
    if m.tdiv k > 1073741824 ∨ m.tdiv k < -1073741824 ∨ e.tdiv k > 1073741824 then .wrong else ⟨m.tdiv k, e.tdiv k, false⟩

end Go.Proofs.YtambpjbpdackfaaGreat.A


/- The arithmetic under Go's math/bits.Div64 (the school method, two digits of 32 bits). No program in this text. -/
set_option linter.unusedVariables false
namespace Go.Proofs.YtambpjbpdackfaaGreat.A

end Go.Proofs.YtambpjbpdackfaaGreat.A


set_option linter.unusedVariables false
namespace Go.Proofs.YtambpjbpdackfaaGreat.A

/-! ### Numbers as rows of bits -/
/-! A sum: bit by bit, with what is carried. -/
/-! A difference. -/
/-! Which one is less. -/
/-! One place higher. -/
end Go.Proofs.YtambpjbpdackfaaGreat.A


set_option linter.unusedVariables false
set_option linter.unusedSimpArgs false
set_option maxRecDepth 100000
namespace Go.Proofs.YtambpjbpdackfaaGreat.A
open Go Go.RowKit Go.Shelf

/-! ### Words -/
end Go.Proofs.YtambpjbpdackfaaGreat.A


/- math/bits.LeadingZeros64, off the library's shelf. -/
set_option linter.unusedVariables false
set_option maxRecDepth 100000
namespace Go.Proofs.YtambpjbpdackfaaGreat.A
open Go Go.RowKit Go.Shelf
end Go.Proofs.YtambpjbpdackfaaGreat.A


set_option linter.unusedVariables false
set_option linter.unusedSimpArgs false
set_option maxRecDepth 100000
namespace Go.Proofs.YtambpjbpdackfaaGreat.A
open Go Go.RowKit Go.Shelf

end Go.Proofs.YtambpjbpdackfaaGreat.A



set_option linter.unusedVariables false
set_option linter.unusedSimpArgs false
set_option maxRecDepth 100000
namespace Go.Proofs.YtambpjbpdackfaaGreat.A
open Go Go.RowKit Go.Shelf

/-! ### Products, divided -/
def rightW (n : Int) : Bool := decide (-4611686018427387903 ≤ n ∧ n ≤ 4611686018427387903)
def moreF (mode : Int) (q r d : Nat) (minus : Bool) : Bool :=
  if r = 0 then false else if mode = 0 then (decide (r > d - r) || (decide (r = d - r) && decide (q % 2 = 1))) else (decide (mode = 2) != minus)
def minus3 (a b c : Int) : Bool := (decide (a < 0) != decide (b < 0)) != decide (c < 0)
def mdN (a b c mode : Int) : Nat := a.natAbs * b.natAbs / c.natAbs + (if moreF mode (a.natAbs * b.natAbs / c.natAbs) (a.natAbs * b.natAbs % c.natAbs) c.natAbs (minus3 a b c) = true then 1 else 0)
def mdOk (a b c mode : Int) : Bool := rightW a && (rightW b && (rightW c && (decide (c ≠ 0) && (decide (0 ≤ mode ∧ mode ≤ 2) && decide (mdN a b c mode ≤ 4611686018427387903)))))
/-- A product, divided, and rounded; false: it may not be. -/
def mdF (a b c mode : Int) : Int × Bool := if mdOk a b c mode = true then (if minus3 a b c = true then -(mdN a b c mode : Int) else (mdN a b c mode : Int), true) else (0, false)

end Go.Proofs.YtambpjbpdackfaaGreat.A


set_option linter.unusedVariables false
set_option linter.unusedSimpArgs false
set_option maxRecDepth 100000
namespace Go.Proofs.YtambpjbpdackfaaGreat.A
open Go Go.RowKit Go.Shelf

def Fr.fine (x : Fr) : Bool := !x.bad && decide (x.d ≥ 1) && decide (x.d ≤ 1073741824) && decide (x.n ≤ 1073741824) && decide (x.n ≥ -1073741824) && (((newF x.n x.d).n == x.n) && (((newF x.n x.d).d == x.d) && (((newF x.n x.d).bad == x.bad) && true)))

theorem Fr.fine_spec {x : Fr} (h : x.fine = true) : x.bad = false ∧ 1 ≤ x.d ∧ x.d ≤ 1073741824 ∧ x.n ≤ 1073741824 ∧ -1073741824 ≤ x.n := by
  simp only [Fr.fine, Bool.and_eq_true, Bool.not_eq_true', decide_eq_true_eq] at h
  exact ⟨h.1.1.1.1.1, by omega, by omega, by omega, by omega⟩

def addF (a b : Fr) : Fr :=
  if a.fine = false ∨ b.fine = false then .wrong else
    newF ((a.n * b.d + b.n * a.d).tdiv (Int.gcd (a.n * b.d + b.n * a.d) (a.d * b.d))) ((a.d * b.d).tdiv (Int.gcd (a.n * b.d + b.n * a.d) (a.d * b.d)))

def mulF (a b : Fr) : Fr := if a.fine = false ∨ b.fine = false then .wrong else newF (a.n * b.n) (a.d * b.d)
def negF (a : Fr) : Fr := if a.fine = false then .wrong else newF (-a.n) a.d
def subF (a b : Fr) : Fr := addF a (negF b)

/-! ### Whole numbers -/
abbrev whole (n : Int) : Fr := ⟨n, 1, false⟩
end Go.Proofs.YtambpjbpdackfaaGreat.A


set_option linter.unusedVariables false
set_option linter.unusedSimpArgs false
set_option maxRecDepth 100000
namespace Go.Proofs.YtambpjbpdackfaaGreat.A
open Go Go.RowKit Go.Shelf

/-! ### Rows of fractions -/
abbrev frs (l : List Fr) : List PV := l.map frV

def right (r c : Int) (n : Nat) : Bool := decide (1 ≤ r ∧ r ≤ 16) && (decide (1 ≤ c ∧ c ≤ 16) && ((n : Int) == r * c))
end Go.Proofs.YtambpjbpdackfaaGreat.A


set_option linter.unusedVariables false
set_option linter.unusedSimpArgs false
set_option maxRecDepth 100000
namespace Go.Proofs.YtambpjbpdackfaaGreat.A
open Go Go.RowKit Go.Shelf

def sumF (l : List Fr) : Fr := l.foldl addF (newF 0 1)

/-- A row. -/
def rowF (r c : Int) (l : List Fr) (i : Int) : List Fr := if right r c l.length = true ∧ 0 ≤ i ∧ i < r then (l.take ((i + 1) * c).toNat).drop (i * c).toNat else []

end Go.Proofs.YtambpjbpdackfaaGreat.A


set_option linter.unusedVariables false
set_option linter.unusedSimpArgs false
set_option maxRecDepth 100000
namespace Go.Proofs.YtambpjbpdackfaaGreat.A
open Go Go.RowKit Go.Shelf

/-! ### Pairs -/
end Go.Proofs.YtambpjbpdackfaaGreat.A


set_option linter.unusedVariables false
set_option linter.unusedSimpArgs false
set_option maxRecDepth 100000
namespace Go.Proofs.YtambpjbpdackfaaGreat.A
open Go Go.RowKit Go.Shelf

def dotF (a b : List Fr) : Fr := sumF (List.zipWith mulF a b)

end Go.Proofs.YtambpjbpdackfaaGreat.A


set_option linter.unusedVariables false
set_option linter.unusedSimpArgs false
set_option maxRecDepth 100000
namespace Go.Proofs.YtambpjbpdackfaaGreat.A
open Go Go.RowKit Go.Shelf

section
variable {α β : Type} (f : α → α → β)
end

end Go.Proofs.YtambpjbpdackfaaGreat.A


set_option linter.unusedVariables false
set_option linter.unusedSimpArgs false
set_option maxRecDepth 100000
namespace Go.Proofs.YtambpjbpdackfaaGreat.A
open Go Go.RowKit Go.Shelf

/-- A contract for what is known better. -/
theorem Ok.args {P : Program} {f : FuncId} {xs ys : List PV} {r : PV} (k : Ok P f xs r) (h : ∀ I vs, Cs I ys vs → Cs I xs vs) : Ok P f ys r :=
  ⟨k.1, fun I w vs hg hc => k.2 I w vs hg (h I vs hc)⟩
end Go.Proofs.YtambpjbpdackfaaGreat.A


set_option linter.unusedVariables false
set_option linter.unusedSimpArgs false
set_option maxRecDepth 100000
namespace Go.Proofs.YtambpjbpdackfaaGreat.A
open Go Go.RowKit Go.Shelf

section
variable {α : Type} (g : Nat → Nat → α) (n : Nat)
/-- A table gone through row by row: what stands so far. -/
def gridP (i k : Nat) : List α := (List.range i).flatMap (fun i => (List.range n).map (g i)) ++ (List.range k).map (g i)
theorem gridP_next (i : Nat) : gridP g n i n = gridP g n (i + 1) 0 := by simp [gridP, List.range_succ]
theorem gridP_length (i k : Nat) : (gridP g n i k).length = i * n + k := by simp [gridP, List.length_flatMap, List.map_const', List.sum_replicate_nat]
theorem gridP_zero (i : Nat) : gridP g n i 0 = (List.range i).flatMap (fun i => (List.range n).map (g i)) := by simp [gridP]
end

/-- The document's sum of products. -/
def dotI (a b : List Int) (many cols i k : Nat) : Nat → Int
  | 0 => 0
  | j + 1 => dotI a b many cols i k j + a.getD (i * many + j) 0 * b.getD (j * cols + k) 0
def small (a : List Int) : Prop := ∀ x ∈ a, -100 ≤ x ∧ x ≤ 100
/-- The document's product. -/
def mulI (a b : List Int) (rows many cols : Nat) : List Int := gridP (fun i k => dotI a b many cols i k many) cols rows 0

end Go.Proofs.YtambpjbpdackfaaGreat.A


set_option linter.unusedVariables false
set_option linter.unusedSimpArgs false
namespace Go.Proofs.YtambpjbpdackfaaGreat.A
open Go Go.RowKit Go.Shelf

theorem gridP_get {α : Type} (g : Nat → Nat → α) (n : Nat) : ∀ (N i j : Nat), i < N → j < n → (gridP g n N 0)[i * n + j]? = some (g i j)
  | 0, i, j, h, _ => by omega
  | N + 1, i, j, hi, hj => by
    have e : gridP g n (N + 1) 0 = gridP g n N 0 ++ (List.range n).map (g N) := by
      rw [← gridP_next]
      simp [gridP]
    have hl := gridP_length g n N 0
    rw [e]
    by_cases h : i < N
    · have : (i + 1) * n ≤ N * n := Nat.mul_le_mul_right _ h
      rw [Nat.add_mul] at this
      rw [List.getElem?_append_left (by omega)]
      exact gridP_get g n N i j h hj
    · have : i = N := by omega
      subst this
      rw [List.getElem?_append_right (by omega), hl]
      simp [hj]

theorem flatMap_same {α β : Type} {l : List α} {f g : α → List β} (h : ∀ x ∈ l, f x = g x) : l.flatMap f = l.flatMap g := by
  rw [List.flatMap_def, List.flatMap_def, List.map_congr_left h]

end Go.Proofs.YtambpjbpdackfaaGreat.A


set_option linter.unusedVariables false
set_option linter.unusedSimpArgs false
set_option maxRecDepth 100000
namespace Go.Proofs.YtambpjbpdackfaaGreat.A
open Go Go.RowKit Go.Shelf

theorem Cs.keep {I : Imm} {x : PV} {xs ys : List PV} {vs : List Value} (h : Cs I (x :: xs) vs) (k : ∀ us, Cs I xs us → Cs I ys us) : Cs I (x :: ys) vs := by
  cases h with | cons h1 h2 => exact .cons h1 (k _ h2)
end Go.Proofs.YtambpjbpdackfaaGreat.A



set_option linter.unusedVariables false
set_option linter.unusedSimpArgs false
set_option maxRecDepth 100000
namespace Go.Proofs.YtambpjbpdackfaaGreat.A
open Go Go.RowKit Go.Shelf

/-! ### Numbers in units -/
def rightX (n : Int) : Bool := decide (-1125899906842624 ≤ n ∧ n ≤ 1125899906842624)
def toldF (n : Int) (is : Bool) (l : List Int) : Int × Bool := if is = true ∧ (l ++ [n]).all rightX = true then (n, true) else (0, false)
def ofX (n : Int) : Int × Bool := toldF (mdF n 16777216 1 0).1 (mdF n 16777216 1 0).2 []
def addX (a b : Int) : Int × Bool := if rightX a = true ∧ rightX b = true then toldF (a + b) true [] else (0, false)
def subX (a b : Int) : Int × Bool := if rightX a = true ∧ rightX b = true then toldF (a - b) true [] else (0, false)
def mulX (a b mode : Int) : Int × Bool := toldF (mdF a b 16777216 mode).1 (mdF a b 16777216 mode).2 [a, b]
def divX (a b mode : Int) : Int × Bool := toldF (mdF a 16777216 b mode).1 (mdF a 16777216 b mode).2 [a, b]
end Go.Proofs.YtambpjbpdackfaaGreat.A



set_option linter.unusedVariables false
set_option linter.unusedSimpArgs false
set_option maxRecDepth 100000
namespace Go.Proofs.YtambpjbpdackfaaGreat.A.E
open Go Go.RowKit Go.Shelf

/-! ### Enclosed numbers -/
structure Fr where
  v : Int
  lo : Int
  hi : Int
  bad : Bool
  deriving DecidableEq
abbrev frV (x : Fr) : PV := .agg [num x.v, num x.lo, num x.hi, tru x.bad]
abbrev Fr.wrong : Fr := ⟨0, 0, 0, true⟩
def Fr.fine (x : Fr) : Bool := !x.bad && (rightX x.lo && (rightX x.hi && (decide (x.lo ≤ x.v) && decide (x.v ≤ x.hi))))
def point (n : Int) : Fr := if rightX n = true then ⟨n, n, n, false⟩ else .wrong
/-- A whole number. -/
def newF (n _d : Int) : Fr := if (ofX n).2 = true then point (ofX n).1 else .wrong
def minL : List Int → Int
  | [] => 0
  | x :: l => l.foldl (fun m y => if y < m then y else m) x
def maxL : List Int → Int
  | [] => 0
  | x :: l => l.foldl (fun m y => if m < y then y else m) x
/-! ### What is told of values, and of pairs of bounds -/
def okP (F : Int → Int → Int → Int × Bool) (p : Int × Int) : Bool := (F p.1 p.2 1).2 && (F p.1 p.2 2).2
def madeE (F : Int → Int → Int → Int × Bool) (a b : Fr) (ps : List (Int × Int)) : Fr :=
  if ((F a.v b.v 0).2 && ps.all (okP F)) = true ∧ a.fine = true ∧ b.fine = true then ⟨(F a.v b.v 0).1, minL (ps.map fun p => (F p.1 p.2 1).1), maxL (ps.map fun p => (F p.1 p.2 2).1), false⟩ else .wrong
/-! ### Sums, products .. -/
def allP (a b : Fr) : List (Int × Int) := [(a.lo, b.lo), (a.lo, b.hi), (a.hi, b.lo), (a.hi, b.hi)]
def addF (a b : Fr) : Fr := madeE (fun x y _ => addX x y) a b [(a.lo, b.lo), (a.hi, b.hi)]
def subF (a b : Fr) : Fr := madeE (fun x y _ => subX x y) a b [(a.lo, b.hi), (a.hi, b.lo)]
def mulF (a b : Fr) : Fr := madeE mulX a b (allP a b)
def divF (a b : Fr) : Fr := if b.lo ≤ 0 ∧ b.hi ≥ 0 then .wrong else madeE divX a b (allP a b)
end Go.Proofs.YtambpjbpdackfaaGreat.A.E


set_option linter.unusedVariables false
set_option linter.unusedSimpArgs false
set_option maxRecDepth 100000
namespace Go.Proofs.YtambpjbpdackfaaGreat.A.E
open Go Go.RowKit Go.Shelf

end Go.Proofs.YtambpjbpdackfaaGreat.A.E


set_option linter.unusedVariables false
set_option linter.unusedSimpArgs false
set_option maxRecDepth 100000
namespace Go.Proofs.YtambpjbpdackfaaGreat.A.E
open Go Go.RowKit Go.Shelf

abbrev frs (l : List Fr) : List PV := l.map frV

end Go.Proofs.YtambpjbpdackfaaGreat.A.E


set_option linter.unusedVariables false
set_option linter.unusedSimpArgs false
set_option maxRecDepth 100000
namespace Go.Proofs.YtambpjbpdackfaaGreat.A
open Go Go.RowKit Go.Shelf

end Go.Proofs.YtambpjbpdackfaaGreat.A


set_option linter.unusedVariables false
set_option linter.unusedSimpArgs false
set_option maxRecDepth 100000
namespace Go.Proofs.YtambpjbpdackfaaGreat.A
open Go Go.RowKit Go.Shelf

/-! ### Beside -/
/-! ### Mirrored -/
/-! ### Alike -/
end Go.Proofs.YtambpjbpdackfaaGreat.A


set_option linter.unusedVariables false
set_option linter.unusedSimpArgs false
set_option maxRecDepth 100000
namespace Go.Proofs.YtambpjbpdackfaaGreat.A
open Go Go.RowKit Go.Shelf

theorem gridP_congr {α : Type} {g f : Nat → Nat → α} {n N : Nat} (h : ∀ i k, i < N → k < n → g i k = f i k) : gridP g n N 0 = gridP f n N 0 := by
  rw [gridP_zero, gridP_zero]
  apply flatMap_same
  intro i hi
  apply List.map_congr_left
  intro k hk
  exact h i k (List.mem_range.1 hi) (List.mem_range.1 hk)

section
variable (a b : List Int) (R K : Nat)
end

section
variable {a b : List Int} {R K : Nat}
end
end Go.Proofs.YtambpjbpdackfaaGreat.A



set_option linter.unusedVariables false
set_option linter.unusedSimpArgs false
set_option maxRecDepth 100000
namespace Go.Proofs.YtambpjbpdackfaaGreat.A.E
open Go Go.RowKit Go.Shelf

/-! ### Frames -/
def manyZ (k n : Int) : Int := if n < 1 ∨ n > 4 then 0 else if k = 1 then n + n * n else if k = 2 then 2 * n * n else if k = 3 then n + 2 else 0
def rightFr (k q n : Int) (l : List Int) : Bool := decide (manyZ k n > 0) && (decide ((l.length : Int) = manyZ k n) && (decide (0 ≤ q) && (decide (q ≤ 4294967295) && !(l.any fun x => !rightX x))))
end Go.Proofs.YtambpjbpdackfaaGreat.A.E


set_option linter.unusedVariables false
namespace Go.Proofs.YtambpjbpdackfaaGreat.A
open Go Go.RowKit Go.Shelf
def hm0 : Hint := .r [(0, { n := 4 })]
def hm1 : Hint := .s (.r [(0, { n := 4, agg := true })]) (.s (.s (.o) (.o)) (.o))
def hm2 : Hint := .s (.r [(0, { acc := [(0, 4)] })]) (.s (.o) (.s (.s (.r [(1, { off := 3 }), (2, { n := 1, agg := false }), (4, { n := 1 }), (5, { n := 1, t := 8 })]) (.b (.l [.junk [0, 2, 3, 6, 7, 8, 9, 10, 11, 12, 13, 14, 15, 16, 17, 18, 19, 20, 21, 22, 23, 24, 25, 26, 27, 28, 29, 30, 31, 32, 33, 34, 35, 39, 40, 41, 42, 43, 44, 45, 46, 47, 48, 49, 50, 51, 52, 53]] (.s (.o) (.s (.s (.o) (.o)) (.s (.b (.s (.r [(0, { n := 1 }), (1, { n := 1, agg := false })]) (.s (.r [(1, { off := 3 }), (2, { n := 1, agg := false }), (5, { n := 1 }), (7, { n := 1 }), (8, { n := 1, t := 24 })]) (.o)))) (.o))))))) (.s (.o) (.o))))
end Go.Proofs.YtambpjbpdackfaaGreat.A



set_option linter.unusedVariables false
set_option linter.unusedSimpArgs false
set_option maxRecDepth 100000
namespace Go.Proofs.YtambpjbpdackfaaGreat.A.E
open Go Go.RowKit Go.Shelf

/-! ### Parts of frames -/
/-- Where the parts of a frame end. -/
def endsZ (k : Int) (n len : Nat) : List Nat := if k = 1 then [n, len] else if k = 2 then [n * n, len] else [n, n + 1, len]
def stZ (es : List Nat) : Nat → Nat
  | 0 => 0
  | i + 1 => es.getD i 0
def pcZ (es : List Nat) (l : List Int) (i : Nat) : List Int := (l.take (es.getD i 0)).drop (stZ es i)
end Go.Proofs.YtambpjbpdackfaaGreat.A.E



set_option linter.unusedVariables false
set_option linter.unusedSimpArgs false
set_option maxRecDepth 100000
namespace Go.Proofs.YtambpjbpdackfaaGreat.A.E
open Go Go.RowKit Go.Shelf

/-! ### check.Sound -/
def greatZ (x : Int) : Bool := decide (x > 17179869184) || decide (x < -17179869184)
def partZ (k : Int) (n : Nat) (l : List Int) (i : Nat) : List Int := pcZ (endsZ k n l.length) l i
def lowZ (p : List Int) (n : Nat) : Bool := (List.range n).any fun i => decide (p.getD (i * n + i) 0 < 65536)
def soundZ (k q n : Int) (l : List Int) : Int :=
  if rightFr k q n l = false then 1 else if l.any greatZ = true then 3 else if k = 3 then (if (partZ k n.toNat l 1).getD 0 0 < 65536 then 9 else 0) else if lowZ (partZ k n.toNat l 1) n.toNat = true then 9 else 0
end Go.Proofs.YtambpjbpdackfaaGreat.A.E


set_option linter.unusedVariables false
set_option linter.unusedSimpArgs false
set_option maxRecDepth 100000
namespace Go.Proofs.YtambpjbpdackfaaGreat.A.E
open Go Go.RowKit Go.Shelf

def sumF (l : List Fr) : Fr := l.foldl addF (newF 0 1)

/-- A row. -/
def rowF (r c : Int) (l : List Fr) (i : Int) : List Fr := if right r c l.length = true ∧ 0 ≤ i ∧ i < r then (l.take ((i + 1) * c).toNat).drop (i * c).toNat else []

end Go.Proofs.YtambpjbpdackfaaGreat.A.E


set_option linter.unusedVariables false
set_option linter.unusedSimpArgs false
set_option maxRecDepth 100000
namespace Go.Proofs.YtambpjbpdackfaaGreat.A.E
open Go Go.RowKit Go.Shelf

end Go.Proofs.YtambpjbpdackfaaGreat.A.E


set_option linter.unusedVariables false
set_option linter.unusedSimpArgs false
set_option maxRecDepth 100000
namespace Go.Proofs.YtambpjbpdackfaaGreat.A.E
open Go Go.RowKit Go.Shelf

def dotF (a b : List Fr) : Fr := sumF (List.zipWith mulF a b)

end Go.Proofs.YtambpjbpdackfaaGreat.A.E


set_option linter.unusedVariables false
set_option linter.unusedSimpArgs false
set_option maxRecDepth 100000
namespace Go.Proofs.YtambpjbpdackfaaGreat.A.E
open Go Go.RowKit Go.Shelf

section
variable {α β : Type} (f : α → α → β)
end

end Go.Proofs.YtambpjbpdackfaaGreat.A.E


set_option linter.unusedVariables false
set_option linter.unusedSimpArgs false
namespace Go.Proofs.YtambpjbpdackfaaGreat.A.E
open Go Go.RowKit Go.Shelf

end Go.Proofs.YtambpjbpdackfaaGreat.A.E


set_option linter.unusedVariables false
set_option linter.unusedSimpArgs false
set_option maxRecDepth 100000
namespace Go.Proofs.YtambpjbpdackfaaGreat.A
open Go Go.RowKit Go.Shelf

end Go.Proofs.YtambpjbpdackfaaGreat.A


set_option linter.unusedVariables false
set_option linter.unusedSimpArgs false
set_option maxRecDepth 100000
namespace Go.Proofs.YtambpjbpdackfaaGreat.A.E
open Go Go.RowKit Go.Shelf

end Go.Proofs.YtambpjbpdackfaaGreat.A.E


set_option linter.unusedVariables false
set_option linter.unusedSimpArgs false
set_option maxRecDepth 100000
namespace Go.Proofs.YtambpjbpdackfaaGreat.A.E
open Go Go.RowKit Go.Shelf

end Go.Proofs.YtambpjbpdackfaaGreat.A.E


set_option linter.unusedVariables false
set_option linter.unusedSimpArgs false
set_option maxRecDepth 100000
namespace Go.Proofs.YtambpjbpdackfaaGreat.A
open Go Go.RowKit Go.Shelf

/-! ### Functions that hand new rows back -/
theorem frs_cells (l : List Fr) : ∀ e ∈ frs l, e.cells.length = 3 := fun e he => by
  obtain ⟨x, _, rfl⟩ := List.mem_map.1 he
  rfl
theorem tell_row {m : Mem} {b cap q : Nat} {l : List Fr} (hm : m b = some (flat (frs l) ++ List.replicate q .junk)) (hc : (frs l).length ≤ cap) : Tell m (.s (.slice (some ⟨b, 0, none⟩) (frs l).length cap)) (.sl false (frs l)) := by
  refine .row hm (frs_cells l) rfl (by simp) hc (fun h => by cases h) ?_
  rw [List.drop_zero, List.take_left]
  exact Tells.same _ _

end Go.Proofs.YtambpjbpdackfaaGreat.A


set_option linter.unusedVariables false
set_option linter.unusedSimpArgs false
set_option maxRecDepth 100000
namespace Go.Proofs.YtambpjbpdackfaaGreat.A.E
open Go Go.RowKit Go.Shelf

theorem frs_cells (l : List Fr) : ∀ e ∈ frs l, e.cells.length = 4 := fun e he => by
  obtain ⟨x, _, rfl⟩ := List.mem_map.1 he
  rfl
theorem tell_row {m : Mem} {b cap q : Nat} {l : List Fr} (hm : m b = some (flat (frs l) ++ List.replicate q .junk)) (hc : (frs l).length ≤ cap) : Tell m (.s (.slice (some ⟨b, 0, none⟩) (frs l).length cap)) (.sl false (frs l)) := by
  refine .row hm (frs_cells l) rfl (by simp) hc (fun h => by cases h) ?_
  rw [List.drop_zero, List.take_left]
  exact Tells.same _ _

end Go.Proofs.YtambpjbpdackfaaGreat.A.E


set_option linter.unusedVariables false
set_option linter.unusedSimpArgs false
set_option maxRecDepth 100000
namespace Go.Proofs.YtambpjbpdackfaaGreat.A
open Go Go.RowKit Go.Shelf

end Go.Proofs.YtambpjbpdackfaaGreat.A


set_option linter.unusedVariables false
set_option linter.unusedSimpArgs false
set_option maxRecDepth 100000
namespace Go.Proofs.YtambpjbpdackfaaGreat.A.E
open Go Go.RowKit Go.Shelf

end Go.Proofs.YtambpjbpdackfaaGreat.A.E



set_option linter.unusedVariables false
set_option linter.unusedSimpArgs false
set_option maxRecDepth 100000
namespace Go.Proofs.YtambpjbpdackfaaGreat.A
open Go Go.RowKit Go.Shelf

/-! ### Products of two words, compared -/
def sgn2 (a b : Int) : Int := if a = 0 ∨ b = 0 then 0 else if (decide (a < 0) != decide (b < 0)) = true then -1 else 1
def cmpF (a b c d : Int) : Int :=
  if sgn2 a b < sgn2 c d ∨ (sgn2 a b = sgn2 c d ∧ 0 < sgn2 a b ∧ a.natAbs * b.natAbs < c.natAbs * d.natAbs) ∨ (sgn2 a b = sgn2 c d ∧ sgn2 a b < 0 ∧ c.natAbs * d.natAbs < a.natAbs * b.natAbs) then -1
  else if sgn2 c d < sgn2 a b ∨ (a.natAbs * b.natAbs ≠ c.natAbs * d.natAbs ∧ sgn2 a b ≠ 0) then 1 else 0
end Go.Proofs.YtambpjbpdackfaaGreat.A


set_option linter.unusedVariables false
set_option linter.unusedSimpArgs false
set_option maxRecDepth 100000
namespace Go.Proofs.YtambpjbpdackfaaGreat.A
open Go Go.RowKit Go.Shelf

/-! ### Roots of whole numbers, bit by bit -/
def rtB (n K : Nat) : Nat → Nat
  | 0 => 0
  | j + 1 => if (rtB n K j + 2 ^ (K - 1 - j)) * (rtB n K j + 2 ^ (K - 1 - j)) ≤ n then rtB n K j + 2 ^ (K - 1 - j) else rtB n K j

def rootI (n : Int) : Int := if rtB n.toNat 16 16 * rtB n.toNat 16 16 = n.toNat then (rtB n.toNat 16 16 : Int) else -1

def rootF (a : Fr) : Fr := if a.fine = false ∨ a.n < 0 ∨ rootI a.n < 0 ∨ rootI a.d < 0 then .wrong else newF (rootI a.n) (rootI a.d)
def signF (a : Fr) : Int := if a.fine = false then 0 else if a.n = 0 then 0 else if a.n < 0 then -1 else 1
end Go.Proofs.YtambpjbpdackfaaGreat.A



set_option linter.unusedVariables false
set_option linter.unusedSimpArgs false
set_option maxRecDepth 100000
namespace Go.Proofs.YtambpjbpdackfaaGreat.A
open Go Go.RowKit Go.Shelf

/-! ### Roots of products, bit by bit -/
def rtW (p : Nat) : Nat := rtB p 63 63
def upW (p : Nat) (mode : Int) : Bool := decide (rtW p * rtW p ≠ p) && (decide (mode = 2) || (decide (mode = 0) && decide (rtW p * (rtW p + 1) < p)))
def wRootN (p : Nat) (mode : Int) : Nat := if upW p mode = true then rtW p + 1 else rtW p
def wRootOk (a b mode : Int) : Bool := rightW a && (rightW b && (decide (0 ≤ mode ∧ mode ≤ 2) && !((decide (a ≠ 0) && decide (b ≠ 0)) && (decide (a < 0) != decide (b < 0)))))
def wRoot (a b mode : Int) : Int × Bool := if wRootOk a b mode = true then ((wRootN (a.natAbs * b.natAbs) mode : Int), true) else (0, false)
end Go.Proofs.YtambpjbpdackfaaGreat.A



set_option linter.unusedVariables false
set_option linter.unusedSimpArgs false
set_option maxRecDepth 100000
namespace Go.Proofs.YtambpjbpdackfaaGreat.A
open Go Go.RowKit Go.Shelf

/-! ### Roots of rounded numbers -/
def rtX (a mode : Int) : Int × Bool := toldF (wRoot a 16777216 mode).1 (wRoot a 16777216 mode).2 [a]
end Go.Proofs.YtambpjbpdackfaaGreat.A
namespace Go.Proofs.YtambpjbpdackfaaGreat.A.E
open Go Go.RowKit Go.Shelf

/-! ### Roots, signs of enclosed numbers -/
def rootF (a : Fr) : Fr := madeE (fun x _ m => rtX x m) a a [(a.lo, a.lo), (a.hi, a.hi)]
def negF (a : Fr) : Fr := subF (point 0) a
def signF (a : Fr) : Int := if a.bad = true ∨ a.v = 0 then 0 else if a.v < 0 then -1 else 1
end Go.Proofs.YtambpjbpdackfaaGreat.A.E


set_option linter.unusedVariables false
set_option linter.unusedSimpArgs false
namespace Go.Proofs.YtambpjbpdackfaaGreat.A
open Go Go.RowKit Go.Shelf

theorem grid_getD {g : Nat → Nat → Int} {n N i k : Nat} (hi : i < N) (hk : k < n) : (gridP g n N 0).getD (i * n + k) 0 = g i k := by
  rw [List.getD_eq_getElem?_getD, gridP_get g n N i k hi hk, Option.getD_some]
end Go.Proofs.YtambpjbpdackfaaGreat.A


