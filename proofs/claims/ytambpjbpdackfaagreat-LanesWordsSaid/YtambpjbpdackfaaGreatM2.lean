/- Contracts of functions and of iterators; code with what is known of it ('AC'); what it tells ('wpA'). -/
import Derived.Test.YtambpjbpdackfaaGreatM1
import Derived.Shelf.Abstract
import Derived.Orders
set_option linter.unusedVariables false
set_option linter.unusedSimpArgs false
namespace Go.Proofs.YtambpjbpdackfaaGreat.A
open Go Go.RowKit Go.Shelf

/-- Function f of these values tells r; of the memory that was there nothing turns. -/
def Ok (P : Program) (f : FuncId) (args : List PV) (r : PV) : Prop :=
  Enters P f ∧ ∀ (I : Imm) (w : World) (vs : List Value), Good I w → Cs I args vs →
    Calls P f vs.toArray w fun e w' => ∃ v J, e = .returned v ∧ Below w.heap.size w w' ∧ I.le J ∧ Good J w' ∧ (∀ b, b < w.heap.size → J b = I b) ∧ C J r v

/-- Function f of these values, and of this memory that it may write, tells r, and leaves the memory as R says. -/
def OkM (P : Program) (f : FuncId) (args : List PV) (m : Mem) (R : PV → Mem → Prop) : Prop :=
  Enters P f ∧ ∀ (I : Imm) (w : World) (vs : List Value), Good I w → MemAt I m w → Cs I args vs →
    Calls P f vs.toArray w fun e w' => ∃ v J r m', e = .returned v ∧ R r m' ∧ BelowL ⟨w, fun c => (m c).isSome⟩ w' ∧ I.le J ∧ Good J w' ∧ (∀ b, b < w.heap.size → J b = I b) ∧ MemAt J m' w' ∧ (∀ c, c < w.heap.size → m c = none → m' c = none) ∧ C J r v

/-! ### Told again, more closely: of memory as it is now -/
mutual
inductive Tell (m : Mem) : PV → PV → Prop
  | same (x : PV) : Tell m x x
  | row {ex : Bool} {c off n cap sz : Nat} {cells els : List PV} : m c = some cells → (∀ e ∈ els, e.cells.length = sz) → n = els.length → off + (flat els).length ≤ cells.length → n ≤ cap → (ex = true → cap = n) →
      Tells m ((cells.drop off).take (flat els).length) (flat els) → Tell m (.s (.slice (some ⟨c, off, none⟩) n cap)) (.sl ex els)
  | nil {ex : Bool} : Tell m (.s (.slice none 0 0)) (.sl ex [])
  | empty {ex : Bool} {a : Addr} : Tell m (.s (.slice (some a) 0 0)) (.sl ex [])
  | vp {c off : Nat} {cells l : List PV} : m c = some cells → off + l.length ≤ cells.length → Tells m ((cells.drop off).take l.length) l → Tell m (.s (.pointer (some ⟨c, off, none⟩))) (.vp l)
  | vpIn {l l' : List PV} : Tells m l l' → Tell m (.vp l) (.vp l')
  | slIn {ex : Bool} {sz : Nat} {els els' : List PV} : (∀ e ∈ els, e.cells.length = sz) → (∀ e ∈ els', e.cells.length = sz) → els'.length = els.length → Tells m (flat els) (flat els') → Tell m (.sl ex els) (.sl ex els')
  | fn {f : Fn} {l l' : List PV} : Tells m l l' → Tell m (.fn f l) (.fn f l')
  | agg {l l' : List PV} : Tells m l l' → Tell m (.agg l) (.agg l')
  | tup {l l' : List PV} : Tells m l l' → Tell m (.tup l) (.tup l')
inductive Tells (m : Mem) : List PV → List PV → Prop
  | nil : Tells m [] []
  | cons {x y : PV} {xs ys : List PV} : Tell m x y → Tells m xs ys → Tells m (x :: xs) (y :: ys)
end
theorem Tells.length {m : Mem} : ∀ {l l' : List PV}, Tells m l l' → l.length = l'.length
  | _, _, .nil => rfl
  | _, _, .cons _ h => by simp [Tells.length h]
theorem Tells.append {m : Mem} : ∀ {l l' k k' : List PV}, Tells m l l' → Tells m k k' → Tells m (l ++ k) (l' ++ k')
  | _, _, _, _, .nil, h => h
  | _, _, _, _, .cons h1 h2, h => .cons h1 (Tells.append h2 h)

/-- More memory, otherwise the same. -/
def MemLe (m m' : Mem) : Prop := ∀ c x, m c = some x → m' c = some x
theorem MemLe.refl (m : Mem) : MemLe m m := fun _ _ h => h
theorem MemLe.put {m : Mem} {c : Nat} (x : List PV) (h : m c = none) : MemLe m (m.put c x) := fun d y hd => by
  have e : d ≠ c := fun e => by rw [e, h] at hd; cases hd
  rw [Mem.put_other _ _ e]; exact hd
mutual
theorem Tell.mono {m m' : Mem} (h : MemLe m m') : ∀ {x y : PV}, Tell m x y → Tell m' x y
  | _, _, .same x => .same x
  | _, _, .row hm hu hn hl hcap hex ht => .row (h _ _ hm) hu hn hl hcap hex (Tells.mono h ht)
  | _, _, .nil => .nil
  | _, _, .empty => .empty
  | _, _, .vp hm hl ht => .vp (h _ _ hm) hl (Tells.mono h ht)
  | _, _, .vpIn ht => .vpIn (Tells.mono h ht)
  | _, _, .slIn hu hu' hl ht => .slIn hu hu' hl (Tells.mono h ht)
  | _, _, .fn ht => .fn (Tells.mono h ht)
  | _, _, .agg ht => .agg (Tells.mono h ht)
  | _, _, .tup ht => .tup (Tells.mono h ht)
theorem Tells.mono {m m' : Mem} (h : MemLe m m') : ∀ {x y : List PV}, Tells m x y → Tells m' x y
  | _, _, .nil => .nil
  | _, _, .cons h1 h2 => .cons (Tell.mono h h1) (Tells.mono h h2)
end
theorem Tells.same (m : Mem) : ∀ (l : List PV), Tells m l l
  | [] => .nil
  | x :: l => .cons (.same x) (Tells.same m l)

/-- What is known, if that memory is not written. -/
def memI (I : Imm) (m : Mem) (w : World) : Imm := fun b => match m b with
  | some _ => (match w.heap[b]? with | some (.cells cs _ _) => some cs.toList | _ => none)
  | none => I b

theorem memI_le {I : Imm} {m : Mem} {w : World} (h : MemAt I m w) : I.le (memI I m w) := fun b arr hb => by
  unfold memI
  cases hm : m b with
  | none => exact ⟨[], by simpa using hb⟩
  | some x => have := (h b x hm).1; rw [hb] at this; cases this
theorem memI_good {I : Imm} {m : Mem} {w : World} (hg : Good I w) (h : MemAt I m w) : Good (memI I m w) w := fun b arr hb => by
  unfold memI at hb
  cases hm : m b with
  | none => rw [hm] at hb; exact hg b arr hb
  | some x =>
    rw [hm] at hb
    obtain ⟨_, cs, ty, hw, _⟩ := h b x hm
    simp only [hw, Option.some.injEq] at hb
    subst hb
    exact ⟨cs, ty, (0, 0), [], hw, by simp⟩
theorem memI_at {I : Imm} {m : Mem} {w : World} (h : MemAt I m w) {c : Nat} {cells : List PV} (hc : m c = some cells) : ∃ arr, memI I m w c = some arr ∧ Cs (memI I m w) cells arr := by
  obtain ⟨_, cs, ty, hw, hC⟩ := h c cells hc
  refine ⟨cs.toList, by simp [memI, hc, hw], hC.mono (memI_le h)⟩

mutual
theorem Tell.sound {I : Imm} {m : Mem} {w : World} (h : MemAt I m w) : ∀ {x y : PV} {v : Value}, Tell m x y → C (memI I m w) x v → C (memI I m w) y v
  | _, _, _, .same x, hC => hC
  | _, _, _, .row hm hu hn hl hcap hex ht, hC => by
    cases hC
    obtain ⟨arr, ha, hcs⟩ := memI_at h hm
    have hlen := hcs.length
    refine .sl ha hu hn ?_ (by omega) hcap hex
    exact Tells.sound h ht ((hcs.drop _).take _)
  | _, _, _, .nil, hC => by cases hC; exact .sl0
  | _, _, _, .empty, hC => by cases hC; exact .sle
  | _, _, _, .vp hm hl ht, hC => by
    cases hC
    obtain ⟨arr, ha, hcs⟩ := memI_at h hm
    have hlen := hcs.length
    exact .vp ha (Tells.sound h ht ((hcs.drop _).take _)) (by omega)
  | _, _, _, .vpIn ht, hC => by
    cases hC with
    | vp ha hc hl =>
      have e := Tells.length ht
      exact .vp ha (by rw [e] at hc; exact Tells.sound h ht hc) (by omega)
  | _, _, _, .slIn (els := els) hu hu' hlen ht, hC => by
    have e := Tells.length ht
    cases hC with
    | sl0 => have : _ = [] := List.eq_nil_of_length_eq_zero hlen; subst this; exact .sl0
    | sle => have : _ = [] := List.eq_nil_of_length_eq_zero hlen; subst this; exact .sle
    | sl ha huu hn hc hl hcap hex => exact .sl ha hu' (by omega) (by rw [e] at hc; exact Tells.sound h ht hc) (by omega) hcap hex
  | _, _, _, .fn ht, hC => by cases hC with | fn hC => exact .fn (Tells.sound h ht hC)
  | _, _, _, .agg ht, hC => by cases hC with | agg hC => exact .agg (Tells.sound h ht hC)
  | _, _, _, .tup ht, hC => by cases hC with | tup hC => exact .tup (Tells.sound h ht hC)
theorem Tells.sound {I : Imm} {m : Mem} {w : World} (h : MemAt I m w) : ∀ {xs ys : List PV} {vs : List Value}, Tells m xs ys → Cs (memI I m w) xs vs → Cs (memI I m w) ys vs
  | _, _, _, .nil, hC => hC
  | _, _, _, .cons ht hts, hC => by cases hC with | cons h1 h2 => exact .cons (Tell.sound h ht h1) (Tells.sound h hts h2)
end
mutual
/-- Does it read alike whatever is known? -/
def RF : PV → Bool
  | .s _ => true
  | .junk => true
  | .agg l => RFs l
  | .tup l => RFs l
  | .ifc _ x => RF x
  | .fn _ l => RFs l
  | _ => false
def RFs : List PV → Bool
  | [] => true
  | x :: l => RF x && RFs l
end
mutual
theorem RF.any {I J : Imm} : ∀ {x : PV} {v : Value}, RF x = true → C I x v → C J x v
  | _, _, _, .s v => .s v
  | _, _, _, .junk v => .junk v
  | _, _, h, .agg hC => .agg (RFs.any (by simpa [RF] using h) hC)
  | _, _, h, .tup hC => .tup (RFs.any (by simpa [RF] using h) hC)
  | _, _, h, .fn hC => .fn (RFs.any (by simpa [RF] using h) hC)
  | _, _, h, .ifc hC => .ifc (RF.any (by simpa [RF] using h) hC)
  | _, _, h, .sl .. => by simp [RF] at h
  | _, _, h, .sl0 => by simp [RF] at h
  | _, _, h, .sle => by simp [RF] at h
  | _, _, h, .vp .. => by simp [RF] at h
theorem RFs.any {I J : Imm} : ∀ {xs : List PV} {vs : List Value}, RFs xs = true → Cs I xs vs → Cs J xs vs
  | _, _, _, .nil => .nil
  | _, _, h, .cons h1 h2 => by
    simp only [RFs, Bool.and_eq_true] at h
    exact .cons (RF.any h.1 h1) (RFs.any h.2 h2)
end
/-- Memory, and more of it. -/
def Mem.join (a b : Mem) : Mem := fun c => match b c with | some x => some x | none => a c
theorem Mem.join_put (a : Mem) (c : Nat) (x : List PV) : a.join (nomem.put c x) = a.put c x := by
  funext b
  unfold Mem.join Mem.put nomem
  by_cases h : b = c <;> simp [h]
theorem Mem.join_none (a : Mem) : a.join nomem = a := rfl

/-- The method of that name of type t is function f, of the value. -/
def Meth (P : Program) (t : TypeId) (name : String) (f : FuncId) : Prop :=
  ∀ (v : Value) (args : Array Value) (w : World), (callMethod (.iface t v) name args).run P w = .ok (.enter f (#[v] ++ args)) w

/-- What abides new blocks. -/
def Abiding (J : Nat → Imm → World → Prop) : Prop :=
  ∀ i I₁ W₁ I₂ W₂, J i I₁ W₁ → Below W₁.heap.size W₁ W₂ → I₁.le I₂ → (∀ b, b < W₁.heap.size → I₂ b = I₁ b) → Good I₂ W₂ → J i I₂ W₂

/-- What an iterator hands over in one round: values, and memory that is the round's own then. -/
abbrev Item := List PV → Mem → Prop
def exact1 (x : List PV) : Item := fun p m => p = x ∧ m = nomem

/-- What a round says to the iterator: on, or no more. -/
def RoundOk (P : Program) (l : Nat) (J : Nat → Imm → World → Prop) (items : List Item) : Prop :=
  ∀ i x args m I₀ W₀ I₁ W₁ vs, items[i]? = some x → x args m → J i I₀ W₀ → Below W₀.heap.size W₀ W₁ → I₀.le I₁ → (∀ b, b < W₀.heap.size → I₁ b = I₀ b) → Good I₁ W₁ → MemAt I₁ m W₁ → (∀ c cells, m c = some cells → W₀.heap.size ≤ c) → Cs I₁ args vs →
    YieldAt Fence.wide 0 P l vs.toArray W₁ fun e W₂ => ∃ I₂, I₁.le I₂ ∧ Good I₂ W₂ ∧ ((e = .returned (.bool true) ∧ J (i + 1) I₂ W₂) ∨ (e = .returned (.bool false) ∧ J (items.length + 1) I₂ W₂))

/-- The iterator f hands over these items, one by one, till a round says 'no more'. -/
def IterOkM (P : Program) (f : PV) (items : List Item) : Prop :=
  ∃ k caps, f = .fn (.func k) caps ∧ Enters P k ∧ ∀ (I : Imm) (w : World) (cs : List Value), Good I w → Cs I caps cs →
    ∀ (l : Nat) (J : Nat → Imm → World → Prop), Abiding J → RoundOk P l J items → J 0 I w →
      Calls P k (#[.func (.yield l) #[] #[]] ++ cs.toArray) w fun e W' => (∃ v, e = .returned v) ∧ ∃ I' i, I.le I' ∧ Good I' W' ∧ J i I' W' ∧ (i = items.length ∨ i = items.length + 1)
def IterOk (P : Program) (f : PV) (items : List (List PV)) : Prop := IterOkM P f (items.map exact1)

/-- An operation, and what is known of it. -/
structure AO where
  dst : Option Nat
  op : Op
  guard : Option (Nat × Bool)
  pre : List Nat
  inf : Inf

/-- What is said of a state that no operation does. -/
inductive Gh where
  | freeze (b : Nat)
  | shut (b : Nat)
  | junk (l : List Nat)
  | drop (l : List Nat)
  | forget (t : Nat)
  | row (b off t : Nat)

inductive XA where
  | normal
  | exit (id : Nat)
  | ret

inductive AC where
  | skip
  | reg (draw y : Bool) (ops : List AO)
  | seq (x y : AC)
  | cond (c : Operand) (x y : AC)
  | block (id : Nat) (x : AC)
  | loop (g : List Gh) (x : AC)
  | rf (f : Operand) (ps : List Nat) (g : List Gh) (assign body : AC)
  | exit (id : Nat)
  | ret
  | gh (g : List Gh) (x : AC)
  | dead
  | regd (pa : List (Nat × Nat)) (ops : List AO)
  | regn (ord : List Nat) (ops : List AO)
  | regi (ops : List AO)

def junkAll : List Nat → List TV → List TV
  | [], l => l
  | d :: ds, l => junkAll ds (l.set d (.v .junk))

def rmAll {β : Type} : List Nat → List (Nat × β) → List (Nat × β)
  | [], l => l
  | d :: ds, l => rmAll ds (rm d l)

def gh1 : Gh → St → Option St
  | .freeze b, s => match lk b s.bx with
    | some cells => (tovs cells).map fun cs => ({ s with bx := upd b (cs.map .v) s.bx } : St).freeze b cs
    | none => if (lk b s.ro).isSome = true then some s else none
  | .shut b, s => match lk b s.bx with
    | some cells => match tovs cells with
      | some cs => if cs.all PV.one = true then some (({ s with bx := upd b (cs.map .v) s.bx } : St).shut b cs) else none
      | none => none
    | none => none
  | .junk l, s => some { s with tm := junkAll l s.tm }
  | .drop l, s => some { s with bx := rmAll l s.bx, ro := rmAll l s.ro }
  | .forget t, s => some (s.newTok t)
  | .row b off t, s => match lk b (s.newTok t).bx with
    | some cells => match cells[off]? with
      | some (.v (.s (.slice none 0 0))) => some { s.newTok t with bx := upd b (cells.set off (.acc t [])) (s.newTok t).bx }
      | _ => some s
    | none => some s

def ghs : List Gh → St → Option St
  | [], s => some s
  | g :: l, s => (gh1 g s).bind (ghs l)

/-- A call of a function of the program's. -/
def callA (P : Program) (its : Option (Nat × List Item)) (s : St) (dst : Option Nat) (c : Call) (K : St → Prop) : Prop :=
  match c.callee with
  | .builtin _ => False
  | .value f => match ev s f, pvs s c.args.toList with
    | some (.v (.fn (.func k) caps)), some ps => ∃ r, Ok P k (ps ++ caps) r ∧ K (putT s dst (.v r))
    | some (.v (.fn (.yield l') [])), some ps => match its with
      | some (l, xs) => l' = l ∧ s.bx = [] ∧ s.tk = [] ∧ (∃ x, xs[s.it]? = some x ∧ x ps s.mm) ∧ K { putT s dst (bl true) with it := s.it + 1, mm := nomem } ∧ K { putT s dst (bl false) with it := xs.length + 1, mm := nomem }
      | none => False
    | _, _ => False
  | .invoke r name => match ev s r, pvs s c.args.toList with
    | some (.v (.ifc t x)), some ps => ∃ f r, Meth P t name f ∧ Ok P f (x :: ps) r ∧ K (putT s dst (.v r))
    | _, _ => False

/-! ### What is done with memory that is known, and may be written -/
/-- A call to which memory is lent, but not to be written. -/
def lendA (P : Program) (s : St) (dst : Option Nat) (c : Call) (K : St → Prop) : Prop :=
  match c.callee with
  | .value f => match ev s f, pvs s c.args.toList with
    | some (.v (.fn (.func k) caps)), some ps => ∃ l r, Tells s.mm (ps ++ caps) l ∧ Ok P k l r ∧ RF r = true ∧ K (putT s dst (.v r))
    | _, _ => False
  | _ => False
/-- The same, of a function that hands new memory back. -/
def lendNewA (P : Program) (s : St) (dst : Option Nat) (c : Call) (K : St → Prop) : Prop :=
  match c.callee with
  | .value f => match ev s f, pvs s c.args.toList with
    | some (.v (.fn (.func k) caps)), some ps => ∃ l R, Tells s.mm (ps ++ caps) l ∧ OkM P k l nomem R ∧ (∀ r m', R r m' → RF r = true ∧ ∀ c cells, m' c = some cells → RFs cells = true) ∧
        ∀ r m', R r m' → (∀ c, (m' c).isSome = true → s.mm c = none) → K { putT s dst (.v r) with mm := s.mm.join m' }
    | _, _ => False
  | _ => False
/-- A call to which memory is handed over, to be written. -/
def memA (P : Program) (s : St) (dst : Option Nat) (c : Call) (K : St → Prop) : Prop :=
  match c.callee with
  | .value f => match ev s f, pvs s c.args.toList with
    | some (.v (.fn (.func k) caps)), some ps => ∃ R, OkM P k (ps ++ caps) s.mm R ∧ ∀ r m', R r m' → K { putT s dst (.v r) with mm := m' }
    | _, _ => False
  | _ => False
/-- New memory. -/
def newA (s : St) (dst : Option Nat) (op : Op) (i : Inf) (K : St → Prop) : Prop :=
  match op with
  | .alloc _ => ∀ c, s.mm c = none → K { putT s dst (.v (.s (.pointer (some ⟨c, 0, none⟩)))) with mm := s.mm.put c (i.zero.map .s) }
  | .box _ x => match pv s x with
    | some p => p.ok = true ∧ ∀ c, s.mm c = none → K { putT s dst (.v (.s (.pointer (some ⟨c, 0, none⟩)))) with mm := s.mm.put c p.cells }
    | none => False
  | .makeSlice _ l c => match ev s l, ev s c with
    | some (.v (.s (.int _ n))), some (.v (.s (.int _ m))) => n = m ∧ 0 ≤ n ∧ n * i.t ≤ 140737488355328 ∧ n * i.n ≤ 16777216 ∧
        ∀ c, s.mm c = none → K { putT s dst (.v (.s (.slice (some ⟨c, 0, none⟩) n.toNat n.toNat))) with mm := s.mm.put c (List.replicate n.toNat (i.zero.map PV.s)).flatten }
    | _, _ => False
  | _ => False
/-- Something is appended that is told closely first. -/
def appMA (s : St) (dst : Option Nat) (c : Call) (i : Inf) (K : St → Prop) : Prop :=
  match c.callee, c.args.toList, dst with
  | .builtin .append, [x, y], some d => match ev s x, pv s y with
    | some p, some q => ∃ ys s', Tell s.mm q (.sl false ys) ∧ RFs (flat ys) = true ∧ appA s d i p ys = some s' ∧ K s'
    | _, _ => False
  | _, _, _ => False
/-- A row is copied over another one. -/
def copyA (s : St) (dst : Option Nat) (c : Call) (i : Inf) (K : St → Prop) : Prop :=
  match c.callee, c.args.toList with
  | .builtin .copy, [x, y] => match pv s x, pv s y with
    | some (.s (.slice (some ⟨b, off, none⟩) n _)), some q => ∃ ys cells, Tell s.mm q (.sl false ys) ∧ RFs (flat ys) = true ∧ s.mm b = some cells ∧ ys.all (fun e => e.ok && e.cells.length == i.n) = true ∧ ys.length ≤ n ∧ off + (flat ys).length ≤ cells.length ∧
        K { putT s dst (.v (.s (.int .i64 (ys.length : Nat)))) with mm := s.mm.put b (cells.take off ++ flat ys ++ cells.drop (off + (flat ys).length)) }
    | _, _ => False
  | _, _ => False

/-- Something is appended to a row that has room. -/
def appInA (s : St) (dst : Option Nat) (c : Call) (i : Inf) (K : St → Prop) : Prop :=
  match c.callee, c.args.toList with
  | .builtin .append, [x, y] => match pv s x, pv s y with
    | some (.s (.slice (some ⟨b, off, none⟩) n cap)), some q => ∃ ys cells, Tell s.mm q (.sl false ys) ∧ RFs (flat ys) = true ∧ s.mm b = some cells ∧ ys.all (fun e => e.ok && e.cells.length == i.n) = true ∧ n + ys.length ≤ cap ∧ off + n * i.n + (flat ys).length ≤ cells.length ∧
        K { putT s dst (.v (.s (.slice (some ⟨b, off, none⟩) (n + ys.length) cap))) with mm := s.mm.put b (cells.take (off + n * i.n) ++ flat ys ++ cells.drop (off + n * i.n + (flat ys).length)) }
    | _, _ => False
  | _, _ => False
/-- Something is appended to a row that has no room: new memory. -/
def growA (s : St) (dst : Option Nat) (c : Call) (i : Inf) (K : St → Prop) : Prop :=
  match c.callee, c.args.toList with
  | .builtin .append, [x, y] => match pv s x, pv s y with
    | some p, some q => ∃ els ys, Tell s.mm p (.sl true els) ∧ Tell s.mm q (.sl false ys) ∧ RFs (flat els) = true ∧ RFs (flat ys) = true ∧ fits i.n i.t els ys = true ∧ (ys = [] → K (putT s dst (.v p))) ∧
        (ys ≠ [] → ∀ c cap k, s.mm c = none → els.length + ys.length ≤ cap → (flat (els ++ ys)).length + k = cap * i.n → K { putT s dst (.v (.s (.slice (some ⟨c, 0, none⟩) (els.length + ys.length) cap))) with mm := s.mm.put c (flat (els ++ ys) ++ List.replicate k .junk) })
    | _, _ => False
  | _, _ => False

/-- A row of its own, of these elements, with what its array can take. -/
def RowA (els : List PV) (r : PV) (m : Mem) : Prop :=
  ∃ c cap k sz, els ≠ [] ∧ els.length ≤ cap ∧ (∀ e ∈ els, e.cells.length = sz) ∧ (flat els).length + k = cap * sz ∧ r = .s (.slice (some ⟨c, 0, none⟩) els.length cap) ∧ m = nomem.put c (flat els ++ List.replicate k .junk)
abbrev OkA (P : Program) (f : FuncId) (args els : List PV) : Prop := OkM P f args nomem (RowA els)
/-- A call of a function that hands a new row back, to which something will be appended. -/
def lendAccA (P : Program) (s : St) (dst : Option Nat) (c : Call) (K : St → Prop) : Prop :=
  match c.callee, dst with
  | .value f, some d => match ev s f, pvs s c.args.toList with
    | some (.v (.fn (.func k) caps)), some ps => ∃ l els, Tells s.mm (ps ++ caps) l ∧ OkA P k l els ∧ RFs (flat els) = true ∧ K (putT { s.newTok d with tk := upd d els.length (s.newTok d).tk } (some d) (.acc d els))
    | _, _ => False
  | _, _ => False

def execM (P : Program) (s : St) (o : AO) (K : St → Prop) : Prop :=
  match o.inf.mc, o.op with
  | 1, .call c => lendA P s o.dst c K
  | 2, .call c => memA P s o.dst c K
  | 3, op => newA s o.dst op o.inf K
  | 4, .call c => appMA s o.dst c o.inf K
  | 5, .call c => copyA s o.dst c o.inf K
  | 6, .call c => lendNewA P s o.dst c K
  | 7, .call c => appInA s o.dst c o.inf K
  | 8, .call c => growA s o.dst c o.inf K
  | 9, .call c => lendAccA P s o.dst c K ∨ lendA P s o.dst c K
  | _, _ => False

/-- Is a slice asked whether it is nil? Of a slice without elements that is not known: both answers are followed. -/
def nilTest (o : AO) : Option Operand :=
  match o.op with
  | .binOp .eql _ x (.const (.slice none 0 0)) _ => if o.inf.t = 1 ∧ o.inf.n = 3 then some x else none
  | _ => none

def nilA (s : St) (d : Option Nat) (x : Operand) (K : St → Prop) : Prop :=
  match ev s x with
  | some (.v (.sl _ els)) => ∀ b : Bool, (els.isEmpty = false → b = false) → K (putT s d (bl b))
  | some (.v (.s (.slice none 0 0))) => K (putT s d (bl true))
  | some (.acc _ els) => K (putT s d (bl els.isEmpty))
  | _ => False

def execB (P : Program) (its : Option (Nat × List Item)) (s : St) (o : AO) (K : St → Prop) : Prop :=
  match o.op with
  | .call c => match c.callee with
    | .builtin _ => ∃ s', stepA s o.dst o.op o.inf = some s' ∧ K s'
    | _ => callA P its s o.dst c K
  | _ => ∃ s', stepA s o.dst o.op o.inf = some s' ∧ K s'

def execA (P : Program) (its : Option (Nat × List Item)) (s : St) (o : AO) (K : St → Prop) : Prop :=
  match o.inf.mc with
  | 0 => match nilTest o with
    | some x => nilA s o.dst x K
    | none => execB P its s o K
  | _ + 1 => execM P s o K

def wpOp (P : Program) (its : Option (Nat × List Item)) (all : List AO) (o : AO) (s : St) (K : St → Prop) : Prop :=
  match o.guard with
  | none => execA P its s o K
  | some (j, want) => match ((all[j]?).bind (·.dst)).bind (s.tm[·]?) with
    | some (.v (.s (.bool b))) => if b = want then execA P its s o K else K (putT s o.dst (.v (.tup [])))
    | some (.v (.tup [])) => K (putT s o.dst (.v (.tup [])))
    | _ => False

def wpOpsA (P : Program) (its : Option (Nat × List Item)) (all : List AO) : List AO → St → (St → Prop) → Prop
  | [], s, K => K s
  | o :: os, s, K => wpOp P its all o s fun s' => wpOpsA P its all os s' K

/-! ### Regions that draw their order, and make variables -/
/-- Nothing told names variable d, or the rows ts. -/
def TV.freeB (d : Nat) (ts : List Nat) : TV → Bool
  | .v _ => true
  | .ptr b _ => b != d
  | .own b _ => b != d
  | .acc t _ => !ts.contains t

def St.freeB (p : Nat × List Nat) (s : St) : Bool :=
  (lk p.1 s.bx).isNone && s.tm.all (TV.freeB p.1 p.2) && s.bx.all (fun q => q.2.all (TV.freeB p.1 p.2)) && s.sv.all (fun l => l.all (TV.freeB p.1 p.2))

/-- A new variable that an operation makes, with the rows in it. -/
def allocD (o : AO) : Option (Nat × List Nat) := match o.op, o.dst, o.guard, o.inf.mc with
  | .alloc _, some d, none, 0 => some (d, o.inf.acc.map (·.2))
  | _, _, _, _ => none

def dsL : List AO → List (Nat × List Nat)
  | [] => []
  | o :: os => match allocD o with
    | some p => p :: dsL os
    | none => dsL os

def freeAll : List (Nat × List Nat) → St → Bool
  | [], _ => true
  | p :: ps, s => s.freeB p && freeAll ps s

/-- Slots that do not point to one variable. -/
def paOk : List (Nat × Nat) → St → Bool
  | [], _ => true
  | p :: ps, s => (match s.tm[p.1]?, s.tm[p.2]? with
    | _, some (.v (.s (.pointer _))) => false
    | some (.ptr b _), some (.ptr b' _) => b != b'
    | _, _ => true) && paOk ps s

/-- Is a slot spoken of? -/
def inPa (d : Nat) : List (Nat × Nat) → Bool
  | [] => false
  | p :: ps => p.1 == d || p.2 == d || inPa d ps
/-- The slots that are spoken of, and that these operations write. -/
def nsC (pa : List (Nat × Nat)) : Option Nat → List Nat → List Nat
  | some d, l => if inPa d pa = true then d :: l else l
  | none, l => l
def nsL (pa : List (Nat × Nat)) : List AO → List Nat
  | [] => []
  | o :: os => nsC pa o.dst (nsL pa os)
def nptr (s : St) (d : Nat) : Bool := match s.tm[d]? with
  | some (.ptr _ _) => false
  | some (.v (.s (.pointer _))) => false
  | _ => true
def nonPs : List Nat → St → Bool
  | [], _ => true
  | d :: ds, s => nptr s d && nonPs ds s

def wpOpsC (P : Program) (pa : List (Nat × Nat)) (all : List AO) : List AO → St → (St → Prop) → Prop
  | [], s, K => K s
  | o :: os, s, K => wpOp P none all o s fun s' => (freeAll (dsL os) s' && (paOk pa s' && nonPs (nsL pa os) s')) = true ∧ wpOpsC P pa all os s' K

def setPs : List Nat → List PV → List TV → List TV
  | p :: ps, x :: xs, tm => setPs ps xs (tm.set p (.v x))
  | _, _, tm => tm

/-- The state as a round begins. -/
def enterR (ps : List Nat) (x : List PV) (s : St) : St := { s with tm := setPs ps x (s.sv.headD []) }
/-- The state as the loop is left. -/
def leaveR (s : St) : St := { s with tm := s.sv.headD [], sv := s.sv.tail }
/-- The state between two rounds. -/
def betw (s : St) : St := { s with tm := [] }

def Rounds (g : List Gh) (ps : List Nat) (run : (XA → St → Prop) → St → Prop) (Q : XA → St → Prop) : List Item → St → Prop
  | [], s => Q .normal (leaveR s)
  | x :: xs, s => ∀ p m, x p m → (∀ c, (m c).isSome = true → s.mm c = none) → p.length = ps.length ∧ run (fun e s' => match e with
      | .normal => ∃ s1, ghs g (betw s') = some s1 ∧ Rounds g ps run Q xs s1
      | .ret => Q .ret (leaveR s')
      | .exit id => Q (.exit id) (leaveR s')) (enterR ps p { s with mm := s.mm.join m })

def wpA (P : Program) (its : Option (Nat × List Item)) : AC → (XA → St → Prop) → St → Prop
  | .skip, Q, s => Q .normal s
  | .reg d y ops, Q, s => wpOpsA P (if d = true ∧ y = false then none else its) ops ops s (Q .normal)
  | .seq x y, Q, s => wpA P its x (fun e s' => match e with | .normal => wpA P its y Q s' | .ret => Q .ret s' | .exit id => Q (.exit id) s') s
  | .cond c x y, Q, s => match ev s c with
    | some (.v (.s (.bool b))) => if b = true then wpA P its x Q s else wpA P its y Q s
    | _ => False
  | .block id x, Q, s => wpA P its x (fun e s' => match e with | .exit j => if j = id then Q .normal s' else Q (.exit j) s' | .normal => Q .normal s' | .ret => Q .ret s') s
  | .loop g x, Q, s => ∃ (Inv : Nat → St → Prop) (m : Nat) (s0 : St), ghs g s = some s0 ∧ Inv m s0 ∧ ∀ m s, Inv m s →
      wpA P its x (fun e s' => match e with | .normal => ∃ s1 m', ghs g s' = some s1 ∧ m' < m ∧ Inv m' s1 | .ret => Q .ret s' | .exit id => Q (.exit id) s') s
  | .rf f ps g assign body, Q, s => ∃ items p s1, its = none ∧ ev s f = some (.v p) ∧ IterOkM P p items ∧ ghs g (betw { s with sv := s.tm :: s.sv }) = some s1 ∧
      Rounds g ps (fun Q' s' => wpA P none assign (fun e s2 => match e with | .normal => wpA P none body Q' s2 | _ => False) s') Q items s1
  | .exit id, Q, s => Q (.exit id) s
  | .ret, Q, s => Q .ret s
  | .dead, _, _ => False
  | .regd pa ops, Q, s => (freeAll (dsL ops) s && (paOk pa s && nonPs (nsL pa ops) s)) = true ∧ wpOpsC P pa ops ops s (Q .normal)
  | .regn ord ops, Q, s => wpOpsA P none ops (ord.filterMap (ops[·]?)) s (Q .normal)
  | .regi ops, Q, s => ∃ Inv : (Nat → Bool) → St → Prop, Inv (fun _ => false) s ∧ (∀ (D : Nat → Bool) (i : Nat) (o : AO) (s : St), ops[i]? = some o → D i = false → (∀ j ∈ o.pre, D j = true) → Inv D s → wpOp P none ops o s (Inv fun j => D j || j == i)) ∧
      ∀ (D : Nat → Bool) (s : St), (∀ j, j < ops.length → D j = true) → Inv D s → Q .normal s
  | .gh g x, Q, s => ∃ s1, ghs g s = some s1 ∧ wpA P its x Q s1

end Go.Proofs.YtambpjbpdackfaaGreat.A


/- One operation of a region: what is told, the model does. -/
set_option linter.unusedVariables false
set_option linter.unusedSimpArgs false
namespace Go.Proofs.YtambpjbpdackfaaGreat.A
open Go Go.RowKit Go.Shelf

/-- Every function may run; ro: the round that is walked. -/
def wideR (ro : Option Nat) : Fence := { Fence.wide with round := ro }

/-- What the told state is measured against: as the call began; in an iterator: as the last round left it. -/
def Base (its : Option (Nat × List Item)) (w00 : Bs) (I00 : Imm) (J : Nat → Imm → World → Prop) (it : Nat) (w0 : Bs) (I0 : Imm) : Prop :=
  match its with
  | none => w0 = w00 ∧ I0 = I00
  | some _ => (∀ k, w0.ln k = false) ∧ J it I0 w0.w ∧ I00.le I0

def Ctx (P : Program) (its : Option (Nat × List Item)) (J : Nat → Imm → World → Prop) : Prop :=
  ∀ l xs, its = some (l, xs) → Abiding J ∧ RoundOk P l J xs

section
variable {P : Program} {its : Option (Nat × List Item)} {w00 : Bs} {I00 : Imm} {Jt : Nat → Imm → World → Prop} {ro : Option Nat}
variable {w0 : Bs} {w w' : World} {I0 I J : Imm} {β : Nat → Nat} {κ : Nat → Nat × Nat × Nat} {s s' : St} {sav : List (Array Value)} {a : Act}

/-- The model's state reads as s, measured against something that Base lets in. -/
def Sat (its : Option (Nat × List Item)) (B : Nat → Bs → Imm → Prop) (I : Imm) (s : St) (sav : List (Array Value)) (a : Act) (w : World) : Prop :=
  (its.isSome = true → a.defers = []) ∧ ∃ w0 I0 β κ, B s.it w0 I0 ∧ Sim w0 I0 I β κ s sav a w

theorem put_defers (a : Act) (d : Option Nat) (v : Value) : (a.put d v).defers = a.defers := by cases d <;> rfl

/-- How a told step goes on. -/
def Next1 (its : Option (Nat × List Item)) (B : Nat → Bs → Imm → Prop) (I : Imm) (sav : List (Array Value)) (w : World) (next : Act → World → Prop) (K : St → Prop) : Prop :=
  ∀ s' a' w' J, I.le J → (its = none → KeepsOthers w w') → Sat its B J s' sav a' w' → K s' → next a' w'

theorem KeepsOthers.ofBelow (h : Below w.heap.size w w') : KeepsOthers w w' :=
  ⟨h.size, fun k o hk _ => (h.block k (Array.getElem?_eq_some_iff.1 hk).1).trans hk⟩

theorem stepA_it {dst : Option Nat} {op : Op} {i : Inf} (h : stepA s dst op i = some s') : s'.it = s.it := by
  have hput : ∀ (s : St) (t : TV), (putT s dst t).it = s.it := fun s t => by cases dst <;> rfl
  have hnt : ∀ l (s : St), (newToks l s).it = s.it := fun l => by
    induction l with
    | nil => exact fun _ => rfl
    | cons p l ih => exact fun s => (ih _).trans rfl
  have hval : ∀ {op : Op}, (valA s op i).map (putT s dst) = some s' → s'.it = s.it := fun h => by
    obtain ⟨t, _, rfl⟩ := Option.map_eq_some_iff.1 h
    exact hput s t
  unfold stepA at h
  split at h
  · split at h
    · split at h
      · cases h; simp [putT, St.newBox, St.mapTV, hnt]
      · cases h
    · cases h
  · split at h
    · split at h
      · obtain ⟨cs, _, rfl⟩ := Option.map_eq_some_iff.1 h
        simp [putT, St.newBox, St.mapTV]
      · cases h
    · cases h
  · split at h
    · split at h
      · cases h
      · split at h
        · split at h
          · cases h; exact hput _ _
          · cases h
        · split at h
          · cases h; simp [putT, St.newBox, St.mapTV]
          · cases h
    · cases h
  · split at h
    · obtain ⟨s1, h1, rfl⟩ := Option.map_eq_some_iff.1 h
      rw [hput]
      unfold storeA at h1
      split at h1
      · split at h1
        · split at h1
          · cases h1; rfl
          · cases h1
        · cases h1
      · split at h1
        · obtain ⟨_, _, rfl⟩ := Option.map_eq_some_iff.1 h1; rfl
        · cases h1
      · cases h1
    · cases h
  · split at h
    · split at h
      · cases h; exact hput _ _
      · cases h
    · cases h
  · split at h
    · split at h
      · unfold appA at h
        split at h
        · split at h
          · cases h; rfl
          · cases h
        · split at h
          · cases h
          · split at h
            · cases h; rfl
            · cases h
        · split at h
          · split at h
            · cases h; rfl
            · split at h
              · cases h
              · cases h; rfl
          · cases h
        · cases h
      · cases h
    · exact hval h
  · split at h
    · exact hval h
    · cases h; exact hput _ _
  · exact hval h

theorem wpIn_run {o : Oper} {next : Act → World → Prop} {Q : Exit → Act → World → Prop} (hd : ∀ c, o.op ≠ .defer c) (h : o.uponIn (wideR ro) 0 P a next Q ((execOp a.eval o).run P w)) : o.wpIn (wideR ro) 0 P a w next Q := by
  refine ⟨fun _ _ => trivial, ?_⟩
  rw [Oper.semAt_eq _ _ _ hd]
  exact h

theorem upon_calls {o : Oper} {next : Act → World → Prop} {Q : Exit → Act → World → Prop} {f : FuncId} {args : Array Value} {R : Ending → World → Prop} (hc : Calls P f args w R) (hR : ∀ e w', R e w' → ∃ v, e = .returned v ∧ next (a.put o.dst v) w') :
    o.uponIn (wideR ro) 0 P a next Q (.ok (.enter f args) w) := by
  refine ⟨fun h => by simp [wideR, Fence.wide] at h, ?_⟩
  have h1 : CallsIn (wideR ro) (0 - 1) P f args w R := by
    have := (callsIn_wide (n := 0 - 1)).2 hc
    cases ro with
    | none => exact this
    | some l => exact CallsIn.inRound l this
  refine h1.mono ?_
  intro e w' hr
  obtain ⟨v, rfl, hn⟩ := hR e w' hr
  exact hn

theorem round_ro {l : Nat} {f : FuncId} {tmps : Array Value} {assign body : Code} {R : Ending → World → Prop} (h : RoundIn Fence.wide 0 P l f tmps assign body w R) : RoundIn (wideR ro) (0 - 1) P l f tmps assign body w R := by
  cases ro with
  | none => exact h
  | some l => exact h

theorem sound_step {o : Oper} {ao : AO} {next : Act → World → Prop} {Q : Exit → Act → World → Prop} {K : St → Prop} (hop : ao.op = o.op) (hdst : ao.dst = o.dst) (hi : infOk' P ao.op ao.inf = true)
    (hdf : its.isSome = true → a.defers = []) (hB : Base its w00 I00 Jt s.it w0 I0) (h : Sim w0 I0 I β κ s sav a w) (hs : stepA s ao.dst ao.op ao.inf = some s') (hk : K s') (hn : Next1 its (Base its w00 I00 Jt) I sav w next K) : o.wpIn (wideR ro) 0 P a w next Q := by
  rw [hop] at hi hs
  rw [hdst] at hs
  have hd : ∀ c, o.op ≠ .defer c := fun c e => by rw [e] at hs; simp [stepA, valA] at hs
  refine wpIn_run hd ?_
  obtain ⟨v, w', J, β', κ', hrun, hIJ, hkeep, hsim⟩ := goes_step h hi hs
  have hgo : next (a.put o.dst v) w' := hn s' _ w' J hIJ (fun _ => hkeep) ⟨fun e => by rw [put_defers]; exact hdf e, w0, I0, β', κ', by rw [stepA_it hs]; exact hB, hsim⟩ hk
  rcases hrun with hrun | ⟨hrun, rfl⟩
  · rw [hrun]; exact hgo
  · rw [hrun]; exact hgo

theorem sat_ok {r : PV} {v : Value} (hdf : its.isSome = true → a.defers = []) (hB : Base its w00 I00 Jt s.it w0 I0) (h : Sim w0 I0 I β κ s sav a w) (hb : Below w.heap.size w w') (hJ : I.le J) (hg : Good J w') (hold : ∀ b, b < w.heap.size → J b = I b) (hr : C J r v) (dst : Option Nat) :
    Sat its (Base its w00 I00 Jt) J (putT s dst (.v r)) sav (a.put dst v) w' := by
  refine ⟨fun e => by rw [put_defers]; exact hdf e, w0, I0, β, κ, ?_, (h.grow hb hJ hold hg).putT dst (.v hr)⟩
  have : (putT s dst (.v r)).it = s.it := by cases dst <;> rfl
  rw [this]; exact hB

theorem sound_call {o : Oper} {c : Call} {next : Act → World → Prop} {Q : Exit → Act → World → Prop} {K : St → Prop} (hop : o.op = .call c) (hctx : Ctx P its Jt)
    (hdf : its.isSome = true → a.defers = []) (hB : Base its w00 I00 Jt s.it w0 I0) (h : Sim w0 I0 I β κ s sav a w) (hs : callA P its s o.dst c K) (hn : Next1 its (Base its w00 I00 Jt) I sav w next K) : o.wpIn (wideR ro) 0 P a w next Q := by
  have hd : ∀ c, o.op ≠ .defer c := fun c e => by rw [hop] at e; cases e
  refine wpIn_run hd ?_
  obtain ⟨callee, args, argTypes⟩ := c
  unfold callA at hs
  simp only at hs
  split at hs
  · exact hs.elim
  · rename_i f
    split at hs
    · -- a function of the program's
      rename_i k caps ps hf hps
      obtain ⟨r, ⟨hent, hok⟩, hk⟩ := hs
      obtain ⟨arr, hfv, hcaps⟩ := (ev_R h hf).inv.inv_fn
      have hargs := pvs_C h hps
      have hrun : (execOp a.eval o).run P w = .ok (.enter k (args.map a.eval ++ arr)) w := by
        simp [execOp, hop, resolve, hfv, Deferred.ofValue, invoke, hent (args.map a.eval ++ arr) w]
      rw [hrun]
      have hall : Cs I (ps ++ caps) ((args.map a.eval).toList ++ arr.toList) := by
        rw [Array.toList_map]
        exact hargs.append hcaps
      have hcall := hok I w _ h.good hall
      have e1 : ((args.map a.eval).toList ++ arr.toList).toArray = args.map a.eval ++ arr := by simp
      rw [e1] at hcall
      refine upon_calls hcall ?_
      rintro e w' ⟨v, J, rfl, hb, hJ, hg, hold, hr⟩
      exact ⟨v, rfl, hn _ _ w' J hJ (fun _ => KeepsOthers.ofBelow hb) (sat_ok hdf hB h hb hJ hg hold hr o.dst) hk⟩
    · -- a round
      rename_i l' ps hf hps
      split at hs
      · rename_i its l xs
        obtain ⟨rfl, hbx, htk, ⟨x, hit, hxm⟩, hk1, hk2⟩ := hs
        obtain ⟨hab, hround⟩ := hctx _ _ rfl
        obtain ⟨arr, hfv, hcaps⟩ := (ev_R h hf).inv.inv_fn
        have ha0 : arr = #[] := by obtain ⟨arr⟩ := arr; cases hcaps; rfl
        subst ha0
        have hargs := pvs_C h hps
        obtain ⟨hln, hJ0, hle⟩ := hB
        obtain ⟨fn, tmps, assign, body, hy, hr⟩ := hround s.it x ps s.mm I0 w0.w I w _ hit hxm hJ0 (h.below.all hln) h.ext h.old h.good (fun c cells hc => (h.mem c cells hc).2)
          (fun c cells hc => by
            rcases (h.mem c cells hc).1 with e | e
            · exact e
            · rw [hln] at e; cases e) hargs
        have hrun : (execOp a.eval o).run P w = .ok (.round l' fn tmps assign body) w := by
          have e1 : (args.toList.map a.eval).toArray = args.map a.eval := by rw [← Array.toList_map, Array.toArray_toList]
          rw [e1] at hy
          simp [execOp, hop, resolve, hfv, Deferred.ofValue, invoke, hy]
        rw [hrun]
        have rebase : ∀ (J2 : Imm) (W2 : World) (b : Bool) (it' : Nat), I.le J2 → Good J2 W2 → Jt it' J2 W2 → Sat (some (l', xs)) (Base (some (l', xs)) w00 I00 Jt) J2 { putT s o.dst (bl b) with it := it', mm := nomem } sav (a.put o.dst (.bool b)) W2 := by
          intro J2 W2 b it' hle2 hg2 hj
          refine ⟨fun e => by rw [put_defers]; exact hdf e, Bs.of W2, J2, β, κ, ⟨fun _ => rfl, hj, Imm.le_trans hle (Imm.le_trans h.ext hle2)⟩, ?_⟩
          have h2 := h.putT o.dst (x := bl b) (v := .bool b) (.v (.s _))
          have e1 : (putT s o.dst (bl b)).bx = [] ∧ (putT s o.dst (bl b)).tk = [] := by
            cases o.dst <;> exact ⟨hbx, htk⟩
          exact
            { below := BelowL.refl (Bs.of W2)
              good := hg2
              ext := Imm.le_refl _
              old := fun _ _ => rfl
              tm := by have := h2.tm.map (f := id) (fun _ _ k => k.mono hle2); rwa [List.map_id] at this
              sv := by have := h2.sv.map (f := id) (fun _ _ k => k.mono hle2); rwa [id_map] at this
              box := fun b cells hb => by simp only [e1.1, lk] at hb; cases hb
              mem := fun c cells hc => by cases hc
              mbx := fun b cells hb => by simp only [e1.1, lk] at hb; cases hb
              rob := fun b cells hb => by
                obtain ⟨ar, k1, k2, k3⟩ := h2.rob b cells hb
                obtain ⟨m, hm'⟩ := hle2 _ _ k1
                refine ⟨_, hm', ?_, by simp; omega⟩
                rw [List.take_append_of_le_length k3]
                exact k2.mono hle2
              inj := fun b b' c c' hb => by simp only [e1.1, lk] at hb; cases hb
              tok := fun t ht => by simp [e1.2, tkOf, lk] at ht
              tinj := fun t t' ht => by simp [e1.2, tkOf, lk] at ht
              dfr := ⟨[], by rw [put_defers, hdf rfl]; rfl, List.nodup_nil, by simp⟩ }
        refine ⟨fun h => by simp [wideR, Fence.wide] at h, ?_⟩
        have hr' := round_ro (ro := ro) hr
        refine hr'.mono ?_
        rintro e W2 ⟨J2, hle2, hg2, ⟨rfl, hj⟩ | ⟨rfl, hj⟩⟩
        · exact hn _ _ W2 J2 hle2 (fun e => by cases e) (rebase J2 W2 true _ hle2 hg2 hj) hk1
        · exact hn _ _ W2 J2 hle2 (fun e => by cases e) (rebase J2 W2 false _ hle2 hg2 hj) hk2
      · exact hs.elim
    · exact hs.elim
  · rename_i r name
    split at hs
    · rename_i t x ps hf hps
      obtain ⟨f, r', hm, ⟨hent, hok⟩, hk⟩ := hs
      have hC := (ev_R h hf).inv
      have hargs := pvs_C h hps
      generalize hrv : a.eval r = rv at hC
      cases hC with
      | @ifc _ _ v hx =>
        have hrun : (execOp a.eval o).run P w = .ok (.enter f (#[v] ++ args.map a.eval)) w := by
          have h1 := hm v (args.map a.eval) w
          have e0 : (#[Value.iface t v] ++ args.map a.eval)[0]? = some (.iface t v) := by simp [Array.getElem?_append]
          have e2 : (args.map a.eval).extract 0 args.size = args.map a.eval := by apply Array.ext <;> simp
          simp [execOp, hop, resolve, hrv, invoke, e0, e2, h1]
        rw [hrun]
        have hall : Cs I (x :: ps) (v :: (args.toList.map a.eval)) := .cons hx hargs
        have hcall := hok I w _ h.good hall
        have e1 : (v :: args.toList.map a.eval).toArray = #[v] ++ args.map a.eval := by simp
        rw [e1] at hcall
        refine upon_calls hcall ?_
        rintro e w' ⟨v', J, rfl, hb, hJ, hg, hold, hr⟩
        exact ⟨v', rfl, hn _ _ w' J hJ (fun _ => KeepsOthers.ofBelow hb) (sat_ok hdf hB h hb hJ hg hold hr o.dst) hk⟩
    · exact hs.elim


/-! ### Memory that is known, and may be written -/
theorem KeepsOthers.ofM {m : Mem} (hm : MemAt I m w) (h : BelowL ⟨w, fun c => (m c).isSome⟩ w') : KeepsOthers w w' :=
  ⟨h.size, fun k o hk ho => by
    cases hc : m k with
    | none => exact (h.block k (Array.getElem?_eq_some_iff.1 hk).1 (by simp [hc])).trans hk
    | some x =>
      obtain ⟨_, cs, ty, h3, _⟩ := hm k x hc
      rw [hk] at h3
      cases h3
      cases ho⟩

theorem Sim.memAt (h : Sim w0 I0 I β κ s sav a w) : MemAt I s.mm w := fun c cells hc => (h.mem c cells hc).2

theorem Sim.afterM {m' : Mem} (h : Sim w0 I0 I β κ s sav a w) (hb : BelowL ⟨w, fun c => (s.mm c).isSome⟩ w') (hJ : I.le J) (hg : Good J w') (hold : ∀ b, b < w.heap.size → J b = I b) (hm : MemAt J m' w') (hnew : ∀ c, c < w.heap.size → s.mm c = none → m' c = none) :
    Sim w0 I0 J β κ { s with mm := m' } sav a w' := by
  have hsz : w.heap.size ≤ w'.heap.size := hb.size
  have keep : ∀ k, k < w.heap.size → s.mm k = none → w'.heap[k]? = w.heap[k]? := fun k hk hn => hb.block k hk (by simp [hn])
  exact
    { below := ⟨hb.os.trans h.below.os, hb.tape.trans h.below.tape, hb.output.trans h.below.output, Nat.le_trans h.size hsz, fun k hk hl => by
        have hn : s.mm k = none := by
          cases hc : s.mm k with
          | none => rfl
          | some x =>
            rcases (h.mem k x hc).1 with e | e
            · omega
            · rw [hl] at e; cases e
        exact (keep k (Nat.lt_of_lt_of_le hk h.size) hn).trans (h.below.block k hk hl)⟩
      good := hg
      ext := Imm.le_trans h.ext hJ
      old := fun b hlt => (hold b (Nat.lt_of_lt_of_le hlt h.size)).trans (h.old b hlt)
      tm := by have := h.tm.map (f := id) (fun _ _ k => k.mono hJ); rwa [List.map_id] at this
      sv := by have := h.sv.map (f := id) (fun _ _ k => k.mono hJ); simpa using this
      box := fun b cells hc => by
        obtain ⟨h1, h2, cs, ty, h3, h4⟩ := h.box b cells hc
        have hlt := (Array.getElem?_eq_some_iff.1 h3).1
        refine ⟨h1, by rw [hold _ hlt, h2], cs, ty, by rw [keep _ hlt (h.mbx b cells hc), h3], ?_, h4.2⟩
        have := h4.1.map (f := id) (fun _ _ k => k.mono hJ)
        rwa [List.map_id] at this
      mem := fun c cells hc => by
        replace hc : m' c = some cells := hc
        refine ⟨?_, hm c cells hc⟩
        by_cases hlt : c < w.heap.size
        · cases hs : s.mm c with
          | none => rw [hnew c hlt hs] at hc; cases hc
          | some x => exact (h.mem c x hs).1
        · exact .inl (Nat.le_trans h.size (by omega))
      mbx := fun b cells hc => by
        obtain ⟨_, _, cs, ty, h3, _⟩ := h.box b cells hc
        exact hnew _ (Array.getElem?_eq_some_iff.1 h3).1 (h.mbx b cells hc)
      rob := fun b cells hc => by
        obtain ⟨arr, h1, h2, h3⟩ := h.rob b cells hc
        obtain ⟨m, hm⟩ := hJ _ _ h1
        refine ⟨_, hm, ?_, by simp; omega⟩
        rw [List.take_append_of_le_length h3]
        exact h2.mono hJ
      inj := h.inj
      tok := fun t ht => by
        obtain ⟨h1, cs, ty, arr, h2, h3, h4, h5⟩ := h.tok t ht
        have hlt := (Array.getElem?_eq_some_iff.1 h2).1
        have hn : s.mm (κ t).1 = none := by
          cases hc : s.mm (κ t).1 with
          | none => rfl
          | some x => have := (h.mem _ x hc).2.1; rw [h4] at this; cases this
        exact ⟨h1, cs, ty, arr, by rw [keep _ hlt hn, h2], h3, by rw [hold _ hlt, h4], h5⟩
      tinj := h.tinj
      dfr := by
        obtain ⟨Ds, h1, h2, h3⟩ := h.dfr
        refine ⟨Ds, h1, h2, fun D hD => ⟨(h3 D hD).1, ?_⟩⟩
        have h4 := (h3 D hD).2
        have hn : s.mm D = none := by
          cases hc : s.mm D with
          | none => rfl
          | some x => obtain ⟨_, _, cs, ty, h5, _⟩ := h.mem _ x hc; rw [h4] at h5; cases h5
        rw [keep D (Array.getElem?_eq_some_iff.1 h4).1 hn, h4] }

theorem BelowL.ofNone {w w' : World} (h : BelowL ⟨w, fun c => (nomem c).isSome⟩ w') : Below w.heap.size w w' := h.all fun _ => rfl

theorem putT_mm (s : St) (d : Option Nat) (t : TV) (m : Mem) : { putT s d t with mm := m } = putT { s with mm := m } d t := by cases d <;> rfl

theorem sat_put {tv : TV} {v : Value} (hdf : its.isSome = true → a.defers = []) (hB : Base its w00 I00 Jt s.it w0 I0) (h : Sim w0 I0 J β κ s sav a w') (hr : R J β κ (tkOf s.tk) tv v) (dst : Option Nat) :
    Sat its (Base its w00 I00 Jt) J (putT s dst tv) sav (a.put dst v) w' := by
  refine ⟨fun e => by rw [put_defers]; exact hdf e, w0, I0, β, κ, ?_, h.putT dst hr⟩
  have : (putT s dst tv).it = s.it := by cases dst <;> rfl
  rw [this]; exact hB

theorem sound_lend {o : Oper} {c : Call} {next : Act → World → Prop} {Q : Exit → Act → World → Prop} {K : St → Prop} (hop : o.op = .call c)
    (hdf : its.isSome = true → a.defers = []) (hB : Base its w00 I00 Jt s.it w0 I0) (h : Sim w0 I0 I β κ s sav a w) (hs : lendA P s o.dst c K) (hn : Next1 its (Base its w00 I00 Jt) I sav w next K) : o.wpIn (wideR ro) 0 P a w next Q := by
  have hd : ∀ c, o.op ≠ .defer c := fun c e => by rw [hop] at e; cases e
  refine wpIn_run hd ?_
  obtain ⟨callee, args, argTypes⟩ := c
  unfold lendA at hs
  simp only at hs
  split at hs
  · rename_i f
    split at hs
    · rename_i k caps ps hf hps
      obtain ⟨l, r, ht, ⟨hent, hok⟩, hrf, hk⟩ := hs
      obtain ⟨arr, hfv, hcaps⟩ := (ev_R h hf).inv.inv_fn
      have hargs := pvs_C h hps
      have hrun : (execOp a.eval o).run P w = .ok (.enter k (args.map a.eval ++ arr)) w := by
        simp [execOp, hop, resolve, hfv, Deferred.ofValue, invoke, hent (args.map a.eval ++ arr) w]
      rw [hrun]
      have hall : Cs I (ps ++ caps) ((args.map a.eval).toList ++ arr.toList) := by
        rw [Array.toList_map]
        exact hargs.append hcaps
      have hle := memI_le h.memAt
      have hcall := hok (memI I s.mm w) w _ (memI_good h.good h.memAt) (Tells.sound h.memAt ht (hall.mono hle))
      have e1 : ((args.map a.eval).toList ++ arr.toList).toArray = args.map a.eval ++ arr := by simp
      rw [e1] at hcall
      refine upon_calls hcall ?_
      rintro e w' ⟨v, J, rfl, hb, hJ, hg, hold, hr⟩
      have h2 := h.grow hb (Imm.le_refl _) (fun _ _ => rfl) (h.good.below hb)
      exact ⟨v, rfl, hn _ _ w' I (Imm.le_refl _) (fun _ => KeepsOthers.ofBelow hb) (sat_put hdf hB h2 (.v (RF.any hrf hr)) o.dst) hk⟩
    · exact hs.elim
  · exact hs.elim

theorem sound_lendNew {o : Oper} {c : Call} {next : Act → World → Prop} {Q : Exit → Act → World → Prop} {K : St → Prop} (hop : o.op = .call c)
    (hdf : its.isSome = true → a.defers = []) (hB : Base its w00 I00 Jt s.it w0 I0) (h : Sim w0 I0 I β κ s sav a w) (hs : lendNewA P s o.dst c K) (hn : Next1 its (Base its w00 I00 Jt) I sav w next K) : o.wpIn (wideR ro) 0 P a w next Q := by
  have hd : ∀ c, o.op ≠ .defer c := fun c e => by rw [hop] at e; cases e
  refine wpIn_run hd ?_
  obtain ⟨callee, args, argTypes⟩ := c
  unfold lendNewA at hs
  simp only at hs
  split at hs
  · rename_i f
    split at hs
    · rename_i k caps ps hf hps
      obtain ⟨l, R', ht, ⟨hent, hok⟩, hrf, hk⟩ := hs
      obtain ⟨arr, hfv, hcaps⟩ := (ev_R h hf).inv.inv_fn
      have hargs := pvs_C h hps
      have hrun : (execOp a.eval o).run P w = .ok (.enter k (args.map a.eval ++ arr)) w := by
        simp [execOp, hop, resolve, hfv, Deferred.ofValue, invoke, hent (args.map a.eval ++ arr) w]
      rw [hrun]
      have hall : Cs I (ps ++ caps) ((args.map a.eval).toList ++ arr.toList) := by
        rw [Array.toList_map]
        exact hargs.append hcaps
      have hle := memI_le h.memAt
      have hcall := hok (memI I s.mm w) w _ (memI_good h.good h.memAt) (fun c cells hc => by cases hc) (Tells.sound h.memAt ht (hall.mono hle))
      have e1 : ((args.map a.eval).toList ++ arr.toList).toArray = args.map a.eval ++ arr := by simp
      rw [e1] at hcall
      refine upon_calls hcall ?_
      rintro e w' ⟨v, J, r, m', rfl, hR, hb', hJ, hg, hold, hM, hnw, hr⟩
      have hb := hb'.ofNone
      obtain ⟨hrf1, hrf2⟩ := hrf r m' hR
      have hge : ∀ c cells, m' c = some cells → w.heap.size ≤ c := fun c cells hc => by
        by_cases hlt : c < w.heap.size
        · rw [hnw c hlt rfl] at hc; cases hc
        · omega
      have h2 := h.grow hb (Imm.le_refl _) (fun _ _ => rfl) (h.good.below hb)
      have h3 : Sim w0 I0 I β κ { s with mm := s.mm.join m' } sav a w' :=
        { h2 with
          mem := fun c cells hc => by
            replace hc : (s.mm.join m') c = some cells := hc
            unfold Mem.join at hc
            cases hm : m' c with
            | none => rw [hm] at hc; exact h2.mem c cells hc
            | some x =>
              rw [hm] at hc
              cases hc
              have hcge := hge c cells hm
              obtain ⟨_, cs, ty, k1, k2⟩ := hM c cells hm
              exact ⟨.inl (Nat.le_trans h.size hcge), Imm.none_new h.good hcge, cs, ty, k1, RFs.any (hrf2 c cells hm) k2⟩
          mbx := fun b cells hb => by
            obtain ⟨_, _, cs, ty, k3, _⟩ := h.box b cells hb
            have hlt := (Array.getElem?_eq_some_iff.1 k3).1
            show (s.mm.join m') (β b) = none
            unfold Mem.join
            rw [hnw _ hlt rfl]
            exact h.mbx b cells hb }
      have hfresh : ∀ c, (m' c).isSome = true → s.mm c = none := fun c hc => by
        obtain ⟨x, hx⟩ := Option.isSome_iff_exists.1 hc
        exact h.memNone (hge c x hx)
      refine ⟨v, rfl, hn _ _ w' I (Imm.le_refl _) (fun _ => KeepsOthers.ofBelow hb) (sat_put (s := { s with mm := s.mm.join m' }) hdf hB h3 (.v (RF.any hrf1 hr)) o.dst) ?_⟩
      rw [← putT_mm]
      exact hk r m' hR hfresh
    · exact hs.elim
  · exact hs.elim

theorem sound_mem {o : Oper} {c : Call} {next : Act → World → Prop} {Q : Exit → Act → World → Prop} {K : St → Prop} (hop : o.op = .call c)
    (hdf : its.isSome = true → a.defers = []) (hB : Base its w00 I00 Jt s.it w0 I0) (h : Sim w0 I0 I β κ s sav a w) (hs : memA P s o.dst c K) (hn : Next1 its (Base its w00 I00 Jt) I sav w next K) : o.wpIn (wideR ro) 0 P a w next Q := by
  have hd : ∀ c, o.op ≠ .defer c := fun c e => by rw [hop] at e; cases e
  refine wpIn_run hd ?_
  obtain ⟨callee, args, argTypes⟩ := c
  unfold memA at hs
  simp only at hs
  split at hs
  · rename_i f
    split at hs
    · rename_i k caps ps hf hps
      obtain ⟨R', ⟨hent, hok⟩, hk⟩ := hs
      obtain ⟨arr, hfv, hcaps⟩ := (ev_R h hf).inv.inv_fn
      have hargs := pvs_C h hps
      have hrun : (execOp a.eval o).run P w = .ok (.enter k (args.map a.eval ++ arr)) w := by
        simp [execOp, hop, resolve, hfv, Deferred.ofValue, invoke, hent (args.map a.eval ++ arr) w]
      rw [hrun]
      have hall : Cs I (ps ++ caps) ((args.map a.eval).toList ++ arr.toList) := by
        rw [Array.toList_map]
        exact hargs.append hcaps
      have hcall := hok I w _ h.good h.memAt hall
      have e1 : ((args.map a.eval).toList ++ arr.toList).toArray = args.map a.eval ++ arr := by simp
      rw [e1] at hcall
      refine upon_calls hcall ?_
      rintro e w' ⟨v, J, r, m', rfl, hR, hb, hJ, hg, hold, hM, hnw, hr⟩
      have h2 := h.afterM hb hJ hg hold hM hnw
      refine ⟨v, rfl, hn _ _ w' J hJ (fun _ => KeepsOthers.ofM h.memAt hb) (sat_put (s := { s with mm := m' }) hdf hB h2 (.v hr) o.dst) ?_⟩
      rw [← putT_mm]
      exact hk r m' hR
    · exact hs.elim
  · exact hs.elim

/-- A block of the call's own told as a row that is being appended to. -/
theorem Sim.ownAt (h : Sim w0 I0 I β κ s sav a w) (t cap sz : Nat) (els : List PV) (c : Nat) (cs : Array Value) (ty : TypeId) (hne : els ≠ []) (ht : tkOf s.tk t < els.length) (hb0 : w0.heap.size ≤ c) (hw : w.heap[c]? = some (.cells cs ty (0, 0)))
    (hI : I c = none) (hm : s.mm c = none) (hbx : ∀ b cells, lk b s.bx = some cells → β b ≠ c) (htk : ∀ t, 0 < tkOf s.tk t → (κ t).1 ≠ c) (hcs : cs.size = cap * sz) (hcap : els.length ≤ cap) (hu : ∀ e ∈ els, e.cells.length = sz) (hc : Cs I (flat els) (cs.toList.take (flat els).length)) :
    ∃ J κ', I.le J ∧ Sim w0 I0 J β κ' { s with tk := upd t els.length s.tk } sav a w ∧ R J β κ' (tkOf (upd t els.length s.tk)) (.acc t els) (.slice (some ⟨c, 0, none⟩) els.length cap) := by
  have hfl := flat_length hu
  have hcl : cs.toList.length = cap * sz := by rw [← hcs]; exact Array.length_toList
  have hle : els.length * sz ≤ cs.toList.length := by rw [hcl]; exact Nat.mul_le_mul_right _ hcap
  have hIJ : I.le (fun k => if k = c then some (cs.toList.take (els.length * sz)) else I k) := fun k arr hk => by
    by_cases e : k = c
    · rw [e, hI] at hk; cases hk
    · exact ⟨[], by simp [e, hk]⟩
  have hrow : RowAt (fun k => if k = c then some (cs.toList.take (els.length * sz)) else I k) c sz els :=
    ⟨cs.toList.take (els.length * sz), by simp, hu, by rw [hfl, List.take_take, Nat.min_self]; rw [hfl] at hc; exact hc.mono hIJ, by rw [hfl, List.length_take]; omega⟩
  have hmap : ∀ x u, R I β κ (tkOf s.tk) x u → R (fun k => if k = c then some (cs.toList.take (els.length * sz)) else I k) β (fun j => if j = t then (c, cap, sz) else κ j) (tkOf (upd t els.length s.tk)) (id x) u :=
    fun x u k => k.longer hIJ ht
  refine ⟨_, fun j => if j = t then (c, cap, sz) else κ j, hIJ, ?_, .acc hne rfl hcap hrow (by rw [tkOf_upd, if_pos rfl]; exact Nat.le_refl _) (fun _ => by simp)⟩
  exact
    { below := h.below
      good := fun k arr hk => by
        by_cases e : k = c
        · simp only [e, if_true, Option.some.injEq] at hk
          subst hk
          exact ⟨cs, ty, (0, 0), cs.toList.drop (els.length * sz), by rw [e]; exact hw, (List.take_append_drop _ _).symm⟩
        · simp only [e, if_false] at hk
          exact h.good k arr hk
      ext := Imm.le_trans h.ext hIJ
      old := fun b hb => by
        have : b ≠ c := fun e => by subst e; omega
        simp only [this, if_false]
        exact h.old b hb
      tm := by have := h.tm.map hmap; rwa [List.map_id] at this
      sv := by have := h.sv.map hmap; rwa [id_map] at this
      box := fun b cells hb => by
        obtain ⟨h1, h2, cs', ty', h3, h4⟩ := h.box b cells hb
        refine ⟨h1, by simp only [hbx b cells hb, if_false]; exact h2, cs', ty', h3, ?_, h4.2⟩
        have := h4.1.map hmap
        rwa [List.map_id] at this
      mem := fun b x hb => by
        replace hb : s.mm b = some x := hb
        obtain ⟨h1, h2, cs', ty', h3, h4⟩ := h.mem b x hb
        have e : b ≠ c := fun e => by rw [e, hm] at hb; cases hb
        exact ⟨h1, by simp only [e, if_false]; exact h2, cs', ty', h3, h4.mono hIJ⟩
      mbx := h.mbx
      rob := fun b cells hb => by
        obtain ⟨arr, k1, k2, k3⟩ := h.rob b cells hb
        obtain ⟨m, hm'⟩ := hIJ _ _ k1
        refine ⟨_, hm', ?_, by simp; omega⟩
        rw [List.take_append_of_le_length k3]
        exact k2.mono hIJ
      inj := h.inj
      tok := fun t' ht' => by
        simp only [tkOf_upd] at ht' ⊢
        by_cases e : t' = t
        · simp only [e, if_true]
          exact ⟨hb0, cs, ty, cs.toList.take (els.length * sz), hw, hcs, rfl, by rw [List.length_take]; omega, hcap⟩
        · simp only [e, if_false] at ht' ⊢
          obtain ⟨q1, cs', ty', arr, q2, q3, q4, q5⟩ := h.tok t' ht'
          have hne' := htk t' ht'
          exact ⟨q1, cs', ty', arr, q2, q3, by simp only [hne', if_false]; exact q4, q5⟩
      tinj := fun t1 t2 h1 h2 hκ => by
        simp only [tkOf_upd] at h1 h2
        by_cases e1 : t1 = t <;> by_cases e2 : t2 = t
        · rw [e1, e2]
        · simp only [e1, e2, if_true, if_false] at h1 h2 hκ
          exact absurd hκ.symm (htk t2 h2)
        · simp only [e1, e2, if_true, if_false] at h1 h2 hκ
          exact absurd hκ (htk t1 h1)
        · simp only [e1, e2, if_false] at h1 h2 hκ
          exact h.tinj t1 t2 h1 h2 hκ
      dfr := h.dfr }

theorem RFs_app : ∀ {a b : List PV}, RFs a = true → RFs b = true → RFs (a ++ b) = true
  | [], _, _, h => h
  | x :: a, b, h, k => by
    simp only [RFs, Bool.and_eq_true, List.cons_append] at h ⊢
    exact ⟨h.1, RFs_app h.2 k⟩
theorem RFs_junks : ∀ (k : Nat), RFs (List.replicate k .junk) = true
  | 0 => rfl
  | k + 1 => by simp [List.replicate_succ, RFs, RF, RFs_junks k]
theorem sound_lendAcc {o : Oper} {c : Call} {next : Act → World → Prop} {Q : Exit → Act → World → Prop} {K : St → Prop} (hop : o.op = .call c)
    (hdf : its.isSome = true → a.defers = []) (hB : Base its w00 I00 Jt s.it w0 I0) (h : Sim w0 I0 I β κ s sav a w) (hs : lendAccA P s o.dst c K) (hn : Next1 its (Base its w00 I00 Jt) I sav w next K) : o.wpIn (wideR ro) 0 P a w next Q := by
  have hd : ∀ c, o.op ≠ .defer c := fun c e => by rw [hop] at e; cases e
  refine wpIn_run hd ?_
  obtain ⟨callee, args, argTypes⟩ := c
  unfold lendAccA at hs
  simp only at hs
  split at hs
  · rename_i f d hdst
    split at hs
    · rename_i k caps ps hf hps
      obtain ⟨l, els, ht, ⟨hent, hok⟩, hrf, hk⟩ := hs
      obtain ⟨arr, hfv, hcaps⟩ := (ev_R h hf).inv.inv_fn
      have hargs := pvs_C h hps
      have hrun : (execOp a.eval o).run P w = .ok (.enter k (args.map a.eval ++ arr)) w := by
        simp [execOp, hop, resolve, hfv, Deferred.ofValue, invoke, hent (args.map a.eval ++ arr) w]
      rw [hrun]
      have hall : Cs I (ps ++ caps) ((args.map a.eval).toList ++ arr.toList) := by
        rw [Array.toList_map]
        exact hargs.append hcaps
      have hle := memI_le h.memAt
      have hcall := hok (memI I s.mm w) w _ (memI_good h.good h.memAt) (fun c cells hc => by cases hc) (Tells.sound h.memAt ht (hall.mono hle))
      have e1 : ((args.map a.eval).toList ++ arr.toList).toArray = args.map a.eval ++ arr := by simp
      rw [e1] at hcall
      refine upon_calls hcall ?_
      rintro e w' ⟨v, J, r, m', rfl, ⟨b, cap, q, sz, hne, hcap, hu, hlen, rfl, rfl⟩, hb', hJ, hg, hold, hM, hnw, hr⟩
      have hb := hb'.ofNone
      have hmb : (nomem.put b (flat els ++ List.replicate q PV.junk)) b = some (flat els ++ List.replicate q PV.junk) := Mem.put_same _ _ _
      have hge : w.heap.size ≤ b := by
        by_cases hlt : b < w.heap.size
        · rw [hnw b hlt rfl] at hmb; cases hmb
        · omega
      have h2 := h.grow hb (Imm.le_refl _) (fun _ _ => rfl) (h.good.below hb)
      obtain ⟨_, cs, ty, k1, k2⟩ := hM b _ hmb
      have hcI : Cs I (flat els ++ List.replicate q .junk) cs.toList := RFs.any (RFs_app hrf (RFs_junks q)) k2
      have hsz : cs.size = cap * sz := by
        have := hcI.length
        simp only [List.length_append, List.length_replicate] at this
        have e2 : cs.toList.length = cs.size := Array.length_toList
        omega
      have hpre : Cs I (flat els) (cs.toList.take (flat els).length) := by
        have := hcI.take (flat els).length
        rwa [List.take_left] at this
      have h3 := h2.newTok d
      have hbx : ∀ b' cells, lk b' (s.newTok d).bx = some cells → β b' ≠ b := fun b' cells hb' e => by
        simp only [St.newTok, St.mapTV, lk_map, Option.map_eq_some_iff] at hb'
        obtain ⟨c', hb', _⟩ := hb'
        obtain ⟨_, _, cs', ty', z, _⟩ := h.box b' c' hb'
        have := (Array.getElem?_eq_some_iff.1 z).1
        omega
      have htk : ∀ t, 0 < tkOf (s.newTok d).tk t → (κ t).1 ≠ b := fun t ht e => by
        have ht' : 0 < tkOf s.tk t := by
          simp only [St.newTok, tkOf_upd] at ht
          split at ht
          · omega
          · exact ht
        obtain ⟨_, cs', ty', arr', z, _⟩ := h.tok t ht'
        have := (Array.getElem?_eq_some_iff.1 z).1
        omega
      have e0 : tkOf (s.newTok d).tk d = 0 := by simp [St.newTok, tkOf_upd]
      have hpos : 0 < els.length := List.length_pos_iff.2 hne
      obtain ⟨J2, κ', hIJ, hS, hR⟩ := h3.ownAt d cap sz els b cs ty hne (by omega) (Nat.le_trans h.size hge) k1 (Imm.none_new h.good hge) (h.memNone hge) hbx htk hsz hcap hu hpre
      have hvv := hr.inv_s
      subst hvv
      have hk' : K (putT { s.newTok d with tk := upd d els.length (s.newTok d).tk } o.dst (.acc d els)) := by rw [hdst]; exact hk
      refine ⟨_, rfl, hn _ _ w' J2 hIJ (fun _ => KeepsOthers.ofBelow hb) ⟨fun e => by rw [put_defers]; exact hdf e, w0, I0, β, κ', ?_, hS.putT o.dst hR⟩ hk'⟩
      have : (putT { s.newTok d with tk := upd d els.length (s.newTok d).tk } o.dst (.acc d els)).it = s.it := by cases o.dst <;> rfl
      rw [this]; exact hB
    · exact hs.elim
  · exact hs.elim

end
end Go.Proofs.YtambpjbpdackfaaGreat.A


/- Memory that is known, and may be written: new memory, rows appended and copied out of it; what is told, the model does. -/
set_option linter.unusedVariables false
set_option linter.unusedSimpArgs false
namespace Go.Proofs.YtambpjbpdackfaaGreat.A
open Go Go.RowKit Go.Shelf

section
variable {P : Program} {its : Option (Nat × List Item)} {w00 : Bs} {I00 : Imm} {Jt : Nat → Imm → World → Prop} {ro : Option Nat}
variable {w0 : Bs} {w w' : World} {I0 I J : Imm} {β : Nat → Nat} {κ : Nat → Nat × Nat × Nat} {s s' : St} {sav : List (Array Value)} {a : Act}

theorem cs_consts (I : Imm) : ∀ (l : List Value), Cs I (l.map .s) l
  | [] => .nil
  | x :: l => .cons (.s x) (cs_consts I l)

theorem made_many {z : Array Value} {l : List Value} (hz : z.toList = l) (hl : 0 < l.length) : ∀ (n : Nat), (madeCells z (n * l.length)).toList = (List.replicate n l).flatten := by
  intro n
  have hs : z.size = l.length := by rw [← hz]; simp
  apply List.ext_getElem?
  intro j
  have key : ∀ n j : Nat, (List.replicate n l).flatten[j]? = if j < n * l.length then l[j % l.length]? else none := by
    intro n
    induction n with
    | zero => intro j; simp
    | succ n ih =>
      intro j
      rw [List.replicate_succ, List.flatten_cons, List.getElem?_append]
      by_cases h : j < l.length
      · rw [if_pos h, if_pos (by rw [Nat.add_mul]; omega), Nat.mod_eq_of_lt h]
      · rw [if_neg h, ih, Nat.add_mul, Nat.one_mul]
        have e : (j - l.length) % l.length = j % l.length := by
          have : j = j - l.length + l.length := by omega
          conv => rhs; rw [this, Nat.add_mod_right]
        rw [e]
        by_cases h2 : j - l.length < n * l.length
        · rw [if_pos h2, if_pos (by omega)]
        · rw [if_neg h2, if_neg (by omega)]
  rw [key]
  subst hz
  rw [Array.length_toList] at hl ⊢
  by_cases hj : j < n * z.size
  · have hlt : j % z.size < z.size := Nat.mod_lt _ hl
    rw [if_pos hj]
    simp only [madeCells, Array.toList_map, Array.toList_range, List.getElem?_map, List.getElem?_range hj, Option.map_some, Array.getElem?_toList]
    rw [getElem!_pos z _ hlt, Array.getElem?_eq_getElem hlt]
  · rw [if_neg hj]
    simp only [madeCells, Array.toList_map, Array.toList_range, List.getElem?_map]
    rw [List.getElem?_eq_none (by rw [List.length_range]; omega)]
    rfl

theorem sound_new {o : Oper} {i : Inf} {next : Act → World → Prop} {Q : Exit → Act → World → Prop} {K : St → Prop} (hi : infOk' P o.op i = true) (hmc : i.mc = 3)
    (hdf : its.isSome = true → a.defers = []) (hB : Base its w00 I00 Jt s.it w0 I0) (h : Sim w0 I0 I β κ s sav a w) (hs : newA s o.dst o.op i K) (hn : Next1 its (Base its w00 I00 Jt) I sav w next K) : o.wpIn (wideR ro) 0 P a w next Q := by
  have hfree : s.mm w.heap.size = none := h.memNone (Nat.le_refl _)
  have fin : ∀ (cells : List PV) (cs : Array Value) (ty : TypeId) (v : Value), Cs I cells cs.toList → (∀ c, o.op ≠ .defer c) → (execOp a.eval o).run P w = .ok (.value v) (w.alloc (.cells cs ty)) →
      K { putT s o.dst (.v (.s v)) with mm := s.mm.put w.heap.size cells } → o.wpIn (wideR ro) 0 P a w next Q := by
    intro cells cs ty v hC hd hrun hK
    refine wpIn_run hd ?_
    rw [hrun]
    have h2 := h.memNew (ty := ty) hC
    refine hn _ _ _ I (Imm.le_refl _) (fun _ => KeepsOthers.alloc w _) (sat_put (s := { s with mm := s.mm.put w.heap.size cells }) hdf hB h2 (.v (.s v)) o.dst) ?_
    rw [← putT_mm]
    exact hK
  unfold newA at hs
  split at hs
  · rename_i t ho
    rw [ho] at hi
    simp only [infOk'] at hi
    split at hi
    · rename_i z hz
      simp only [Bool.and_eq_true] at hi
      have hzero := constsEq_eq hi.1
      exact fin _ z.cells t _ (by rw [hzero]; exact cs_consts I _) (fun c e => by rw [ho] at e; cases e) (by simp [execOp, ho, Instr.alloc, run_zero_of hz, newVar, newRow]) (hs _ hfree)
    · cases hi
  · rename_i t x ho
    split at hs
    · rename_i p hp
      obtain ⟨hok, hs⟩ := hs
      obtain ⟨h1, h2⟩ := (pv_C h hp).okCells hok
      exact fin _ (a.eval x).cells t _ h1 (fun c e => by rw [ho] at e; cases e) (by simp [execOp, ho, Instr.box, newVar, newRow]) (hs _ hfree)
    · exact hs.elim
  · rename_i t l c ho
    rw [ho] at hi
    simp only [infOk'] at hi
    split at hs
    · rename_i k n k' m hl hc
      obtain ⟨rfl, h0, hby, hbig, hs⟩ := hs
      split at hi
      · rename_i e he
        rw [if_pos hmc] at hi
        simp only [Bool.and_eq_true, beq_iff_eq, bne_iff_ne, ne_eq] at hi
        obtain ⟨⟨⟨h1, h2⟩, h3⟩, h4⟩ := hi
        split at h4
        · rename_i z hz
          simp only [Bool.and_eq_true, beq_iff_eq] at h4
          obtain ⟨h5, h6⟩ := h4
          obtain ⟨ti, hti, hzz⟩ := Option.bind_eq_some_iff.1 hz
          have hsz : ti.size = i.n := by simpa [tSize, hti] using h1
          have hbt : ti.bytes = i.t := by simpa [hti] using h2
          have hzero := constsEq_eq h5
          have e1 : a.eval l = .int k n := (ev_R h hl).inv.inv_s
          have e2 : a.eval c = .int k' n := (ev_R h hc).inv.inv_s
          have hn1 : n ≤ n * i.n := by
            have := Int.mul_le_mul_of_nonneg_left (show (1 : Int) ≤ (i.n : Int) by omega) h0
            omega
          have hrun := run_make (P := P) w t e ti z (run_underlying_elem he) hti hzz k k' n n h0 (Int.le_refl _) (by rw [hbt, Int.mul_comm]; omega) (by omega)
          rw [hsz, ← h6] at hrun
          have hcells := made_many hzero (by omega) n.toNat
          refine fin (List.replicate n.toNat (i.zero.map PV.s)).flatten (madeCells z.cells (n.toNat * i.zero.length)) e _ ?_ (fun c e => by rw [ho] at e; cases e) (by simp [execOp, ho, e1, e2, hrun]) (hs _ hfree)
          · rw [hcells]
            generalize n.toNat = q
            induction q with
            | zero => exact .nil
            | succ q ih =>
              rw [List.replicate_succ, List.replicate_succ, List.flatten_cons, List.flatten_cons]
              exact (cs_consts I _).append ih
        · cases h4
      · cases hi
    · exact hs.elim
  · exact hs.elim

/-- A row, where it lies, out of a slice that reads as it. -/
theorem src_C {u : Value} {ys : List PV} {t' e' : TypeId} {n : Nat} (hg : Good J w) (hC : C J (.sl false ys) u) (hu : ys.all (fun e => e.ok && e.cells.length == n) = true) (he : tElem P t' = some e') : ∃ news, Src P n t' u ys.length news w ∧ Cs J (flat ys) news := by
  have hk := run_underlying_elem he
  have hun : ∀ e ∈ ys, e.cells.length = n := fun e he => by
    have := List.all_eq_true.1 hu e he
    simp only [Bool.and_eq_true, beq_iff_eq] at this
    exact this.2
  have hok : (flat ys).all PV.cell = true := flat_ok fun e he => by
    have := List.all_eq_true.1 hu e he
    simp only [Bool.and_eq_true, beq_iff_eq] at this
    exact this.1
  cases hC with
  | sl0 => exact ⟨[], Src.ofNil w hk 0, .nil⟩
  | sle => exact ⟨[], Src.ofSlice w hk _ 0 0 [] (by simp) (fun j u hj => by simp at hj) (fun u hu => by cases hu), .nil⟩
  | @sl _ _ b off m sz cap arr hI huu hm hc hl hcap hex =>
    subst hm
    have hfl := flat_length hun
    obtain ⟨cs, ty, fz, more, hw, hcs⟩ := hg b arr hI
    refine ⟨(arr.drop off).take (flat ys).length, Src.ofSlice w hk ⟨b, off, none⟩ ys.length cap _ (by simp only [List.length_take, List.length_drop]; omega) ?_ (hc.cell hok), hc⟩
    intro j u hj
    rw [addr_add]
    exact cellsAt_of hw ⟨(flat ys).length, by rw [hcs, List.drop_append_of_le_length (by omega), List.take_append_of_le_length (by simp; omega)]⟩ j u hj

theorem src_tell {y : Operand} {q : PV} {ys : List PV} {t' e' : TypeId} {n : Nat} (h : Sim w0 I0 I β κ s sav a w) (hq : pv s y = some q) (ht : Tell s.mm q (.sl false ys)) (hf : RFs (flat ys) = true) (hu : ys.all (fun e => e.ok && e.cells.length == n) = true) (he : tElem P t' = some e') :
    ∃ news, Src P n t' (a.eval y) ys.length news w ∧ Cs I (flat ys) news := by
  obtain ⟨news, h1, h2⟩ := src_C (memI_good h.good h.memAt) (Tell.sound h.memAt ht ((pv_C h hq).mono (memI_le h.memAt))) hu he
  exact ⟨news, h1, RFs.any hf h2⟩

theorem sound_appM {o : Oper} {i : Inf} {c : Call} {next : Act → World → Prop} {Q : Exit → Act → World → Prop} {K : St → Prop} (hop : o.op = .call c) (hi : infOk' P o.op i = true)
    (hdf : its.isSome = true → a.defers = []) (hB : Base its w00 I00 Jt s.it w0 I0) (h : Sim w0 I0 I β κ s sav a w) (hs : appMA s o.dst c i K) (hn : Next1 its (Base its w00 I00 Jt) I sav w next K) : o.wpIn (wideR ro) 0 P a w next Q := by
  have hd : ∀ c, o.op ≠ .defer c := fun c e => by rw [hop] at e; cases e
  refine wpIn_run hd ?_
  obtain ⟨callee, args, argTypes⟩ := c
  rw [hop] at hi
  unfold appMA at hs
  split at hs
  · rename_i x y d hc hargs hdst
    simp only at hc hargs
    subst hc
    split at hs
    · rename_i p q hx hy
      obtain ⟨ys, s', ht, hf, happ, hK⟩ := hs
      simp only [infOk'] at hi
      split at hi
      · rename_i t t' _ hts
        split at hi
        · rename_i e he
          simp only [Bool.and_eq_true, beq_iff_eq, bne_iff_ne, ne_eq] at hi
          obtain ⟨⟨⟨⟨h1, h2⟩, h3⟩, h4⟩, h5⟩ := hi
          split at h5
          · rename_i z hz
            simp only [beq_iff_eq] at h5
            obtain ⟨ti, hti, hzz⟩ := Option.bind_eq_some_iff.1 hz
            have T : AppTy P t t' e z ti i.n i.t :=
              { te := he, te' := Option.isSome_iff_exists.1 h1, info := hti, size := by simpa [tSize, hti] using h2, bts := by simpa [hti] using h4, zero := hzz, zsize := h5, pos := h3 }
            obtain ⟨e', he'⟩ := T.te'
            obtain ⟨v, w', J, β', κ', hrun, hIJ, hk, hsim⟩ := app_sound' (ty := o.type) (y := y) T h hx (fun hu => src_tell h hy ht hf hu he') happ
            have ha : args = #[x, y] := by obtain ⟨args⟩ := args; simpa using hargs
            have hat : argTypes = #[t, t'] := by obtain ⟨argTypes⟩ := argTypes; simpa using hts
            subst ha
            subst hat
            have hrun' : (execOp a.eval o).run P w = .ok (.value v) w' := by simp [execOp, hop, resolve, invoke, builtin, hrun]
            rw [hrun']
            have hit : s'.it = s.it := by
              unfold appA at happ
              split at happ
              · split at happ
                · cases happ; rfl
                · cases happ
              · split at happ
                · cases happ
                · split at happ
                  · cases happ; rfl
                  · cases happ
              · split at happ
                · split at happ
                  · cases happ; rfl
                  · split at happ
                    · cases happ
                    · cases happ; rfl
                · cases happ
              · cases happ
            refine hn s' _ w' J hIJ (fun _ => hk) ⟨fun e => by rw [put_defers]; exact hdf e, w0, I0, β', κ', by rw [hit]; exact hB, by rw [hdst]; exact hsim⟩ hK
          · cases h5
        · cases hi
      · cases hi
      all_goals first | (simp_all; done) | (rename_i e _; cases e)
    · exact hs.elim
  · exact hs.elim

theorem sound_copy {o : Oper} {i : Inf} {c : Call} {next : Act → World → Prop} {Q : Exit → Act → World → Prop} {K : St → Prop} (hop : o.op = .call c) (hi : infOk' P o.op i = true)
    (hdf : its.isSome = true → a.defers = []) (hB : Base its w00 I00 Jt s.it w0 I0) (h : Sim w0 I0 I β κ s sav a w) (hs : copyA s o.dst c i K) (hn : Next1 its (Base its w00 I00 Jt) I sav w next K) : o.wpIn (wideR ro) 0 P a w next Q := by
  have hd : ∀ c, o.op ≠ .defer c := fun c e => by rw [hop] at e; cases e
  refine wpIn_run hd ?_
  obtain ⟨callee, args, argTypes⟩ := c
  rw [hop] at hi
  unfold copyA at hs
  split at hs
  · rename_i x y hc hargs
    simp only at hc hargs
    subst hc
    split at hs
    · rename_i b off n cap q hx hy
      obtain ⟨ys, cells, ht, hf, hm, hall, hle, hfit, hK⟩ := hs
      simp only [infOk'] at hi
      have ha : args = #[x, y] := by obtain ⟨args⟩ := args; simpa using hargs
      subst ha
      have hun : ∀ e ∈ ys, e.cells.length = i.n := fun e he => by
        have := List.all_eq_true.1 hall e he
        simp only [Bool.and_eq_true, beq_iff_eq] at this
        exact this.2
      split at hi
      · simp_all
      · simp_all
      · rename_i t t' _ hts
        have hat : argTypes = #[t, t'] := by obtain ⟨argTypes⟩ := argTypes; simpa using hts
        subst hat
        split at hi
        · rename_i e he
          simp only [Bool.and_eq_true, beq_iff_eq] at hi
          obtain ⟨e', he'⟩ := Option.isSome_iff_exists.1 hi.1
          obtain ⟨news, hsrc, hnews⟩ := src_tell (n := i.n) h hy ht hf hall he'
          obtain ⟨hmay, hIb, cs, ty, hw, hcs⟩ := h.mem b cells hm
          have hfl := flat_length hun
          have hnl := hnews.length
          have hcl := hcs.length
          have hx0 : a.eval x = .slice (some ⟨b, off, none⟩) n cap := (pv_C h hx).inv_s
          have hst := run_storeCells_at (P := P) b off ty news 0 cs w hw (by simp only [Array.length_toList] at hcl; omega) hsrc.one
          simp only [Nat.add_zero] at hst
          have hmin : Nat.min ys.length n = ys.length := Nat.min_eq_left hle
          have hln := hsrc.len w
          have hce := hsrc.cells
          have hrun : (execOp a.eval o).run P w = .ok (.value (goInt ys.length)) (w.setRow b (cs.toList.take off ++ news ++ cs.toList.drop (off + news.length)).toArray) := by
            simp [execOp, hop, resolve, invoke, builtin, Builtin.copy_, run_underlying (run_underlying_elem he), run_sizeOf_of hi.2, hx0, hln, hmin, hce, hst]
          rw [hrun]
          have honly := OnlyAt.setRow w b (cs.toList.take off ++ news ++ cs.toList.drop (off + news.length)).toArray
          have hheap := setRow_heap w b cs (cs.toList.take off ++ news ++ cs.toList.drop (off + news.length)).toArray ty (0, 0) hw
          have h2 := h.memStore hm honly hheap (cells' := cells.take off ++ flat ys ++ cells.drop (off + (flat ys).length))
            (by rw [hnl]; simpa using ((hcs.take off).append hnews).append (hcs.drop (off + news.length)))
          refine hn _ _ _ I (Imm.le_refl _) (fun _ => KeepsOthers.onlyAt honly hw) (sat_put (s := { s with mm := s.mm.put b (cells.take off ++ flat ys ++ cells.drop (off + (flat ys).length)) }) hdf hB h2 (.v (.s _)) o.dst) ?_
          rw [← putT_mm]
          exact hK
        · cases hi
      · cases hi
      all_goals first | (simp_all; done) | (rename_i e _; cases e)
    · exact hs.elim
  · exact hs.elim

theorem cs_rest (I : Imm) : ∀ (l : List Value), Cs I (List.replicate l.length .junk) l
  | [] => .nil
  | x :: l => .cons (.junk x) (cs_rest I l)

theorem sound_appIn {o : Oper} {i : Inf} {c : Call} {next : Act → World → Prop} {Q : Exit → Act → World → Prop} {K : St → Prop} (hop : o.op = .call c) (hi : infOk' P o.op i = true)
    (hdf : its.isSome = true → a.defers = []) (hB : Base its w00 I00 Jt s.it w0 I0) (h : Sim w0 I0 I β κ s sav a w) (hs : appInA s o.dst c i K) (hn : Next1 its (Base its w00 I00 Jt) I sav w next K) : o.wpIn (wideR ro) 0 P a w next Q := by
  have hd : ∀ c, o.op ≠ .defer c := fun c e => by rw [hop] at e; cases e
  refine wpIn_run hd ?_
  obtain ⟨callee, args, argTypes⟩ := c
  rw [hop] at hi
  unfold appInA at hs
  split at hs
  · rename_i x y hc hargs
    simp only at hc hargs
    subst hc
    split at hs
    · rename_i b off n cap q hx hy
      obtain ⟨ys, cells, ht, hf, hm, hall, hle, hfit, hK⟩ := hs
      simp only [infOk'] at hi
      have ha : args = #[x, y] := by obtain ⟨args⟩ := args; simpa using hargs
      subst ha
      have hun : ∀ e ∈ ys, e.cells.length = i.n := fun e he => by
        have := List.all_eq_true.1 hall e he
        simp only [Bool.and_eq_true, beq_iff_eq] at this
        exact this.2
      split at hi
      · rename_i t t' _ hts
        have hat : argTypes = #[t, t'] := by obtain ⟨argTypes⟩ := argTypes; simpa using hts
        subst hat
        split at hi
        · rename_i e he
          simp only [Bool.and_eq_true, beq_iff_eq, bne_iff_ne, ne_eq] at hi
          obtain ⟨⟨⟨⟨h1, h2⟩, h3⟩, h4⟩, h5⟩ := hi
          split at h5
          · rename_i z hz
            obtain ⟨ti, hti, hzz⟩ := Option.bind_eq_some_iff.1 hz
            have hsz : ti.size = i.n := by simpa [tSize, hti] using h2
            obtain ⟨e', he'⟩ := Option.isSome_iff_exists.1 h1
            obtain ⟨news, hsrc, hnews⟩ := src_tell (n := i.n) h hy ht hf hall he'
            obtain ⟨hmay, hIb, cs, ty, hw, hcs⟩ := h.mem b cells hm
            have hnl := hnews.length
            have hcl := hcs.length
            have hx0 : a.eval x = .slice (some ⟨b, off, none⟩) n cap := (pv_C h hx).inv_s
            have hsrc' : Src P ti.size t' (a.eval y) ys.length news w := by rw [hsz]; exact hsrc
            have hcsz : off + n * i.n + news.length ≤ cs.size := by rw [← hnl]; simpa [hcl] using hfit
            have hrun0 := run_append_room_src w t t' o.type e ti (run_underlying_elem he) hti b off n cap (a.eval y) ys.length news hsrc' hle
              (fun j hj => by
                have : off + n * ti.size + j < cs.size := by rw [hsz]; omega
                simp [World.cell?, hw, this])
              (fun j hj => by simp [World.frozen?, hw])
            rw [hsz] at hrun0
            have hrun : (execOp a.eval o).run P w = .ok (.value (.slice (some ⟨b, off, none⟩) (n + ys.length) cap)) (w.setCells b (off + n * i.n) news) := by
              simp [execOp, hop, resolve, invoke, builtin, hx0, hrun0]
            rw [hrun]
            have honly := OnlyAt.setCells b news (off + n * i.n) w
            obtain ⟨cs', w1, w2, w3⟩ := setCells_heap b news (off + n * i.n) w cs hw hcsz
            have h2 := h.memStore hm honly w1 (cells' := cells.take (off + n * i.n) ++ flat ys ++ cells.drop (off + n * i.n + (flat ys).length))
              (by rw [w2, hnl]; exact ((hcs.take _).append hnews).append (hcs.drop _))
            refine hn _ _ _ I (Imm.le_refl _) (fun _ => KeepsOthers.onlyAt honly hw) (sat_put (s := { s with mm := s.mm.put b (cells.take (off + n * i.n) ++ flat ys ++ cells.drop (off + n * i.n + (flat ys).length)) }) hdf hB h2 (.v (.s _)) o.dst) ?_
            rw [← putT_mm]
            exact hK
          · cases h5
        · cases hi
      · cases hi
      all_goals first | (simp_all; done) | (rename_i e _; cases e)
    · exact hs.elim
  · exact hs.elim

theorem sound_grow {o : Oper} {i : Inf} {c : Call} {next : Act → World → Prop} {Q : Exit → Act → World → Prop} {K : St → Prop} (hop : o.op = .call c) (hi : infOk' P o.op i = true)
    (hdf : its.isSome = true → a.defers = []) (hB : Base its w00 I00 Jt s.it w0 I0) (h : Sim w0 I0 I β κ s sav a w) (hs : growA s o.dst c i K) (hn : Next1 its (Base its w00 I00 Jt) I sav w next K) : o.wpIn (wideR ro) 0 P a w next Q := by
  have hd : ∀ c, o.op ≠ .defer c := fun c e => by rw [hop] at e; cases e
  refine wpIn_run hd ?_
  obtain ⟨callee, args, argTypes⟩ := c
  rw [hop] at hi
  unfold growA at hs
  split at hs
  · rename_i x y hc hargs
    simp only at hc hargs
    subst hc
    split at hs
    · rename_i p q hx hy
      obtain ⟨els, ys, htx, hty, hrx, hry, hfit, hK0, hK⟩ := hs
      simp only [infOk'] at hi
      have ha : args = #[x, y] := by obtain ⟨args⟩ := args; simpa using hargs
      subst ha
      split at hi
      · rename_i t t' _ hts
        have hat : argTypes = #[t, t'] := by obtain ⟨argTypes⟩ := argTypes; simpa using hts
        subst hat
        split at hi
        · rename_i e he
          simp only [Bool.and_eq_true, beq_iff_eq, bne_iff_ne, ne_eq] at hi
          obtain ⟨⟨⟨⟨h1, h2⟩, h3⟩, h4⟩, h5⟩ := hi
          split at h5
          · rename_i z hz
            simp only [beq_iff_eq] at h5
            obtain ⟨ti, hti, hzz⟩ := Option.bind_eq_some_iff.1 hz
            have T : AppTy P t t' e z ti i.n i.t :=
              { te := he, te' := Option.isSome_iff_exists.1 h1, info := hti, size := by simpa [tSize, hti] using h2, bts := by simpa [hti] using h4, zero := hzz, zsize := h5, pos := h3 }
            obtain ⟨e', he'⟩ := T.te'
            have hT : P.underlying t = some (.slice e) := run_underlying_elem T.te
            obtain ⟨hu1, hu2, hu3, hb, helsok⟩ := fits_spec hfit
            obtain ⟨news, hsrc, hnews⟩ := src_tell (n := i.n) h hy hty hry hu2 he'
            obtain ⟨base, olds, hxe, hol, hcf, hold⟩ : ∃ base olds, a.eval x = .slice base els.length els.length ∧ olds.length = els.length * i.n ∧ Cs (memI I s.mm w) (flat els) olds ∧
                (Builtin.firstCells i.n els.length (.slice base els.length els.length)).run P w.drew = .ok olds.toArray w.drew := by
              have hC := Tell.sound h.memAt htx ((pv_C h hx).mono (memI_le h.memAt))
              have hg := memI_good h.good h.memAt
              generalize a.eval x = u at hC
              cases hC with
              | sl0 => exact ⟨none, [], rfl, by simp, .nil, by simpa using run_firstCells_none (P := P) w.drew i.n 0 0 0⟩
              | @sle _ ad => exact ⟨some ad, [], rfl, by simp, .nil, run_firstCells_some (P := P) w.drew i.n 0 ad 0 0 [] (by simp) (fun j v hj => by simp at hj)⟩
              | @sl _ _ b off m sz cap arr hI huu hm hc hl hcap hex =>
                subst hm
                have hc1 := hex rfl
                subst hc1
                obtain ⟨cs1, ty1, fz1, more1, q1, q2⟩ := hg b arr hI
                have hfl := flat_length hu1
                refine ⟨some ⟨b, off, none⟩, (arr.drop off).take (flat els).length, rfl, by simp only [List.length_take, List.length_drop]; omega, hc, ?_⟩
                refine run_firstCells_some (P := P) w.drew i.n els.length ⟨b, off, none⟩ els.length els.length _ (by simp only [List.length_take, List.length_drop]; omega) (fun j v hj => ?_)
                rw [addr_add]
                show w.cell? _ = _
                exact cellsAt_of q1 ⟨(flat els).length, by rw [q2, List.drop_append_of_le_length (by omega), List.take_append_of_le_length (by simp; omega)]⟩ j v hj
            by_cases hy0 : ys = []
            · subst hy0
              have hn0 : news = [] := by cases hnews; rfl
              subst hn0
              have hfc : (Builtin.firstCells i.n 0 (a.eval y)).run P w = .ok #[] w := hsrc.cells
              have hln : (Builtin.lenOf (a.eval y)).run P w = .ok 0 w := hsrc.len w
              have hrun1 : (Builtin.append_ #[t, t'] o.type #[a.eval x, a.eval y]).run P w = .ok (a.eval x) w := by
                rw [hxe]
                rcases hsrc.kind with ⟨e2, hk⟩ | hk <;> cases base <;> simp [Builtin.append_, run_underlying hT, run_underlying hk, sizeOf, typeInfo, T.info, hln, T.size, hfc, storeCells]
              have hrun : (execOp a.eval o).run P w = .ok (.value (a.eval x)) w := by simp [execOp, hop, resolve, invoke, builtin, hrun1]
              rw [hrun]
              exact hn _ _ _ I (Imm.le_refl _) (fun _ => KeepsOthers.refl _) (sat_put (s := s) hdf hB h (.v (pv_C h hx)) o.dst) (hK0 rfl)
            · have hpos : 0 < ys.length := List.length_pos_iff.2 hy0
              obtain ⟨cap', cs, hrun1, hcap, hcs, htake⟩ := run_grow (ty := o.type) T (base := base) (len := els.length) (cap := els.length) (olds := olds) hsrc hold (by omega) hb hol
              rw [← hxe] at hrun1
              have hrun : (execOp a.eval o).run P w = .ok (.value (.slice (some ⟨w.heap.size, 0, none⟩) (els.length + ys.length) cap')) (w.drew.alloc (.cells cs e)) := by simp [execOp, hop, resolve, invoke, builtin, hrun1]
              rw [hrun]
              have hcfl : Cs I (flat (els ++ ys)) (olds ++ news) := by rw [flat_append]; exact (RFs.any hrx hcf).append hnews
              have hfl : (flat (els ++ ys)).length = (els.length + ys.length) * i.n := by
                rw [flat_length (els := els ++ ys) (fun x hx => by
                  rcases List.mem_append.1 hx with hx | hx
                  · exact hu1 x hx
                  · exact hu3 x hx), List.length_append]
              have hmul : (els.length + ys.length) * i.n ≤ cap' * i.n := Nat.mul_le_mul_right _ hcap
              have hdrop : (cs.toList.drop ((els.length + ys.length) * i.n)).length = cap' * i.n - (els.length + ys.length) * i.n := by rw [List.length_drop, Array.length_toList, hcs]
              have hC : Cs I (flat (els ++ ys) ++ List.replicate (cap' * i.n - (els.length + ys.length) * i.n) .junk) cs.toList := by
                rw [← List.take_append_drop ((els.length + ys.length) * i.n) cs.toList, htake, ← hdrop]
                exact hcfl.append (cs_rest I _)
              have hfree : s.mm w.heap.size = none := h.memNone (Nat.le_refl _)
              have h2 := h.drew.memNew (ty := e) hC
              refine hn _ _ _ I (Imm.le_refl _) (fun _ => KeepsOthers.drewAlloc w _) (sat_put (s := { s with mm := s.mm.put w.heap.size (flat (els ++ ys) ++ List.replicate (cap' * i.n - (els.length + ys.length) * i.n) .junk) }) hdf hB h2 (.v (.s _)) o.dst) ?_
              rw [← putT_mm]
              exact hK hy0 w.heap.size cap' _ hfree hcap (by rw [hfl]; omega)
          · cases h5
        · cases hi
      · cases hi
      all_goals first | (simp_all; done) | (rename_i e _; cases e)
    · exact hs.elim
  · exact hs.elim

end
end Go.Proofs.YtambpjbpdackfaaGreat.A


/- Regions in the text's order; what is said of a state that no operation does. -/
set_option linter.unusedVariables false
set_option linter.unusedSimpArgs false
namespace Go.Proofs.YtambpjbpdackfaaGreat.A
open Go Go.RowKit Go.Shelf

/-- What a region's operations are, without where they stand in the text. -/
def opKey (o : Oper) : Option Nat × Op × Option (Nat × Bool) × List Nat := (o.dst, o.op, o.guard, (o.after.toList.filter fun e => Region.binds .any e).map (·.on))
def AO.key (o : AO) : Option Nat × Op × Option (Nat × Bool) × List Nat := (o.dst, o.op, o.guard, o.pre)

structure OpsAgree (P : Program) (ao : List AO) (ops : Array Oper) : Prop where
  same : ops.toList.map opKey = ao.map AO.key
  inf : ao.all (fun a => infOk' P a.op a.inf) = true

theorem OpsAgree.get {P : Program} {ao : List AO} {ops : Array Oper} (h : OpsAgree P ao ops) {i : Nat} {o : Oper} (ho : ops[i]? = some o) : ∃ a, ao[i]? = some a ∧ a.dst = o.dst ∧ a.op = o.op ∧ a.guard = o.guard ∧ a.pre = (o.after.toList.filter fun e => Region.binds .any e).map (·.on) ∧ infOk' P a.op a.inf = true := by
  have h1 := congrArg (fun l => l[i]?) h.same
  simp only [List.getElem?_map, Array.getElem?_toList, ho, Option.map_some] at h1
  cases ha : ao[i]? with
  | none => rw [ha] at h1; cases h1
  | some a =>
    rw [ha] at h1
    simp only [Option.map_some, Option.some.injEq] at h1
    simp only [opKey, AO.key, Prod.mk.injEq] at h1
    have h2 := h.inf
    rw [List.all_eq_true] at h2
    exact ⟨a, rfl, h1.1.symm, h1.2.1.symm, h1.2.2.1.symm, h1.2.2.2.symm, h2 a (List.mem_of_getElem? ha)⟩

theorem OpsAgree.length {P : Program} {ao : List AO} {ops : Array Oper} (h : OpsAgree P ao ops) : ao.length = ops.size := by
  have := congrArg List.length h.same
  simpa using this.symm

section
variable {P : Program} {its : Option (Nat × List Item)} {w00 : Bs} {I00 : Imm} {Jt : Nat → Imm → World → Prop} {ro : Option Nat}
variable {w0 : Bs} {w w' : World} {I0 I J : Imm} {β : Nat → Nat} {κ : Nat → Nat × Nat × Nat} {s s' : St} {sav : List (Array Value)} {a : Act}

theorem run_nilTest {t e : TypeId} (hu : P.underlying t = some (.slice e)) {ex : Bool} {els : List PV} {u : Value} (hC : C I (.sl ex els) u) (x y : Operand) :
    ∃ b : Bool, (els.isEmpty = false → b = false) ∧ (eqGuard .eql t x y u (.slice none 0 0)).run P w = .ok () w ∧ (binOp .eql t u (.slice none 0 0)).run P w = .ok (.bool b) w := by
  cases hC with
  | sl0 =>
    refine ⟨true, (fun h => by cases h), run_eqGuard_num (by simp) (by simp) w, ?_⟩
    have e1 : binOp .eql t (.slice none 0 0) (.slice none 0 0) = (do pure (.bool (← Op.equal t (.slice none 0 0) (.slice none 0 0)))) := rfl
    have h : (Op.equal t (.slice none 0 0) (.slice none 0 0)).run P w = .ok true w := eqIn_nil_slice 9999 hu none 0 0 0 0 w
    rw [e1]
    simp [h]
  | @sle _ ad =>
    refine ⟨false, fun _ => rfl, run_eqGuard_num (by simp) (by simp) w, ?_⟩
    have e1 : binOp .eql t (.slice (some ad) 0 0) (.slice none 0 0) = (do pure (.bool (← Op.equal t (.slice (some ad) 0 0) (.slice none 0 0)))) := rfl
    have h : (Op.equal t (.slice (some ad) 0 0) (.slice none 0 0)).run P w = .ok false w := eqIn_slice_nil 9999 hu _ _ _ _ _ w
    rw [e1]
    simp [h]
  | @sl _ _ b off n sz cap arr _ _ _ _ _ _ _ =>
    refine ⟨false, fun _ => rfl, run_eqGuard_num (by simp) (by simp) w, ?_⟩
    have e1 : binOp .eql t (.slice (some ⟨b, off, none⟩) n cap) (.slice none 0 0) = (do pure (.bool (← Op.equal t (.slice (some ⟨b, off, none⟩) n cap) (.slice none 0 0)))) := rfl
    have h : (Op.equal t (.slice (some ⟨b, off, none⟩) n cap) (.slice none 0 0)).run P w = .ok false w := eqIn_slice_nil 9999 hu _ _ _ _ _ w
    rw [e1]
    simp [h]

theorem sound_nil {o : Oper} {ao : AO} {x : Operand} {next : Act → World → Prop} {Q : Exit → Act → World → Prop} {K : St → Prop} (hop : ao.op = o.op) (hdst : ao.dst = o.dst) (hi : infOk' P ao.op ao.inf = true)
    (hdf : its.isSome = true → a.defers = []) (hB : Base its w00 I00 Jt s.it w0 I0) (h : Sim w0 I0 I β κ s sav a w) (hx : nilTest ao = some x) (hs : nilA s o.dst x K) (hn : Next1 its (Base its w00 I00 Jt) I sav w next K) : o.wpIn (wideR ro) 0 P a w next Q := by
  unfold nilTest at hx
  split at hx
  · rename_i t x' yt hop'
    split at hx
    · rename_i hfl
      cases hx
      rw [hop'] at hop hi
      obtain ⟨odst, oop, otype, opos, oaf, og⟩ := o
      simp only at hop hs
      subst hop
      have hu : ∃ e, P.underlying t = some (.slice e) := by
        simp only [infOk', infOk] at hi
        exact eqTy_slice (i := ao.inf) hi hfl.2
      obtain ⟨e, hu⟩ := hu
      refine wpIn_run (by simp) ?_
      have hgo : ∀ b : Bool, K (putT s odst (bl b)) → next (a.put odst (.bool b)) w := fun b hK =>
        hn _ _ w I (Imm.le_refl _) (fun _ => KeepsOthers.refl _) ⟨fun e => by rw [put_defers]; exact hdf e, w0, I0, β, κ, by
          have : (putT s odst (.v (.s (.bool b)))).it = s.it := by cases odst <;> rfl
          rw [this]; exact hB, h.putT odst (.v (.s _))⟩ hK
      unfold nilA at hs
      split at hs
      · rename_i ex els hev
        have hC := (ev_R h hev).inv
        obtain ⟨b, h1, h2, h3⟩ := run_nilTest (w := w) hu hC x (.const (.slice none 0 0))
        have hrun : (execOp a.eval ⟨odst, .binOp .eql t x (.const (.slice none 0 0)) yt, otype, opos, oaf, og⟩).run P w = .ok (.value (.bool b)) w := by
          have e0 : a.eval (.const (.slice none 0 0)) = .slice none 0 0 := rfl
          simp [execOp, e0, h2, h3]
        rw [hrun]
        exact hgo b (hs b h1)
      · rename_i hev
        have hC := (ev_R h hev).inv.inv_s
        obtain ⟨b, h1, h2, h3⟩ := run_nilTest (w := w) (I := I) hu (C.sl0 (ex := true)) x (.const (.slice none 0 0))
        have h4 : (binOp .eql t (.slice none 0 0) (.slice none 0 0)).run P w = .ok (.bool true) w := by
          have e1 : binOp .eql t (.slice none 0 0) (.slice none 0 0) = (do pure (.bool (← Op.equal t (.slice none 0 0) (.slice none 0 0)))) := rfl
          have h : (Op.equal t (.slice none 0 0) (.slice none 0 0)).run P w = .ok true w := eqIn_nil_slice 9999 hu none 0 0 0 0 w
          rw [e1]
          simp [h]
        have hrun : (execOp a.eval ⟨odst, .binOp .eql t x (.const (.slice none 0 0)) yt, otype, opos, oaf, og⟩).run P w = .ok (.value (.bool true)) w := by
          have e0 : a.eval (.const (.slice none 0 0)) = .slice none 0 0 := rfl
          simp [execOp, e0, hC, h2, h4]
        rw [hrun]
        exact hgo true hs
      · rename_i tk els hev
        have hR := ev_R h hev
        have hrun : (execOp a.eval ⟨odst, .binOp .eql t x (.const (.slice none 0 0)) yt, otype, opos, oaf, og⟩).run P w = .ok (.value (.bool els.isEmpty)) w := by
          have e0 : a.eval (.const (.slice none 0 0)) = .slice none 0 0 := rfl
          generalize hu0 : a.eval x = u at hR
          cases hR with
          | acc0 =>
            obtain ⟨b, h1, h2, h3⟩ := run_nilTest (w := w) (I := I) hu (C.sl0 (ex := true)) x (.const (.slice none 0 0))
            have h4 : (binOp .eql t (.slice none 0 0) (.slice none 0 0)).run P w = .ok (.bool true) w := by
              have e1 : binOp .eql t (.slice none 0 0) (.slice none 0 0) = (do pure (.bool (← Op.equal t (.slice none 0 0) (.slice none 0 0)))) := rfl
              have h : (Op.equal t (.slice none 0 0) (.slice none 0 0)).run P w = .ok true w := eqIn_nil_slice 9999 hu none 0 0 0 0 w
              rw [e1]
              simp [h]
            simp [execOp, e0, hu0, h2, h4]
          | @acc _ _ c n cap sz g1 g2 g3 g4 g5 g6 =>
            have hemp : els.isEmpty = false := by cases els <;> simp_all
            have h2 : (eqGuard .eql t x (.const (.slice none 0 0)) (.slice (some ⟨c, 0, none⟩) n cap) (.slice none 0 0)).run P w = .ok () w := run_eqGuard_num (by simp) (by simp) w
            have h4 : (binOp .eql t (.slice (some ⟨c, 0, none⟩) n cap) (.slice none 0 0)).run P w = .ok (.bool false) w := by
              have e1 : binOp .eql t (.slice (some ⟨c, 0, none⟩) n cap) (.slice none 0 0) = (do pure (.bool (← Op.equal t (.slice (some ⟨c, 0, none⟩) n cap) (.slice none 0 0)))) := rfl
              have h : (Op.equal t (.slice (some ⟨c, 0, none⟩) n cap) (.slice none 0 0)).run P w = .ok false w := eqIn_slice_nil 9999 hu _ _ _ _ _ w
              rw [e1]
              simp [h]
            rw [hemp]
            simp [execOp, e0, hu0, h2, h4]
        rw [hrun]
        exact hgo _ hs
      · exact hs.elim
    · cases hx
  · cases hx

theorem sound_exec {o : Oper} {ao : AO} {next : Act → World → Prop} {Q : Exit → Act → World → Prop} {K : St → Prop} (hop : ao.op = o.op) (hdst : ao.dst = o.dst) (hi : infOk' P ao.op ao.inf = true) (hctx : Ctx P its Jt)
    (hdf : its.isSome = true → a.defers = []) (hB : Base its w00 I00 Jt s.it w0 I0) (h : Sim w0 I0 I β κ s sav a w) (hs : execA P its s ao K) (hn : Next1 its (Base its w00 I00 Jt) I sav w next K) : o.wpIn (wideR ro) 0 P a w next Q := by
  unfold execA at hs
  split at hs
  · split at hs
    · rename_i x hx
      exact sound_nil hop hdst hi hdf hB h hx (hdst ▸ hs) hn
    unfold execB at hs
    split at hs
    · rename_i c hc
      split at hs
      · obtain ⟨s', h1, h2⟩ := hs
        exact sound_step hop hdst hi hdf hB h h1 h2 hn
      · rw [hdst] at hs
        exact sound_call (hop ▸ hc) hctx hdf hB h hs hn
    · obtain ⟨s', h1, h2⟩ := hs
      exact sound_step hop hdst hi hdf hB h h1 h2 hn
  · rename_i k hk
    unfold execM at hs
    rw [hop] at hi
    rw [hop, hdst] at hs
    split at hs
    · rename_i c _ hc; exact sound_lend hc hdf hB h hs hn
    · rename_i c _ hc; exact sound_mem hc hdf hB h hs hn
    · rename_i hc; exact sound_new hi hc hdf hB h hs hn
    · rename_i c _ hc; exact sound_appM hc hi hdf hB h hs hn
    · rename_i c _ hc; exact sound_copy hc hi hdf hB h hs hn
    · rename_i c _ hc; exact sound_lendNew hc hdf hB h hs hn
    · rename_i c _ hc; exact sound_appIn hc hi hdf hB h hs hn
    · rename_i c _ hc; exact sound_grow hc hi hdf hB h hs hn
    · rename_i c _ hc
      rcases hs with hs | hs
      · exact sound_lendAcc hc hdf hB h hs hn
      · exact sound_lend hc hdf hB h hs hn
    · exact hs.elim

/-- The value that a guard looks at. -/
theorem guard_val {ops : Array Oper} {all : List AO} (hag : OpsAgree P all ops) (h : Sim w0 I0 I β κ s sav a w) {j : Nat} {b : Bool} (hg : ((all[j]?).bind (·.dst)).bind (s.tm[·]?) = some (.v (.s (.bool b)))) : yielded ops a.tmps j = some b := by
  obtain ⟨d, h1, h2⟩ := Option.bind_eq_some_iff.1 hg
  obtain ⟨ao, h3, h4⟩ := Option.bind_eq_some_iff.1 h1
  have hlt : j < ops.size := by rw [← hag.length]; exact (List.getElem?_eq_some_iff.1 h3).1
  obtain ⟨ao', k1, k2, _⟩ := hag.get (Array.getElem?_eq_getElem hlt)
  rw [h3] at k1
  cases k1
  obtain ⟨v, hv, hR⟩ := h.tm.get h2
  have hvb := hR.inv.inv_s
  subst hvb
  unfold yielded
  rw [Array.getElem?_eq_getElem hlt]
  simp only [Option.bind_some]
  rw [← k2, h4]
  simp only [Option.bind_some]
  rw [Array.getElem?_toList] at hv
  rw [hv]

/-- What a guard looks at was passed by itself. -/
theorem guard_none {ops : Array Oper} {all : List AO} (hag : OpsAgree P all ops) (h : Sim w0 I0 I β κ s sav a w) {j : Nat} (hg : ((all[j]?).bind (·.dst)).bind (s.tm[·]?) = some (.v (.tup []))) : yielded ops a.tmps j = none := by
  obtain ⟨d, h1, h2⟩ := Option.bind_eq_some_iff.1 hg
  obtain ⟨ao, h3, h4⟩ := Option.bind_eq_some_iff.1 h1
  have hlt : j < ops.size := by rw [← hag.length]; exact (List.getElem?_eq_some_iff.1 h3).1
  obtain ⟨ao', k1, k2, _⟩ := hag.get (Array.getElem?_eq_getElem hlt)
  rw [h3] at k1
  cases k1
  obtain ⟨v, hv, hR⟩ := h.tm.get h2
  have hC := hR.inv
  cases hC with
  | tup hl =>
    unfold yielded
    rw [Array.getElem?_eq_getElem hlt]
    simp only [Option.bind_some]
    rw [← k2, h4]
    simp only [Option.bind_some]
    rw [Array.getElem?_toList] at hv
    rw [hv]
theorem sound_op {ops : Array Oper} {all : List AO} (hag : OpsAgree P all ops) (hctx : Ctx P its Jt) {i : Nat} {rest : List Nat} {ao : AO} {K : St → Prop} {Q : Exit → Act → World → Prop} (hao : all[i]? = some ao)
    (hdf : its.isSome = true → a.defers = []) (hB : Base its w00 I00 Jt s.it w0 I0) (h : Sim w0 I0 I β κ s sav a w) (hs : wpOp P its all ao s K)
    (hn : Next1 its (Base its w00 I00 Jt) I sav w (wpOpsIn (wideR ro) 0 P ops Q rest) K) : wpOpsIn (wideR ro) 0 P ops Q (i :: rest) a w := by
  have hlt : i < ops.size := by rw [← hag.length]; exact (List.getElem?_eq_some_iff.1 hao).1
  obtain ⟨ao', k1, k2, k3, k4, k5, k6⟩ := hag.get (Array.getElem?_eq_getElem hlt)
  rw [hao] at k1
  cases k1
  simp only [wpOpsIn, Array.getElem?_eq_getElem hlt]
  unfold wpOp at hs
  split at hs
  · rename_i hg
    have hw : Region.wanted ops[i] (yielded ops a.tmps) = true := by unfold Region.wanted; rw [← k4, hg]
    rw [if_pos hw]
    exact sound_exec k3 k2 k6 hctx hdf hB h hs hn
  · rename_i j want hg
    split at hs
    · rename_i b hb
      have hy := guard_val hag h hb
      split at hs
      · rename_i hbw
        have hw : Region.wanted ops[i] (yielded ops a.tmps) = true := by unfold Region.wanted; rw [← k4, hg]; simp only [hy, hbw, beq_self_eq_true]
        rw [if_pos hw]
        exact sound_exec k3 k2 k6 hctx hdf hB h hs hn
      · rename_i hbw
        have hw : ¬ (Region.wanted ops[i] (yielded ops a.tmps) = true) := by unfold Region.wanted; rw [← k4, hg]; simp only [hy]; simpa using hbw
        rw [if_neg hw]
        refine ⟨fun _ _ => trivial, ?_⟩
        refine hn _ _ w I (Imm.le_refl _) (fun _ => KeepsOthers.refl _) ⟨fun e => by rw [put_defers]; exact hdf e, w0, I0, β, κ, ?_, h.putT _ (.v (.tup .nil))⟩ (k2 ▸ hs)
        have : (putT s ops[i].dst (.v (.tup []))).it = s.it := by cases ops[i].dst <;> rfl
        rw [this]; exact hB
    · rename_i hb
      have hy := guard_none hag h hb
      have hw : ¬ (Region.wanted ops[i] (yielded ops a.tmps) = true) := by unfold Region.wanted; rw [← k4, hg]; simp only [hy]; simp
      rw [if_neg hw]
      refine ⟨fun _ _ => trivial, ?_⟩
      refine hn _ _ w I (Imm.le_refl _) (fun _ => KeepsOthers.refl _) ⟨fun e => by rw [put_defers]; exact hdf e, w0, I0, β, κ, ?_, h.putT _ (.v (.tup .nil))⟩ (k2 ▸ hs)
      have : (putT s ops[i].dst (.v (.tup []))).it = s.it := by cases ops[i].dst <;> rfl
      rw [this]; exact hB
    · exact hs.elim

/-- What is told behind code. -/
def PostA (its : Option (Nat × List Item)) (B : Nat → Bs → Imm → Prop) (I : Imm) (sav : List (Array Value)) (w : World) (Q : XA → St → Prop) : Exit → Act → World → Prop
  | .normal, a', w' => ∃ s' J, Q .normal s' ∧ I.le J ∧ (its = none → KeepsOthers w w') ∧ Sat its B J s' sav a' w'
  | .ret, a', w' => ∃ s' J, Q .ret s' ∧ I.le J ∧ (its = none → KeepsOthers w w') ∧ Sat its B J s' sav a' w'
  | .exit id, a', w' => ∃ s' J, Q (.exit id) s' ∧ I.le J ∧ (its = none → KeepsOthers w w') ∧ Sat its B J s' sav a' w'
  | _, _, _ => False

theorem sound_ops {ops : Array Oper} {all : List AO} (hag : OpsAgree P all ops) (hctx : Ctx P its Jt) {Q : XA → St → Prop} (Iz : Imm) (wz : World) : ∀ (n k : Nat), k + n = ops.size → ∀ {I w s a w0 I0 β κ}, Iz.le I → (its = none → KeepsOthers wz w) →
    (its.isSome = true → a.defers = []) → Base its w00 I00 Jt s.it w0 I0 → Sim w0 I0 I β κ s sav a w → wpOpsA P its all (all.drop k) s (Q .normal) →
    wpOpsIn (wideR ro) 0 P ops (PostA its (Base its w00 I00 Jt) Iz sav wz Q) (List.range' k n) a w
  | 0, k, hk, I, w, s, a, w0, I0, β, κ, hle, hkeep, hdf, hB, h, hs => by
    have e : all.drop k = [] := List.drop_eq_nil_of_le (by rw [hag.length]; omega)
    rw [e] at hs
    exact ⟨s, I, hs, hle, hkeep, hdf, w0, I0, β, κ, hB, h⟩
  | n + 1, k, hk, I, w, s, a, w0, I0, β, κ, hle, hkeep, hdf, hB, h, hs => by
    have hlt : k < all.length := by rw [hag.length]; omega
    have e : all.drop k = all[k] :: all.drop (k + 1) := List.drop_eq_getElem_cons hlt
    rw [e] at hs
    refine sound_op hag hctx (List.getElem?_eq_getElem hlt) hdf hB h hs ?_
    intro s' a' w' J hle' hkeep' ⟨hdf1, w1, I1, β1, κ1, hB1, h1⟩ hK
    exact sound_ops hag hctx Iz wz n (k + 1) (by omega) (Imm.le_trans hle hle') (fun e => (hkeep e).trans (hkeep' e)) hdf1 hB1 h1 hK

/-! ### What no operation does -/
theorem Sim.junkAll (l : List Nat) : ∀ {s : St}, Sim w0 I0 I β κ s sav a w → Sim w0 I0 I β κ { s with tm := A.junkAll l s.tm } sav a w := by
  induction l with
  | nil => exact fun h => h
  | cons d l ih =>
    intro s h
    have htm : Rs I β κ (tkOf s.tk) (s.tm.set d (.v .junk)) a.tmps.toList := by
      have hl := h.tm.length
      by_cases hd : d < a.tmps.toList.length
      · have := h.tm.set d (x := .v .junk) (v := a.tmps.toList[d]) (.v (.junk _))
        rwa [List.set_getElem_self] at this
      · have e : s.tm.set d (.v .junk) = s.tm := List.set_eq_of_length_le (by omega)
        rw [e]
        exact h.tm
    have h1 : Sim w0 I0 I β κ { s with tm := s.tm.set d (.v .junk) } sav a w := { h with tm := htm }
    exact ih h1

theorem lk_rmAll {γ : Type} (ds : List Nat) : ∀ (l : List (Nat × γ)) (b : Nat) (c : γ), lk b (rmAll ds l) = some c → lk b l = some c := by
  induction ds with
  | nil => exact fun _ _ _ h => h
  | cons d ds ih =>
    intro l b c h
    have := ih _ b c h
    rw [lk_rm] at this
    split at this
    · cases this
    · exact this

theorem Sim.boxTo (h : Sim w0 I0 I β κ s sav a w) {b : Nat} {cells cells' : List TV} (hb : lk b s.bx = some cells) (hR : ∀ vs, Rs I β κ (tkOf s.tk) cells vs → Rs I β κ (tkOf s.tk) cells' vs) :
    Sim w0 I0 I β κ { s with bx := upd b cells' s.bx } sav a w := by
  have hold : ∀ j c, lk j (upd b cells' s.bx) = some c → ∃ c0, lk j s.bx = some c0 ∧ (j = b → c0 = cells ∧ c = cells') ∧ (j ≠ b → c0 = c) := by
    intro j c hj
    rw [lk_upd] at hj
    by_cases e : j = b
    · rw [if_pos e] at hj
      cases hj
      subst e
      exact ⟨cells, hb, fun _ => ⟨rfl, rfl⟩, fun e => (e rfl).elim⟩
    · rw [if_neg e] at hj
      exact ⟨c, hj, fun e' => (e e').elim, fun _ => rfl⟩
  exact
    { h with
      box := fun j c hj => by
        obtain ⟨c0, h0, h1, h2⟩ := hold j c hj
        obtain ⟨g1, g2, cs, ty, g3, g4⟩ := h.box j c0 h0
        refine ⟨g1, g2, cs, ty, g3, ?_, g4.2⟩
        by_cases e : j = b
        · obtain ⟨e1, e2⟩ := h1 e
          rw [e2]
          rw [e1] at g4
          exact hR _ g4.1
        · rw [← h2 e]; exact g4.1
      mbx := fun j c hj => by
        obtain ⟨c0, h0, _⟩ := hold j c hj
        exact h.mbx j c0 h0
      inj := fun j j' c c' hj hj' hβ => by
        obtain ⟨c0, h0, _⟩ := hold j c hj
        obtain ⟨c1, h1, _⟩ := hold j' c' hj'
        exact h.inj _ _ _ _ h0 h1 hβ }

theorem Rs_tovs {tk : Nat → Nat} : ∀ {l : List TV} {cs : List PV} {vs : List Value}, tovs l = some cs → Rs I β κ tk l vs → Rs I β κ tk (cs.map .v) vs
  | [], cs, vs, h, hR => by simp only [tovs, Option.some.injEq] at h; subst h; cases hR; exact .nil
  | x :: l, cs, vs, h, hR => by
    simp only [tovs] at h
    split at h
    · rename_i y ys h1 h2
      cases h
      cases hR with
      | cons g1 g2 => exact .cons (.v (tov_C g1 h1)) (Rs_tovs h2 g2)
    · cases h

theorem gh1_sound {g : Gh} (h : Sim w0 I0 I β κ s sav a w) (hg : gh1 g s = some s') : s'.it = s.it ∧ ∃ J, I.le J ∧ Sim w0 I0 J β κ s' sav a w := by
  cases g with
  | freeze b =>
    simp only [gh1] at hg
    split at hg
    · rename_i cells hb
      obtain ⟨cs, hcs, rfl⟩ := Option.map_eq_some_iff.1 hg
      obtain ⟨J, hJ, hs⟩ := (h.boxTo hb fun vs hR => Rs_tovs hcs hR).freeze (b := b) (cells := cs) (by simp [lk_upd])
      exact ⟨rfl, J, hJ, hs⟩
    · split at hg
      · cases hg; exact ⟨rfl, I, Imm.le_refl _, h⟩
      · cases hg
  | shut b =>
    simp only [gh1] at hg
    split at hg
    · rename_i cells hb
      split at hg
      · rename_i cs hcs
        split at hg
        · rename_i hone
          cases hg
          obtain ⟨J, hJ, hs⟩ := (h.boxTo hb fun vs hR => Rs_tovs hcs hR).shut (b := b) (cells := cs) (by simp [lk_upd]) hone
          exact ⟨rfl, J, hJ, hs⟩
        · cases hg
      · cases hg
    · cases hg
  | junk l => cases hg; exact ⟨rfl, I, Imm.le_refl _, h.junkAll l⟩
  | drop l =>
    cases hg
    exact ⟨rfl, I, Imm.le_refl _,
      { h with
        box := fun b c hc => h.box b c (lk_rmAll l _ _ _ hc)
        mbx := fun b c hc => h.mbx b c (lk_rmAll l _ _ _ hc)
        rob := fun b c hc => h.rob b c (lk_rmAll l _ _ _ hc)
        inj := fun b b' c c' hc hc' => h.inj b b' c c' (lk_rmAll l _ _ _ hc) (lk_rmAll l _ _ _ hc') }⟩
  | forget t => cases hg; exact ⟨rfl, I, Imm.le_refl _, h.newTok t⟩
  | row b off t =>
    simp only [gh1] at hg
    split at hg
    · rename_i cells hb
      split at hg
      · rename_i hc
        cases hg
        refine ⟨rfl, I, Imm.le_refl _, (h.newTok t).boxTo hb fun vs hR => ?_⟩
        obtain ⟨v, hv, hRv⟩ := hR.get hc
        have hv0 := hRv.inv.inv_s
        have := hR.set off (x := .acc t []) (v := v) (by rw [hv0]; exact .acc0)
        obtain ⟨hlt, hve⟩ := List.getElem?_eq_some_iff.1 hv
        rw [← hve, List.set_getElem_self] at this
        exact this
      · cases hg; exact ⟨rfl, I, Imm.le_refl _, h⟩
    · cases hg; exact ⟨rfl, I, Imm.le_refl _, h⟩

theorem ghs_sound : ∀ (l : List Gh) {s s' : St} {I : Imm}, Sim w0 I0 I β κ s sav a w → ghs l s = some s' → s'.it = s.it ∧ ∃ J, I.le J ∧ Sim w0 I0 J β κ s' sav a w
  | [], s, s', I, h, hg => by simp only [ghs, Option.some.injEq] at hg; subst hg; exact ⟨rfl, I, Imm.le_refl _, h⟩
  | g :: l, s, s', I, h, hg => by
    obtain ⟨s1, h1, h2⟩ := Option.bind_eq_some_iff.1 hg
    obtain ⟨e1, J, hJ, hs⟩ := gh1_sound h h1
    obtain ⟨e2, J2, hJ2, hs2⟩ := ghs_sound l hs h2
    exact ⟨e2.trans e1, J2, Imm.le_trans hJ hJ2, hs2⟩

theorem sat_ghs {B : Nat → Bs → Imm → Prop} {l : List Gh} (h : Sat its B I s sav a w) (hg : ghs l s = some s') : ∃ J, I.le J ∧ Sat its B J s' sav a w := by
  obtain ⟨hdf, w0, I0, β, κ, hB, hs⟩ := h
  obtain ⟨e, J, hJ, hs'⟩ := ghs_sound l hs hg
  exact ⟨J, hJ, hdf, w0, I0, β, κ, by rw [e]; exact hB, hs'⟩

end
end Go.Proofs.YtambpjbpdackfaaGreat.A


/- A range over a function: the rounds, told one by one. -/
set_option linter.unusedVariables false
set_option linter.unusedSimpArgs false
namespace Go.Proofs.YtambpjbpdackfaaGreat.A
open Go Go.RowKit Go.Shelf

section
variable {P : Program} {ro : Option Nat}
variable {w0 : Bs} {w w' : World} {I0 I J : Imm} {β : Nat → Nat} {κ : Nat → Nat × Nat × Nat} {s s' : St} {sav : List (Array Value)} {a : Act}

theorem OnlyAt.putObj (w : World) (l : Nat) (o : Obj) : OnlyAt l w (w.putObj l o) := ⟨rfl, rfl, rfl, by simp, fun j hj => World.putObj_heap_other hj⟩

theorem Sim.putLoop (h : Sim w0 I0 I β κ s sav a w) {l : Nat} {r : Loop} (hl : w.heap[l]? = some (.loop r)) (hb : w0.heap.size ≤ l) (o : Obj) : Sim w0 I0 I β κ s sav a (w.putObj l o) := by
  have ho := OnlyAt.putObj w l o
  exact
    { below := h.below.trans (ho.below hb)
      good := fun b arr hI => by
        obtain ⟨cs, ty, fz, more, h1, h2⟩ := h.good b arr hI
        exact ⟨cs, ty, fz, more, (ho.block b (fun e => by rw [e, hl] at h1; cases h1)).trans h1, h2⟩
      ext := h.ext
      old := h.old
      tm := h.tm
      sv := h.sv
      mem := h.memKeep (Imm.le_refl _) (fun c x hc => (h.mem c x hc).2.1) (fun c x hc => ho.block c (fun e => by obtain ⟨_, _, cs, ty, h3, _⟩ := h.mem c x hc; rw [e, hl] at h3; cases h3))
      mbx := h.mbx
      box := fun b cells hc => by
        obtain ⟨h1, h2, cs, ty, h3, h4⟩ := h.box b cells hc
        exact ⟨h1, h2, cs, ty, (ho.block _ (fun e => by rw [e, hl] at h3; cases h3)).trans h3, h4⟩
      rob := h.rob
      inj := h.inj
      tok := fun t ht => by
        obtain ⟨h1, cs, ty, arr, h3, h4⟩ := h.tok t ht
        exact ⟨h1, cs, ty, arr, (ho.block _ (fun e => by rw [e, hl] at h3; cases h3)).trans h3, h4⟩
      tinj := h.tinj
      dfr := by
        obtain ⟨Ds, h1, h2, h3⟩ := h.dfr
        exact ⟨Ds, h1, h2, fun D hD => ⟨(h3 D hD).1, (ho.block D (fun e => by have := (h3 D hD).2; rw [e, hl] at this; cases this)).trans (h3 D hD).2⟩⟩ }

theorem Sim.between (h : Sim w0 I0 I β κ s sav a w) : Sim w0 I0 I β κ (betw { s with sv := s.tm :: s.sv }) (a.tmps :: sav) { tmps := #[], defers := [] } w :=
  { below := h.below, mem := h.mem, mbx := h.mbx, good := h.good, ext := h.ext, old := h.old, tm := .nil, sv := .cons h.tm h.sv, box := h.box, rob := h.rob, inj := h.inj, tok := h.tok, tinj := h.tinj, dfr := ⟨[], rfl, List.nodup_nil, by simp⟩ }

/-- The slots of a round forgotten. -/
theorem Sim.forgetTm (h : Sim w0 I0 I β κ s sav a w) : Sim w0 I0 I β κ (betw s) sav { tmps := #[], defers := [] } w :=
  { below := h.below, mem := h.mem, mbx := h.mbx, good := h.good, ext := h.ext, old := h.old, tm := .nil, sv := h.sv, box := h.box, rob := h.rob, inj := h.inj, tok := h.tok, tinj := h.tinj, dfr := ⟨[], rfl, List.nodup_nil, by simp⟩ }

theorem setPs_R {tk : Nat → Nat} : ∀ (ps : List Nat) (x : List PV) (vs : List Value) (tm : List TV) (tms : Array Value), x.length = ps.length → Cs I x vs → Rs I β κ tk tm tms.toList →
    Rs I β κ tk (setPs ps x tm) ((ps.zip vs).foldl (fun t (p, v) => t.setIfInBounds p v) tms).toList
  | [], [], vs, tm, tms, _, hc, h => by cases hc; exact h
  | p :: ps, y :: x, vs, tm, tms, hl, hc, h => by
    cases hc with
    | cons h1 h2 =>
      simp only [setPs, List.zip_cons_cons, List.foldl_cons]
      exact setPs_R ps x _ _ _ (by simpa using hl) h2 (by rw [Array.toList_setIfInBounds]; exact h.set p (.v h1))
  | [], _ :: _, _, _, _, hl, _, _ => by simp at hl
  | _ :: _, [], _, _, _, hl, _, _ => by simp at hl

theorem Sim.enter {ps : Array Nat} {x : List PV} {vs : List Value} {tms : Array Value} (h : Sim w0 I0 I β κ s (tms :: sav) a w) (hx : x.length = ps.toList.length) (hc : Cs I x vs) :
    Sim w0 I0 I β κ (enterR ps.toList x s) (tms :: sav) { tmps := (ps.zip vs.toArray).foldl (fun t (p, v) => t.setIfInBounds p v) tms, defers := [] } w := by
  have hsv := h.sv
  have htm : Rs I β κ (tkOf s.tk) (setPs ps.toList x (s.sv.headD [])) ((ps.zip vs.toArray).foldl (fun t (p, v) => t.setIfInBounds p v) tms).toList := by
    generalize hs : s.sv = l at hsv
    cases hsv with
    | cons h1 h2 =>
      have := setPs_R ps.toList x vs _ tms hx hc h1
      rw [← Array.foldl_toList, Array.toList_zip]
      exact this
  exact { below := h.below, mem := h.mem, mbx := h.mbx, good := h.good, ext := h.ext, old := h.old, tm := htm, sv := h.sv, box := h.box, rob := h.rob, inj := h.inj, tok := h.tok, tinj := h.tinj, dfr := ⟨[], rfl, List.nodup_nil, by simp⟩ }

theorem Sim.leave {tms : Array Value} {df : List Deferred} (h : Sim w0 I0 I β κ s (tms :: sav) a w)
    (hd : ∃ Ds : List Nat, df = Ds.map (fun D => { target := .collected D, args := #[] }) ∧ Ds.Nodup ∧ ∀ D ∈ Ds, w0.heap.size ≤ D ∧ w.heap[D]? = some (.deferred (some []))) :
    Sim w0 I0 I β κ (leaveR s) sav { tmps := tms, defers := df } w := by
  have hsv := h.sv
  have h2 : Rs I β κ (tkOf s.tk) (s.sv.headD []) tms.toList ∧ Rss I β κ (tkOf s.tk) s.sv.tail sav := by
    generalize hs : s.sv = l at hsv
    cases hsv with
    | cons h1 h2 => exact ⟨h1, h2⟩
  exact { below := h.below, mem := h.mem, mbx := h.mbx, good := h.good, ext := h.ext, old := h.old, tm := h2.1, sv := h2.2, box := h.box, rob := h.rob, inj := h.inj, tok := h.tok, tinj := h.tinj, dfr := hd }

/-- How a round's body is left, as a jump. -/
def jumpOf : XA → Option Code
  | .normal => none
  | .ret => some .ret
  | .exit id => some (.exit id)

/-- What holds between the rounds. -/
def BetwRounds (g : List Gh) (ps : List Nat) (run : (XA → St → Prop) → St → Prop) (Q : XA → St → Prop) (items : List Item) (w0 : Bs) (I0 : Imm) (sav : List (Array Value)) (w : World) (I : Imm) (l : Nat) (rec : LoopState → Option Code → Loop)
    (i : Nat) (I' : Imm) (W : World) : Prop :=
  I.le I' ∧ KeepsOthers w W ∧
    ((i ≤ items.length ∧ ∃ s β κ, Rounds g ps run Q (items.drop i) s ∧ Sim w0 I0 I' β κ s sav { tmps := #[], defers := [] } W ∧ W.heap[l]? = some (.loop (rec .ready none))) ∨
     (i = items.length + 1 ∧ ∃ xa s β κ c, jumpOf xa = some c ∧ Q xa (leaveR s) ∧ Sim w0 I0 I' β κ s sav { tmps := #[], defers := [] } W ∧ W.heap[l]? = some (.loop (rec .done (some c)))))

theorem betw_abiding {g : List Gh} {ps : List Nat} {run : (XA → St → Prop) → St → Prop} {Q : XA → St → Prop} {items : List Item} {l : Nat} {rec : LoopState → Option Code → Loop} :
    Abiding (BetwRounds g ps run Q items w0 I0 sav w I l rec) := by
  rintro i I₁ W₁ I₂ W₂ ⟨hle, hk, hd⟩ hb hle2 hold hg
  refine ⟨Imm.le_trans hle hle2, hk.trans (KeepsOthers.ofBelow hb), ?_⟩
  rcases hd with ⟨hi, s, β, κ, hR, hS, hl⟩ | ⟨hi, xa, s, β, κ, c, hj, hq, hS, hl⟩
  · exact .inl ⟨hi, s, β, κ, hR, hS.grow hb hle2 hold hg, by rw [hb.block _ (Array.getElem?_eq_some_iff.1 hl).1, hl]⟩
  · exact .inr ⟨hi, xa, s, β, κ, c, hj, hq, hS.grow hb hle2 hold hg, by rw [hb.block _ (Array.getElem?_eq_some_iff.1 hl).1, hl]⟩

theorem keepsPut {W : World} (h : KeepsOthers w W) {l : Nat} (hl : w.heap.size ≤ l) (o : Obj) : KeepsOthers w (W.putObj l o) :=
  ⟨by simpa using h.size, fun k o' hk ho => by
    have := (Array.getElem?_eq_some_iff.1 hk).1
    rw [World.putObj_heap_other (by omega)]
    exact h.same k o' hk ho⟩

/-- ONE ROUND, for a body whose wp is known. -/
theorem round_ok {items : List Item} {g : List Gh} {Q : XA → St → Prop} {l : Nat} {fn : FuncId} {ps : Array Tmp} {assign body : Code} {tms : Array Value} {dfb : Nat} {run : (XA → St → Prop) → St → Prop}
    (hbase : w0.heap.size ≤ l) (hlw : w.heap.size ≤ l)
    (hrun : ∀ (Q' : XA → St → Prop) (s : St) (I' : Imm) (β : Nat → Nat) (κ : Nat → Nat × Nat × Nat) (a : Act) (W : World), run Q' s → Sim w0 I0 I' β κ s (tms :: sav) a W → (∃ r, W.heap[l]? = some (.loop r)) →
      ∀ (post : Exit → Act → World → Prop), (∀ xa s' J a' W' β' κ', Q' xa s' → I'.le J → KeepsOthers (W.putObj l (.loop { state := .busy, pending := none, fn, tmps := tms, params := ps, assign, body, defers := dfb })) W' →
          Sim w0 I0 J β' κ' s' (tms :: sav) a' W' → post (match xa with | .normal => .normal | .ret => .ret | .exit id => .exit id) a' W') →
        W.heap[l]? = some (.loop { state := .ready, pending := none, fn, tmps := tms, params := ps, assign, body, defers := dfb }) →
        assign.wpIn (wideR (some l)) 0 P (Exit.then (fun a₁ w₁ => ∃ w₂, (Instr.beginRound l).run P w₁ = .ok () w₂ ∧ body.wpIn (wideR (some l)) 0 P post a₁ w₂) (fun _ _ _ => False)) a W) :
    RoundOk P l (BetwRounds g ps.toList run Q items w0 I0 (tms :: sav) w I l (fun st pe => { state := st, pending := pe, fn, tmps := tms, params := ps, assign, body, defers := dfb })) items := by
  intro i x args m I₀ W₀ I₁ W₁ vs hi hxm ⟨hle0, hk0, hd⟩ hbW hleI hold hg hm hge hc
  have hlt : i < items.length := (List.getElem?_eq_some_iff.1 hi).1
  rcases hd with ⟨_, s, β, κ, hR, hS0, hl0⟩ | ⟨hi', _⟩
  case inr => omega
  have hle : I.le I₁ := Imm.le_trans hle0 hleI
  have hk : KeepsOthers w W₁ := hk0.trans (KeepsOthers.ofBelow hbW)
  have hl : W₁.heap[l]? = some (.loop { state := .ready, pending := none, fn, tmps := tms, params := ps, assign, body, defers := dfb }) := by
    rw [hbW.block _ (Array.getElem?_eq_some_iff.1 hl0).1, hl0]
  have hfr : ∀ c, (m c).isSome = true → s.mm c = none := fun c hc => by
    obtain ⟨y, hy⟩ := Option.isSome_iff_exists.1 hc
    exact hS0.memNone (hge c y hy)
  have hSg := hS0.grow hbW hleI hold hg
  have hS : Sim w0 I0 I₁ β κ { s with mm := s.mm.join m } (tms :: sav) { tmps := #[], defers := [] } W₁ :=
    { hSg with
      mem := fun c cells hc => by
        replace hc : (s.mm.join m) c = some cells := hc
        unfold Mem.join at hc
        cases hmc : m c with
        | none => rw [hmc] at hc; exact hSg.mem c cells hc
        | some y =>
          rw [hmc] at hc
          cases hc
          exact ⟨.inl (Nat.le_trans hS0.size (hge c cells hmc)), hm c cells hmc⟩
      mbx := fun b cells hb => by
        obtain ⟨_, _, cs, ty, k3, _⟩ := hS0.box b cells hb
        have hlt := (Array.getElem?_eq_some_iff.1 k3).1
        show (s.mm.join m) (β b) = none
        unfold Mem.join
        cases hmc : m (β b) with
        | none => exact hS0.mbx b cells hb
        | some y => have := hge _ y hmc; omega }
  have hdrop : items.drop i = x :: items.drop (i + 1) := by
    rw [List.drop_eq_getElem_cons hlt]
    have := (List.getElem?_eq_some_iff.1 hi).2
    rw [this]
  rw [hdrop] at hR
  obtain ⟨hxl, hbody⟩ := hR args m hxm hfr
  have hy := run_yield (P := P) (args := vs.toArray) hl (by have := hc.length; simp only [List.size_toArray]; rw [← this, hxl, Array.length_toList])
  refine ⟨fn, _, assign, body, hy, ?_⟩
  have hS1 := hS.enter (ps := ps) (by simpa using hxl) hc
  refine roundIn_of_wpIn (F := Fence.wide) trivial ?_
  refine hrun _ _ _ _ _ _ _ hbody hS1 ⟨_, hl⟩ _ ?_ hl
  intro xa s' J a' W' β' κ' hQ hle' hkeep hS'
  have hlt1 : l < W₁.heap.size := (Array.getElem?_eq_some_iff.1 hl).1
  have hbusy : W'.heap[l]? = some (.loop { state := .busy, pending := none, fn, tmps := tms, params := ps, assign, body, defers := dfb }) := hkeep.same l _ (World.putObj_heap_same hlt1) rfl
  have hlt' : l < W'.heap.size := (Array.getElem?_eq_some_iff.1 hbusy).1
  have hk2 : KeepsOthers w W' := (keepsPut hk hlw _).trans hkeep
  have hsim2 : ∀ o, Sim w0 I0 J β' κ' s' (tms :: sav) a' (W'.putObj l o) := fun o => hS'.putLoop hbusy hbase o
  have fin : ∀ (c : Code), (xa = .ret ∧ c = .ret ∨ ∃ id, xa = .exit id ∧ c = .exit id) → Q xa (leaveR s') →
      ∃ v w'', (Instr.endRound l (some c)).run P W' = .ok v w'' ∧ ∃ I₂, I₁.le I₂ ∧ Good I₂ w'' ∧ ((Ending.returned v = .returned (.bool true) ∧ BetwRounds g ps.toList run Q items w0 I0 (tms :: sav) w I l (fun st pe => { state := st, pending := pe, fn, tmps := tms, params := ps, assign, body, defers := dfb }) (i + 1) I₂ w'') ∨
        (Ending.returned v = .returned (.bool false) ∧ BetwRounds g ps.toList run Q items w0 I0 (tms :: sav) w I l (fun st pe => { state := st, pending := pe, fn, tmps := tms, params := ps, assign, body, defers := dfb }) (items.length + 1) I₂ w'')) := by
    intro c hx hq
    refine ⟨_, _, run_endRound (P := P) (some c) hbusy, J, hle', (hsim2 _).good, .inr ⟨rfl, Imm.le_trans hle hle', keepsPut hk2 hlw _, .inr ⟨rfl, xa, betw s', β', κ', c, ?_, hq, (hsim2 _).forgetTm, ?_⟩⟩⟩
    · rcases hx with ⟨rfl, rfl⟩ | ⟨id, rfl, rfl⟩ <;> rfl
    · exact World.putObj_heap_same hlt'
  cases xa with
  | normal =>
    obtain ⟨s1, hgs, hrest⟩ := hQ
    obtain ⟨e1, J2, hJ2, hs2⟩ := ghs_sound g (hsim2 (.loop { state := .ready, pending := none, fn, tmps := tms, params := ps, assign, body, defers := dfb })).forgetTm hgs
    refine ⟨_, _, run_endRound (P := P) none hbusy, J2, Imm.le_trans hle' hJ2, hs2.good, .inl ⟨rfl, Imm.le_trans hle (Imm.le_trans hle' hJ2), keepsPut hk2 hlw _, .inl ⟨hlt, s1, β', κ', hrest, hs2, World.putObj_heap_same hlt'⟩⟩⟩
  | ret => exact fin .ret (.inl ⟨rfl, rfl⟩) hQ
  | exit id => exact fin (.exit id) (.inr ⟨id, rfl, rfl⟩) hQ

end
end Go.Proofs.YtambpjbpdackfaaGreat.A


/- What 'wpA' tells, the model does. -/
set_option linter.unusedVariables false
set_option linter.unusedSimpArgs false
namespace Go.Proofs.YtambpjbpdackfaaGreat.A
open Go Go.RowKit Go.Shelf

/-- A region that draws its order, whose told run is the text's: see the text on regions. -/
def DrawSound (P : Program) (y : Bool) (ao : List AO) : Prop :=
  ∀ (ops : Array Oper), OpsAgree P ao ops → P.follows .mixedOrders = true → ∀ (its : Option (Nat × List Item)) (w00 : Bs) (I00 : Imm) (Jt : Nat → Imm → World → Prop) (ro : Option Nat) (Q : XA → St → Prop)
    (I : Imm) (w : World) (s : St) (sav : List (Array Value)) (a : Act) (w0 : Bs) (I0 : Imm) (β : Nat → Nat) (κ : Nat → Nat × Nat × Nat) (t : Nat), Ctx P its Jt → (its.isSome = true → a.defers = []) → Base its w00 I00 Jt s.it w0 I0 → Sim w0 I0 I β κ s sav a w → wpOpsA P (if y = true then its else none) ao ao s (Q .normal) →
    wpOpsIn (wideR ro) 0 P ops (PostA its (Base its w00 I00 Jt) I sav w Q) (Region.linearise .any ops t) a w.drew

/-- The same, of a region that makes variables. -/
def DrawSoundC (P : Program) (pa : List (Nat × Nat)) (ao : List AO) : Prop :=
  ∀ (ops : Array Oper), OpsAgree P ao ops → P.follows .mixedOrders = true → ∀ (its : Option (Nat × List Item)) (w00 : Bs) (I00 : Imm) (Jt : Nat → Imm → World → Prop) (ro : Option Nat) (Q : XA → St → Prop)
    (I : Imm) (w : World) (s : St) (sav : List (Array Value)) (a : Act) (w0 : Bs) (I0 : Imm) (β : Nat → Nat) (κ : Nat → Nat × Nat × Nat) (t : Nat), Ctx P its Jt → (its.isSome = true → a.defers = []) → Base its w00 I00 Jt s.it w0 I0 → Sim w0 I0 I β κ s sav a w → (freeAll (dsL ao) s && (paOk pa s && nonPs (nsL pa ao) s)) = true → wpOpsC P pa ao ao s (Q .normal) →
    wpOpsIn (wideR ro) 0 P ops (PostA its (Base its w00 I00 Jt) I sav w Q) (Region.linearise .any ops t) a w.drew

/-- The same, of a region told in another order than the text's. -/
def DrawSoundN (P : Program) (ord : List Nat) (ao : List AO) : Prop :=
  ∀ (ops : Array Oper), OpsAgree P ao ops → P.follows .mixedOrders = true → ∀ (its : Option (Nat × List Item)) (w00 : Bs) (I00 : Imm) (Jt : Nat → Imm → World → Prop) (ro : Option Nat) (Q : XA → St → Prop)
    (I : Imm) (w : World) (s : St) (sav : List (Array Value)) (a : Act) (w0 : Bs) (I0 : Imm) (β : Nat → Nat) (κ : Nat → Nat × Nat × Nat) (t : Nat), Ctx P its Jt → (its.isSome = true → a.defers = []) → Base its w00 I00 Jt s.it w0 I0 → Sim w0 I0 I β κ s sav a w → wpOpsA P none ao (ord.filterMap (ao[·]?)) s (Q .normal) →
    wpOpsIn (wideR ro) 0 P ops (PostA its (Base its w00 I00 Jt) I sav w Q) (Region.linearise .any ops t) a w.drew

/-- The same, of a region told for any order: what holds of the state when these operations are done. -/
def DrawSoundI (P : Program) (ao : List AO) : Prop :=
  ∀ (ops : Array Oper), OpsAgree P ao ops → P.follows .mixedOrders = true → ∀ (its : Option (Nat × List Item)) (w00 : Bs) (I00 : Imm) (Jt : Nat → Imm → World → Prop) (ro : Option Nat) (Q : XA → St → Prop)
    (I : Imm) (w : World) (s : St) (sav : List (Array Value)) (a : Act) (w0 : Bs) (I0 : Imm) (β : Nat → Nat) (κ : Nat → Nat × Nat × Nat) (t : Nat), Ctx P its Jt → (its.isSome = true → a.defers = []) → Base its w00 I00 Jt s.it w0 I0 → Sim w0 I0 I β κ s sav a w → wpA P its (.regi ao) Q s →
    wpOpsIn (wideR ro) 0 P ops (PostA its (Base its w00 I00 Jt) I sav w Q) (Region.linearise .any ops t) a w.drew

/-- The told code is the code. -/
def Ag (P : Program) : AC → Code → Prop
  | .gh _ x, c => Ag P x c
  | .dead, _ => True
  | .skip, .skip => True
  | .skip, .label _ => True
  | .reg d y ao, .region _ ops d' => d = d' ∧ OpsAgree P ao ops ∧ (d = true → P.follows .mixedOrders = true ∧ DrawSound P y ao)
  | .regd pa ao, .region _ ops d' => d' = true ∧ OpsAgree P ao ops ∧ P.follows .mixedOrders = true ∧ DrawSoundC P pa ao
  | .regn ord ao, .region _ ops d' => d' = true ∧ OpsAgree P ao ops ∧ P.follows .mixedOrders = true ∧ DrawSoundN P ord ao
  | .regi ao, .region _ ops d' => d' = true ∧ OpsAgree P ao ops ∧ P.follows .mixedOrders = true ∧ DrawSoundI P ao
  | .seq x y, .seq c d => Ag P x c ∧ Ag P y d
  | .cond c x y, .cond c' d e => c = c' ∧ Ag P x d ∧ Ag P y e
  | .block id x, .block id' c => id = id' ∧ Ag P x c
  | .loop _ x, .loop c => Ag P x c
  | .rf f ps _ x y, .rangeFunc f' ps' c d => f = f' ∧ ps = ps'.toList ∧ Ag P x c ∧ Ag P y d
  | .exit id, .exit id' => id = id'
  | .ret, .ret => True
  | _, _ => False

section
variable {P : Program}

theorem calls_ro {ro : Option Nat} {f : FuncId} {args : Array Value} {w : World} {R : Ending → World → Prop} (h : Calls P f args w R) : CallsIn (wideR ro) (0 - 1) P f args w R := by
  have := (callsIn_wide (n := 0 - 1)).2 h
  cases ro with
  | none => exact this
  | some l => exact CallsIn.inRound l this

theorem least {p : Nat → Prop} (h : ∃ m, p m) : ∃ m, p m ∧ ∀ k, p k → m ≤ k := by
  obtain ⟨m, hm⟩ := h
  induction m using Nat.strongRecOn with
  | _ m ih =>
    by_cases hk : ∃ k, k < m ∧ p k
    · obtain ⟨k, hlt, hp⟩ := hk
      exact ih k hlt hp
    · exact ⟨m, hm, fun k hp => Nat.le_of_not_lt fun hlt => hk ⟨k, hlt, hp⟩⟩

theorem wpIn_loop_rel {F : Fence} {n : Nat} {c : Code} {Q : Exit → Act → World → Prop} {a : Act} {w : World} (Inv : Nat → Act → World → Prop) {m : Nat} (h0 : Inv m a w)
    (round : ∀ m a w, Inv m a w → c.wpIn F n P (Exit.then (fun a' w' => ∃ m', m' < m ∧ Inv m' a' w') Q) a w) : (Code.loop c).wpIn F n P Q a w := by
  classical
  let μ : Act → World → Nat := fun a w => if h : ∃ m, Inv m a w then (least h).choose else 0
  have hμ : ∀ a w (h : ∃ m, Inv m a w), Inv (μ a w) a w ∧ ∀ k, Inv k a w → μ a w ≤ k := fun a w h => by
    simp only [μ, dif_pos h]
    exact (least h).choose_spec
  refine wpIn_loop (fun a w => ∃ m, Inv m a w) μ ⟨m, h0⟩ ?_
  intro a w hI
  refine wpIn_mono (round (μ a w) a w (hμ a w hI).1) ?_
  intro e a' w' hq
  cases e with
  | normal =>
    obtain ⟨m', hlt, hi⟩ := hq
    exact ⟨⟨m', hi⟩, Nat.lt_of_le_of_lt ((hμ a' w' ⟨m', hi⟩).2 m' hi) hlt⟩
  | _ => exact hq

/-- The record of the round that is walked lies there. -/
def RoundAt (ro : Option Nat) (w : World) : Prop := ∀ l, ro = some l → ∃ r, w.heap[l]? = some (.loop r)

theorem RoundAt.keep {ro : Option Nat} {w w' : World} (h : RoundAt ro w) (hk : KeepsOthers w w') : RoundAt ro w' := fun l hl => by
  obtain ⟨r, hr⟩ := h l hl
  exact ⟨r, hk.same l _ hr rfl⟩

theorem PostA.mono {its : Option (Nat × List Item)} {B : Nat → Bs → Imm → Prop} {I J : Imm} {sav : List (Array Value)} {w w' : World} {Q : XA → St → Prop} (hle : I.le J) (hk : its = none → KeepsOthers w w') {e : Exit} {a2 : Act} {w2 : World}
    (h : PostA its B J sav w' Q e a2 w2) : PostA its B I sav w Q e a2 w2 := by
  cases e with
  | normal => obtain ⟨s', J', h1, h2, h3, h4⟩ := h; exact ⟨s', J', h1, Imm.le_trans hle h2, fun e => (hk e).trans (h3 e), h4⟩
  | ret => obtain ⟨s', J', h1, h2, h3, h4⟩ := h; exact ⟨s', J', h1, Imm.le_trans hle h2, fun e => (hk e).trans (h3 e), h4⟩
  | exit id => obtain ⟨s', J', h1, h2, h3, h4⟩ := h; exact ⟨s', J', h1, Imm.le_trans hle h2, fun e => (hk e).trans (h3 e), h4⟩
  | _ => exact h

theorem sound : ∀ (c : AC) (code : Code), Ag P c code → ∀ (its : Option (Nat × List Item)) (w00 : Bs) (I00 : Imm) (Jt : Nat → Imm → World → Prop) (ro : Option Nat), Ctx P its Jt → (ro.isSome = true → its = none) →
    ∀ (Q : XA → St → Prop) (I : Imm) (w : World) (s : St) (sav : List (Array Value)) (a : Act), wpA P its c Q s → RoundAt ro w → Sat its (Base its w00 I00 Jt) I s sav a w →
      code.wpIn (wideR ro) 0 P (PostA its (Base its w00 I00 Jt) I sav w Q) a w := by
  intro c
  induction c with
  | dead =>
    intro code hag its w00 I00 Jt ro hctx hro Q I w s sav a hs hr hsat
    exact hs.elim
  | gh g x ih =>
    intro code hag its w00 I00 Jt ro hctx hro Q I w s sav a hs hr hsat
    obtain ⟨s1, h1, h2⟩ := hs
    obtain ⟨J, hJ, hsat'⟩ := sat_ghs hsat h1
    exact wpIn_mono (ih code hag its w00 I00 Jt ro hctx hro Q J w s1 sav a h2 hr hsat') fun e a2 w2 h => PostA.mono hJ (fun _ => KeepsOthers.refl _) h
  | skip =>
    intro code hag its w00 I00 Jt ro hctx hro Q I w s sav a hs hr hsat
    cases code <;> first | exact hag.elim | skip
    · exact wpIn_skip ⟨s, I, hs, Imm.le_refl _, fun _ => KeepsOthers.refl _, hsat⟩
    · exact wpIn_label ⟨s, I, hs, Imm.le_refl _, fun _ => KeepsOthers.refl _, hsat⟩
  | reg d y ao =>
    intro code hag its w00 I00 Jt ro hctx hro Q I w s sav a hs hr hsat
    cases code <;> first | exact hag.elim | skip
    rename_i id ops d'
    obtain ⟨rfl, hops, hdraw⟩ := hag
    obtain ⟨hdf, w0, I0, β, κ, hB, h⟩ := hsat
    cases d with
    | false =>
      refine wpIn_region ?_
      have := sound_ops (ro := ro) (Q := Q) hops hctx I w ops.size 0 (by omega) (Imm.le_refl _) (fun _ => KeepsOthers.refl _) hdf hB h (by rw [List.drop_zero]; exact hs)
      rwa [← List.range_eq_range'] at this
    | true =>
      obtain ⟨hmix, hds⟩ := hdraw rfl
      refine wpIn_region_draw fun t => ?_
      have e : Region.schedule (P.follows .mixedOrders) ops t = Region.linearise .any ops t := by simp [Region.schedule, hmix]
      rw [e]
      refine hds ops hops hmix its w00 I00 Jt ro Q I w s sav a w0 I0 β κ t hctx hdf hB h ?_
      cases y
      · exact hs
      · exact hs
  | regd pa ao =>
    intro code hag its w00 I00 Jt ro hctx hro Q I w s sav a hs hr hsat
    cases code <;> first | exact hag.elim | skip
    rename_i id ops d'
    obtain ⟨rfl, hops, hmix, hds⟩ := hag
    obtain ⟨hdf, w0, I0, β, κ, hB, h⟩ := hsat
    refine wpIn_region_draw fun t => ?_
    have e : Region.schedule (P.follows .mixedOrders) ops t = Region.linearise .any ops t := by simp [Region.schedule, hmix]
    rw [e]
    exact hds ops hops hmix its w00 I00 Jt ro Q I w s sav a w0 I0 β κ t hctx hdf hB h hs.1 hs.2
  | regn ord ao =>
    intro code hag its w00 I00 Jt ro hctx hro Q I w s sav a hs hr hsat
    cases code <;> first | exact hag.elim | skip
    rename_i id ops d'
    obtain ⟨rfl, hops, hmix, hds⟩ := hag
    obtain ⟨hdf, w0, I0, β, κ, hB, h⟩ := hsat
    refine wpIn_region_draw fun t => ?_
    have e : Region.schedule (P.follows .mixedOrders) ops t = Region.linearise .any ops t := by simp [Region.schedule, hmix]
    rw [e]
    exact hds ops hops hmix its w00 I00 Jt ro Q I w s sav a w0 I0 β κ t hctx hdf hB h hs
  | regi ao =>
    intro code hag its w00 I00 Jt ro hctx hro Q I w s sav a hs hr hsat
    cases code <;> first | exact hag.elim | skip
    rename_i id ops d'
    obtain ⟨rfl, hops, hmix, hds⟩ := hag
    obtain ⟨hdf, w0, I0, β, κ, hB, h⟩ := hsat
    refine wpIn_region_draw fun t => ?_
    have e : Region.schedule (P.follows .mixedOrders) ops t = Region.linearise .any ops t := by simp [Region.schedule, hmix]
    rw [e]
    exact hds ops hops hmix its w00 I00 Jt ro Q I w s sav a w0 I0 β κ t hctx hdf hB h hs
  | seq x y ihx ihy =>
    intro code hag its w00 I00 Jt ro hctx hro Q I w s sav a hs hr hsat
    cases code <;> first | exact hag.elim | skip
    rename_i cx cy
    obtain ⟨h1, h2⟩ := hag
    refine wpIn_seq (wpIn_mono (ihx cx h1 its w00 I00 Jt ro hctx hro _ I w s sav a hs hr hsat) ?_)
    intro e a2 w2 hp
    cases e with
    | normal =>
      obtain ⟨s', J, k1, k2, k3, k4⟩ := hp
      have hr' : RoundAt ro w2 := fun l hl => (hr.keep (k3 (hro (by simp [hl])))) l hl
      exact wpIn_mono (ihy cy h2 its w00 I00 Jt ro hctx hro Q J w2 s' sav a2 k1 hr' k4) fun e a3 w3 h => PostA.mono k2 k3 h
    | ret => exact hp
    | exit id => exact hp
    | _ => exact hp
  | cond c x y ihx ihy =>
    intro code hag its w00 I00 Jt ro hctx hro Q I w s sav a hs hr hsat
    cases code <;> first | exact hag.elim | skip
    rename_i c' cx cy
    obtain ⟨rfl, h1, h2⟩ := hag
    simp only [wpA] at hs
    split at hs
    · rename_i b hb
      obtain ⟨hdf, w0, I0, β, κ, hB, h⟩ := hsat
      have hv := (ev_R h hb).inv.inv_s
      refine wpIn_cond hv ?_
      cases b with
      | true => exact ihx cx h1 its w00 I00 Jt ro hctx hro Q I w s sav a (by simpa using hs) hr ⟨hdf, w0, I0, β, κ, hB, h⟩
      | false => exact ihy cy h2 its w00 I00 Jt ro hctx hro Q I w s sav a (by simpa using hs) hr ⟨hdf, w0, I0, β, κ, hB, h⟩
    · exact hs.elim
  | block id x ih =>
    intro code hag its w00 I00 Jt ro hctx hro Q I w s sav a hs hr hsat
    cases code <;> first | exact hag.elim | skip
    rename_i id' cx
    obtain ⟨rfl, h1⟩ := hag
    refine wpIn_block (wpIn_mono (ih cx h1 its w00 I00 Jt ro hctx hro _ I w s sav a hs hr hsat) ?_)
    intro e a2 w2 hp
    cases e with
    | exit j =>
      obtain ⟨s', J, k1, k2, k3, k4⟩ := hp
      simp only [Exit.inBlock]
      by_cases hj : j = id
      · rw [if_pos hj]
        simp only [hj, if_true] at k1
        exact ⟨s', J, k1, k2, k3, k4⟩
      · rw [if_neg hj]
        simp only [hj, if_false] at k1
        exact ⟨s', J, k1, k2, k3, k4⟩
    | _ => exact hp
  | loop g x ih =>
    intro code hag its w00 I00 Jt ro hctx hro Q I w s sav a hs hr hsat
    cases code <;> first | exact hag.elim | skip
    rename_i cx
    obtain ⟨Inv, m, s0, hg, h0, hround⟩ := hs
    obtain ⟨J0, hJ0, hsat0⟩ := sat_ghs hsat hg
    refine wpIn_loop_rel (fun m a' w' => ∃ s' J', Inv m s' ∧ I.le J' ∧ (its = none → KeepsOthers w w') ∧ Sat its (Base its w00 I00 Jt) J' s' sav a' w') (m := m) ⟨s0, J0, h0, hJ0, fun _ => KeepsOthers.refl _, hsat0⟩ ?_
    rintro m a1 w1 ⟨s1, J1, hi, hle, hk, hs1⟩
    have hr' : RoundAt ro w1 := fun l hl => (hr.keep (hk (hro (by simp [hl])))) l hl
    refine wpIn_mono (ih cx hag its w00 I00 Jt ro hctx hro _ J1 w1 s1 sav a1 (hround m s1 hi) hr' hs1) ?_
    intro e a2 w2 hp
    have hp' := PostA.mono hle hk hp
    cases e with
    | normal =>
      obtain ⟨s', J, ⟨s2, m', k0, k1, k1'⟩, k2, k3, k4⟩ := hp'
      obtain ⟨J2, hJ2, hsat2⟩ := sat_ghs k4 k0
      exact ⟨m', k1, s2, J2, k1', Imm.le_trans k2 hJ2, k3, hsat2⟩
    | ret => exact hp'
    | exit id => exact hp'
    | _ => exact hp'
  | exit id =>
    intro code hag its w00 I00 Jt ro hctx hro Q I w s sav a hs hr hsat
    cases code <;> first | exact hag.elim | skip
    obtain rfl := hag
    exact wpIn_exit ⟨s, I, hs, Imm.le_refl _, fun _ => KeepsOthers.refl _, hsat⟩
  | ret =>
    intro code hag its w00 I00 Jt ro hctx hro Q I w s sav a hs hr hsat
    cases code <;> first | exact hag.elim | skip
    exact wpIn_ret ⟨s, I, hs, Imm.le_refl _, fun _ => KeepsOthers.refl _, hsat⟩
  | rf f ps g x y ihx ihy =>
    intro code hag its w00 I00 Jt ro hctx hro Q I w s sav a hs hr hsat
    cases code <;> first | exact hag.elim | skip
    rename_i f' ps' cx cy
    obtain ⟨rfl, rfl, h1, h2⟩ := hag
    obtain ⟨items, p, s1, hits, hev, ⟨k, caps, hpk, hent, hiter⟩, hg, hR⟩ := hs
    subst hits
    obtain ⟨_, w0, I0, β, κ, ⟨rfl, rfl⟩, h⟩ := hsat
    subst hpk
    obtain ⟨arr, hfv, hcaps⟩ := (ev_R h hev).inv.inv_fn
    have hgo : ∀ (fn : FuncId) (wA : World) (mark : List Deferred) (dfb : Nat), Below w.heap.size w wA → Sim w0 I0 I β κ s sav { a with defers := mark ++ a.defers } wA →
        (Instr.enterLoop fn a.tmps ps' cx cy ro).run P w = .ok (wA.heap.size, mark) (wA.alloc (.loop { state := .ready, pending := none, fn, tmps := a.tmps, params := ps', assign := cx, body := cy, defers := dfb })) →
        CallsIn (wideR ro) (0 - 1) P k (#[.func (.yield wA.heap.size) #[] #[]] ++ arr) (wA.alloc (.loop { state := .ready, pending := none, fn, tmps := a.tmps, params := ps', assign := cx, body := cy, defers := dfb }))
          (rangePost (wideR ro) 0 P wA.heap.size (PostA none (Base none w0 I0 Jt) I sav w Q) { a with defers := mark ++ a.defers }) := by
      intro fn wA mark dfb hwA hA _
      obtain ⟨rec, hrec⟩ : ∃ rec : LoopState → Option Code → Loop, rec = fun st pe => { state := st, pending := pe, fn, tmps := a.tmps, params := ps', assign := cx, body := cy, defers := dfb } := ⟨_, rfl⟩
      have hl1 : (wA.alloc (.loop (rec .ready none))).heap[wA.heap.size]? = some (.loop (rec .ready none)) := World.alloc_heap_new wA _
      have hb1 : w0.heap.size ≤ wA.heap.size := hA.size
      have h1A := hA.alloc (.loop (rec .ready none))
      have hbet := h1A.between
      obtain ⟨_, J1, hJ1, hs1⟩ := ghs_sound g hbet hg
      have hround : RoundOk P wA.heap.size (BetwRounds g ps'.toList (fun Q' s' => wpA P none x (fun e s2 => match e with | .normal => wpA P none y Q' s2 | _ => False) s') Q items w0 I0 (a.tmps :: sav) wA I wA.heap.size rec) items := by
        rw [hrec]
        refine round_ok hb1 (Nat.le_refl _) ?_
        intro Q' s' I' β' κ' a' W hw hS hrr post hpost hlW
        have hx := ihx cx h1 none w0 I0 Jt (some wA.heap.size) (fun _ _ e => by cases e) (fun _ => rfl) _ I' W s' (a.tmps :: sav) a' hw
          (fun l hl => by cases hl; exact hrr) ⟨(fun e => by cases e), w0, I0, β', κ', ⟨rfl, rfl⟩, hS⟩
        refine wpIn_mono hx ?_
        intro e a2 w2 hp
        cases e with
        | normal =>
          obtain ⟨s2, J2, k1, k2, k3, _, w02, I02, β2, κ2, ⟨rfl, rfl⟩, hS2⟩ := hp
          have hl2 := (k3 rfl).same _ _ hlW rfl
          have hlt2 := (Array.getElem?_eq_some_iff.1 hl2).1
          refine ⟨_, run_beginRound hl2 rfl, ?_⟩
          have hS3 := hS2.putLoop hl2 hb1 (.loop { state := .busy, pending := none, fn, tmps := a.tmps, params := ps', assign := cx, body := cy, defers := dfb })
          have hy := ihy cy h2 none w02 I02 Jt (some wA.heap.size) (fun _ _ e => by cases e) (fun _ => rfl) Q' J2 _ s2 (a.tmps :: sav) a2 k1
            (fun l hl => by cases hl; exact ⟨_, World.putObj_heap_same hlt2⟩) ⟨(fun e => by cases e), w02, I02, β2, κ2, ⟨rfl, rfl⟩, hS3⟩
          refine wpIn_mono hy ?_
          have hcomb : ∀ {W' : World}, KeepsOthers (w2.putObj wA.heap.size (.loop { state := .busy, pending := none, fn, tmps := a.tmps, params := ps', assign := cx, body := cy, defers := dfb })) W' →
              KeepsOthers (W.putObj wA.heap.size (.loop { state := .busy, pending := none, fn, tmps := a.tmps, params := ps', assign := cx, body := cy, defers := dfb })) W' := fun {W'} hk =>
            ⟨by have := hk.size; have := (k3 rfl).size; simp at *; omega, fun j o hj ho => by
              by_cases ej : j = wA.heap.size
              · subst ej
                have hltW := (Array.getElem?_eq_some_iff.1 hlW).1
                rw [World.putObj_heap_same hltW] at hj
                cases hj
                exact hk.same _ _ (World.putObj_heap_same hlt2) rfl
              · rw [World.putObj_heap_other ej] at hj
                exact hk.same _ _ (by rw [World.putObj_heap_other ej]; exact (k3 rfl).same _ _ hj ho) ho⟩
          intro e a3 w3 hp
          cases e with
          | normal => obtain ⟨s3, J3, q1, q2, q3, _, w03, I03, β3, κ3, ⟨rfl, rfl⟩, hS4⟩ := hp; exact hpost .normal s3 J3 a3 w3 β3 κ3 q1 (Imm.le_trans k2 q2) (hcomb (q3 rfl)) hS4
          | ret => obtain ⟨s3, J3, q1, q2, q3, _, w03, I03, β3, κ3, ⟨rfl, rfl⟩, hS4⟩ := hp; exact hpost .ret s3 J3 a3 w3 β3 κ3 q1 (Imm.le_trans k2 q2) (hcomb (q3 rfl)) hS4
          | exit id => obtain ⟨s3, J3, q1, q2, q3, _, w03, I03, β3, κ3, ⟨rfl, rfl⟩, hS4⟩ := hp; exact hpost (.exit id) s3 J3 a3 w3 β3 κ3 q1 (Imm.le_trans k2 q2) (hcomb (q3 rfl)) hS4
          | goto _ => exact hp.elim
          | panic _ => exact hp.elim
          | outgrown => exact hp.elim
        | ret => obtain ⟨s2, J2, k1, _⟩ := hp; exact k1.elim
        | exit id => obtain ⟨s2, J2, k1, _⟩ := hp; exact k1.elim
        | goto _ => exact hp.elim
        | panic _ => exact hp.elim
        | outgrown => exact hp.elim
      have hcall := hiter J1 (wA.alloc (.loop (rec .ready none))) arr.toList hs1.good (hcaps.mono hJ1) wA.heap.size _ betw_abiding hround
        ⟨hJ1, KeepsOthers.alloc _ _, .inl ⟨Nat.zero_le _, s1, β, κ, by rw [List.drop_zero]; exact hR, hs1, hl1⟩⟩
      have e1 : #[Value.func (.yield wA.heap.size) #[] #[]] ++ arr.toList.toArray = #[Value.func (.yield wA.heap.size) #[] #[]] ++ arr := by simp
      rw [e1] at hcall
      have hcall' := calls_ro (ro := ro) hcall
      rw [hrec] at hcall'
      refine hcall'.mono ?_
      rintro e W' ⟨⟨v, rfl⟩, I', i, hle, hgd, ⟨hle2, hk2, hd⟩, hi⟩
      have fin : ∀ {s3 : St} {β3 : Nat → Nat} {κ3 : Nat → Nat × Nat × Nat} {r : Loop}, Sim w0 I0 I' β3 κ3 s3 (a.tmps :: sav) { tmps := #[], defers := [] } W' → W'.heap[wA.heap.size]? = some (.loop r) → ∀ o,
          Sat none (Base none w0 I0 Jt) I' (leaveR s3) sav { a with defers := mark ++ a.defers } (W'.putObj wA.heap.size o) ∧ KeepsOthers w (W'.putObj wA.heap.size o) := by
        intro s3 β3 κ3 r hS hl o
        have hS' := hS.putLoop hl hb1 o
        have hkA : KeepsOthers wA (W'.putObj wA.heap.size o) := keepsPut hk2 (Nat.le_refl _) o
        refine ⟨⟨(fun e => by cases e), w0, I0, β3, κ3, ⟨rfl, rfl⟩, hS'.leave ?_⟩, (KeepsOthers.ofBelow hwA).trans hkA⟩
        obtain ⟨Ds, d1, d2, d3⟩ := hA.dfr
        exact ⟨Ds, d1, d2, fun D hD => ⟨(d3 D hD).1, hkA.same _ _ (d3 D hD).2 rfl⟩⟩
      rcases hd with ⟨hin, s3, β3, κ3, hR3, hS, hl⟩ | ⟨hin, xa, s3, β3, κ3, c, hj, hq, hS, hl⟩
      · have e2 : items.drop i = [] := List.drop_eq_nil_of_le (by omega)
        rw [e2] at hR3
        obtain ⟨k1, k2⟩ := fin hS hl (.loop { state := .exhausted, pending := none, fn, tmps := a.tmps, params := ps', assign := cx, body := cy, defers := dfb })
        have hl := hl
        exact ⟨none, _, run_endLoop (P := P) hl (by simp), leaveR s3, I', hR3, hle2, fun _ => k2, k1⟩
      · obtain ⟨k1, k2⟩ := fin hS hl (.loop { state := .exhausted, pending := some c, fn, tmps := a.tmps, params := ps', assign := cx, body := cy, defers := dfb })
        have hl := hl
        refine ⟨some c, _, run_endLoop (P := P) hl (by simp), ?_⟩
        cases xa with
        | normal => cases hj
        | ret => cases hj; exact wpIn_ret ⟨leaveR s3, I', hq, hle2, fun _ => k2, k1⟩
        | exit id => cases hj; exact wpIn_exit ⟨leaveR s3, I', hq, hle2, fun _ => k2, k1⟩
    refine wpIn_rangeFunc ?_
    intro fn _
    have hinv : ∀ (l : Nat) (w1 : World), (resolve a.eval (rangeCall f l) 0).run P w1 = .ok { target := .fn (.func k) arr, args := #[.func (.yield l) #[] #[]] } w1 ∧
        (invoke (.fn (.func k) arr) #[.func (.yield l) #[] #[]]).run P w1 = .ok (.enter k (#[.func (.yield l) #[] #[]] ++ arr)) w1 := fun l w1 =>
      ⟨by simp only [resolve, hfv]; simp [Deferred.ofValue, Act.eval], by simp [invoke, hent (#[.func (.yield l) #[] #[]] ++ arr) w1]⟩
    cases hro' : ro with
    | none =>
      have hA : Sim w0 I0 I β κ s sav { a with defers := [{ target := .collected w.heap.size, args := #[] }] ++ a.defers } (w.alloc (.deferred (some []))) := by
        have h2 := h.alloc (.deferred (some []))
        obtain ⟨Ds, d1, d2, d3⟩ := h2.dfr
        obtain ⟨Ds', d1', d2', d3'⟩ := h.dfr
        refine { h2 with dfr := ⟨w.heap.size :: Ds', by simp [d1'], ?_, ?_⟩ }
        · refine List.nodup_cons.2 ⟨fun hm => ?_, d2'⟩
          have := (Array.getElem?_eq_some_iff.1 (d3' _ hm).2).1
          omega
        · intro D hD
          rcases List.mem_cons.1 hD with rfl | hD
          · exact ⟨h.size, World.alloc_heap_new w _⟩
          · exact ⟨(d3' D hD).1, (Below.heap_alloc w _ D (Array.getElem?_eq_some_iff.1 (d3' D hD).2).1).trans (d3' D hD).2⟩
      have hent2 := run_enterLoop_outer (P := P) (w := w) fn a.tmps ps' cx cy
      have hg2 := hgo fn (w.alloc (.deferred (some []))) [{ target := .collected w.heap.size, args := #[] }] w.heap.size ((Below.refl _ w).alloc (Nat.le_refl _) _) hA (by rw [hro', World.size_alloc]; exact hent2)
      rw [hro'] at hg2
      rw [World.size_alloc] at hg2
      exact ⟨_, _, _, _, _, _, _, _, hent2, (hinv _ _).1, fun _ _ => trivial, (hinv _ _).2, fun e => by simp [wideR, Fence.wide] at e, hg2⟩
    | some l₀ =>
      obtain ⟨r₀, hr₀⟩ := hr l₀ hro'
      have hent2 := run_enterLoop_inner (P := P) hr₀ fn a.tmps ps' cx cy
      have hg2 := hgo fn w [] r₀.defers (Below.refl _ w) (by simpa using h) (by rw [hro']; exact hent2)
      rw [hro'] at hg2
      exact ⟨_, _, _, _, _, _, _, _, hent2, (hinv _ _).1, fun _ _ => trivial, (hinv _ _).2, fun e => by simp [wideR, Fence.wide] at e, hg2⟩

end
end Go.Proofs.YtambpjbpdackfaaGreat.A


/- Contracts out of what is told. -/
set_option linter.unusedVariables false
set_option linter.unusedSimpArgs false
namespace Go.Proofs.YtambpjbpdackfaaGreat.A
open Go Go.RowKit Go.Shelf

/-- A result, as it is told. -/
def res1 (s : St) : ResultVar → Bool × Nat → Option PV
  | .tmp t, _ => (s.tm[t]?).bind tov
  | .cell a _, q => ((s.tm[a]?).bind (ldA s q.1 q.2)).bind tov

def resAll (s : St) : List ResultVar → List (Bool × Nat) → Option (List PV)
  | [], [] => some []
  | v :: vs, q :: qs => match res1 s v q, resAll s vs qs with
    | some x, some xs => some (x :: xs)
    | _, _ => none
  | _, _ => none

def packR : List PV → PV
  | [x] => x
  | l => .tup l

def rinfOk (P : Program) : List ResultVar → List (Bool × Nat) → Bool
  | [], [] => true
  | .tmp _ :: vs, _ :: qs => rinfOk P vs qs
  | .cell _ t :: vs, q :: qs => tAgg P t == some q.1 && tSize P t == some q.2 && (q.1 || q.2 == 1) && rinfOk P vs qs
  | _, _ => false

/-- The state as a call begins. -/
def initS (args : List PV) (n : Nat) : St := { tm := args.map .v ++ List.replicate (n - args.length) (.v .junk), bx := [], ro := [], tk := [], sv := [] }

def RetQ (vs : List ResultVar) (qs : List (Bool × Nat)) (r : PV) : XA → St → Prop
  | .exit _, _ => False
  | _, s => (resAll s vs qs).map packR = some r

section
variable {P : Program}
variable {w0 : Bs} {w w' : World} {I0 I J : Imm} {β : Nat → Nat} {κ : Nat → Nat × Nat × Nat} {s s' : St} {sav : List (Array Value)} {a : Act}

theorem run_res1 (h : Sim w0 I0 I β κ s sav a w) {v : ResultVar} {q : Bool × Nat} {x : PV} (hq : rinfOk P [v] [q] = true) (hx : res1 s v q = some x) :
    ∃ u, (match v with | .tmp t => pure (a.tmps.getD t undef) | .cell c t => do loadVar t (← asAddr (a.tmps.getD c undef)) : Sem Value).run P w = .ok u w ∧ C I x u := by
  cases v with
  | tmp t =>
    obtain ⟨tv, h1, h2⟩ := Option.bind_eq_some_iff.1 hx
    exact ⟨_, rfl, tov_C (ev_R (x := .tmp t) h h1) h2⟩
  | cell c t =>
    obtain ⟨tv, h1, h2⟩ := Option.bind_eq_some_iff.1 hx
    obtain ⟨p, h3, h4⟩ := Option.bind_eq_some_iff.1 h1
    simp only [rinfOk, Bool.and_eq_true, beq_iff_eq, Bool.or_eq_true, and_true] at hq
    have hone : q.1 = false → q.2 = 1 := by
      intro e
      rcases hq.2 with e' | e'
      · rw [e] at e'; cases e'
      · exact e'
    obtain ⟨u, hu, hR⟩ := ldA_sound (x := .tmp c) h hq.1.1 hq.1.2 hone h3 h4
    refine ⟨u, ?_, tov_C hR h2⟩
    have haddr : ∃ ad, a.tmps.getD c undef = .pointer (some ad) := by
      have hev := ev_R (x := .tmp c) h h3
      have e : a.eval (.tmp c) = a.tmps.getD c undef := rfl
      rw [e] at hev
      revert hev h4
      generalize a.tmps.getD c undef = u'
      intro h4 hev
      unfold ldA at h4
      split at h4
      · cases hev.inv; exact ⟨_, rfl⟩
      · cases hev; exact ⟨_, rfl⟩
      · cases hev.inv; exact ⟨_, rfl⟩
      · cases h4
    obtain ⟨ad, had⟩ := haddr
    have e : a.eval (.tmp c) = .pointer (some ad) := had
    rw [e] at hu
    simp only [Instr.loadAt, Instr.sureAddr, Sem.run_bind, Sem.run_pure, Result.andThen_ok] at hu
    show (do loadVar t (← asAddr (a.tmps.getD c undef)) : Sem Value).run P w = _
    rw [had]
    simpa [asAddr] using hu

theorem run_resAll (h : Sim w0 I0 I β κ s sav a w) : ∀ {vs : List ResultVar} {qs : List (Bool × Nat)} {xs : List PV}, rinfOk P vs qs = true → resAll s vs qs = some xs →
    ∃ us, (vs.mapM fun | .tmp t => pure (a.tmps.getD t undef) | .cell c t => do loadVar t (← asAddr (a.tmps.getD c undef)) : Sem (List Value)).run P w = .ok us w ∧ Cs I xs us
  | [], [], xs, _, hx => by simp only [resAll, Option.some.injEq] at hx; subst hx; exact ⟨[], rfl, .nil⟩
  | v :: vs, q :: qs, xs, hq, hx => by
    simp only [resAll] at hx
    split at hx
    · rename_i y ys h1 h2
      cases hx
      have hq1 : rinfOk P [v] [q] = true ∧ rinfOk P vs qs = true := by
        cases v with
        | tmp t => exact ⟨rfl, hq⟩
        | cell c t => simp only [rinfOk, Bool.and_eq_true, and_true] at hq ⊢; exact ⟨hq.1, hq.2⟩
      obtain ⟨u, hu, hC⟩ := run_res1 h hq1.1 h1
      obtain ⟨us, hus, hCs⟩ := run_resAll h hq1.2 h2
      refine ⟨u :: us, ?_, .cons hC hCs⟩
      simp only [List.mapM_cons, Sem.run_bind]
      rw [hu]
      simp only [Result.andThen_ok, Sem.run_bind]
      rw [hus]
      rfl
    · cases hx
  | [], _ :: _, _, hq, _ => by simp [rinfOk] at hq
  | _ :: _, [], _, hq, _ => by rename_i v vs _; cases v <;> simp [rinfOk] at hq

theorem run_results (h : Sim w0 I0 I β κ s sav a w) {fn : Func} {qs : List (Bool × Nat)} {r : PV} (hq : rinfOk P fn.results.toList qs = true) (hr : (resAll s fn.results.toList qs).map packR = some r) :
    ∃ u, (results fn a.tmps).run P w = .ok u w ∧ C I r u := by
  obtain ⟨xs, hx, rfl⟩ := Option.map_eq_some_iff.1 hr
  obtain ⟨us, hus, hC⟩ := run_resAll h hq hx
  have hrun : (results fn a.tmps).run P w = .ok (match us with | [v] => v | _ => .tuple us.toArray) w := by
    unfold results
    rw [Array.mapM_eq_mapM_toList]
    simp only [Sem.run_bind, Sem.run_map]
    refine (congrArg (fun x => (Result.andThen x _).andThen _) (Eq.trans ?_ hus)).trans ?_
    · congr 2
    · simp only [Result.andThen_ok, Sem.run_pure]
      match us with
      | [] => rfl
      | [v] => rfl
      | _ :: _ :: _ => simp
  refine ⟨_, hrun, ?_⟩
  cases hC with
  | nil => exact .tup .nil
  | cons h1 h2 => cases h2 with
    | nil => exact h1
    | cons h2 h3 => exact .tup (.cons h1 (.cons h2 h3))

theorem Sim.putOther (h : Sim w0 I0 I β κ s sav a w) {l : Nat} {o o' : Obj} (hl : w.heap[l]? = some o) (ho : o.isCells = false) (hb : w0.heap.size ≤ l) {df : List Deferred}
    (hd : ∃ Ds : List Nat, df = Ds.map (fun D => { target := .collected D, args := #[] }) ∧ Ds.Nodup ∧ ∀ D ∈ Ds, w0.heap.size ≤ D ∧ (w.putObj l o').heap[D]? = some (.deferred (some []))) :
    Sim w0 I0 I β κ s sav { tmps := a.tmps, defers := df } (w.putObj l o') := by
  have hon := OnlyAt.putObj w l o'
  exact
    { below := h.below.trans (hon.below hb)
      good := fun b arr hI => by
        obtain ⟨cs, ty, fz, more, h1, h2⟩ := h.good b arr hI
        exact ⟨cs, ty, fz, more, (hon.block b (fun e => by rw [e, hl] at h1; cases h1; cases ho)).trans h1, h2⟩
      ext := h.ext
      old := h.old
      tm := h.tm
      sv := h.sv
      mem := h.memKeep (Imm.le_refl _) (fun c x hc => (h.mem c x hc).2.1) (fun c x hc => hon.block c (fun e => by obtain ⟨_, _, cs, ty, h3, _⟩ := h.mem c x hc; rw [e, hl] at h3; cases h3; cases ho))
      mbx := h.mbx
      box := fun b cells hc => by
        obtain ⟨h1, h2, cs, ty, h3, h4⟩ := h.box b cells hc
        exact ⟨h1, h2, cs, ty, (hon.block _ (fun e => by rw [e, hl] at h3; cases h3; cases ho)).trans h3, h4⟩
      rob := h.rob
      inj := h.inj
      tok := fun t ht => by
        obtain ⟨h1, cs, ty, arr, h3, h4⟩ := h.tok t ht
        exact ⟨h1, cs, ty, arr, (hon.block _ (fun e => by rw [e, hl] at h3; cases h3; cases ho)).trans h3, h4⟩
      tinj := h.tinj
      dfr := hd }

theorem leaves_of {F : Fence} {n : Nat} {fn : Func} {L : Ending → World → Prop} {tms : Array Value} (hfin : ∀ (df : List Deferred) (w : World), Sim w0 I0 I β κ s sav { tmps := tms, defers := df } w → ∃ u, (results fn tms).run P w = .ok u w ∧ L (.returned u) w) :
    ∀ (Ds : List Nat) (w : World), Ds.Nodup → (∀ D ∈ Ds, w0.heap.size ≤ D ∧ w.heap[D]? = some (.deferred (some []))) →
    Sim w0 I0 I β κ s sav { tmps := tms, defers := Ds.map (fun D => { target := .collected D, args := #[] }) } w → LeavesInM F n P fn tms L (Ds.map (fun D => { target := .collected D, args := #[] })) .returning w
  | [], w, _, _, h => hfin _ w h
  | D :: Ds, w, hnd, hD, h => by
    obtain ⟨hn1, hn2⟩ := List.nodup_cons.1 hnd
    have hD0 := hD D (by simp)
    have hrest : ∀ D' ∈ Ds, w0.heap.size ≤ D' ∧ (w.putObj D (.deferred none)).heap[D']? = some (.deferred (some [])) := fun D' hm => by
      have := hD D' (by simp [hm])
      exact ⟨this.1, by rw [World.putObj_heap_other (fun e => hn1 (by rw [← e]; exact hm))]; exact this.2⟩
    refine ⟨by simp, .inl ⟨D, _, rfl, run_takeDeferred hD0.2, leaves_of hfin Ds _ hn2 hrest ?_⟩⟩
    exact h.putOther hD0.2 rfl hD0.1 ⟨Ds, rfl, hn2, hrest⟩

theorem initS_sim {vs : List Value} {args : List PV} {m : Mem} (n : Nat) (hg : Good I w) (hm : MemAt I m w) (hc : Cs I args vs) :
    Sim ⟨w, fun c => (m c).isSome⟩ I I (fun _ => 0) (fun _ => (0, 0, 0)) { initS args n with mm := m } [] { tmps := vs.toArray ++ Array.replicate (n - vs.toArray.size) undef, defers := [] } w where
  below := BelowL.refl _
  good := hg
  ext := Imm.le_refl _
  old := fun _ _ => rfl
  tm := by
    have hl := hc.length
    have hj : ∀ k, Rs I (fun _ => 0) (fun _ => (0, 0, 0)) (tkOf []) (List.replicate k (.v .junk)) (List.replicate k undef) := fun k => by
      induction k with
      | zero => exact .nil
      | succ k ih => exact .cons (.v (.junk _)) ih
    have := (Rs.of_Cs (β := fun _ => 0) (κ := fun _ => (0, 0, 0)) (tk := tkOf []) hc).append (hj (n - args.length))
    simpa [initS, hl] using this
  sv := .nil
  box := fun b c hb => by simp [initS, lk] at hb
  mem := fun c cells hc => ⟨.inr (by replace hc : m c = some cells := hc; simp [hc]), hm c cells hc⟩
  mbx := fun b c hb => by simp [initS, lk] at hb
  rob := fun b c hb => by simp [initS, lk] at hb
  inj := fun b b' c c' hb => by simp [initS, lk] at hb
  tok := fun t ht => by simp [initS, tkOf, lk] at ht
  tinj := fun t t' ht => by simp [initS, tkOf, lk] at ht
  dfr := ⟨[], rfl, List.nodup_nil, by simp⟩

/-- What is asked of the state as a call ends. -/
def atEnd (Fin : St → Prop) : XA → St → Prop
  | .exit _, _ => False
  | _, s => Fin s

theorem calls_of {f : FuncId} {fn : Func} {code : Code} {ac : AC} {args : List PV} {vs : List Value} {m : Mem} {Fin : St → Prop} {L : Ending → World → Prop} (hf : P.funcs[f]? = some fn) (hb : fn.body = some code) (hag : Ag P ac code)
    (hg : Good I w) (hm : MemAt I m w) (hc : Cs I args vs) (hwp : wpA P none ac (atEnd Fin) { initS args fn.ntmps with mm := m })
    (hfin : ∀ J β κ s (a : Act) w', Fin s → Sim ⟨w, fun c => (m c).isSome⟩ I J β κ s [] a w' → ∃ u, (results fn a.tmps).run P w' = .ok u w' ∧ L (.returned u) w') : Calls P f vs.toArray w L := by
  refine (callsIn_wide (n := 0)).1 ?_
  refine (callsIn_of_wp_marks (R := L) hf hb trivial ?_ rfl)
  have hs := sound ac code hag none ⟨w, fun c => (m c).isSome⟩ I (fun _ _ _ => True) none (fun _ _ e => by cases e) (fun _ => rfl) _ I w { initS args fn.ntmps with mm := m } [] { tmps := vs.toArray ++ Array.replicate (fn.ntmps - vs.toArray.size) undef, defers := [] } hwp (fun _ e => by cases e)
      ⟨(fun e => by cases e), ⟨w, fun c => (m c).isSome⟩, I, _, _, ⟨rfl, rfl⟩, initS_sim fn.ntmps hg hm hc⟩
  refine wpIn_mono hs ?_
  intro e a2 w2 hp
  have fin : ∀ {xa : XA}, (xa = .normal ∨ xa = .ret) → (∃ s' J, atEnd Fin xa s' ∧ I.le J ∧ (none (α := Nat × List Item) = none → KeepsOthers w w2) ∧ Sat none (Base none ⟨w, fun c => (m c).isSome⟩ I (fun _ _ _ => True)) J s' [] a2 w2) →
      LeavesInM Fence.wide 0 P fn a2.tmps L a2.defers .returning w2 := by
    rintro xa hxa ⟨s', J, hr, hle, _, _, w1, I1, β1, κ1, ⟨rfl, rfl⟩, hS⟩
    have hr' : Fin s' := by rcases hxa with rfl | rfl <;> exact hr
    obtain ⟨Ds, d1, d2, d3⟩ := hS.dfr
    obtain ⟨tms, dfs⟩ := a2
    simp only at d1
    subst d1
    exact leaves_of (fun df w' hS' => hfin J β1 κ1 s' ⟨tms, df⟩ w' hr' hS') Ds w2 d2 d3 hS
  cases e with
  | normal => exact fin (.inl rfl) hp
  | ret => exact fin (.inr rfl) hp
  | exit id => obtain ⟨s', J, hr, _⟩ := hp; exact hr.elim
  | goto _ => exact hp.elim
  | panic _ => exact hp.elim
  | outgrown => exact hp.elim

theorem noMem (I : Imm) (w : World) : MemAt I nomem w := fun _ _ h => by cases h
theorem RetQ_atEnd (vs : List ResultVar) (qs : List (Bool × Nat)) (r : PV) : RetQ vs qs r = atEnd (fun s => (resAll s vs qs).map packR = some r) := by
  funext e s; cases e <;> rfl

/-- A FUNCTION's CONTRACT, out of what its code tells. -/
theorem ok_of {f : FuncId} {fn : Func} {code : Code} {ac : AC} {qs : List (Bool × Nat)} {args : List PV} {r : PV} (hf : P.funcs[f]? = some fn) (hname : (fn.name == "runtime.NumGoroutine") = false) (hb : fn.body = some code) (hag : Ag P ac code)
    (hq : rinfOk P fn.results.toList qs = true) (hwp : wpA P none ac (RetQ fn.results.toList qs r) (initS args fn.ntmps)) : Ok P f args r := by
  refine ⟨enters_of hf hname hb, fun I w vs hg hc => ?_⟩
  rw [RetQ_atEnd] at hwp
  refine calls_of hf hb hag hg (noMem I w) hc hwp ?_
  intro J β κ s a w' hr hS
  obtain ⟨u, hu, hC⟩ := run_results hS hq hr
  exact ⟨u, hu, u, J, rfl, hS.below.all (fun _ => rfl), hS.ext, hS.good, hS.old, hC⟩

/-- The same; the result is told more closely at the end, when no memory is written any more. -/
theorem ok_tell {f : FuncId} {fn : Func} {code : Code} {ac : AC} {qs : List (Bool × Nat)} {args : List PV} {r : PV} (hf : P.funcs[f]? = some fn) (hname : (fn.name == "runtime.NumGoroutine") = false) (hb : fn.body = some code) (hag : Ag P ac code)
    (hq : rinfOk P fn.results.toList qs = true) (hwp : wpA P none ac (atEnd fun s => ∃ xs, resAll s fn.results.toList qs = some xs ∧ Tell s.mm (packR xs) r) (initS args fn.ntmps)) : Ok P f args r := by
  refine ⟨enters_of hf hname hb, fun I w vs hg hc => ?_⟩
  refine calls_of hf hb hag hg (noMem I w) hc hwp ?_
  rintro J β κ s a w' ⟨xs, hx, ht⟩ hS
  obtain ⟨u, hu, hC⟩ := run_results (r := packR xs) hS hq (by rw [hx]; rfl)
  have hle := memI_le hS.memAt
  refine ⟨u, hu, u, memI J s.mm w', rfl, hS.below.all (fun _ => rfl), Imm.le_trans hS.ext hle, memI_good hS.good hS.memAt, fun b hb => ?_, Tell.sound hS.memAt ht (hC.mono hle)⟩
  have hn : s.mm b = none := by
    cases hm : s.mm b with
    | none => rfl
    | some x =>
      rcases (hS.mem b x hm).1 with e | e
      · exact absurd hb (Nat.not_lt.2 e)
      · cases e
  unfold memI
  rw [hn]
  exact hS.old b hb

/-- A function to which memory is handed over. -/
theorem okm_of {f : FuncId} {fn : Func} {code : Code} {ac : AC} {qs : List (Bool × Nat)} {args : List PV} {m : Mem} {R : PV → Mem → Prop} (hf : P.funcs[f]? = some fn) (hname : (fn.name == "runtime.NumGoroutine") = false) (hb : fn.body = some code) (hag : Ag P ac code)
    (hq : rinfOk P fn.results.toList qs = true) (hwp : wpA P none ac (atEnd fun s => ∃ xs, resAll s fn.results.toList qs = some xs ∧ R (packR xs) s.mm) { initS args fn.ntmps with mm := m }) : OkM P f args m R := by
  refine ⟨enters_of hf hname hb, fun I w vs hg hm hc => ?_⟩
  refine calls_of hf hb hag hg hm hc hwp ?_
  rintro J β κ s a w' ⟨xs, hx, ht⟩ hS
  obtain ⟨u, hu, hC⟩ := run_results (r := packR xs) hS hq (by rw [hx]; rfl)
  refine ⟨u, hu, u, J, packR xs, s.mm, rfl, ht, hS.below, hS.ext, hS.good, hS.old, hS.memAt, fun c hc hn => ?_, hC⟩
  cases hm : s.mm c with
  | none => rfl
  | some x =>
    rcases (hS.mem c x hm).1 with e | e
    · exact absurd hc (Nat.not_lt.2 e)
    · simp [hn] at e

/-! ### Functions that hand a new row back -/
/-- A row of its own, of these elements. -/
def NewRow (els : List PV) (r : PV) (m : Mem) : Prop :=
  (els = [] ∧ m = nomem ∧ ∃ a, r = .s (.slice a 0 0)) ∨
  (els ≠ [] ∧ ∃ c cap k, els.length ≤ cap ∧ r = .s (.slice (some ⟨c, 0, none⟩) els.length cap) ∧ m = nomem.put c (flat els ++ List.replicate k .junk))
abbrev OkN (P : Program) (f : FuncId) (args els : List PV) : Prop := OkM P f args nomem (NewRow els)

theorem RFs_append : ∀ {a b : List PV}, RFs a = true → RFs b = true → RFs (a ++ b) = true
  | [], _, _, h => h
  | x :: a, b, h, k => by
    simp only [RFs, Bool.and_eq_true, List.cons_append] at h ⊢
    exact ⟨h.1, RFs_append h.2 k⟩
theorem RFs_junk : ∀ (k : Nat), RFs (List.replicate k .junk) = true
  | 0 => rfl
  | k + 1 => by simp [List.replicate_succ, RFs, RF, RFs_junk k]
theorem NewRow.rf {els : List PV} (h : RFs (flat els) = true) (r : PV) (m : Mem) (hr : NewRow els r m) : RF r = true ∧ ∀ c cells, m c = some cells → RFs cells = true := by
  rcases hr with ⟨rfl, rfl, a, rfl⟩ | ⟨hne, c, cap, k, h1, rfl, rfl⟩
  · exact ⟨rfl, fun c cells hc => by cases hc⟩
  · refine ⟨rfl, fun d cells hd => ?_⟩
    by_cases e : d = c
    · subst e
      rw [Mem.put_same] at hd
      cases hd
      exact RFs_append h (RFs_junk k)
    · rw [Mem.put_other _ _ e] at hd
      cases hd

theorem Cs_junks (I : Imm) : ∀ (l : List Value), Cs I (List.replicate l.length .junk) l
  | [] => .nil
  | v :: l => .cons (.junk v) (Cs_junks I l)

theorem okn_of {f : FuncId} {fn : Func} {code : Code} {ac : AC} {t : Nat} {args els : List PV} (hf : P.funcs[f]? = some fn) (hname : (fn.name == "runtime.NumGoroutine") = false) (hb : fn.body = some code) (hag : Ag P ac code)
    (hq : fn.results.toList = [.tmp t]) (hrf : RFs (flat els) = true)
    (hwp : wpA P none ac (atEnd fun s => (∃ tok, s.tm[t]? = some (.acc tok els) ∧ els.length = tkOf s.tk tok) ∨ (∃ r, s.tm[t]? = some (.v r) ∧ NewRow els r s.mm)) (initS args fn.ntmps)) : OkN P f args els := by
  refine ⟨enters_of hf hname hb, fun I w vs hg _ hc => ?_⟩
  refine calls_of hf hb hag hg (noMem I w) hc hwp ?_
  intro J β κ s a w' hend hS
  have hB : BelowL ⟨w, fun c => (nomem c).isSome⟩ w' := hS.below
  have hold : ∀ c x, s.mm c = some x → ¬ c < w.heap.size := fun c x hm => by
    rcases (hS.mem c x hm).1 with e | e
    · exact Nat.not_lt.2 e
    · cases e
  rcases hend with ⟨tok, ht, hlen⟩ | ⟨r, ht, hr⟩
  · have hR := ev_R (x := .tmp t) hS ht
    have hrun : (results fn a.tmps).run P w' = .ok (a.eval (.tmp t)) w' := by
      obtain ⟨u, hu, hC⟩ := run_results (P := P) (fn := fn) (qs := [(false, 0)]) (r := .sl false els) hS (by rw [hq]; rfl) (by rw [hq]; simp [resAll, res1, ht, tov, packR])
      have e0 : fn.results = #[.tmp t] := by have := congrArg List.toArray hq; simpa using this
      simp [results, e0, Act.eval]
    generalize a.eval (.tmp t) = u at hR hrun
    refine ⟨u, hrun, ?_⟩
    cases hR with
    | acc0 =>
      exact ⟨_, J, .s (.slice none 0 0), nomem, rfl, .inl ⟨rfl, rfl, none, rfl⟩, hB, hS.ext, hS.good, hS.old, noMem _ _, fun _ _ _ => rfl, .s _⟩
    | @acc _ _ c n cap sz g1 g2 g3 g4 g5 g6 =>
      subst g2
      have hκ := g6 hlen
      obtain ⟨k1, cs, ty, arr, k2, k3, k4, k5, k6⟩ := hS.tok tok (by rw [← hlen]; exact List.length_pos_iff.2 g1)
      rw [hκ] at k1 k2 k3 k4 k5 k6
      simp only at k1 k2 k3 k4 k5 k6
      obtain ⟨arr', q1, q2, q3, q4⟩ := g4
      rw [k4] at q1
      cases q1
      obtain ⟨cs1, ty1, fz1, more, z1, z2⟩ := hS.good c arr k4
      rw [k2] at z1
      cases z1
      have hfl := flat_length q2
      have harr : arr.take (flat els).length = arr := List.take_of_length_le (by rw [hfl, hlen, ← k5]; exact Nat.le_refl _)
      rw [harr] at q3
      have hcN : ∀ J' : Imm, Cs J' (flat els) arr := fun J' => RFs.any hrf q3
      have hIn : I c = none := by
        cases hI : I c with
        | none => rfl
        | some x =>
          have := (hg.lt hI)
          exact absurd this (Nat.not_lt.2 k1)
      refine ⟨_, I, .s (.slice (some ⟨c, 0, none⟩) els.length cap), nomem.put c (flat els ++ List.replicate more.length .junk), rfl, .inr ⟨g1, c, cap, more.length, g3, rfl, rfl⟩, hB, Imm.le_refl _, hg.below hB.ofNone, fun _ _ => rfl, ?_, ?_, .s _⟩
      · intro d x hd
        by_cases e : d = c
        · subst e
          rw [Mem.put_same] at hd
          cases hd
          exact ⟨hIn, cs, ty, k2, by rw [z2]; exact (hcN I).append (Cs_junks I more)⟩
        · rw [Mem.put_other _ _ e] at hd
          cases hd
      · intro d hd _
        have e : d ≠ c := fun e => by rw [e] at hd; exact absurd hd (Nat.not_lt.2 k1)
        rw [Mem.put_other _ _ e]
        rfl
  · obtain ⟨u, hu, hC⟩ := run_results (P := P) (fn := fn) (qs := [(false, 0)]) (r := r) hS (by rw [hq]; rfl) (by rw [hq]; simp [resAll, res1, ht, tov, packR])
    refine ⟨u, hu, u, J, r, s.mm, rfl, hr, hB, hS.ext, hS.good, hS.old, hS.memAt, fun c hc _ => ?_, hC⟩
    cases hm : s.mm c with
    | none => rfl
    | some x => exact absurd hc (hold c x hm)

/-- What writes nothing that was there, told as a function. -/
theorem Ok.ofM {f : FuncId} {args : List PV} {r : PV} {R : PV → Mem → Prop} (h : OkM P f args nomem R) (hR : ∀ r' m', R r' m' → Tell m' r' r) : Ok P f args r := by
  refine ⟨h.1, fun I w vs hg hc => (h.2 I w vs hg (noMem I w) hc).mono ?_⟩
  rintro e w' ⟨v, J, r', m', rfl, hr, hb, hJ, hg', hold, hm, hnew, hC⟩
  have hle := memI_le hm
  refine ⟨v, memI J m' w', rfl, hb.ofNone, Imm.le_trans hJ hle, memI_good hg' hm, fun b hb => ?_, Tell.sound hm (hR r' m' hr) (hC.mono hle)⟩
  unfold memI
  rw [hnew b hb rfl]
  exact hold b hb

theorem NewRow.tell {els : List PV} {sz : Nat} (hu : ∀ e ∈ els, e.cells.length = sz) (r : PV) (m : Mem) (h : NewRow els r m) : Tell m r (.sl false els) := by
  rcases h with ⟨rfl, rfl, a, rfl⟩ | ⟨hne, c, cap, k, h1, rfl, rfl⟩
  · cases a with
    | none => exact .nil
    | some a => exact .empty
  · refine .row (Mem.put_same _ _ _) hu rfl (by simp) h1 (fun h => by cases h) ?_
    rw [List.drop_zero, List.take_left]
    exact Tells.same _ _
theorem OkN.ok {f : FuncId} {args els : List PV} {sz : Nat} (hu : ∀ e ∈ els, e.cells.length = sz) (h : OkN P f args els) : Ok P f args (.sl false els) := Ok.ofM h (NewRow.tell hu)

theorem OkM.mono {f : FuncId} {args : List PV} {m : Mem} {R R' : PV → Mem → Prop} (h : OkM P f args m R) (hR : ∀ r m', R r m' → R' r m') : OkM P f args m R' :=
  ⟨h.1, fun I w vs hg hm hc => (h.2 I w vs hg hm hc).mono fun e w' ⟨v, J, r, m', h1, h2, h3⟩ => ⟨v, J, r, m', h1, hR r m' h2, h3⟩⟩

/-- AN ITERATOR's CONTRACT, out of what its code tells. -/
theorem iter_of {f : FuncId} {fn : Func} {code : Code} {ac : AC} {caps : List PV} {items : List Item} (hf : P.funcs[f]? = some fn) (hname : (fn.name == "runtime.NumGoroutine") = false) (hb : fn.body = some code) (hag : Ag P ac code)
    (hq : fn.results.toList = [])
    (hwp : ∀ l, wpA P (some (l, items)) ac (fun e s => match e with | .exit _ => False | _ => s.it = items.length ∨ s.it = items.length + 1) (initS (.fn (.yield l) [] :: caps) fn.ntmps)) : IterOkM P (.fn (.func f) caps) items := by
  refine ⟨f, caps, rfl, enters_of hf hname hb, fun I w cs hg hc l J hab hround hJ0 => ?_⟩
  refine (callsIn_wide (n := 0)).1 ?_
  have hctx : Ctx P (some (l, items)) J := fun l' xs e => by cases e; exact ⟨hab, hround⟩
  have hall : Cs I (.fn (.yield l) [] :: caps) (.func (.yield l) #[] #[] :: cs) := .cons (.fn .nil) hc
  have e1 : #[Value.func (.yield l) #[] #[]] ++ cs.toArray = (Value.func (.yield l) #[] #[] :: cs).toArray := by simp
  rw [e1]
  refine callsIn_of_wp hf hb trivial ?_ rfl
  have hs := sound ac code hag (some (l, items)) (Bs.of w) I J none hctx (fun e => by cases e) _ I w (initS (.fn (.yield l) [] :: caps) fn.ntmps) [] { tmps := (Value.func (.yield l) #[] #[] :: cs).toArray ++ Array.replicate (fn.ntmps - (Value.func (.yield l) #[] #[] :: cs).toArray.size) undef, defers := [] }
    (hwp l) (fun _ e => by cases e) ⟨fun _ => rfl, Bs.of w, I, _, _, ⟨fun _ => rfl, hJ0, Imm.le_refl _⟩, initS_sim fn.ntmps hg (noMem I w) hall⟩
  refine wpIn_mono hs ?_
  intro e a2 w2 hp
  have fin : (∃ s' J', (s'.it = items.length ∨ s'.it = items.length + 1) ∧ I.le J' ∧ (some (l, items) = none → KeepsOthers w w2) ∧ Sat (some (l, items)) (Base (some (l, items)) (Bs.of w) I J) J' s' [] a2 w2) →
      a2.defers = [] ∧ ∃ v, (results fn a2.tmps).run P w2 = .ok v w2 ∧ ((∃ v', Ending.returned v = .returned v') ∧ ∃ I' i, I.le I' ∧ Good I' w2 ∧ J i I' w2 ∧ (i = items.length ∨ i = items.length + 1)) := by
    rintro ⟨s', J', hi, hle, _, hdf, w1, I1, β1, κ1, ⟨hln, hJ, hle1⟩, hS⟩
    refine ⟨hdf rfl, .tuple #[], ?_, ⟨_, rfl⟩, J', s'.it, hle, hS.good, hab _ _ _ _ _ hJ (hS.below.all hln) hS.ext hS.old hS.good, hi⟩
    have e0 : fn.results = #[] := by
      have := congrArg List.toArray hq
      simpa using this
    simp [results, e0]
  cases e with
  | normal => exact fin hp
  | ret => exact fin hp
  | exit id => obtain ⟨s', J', hr, _⟩ := hp; exact hr.elim
  | goto _ => exact hp.elim
  | panic _ => exact hp.elim
  | outgrown => exact hp.elim

end
end Go.Proofs.YtambpjbpdackfaaGreat.A


/- Regions that draw their order: what is told in the text's order is done in every order. -/
set_option linter.unusedVariables false
set_option linter.unusedSimpArgs false
namespace Go.Proofs.YtambpjbpdackfaaGreat.A
open Go Go.RowKit Go.Shelf

/-! ### What an operation looks at -/
def opds : Op → List Operand
  | .move x | .assign x | .load _ x | .fieldAddr _ x _ | .field _ x _ | .unOp _ _ x | .makeInterface _ x | .extract x _ | .convert _ _ x | .box _ x => [x]
  | .pick c x y => [c, x, y]
  | .indexAddr _ x k => [x, k]
  | .index _ x k => [x, k]
  | .binOp _ _ x y _ => [x, y]
  | .store _ x y => [x, y]
  | .makeSlice _ l c => [l, c]
  | .makeFunc _ _ caps => caps.toList
  | .build _ parts => parts.toList.map (·.2)
  | .buildSlice _ _ parts => parts.toList.map (·.2)
  | .slice _ x lo hi mx => x :: (lo.toList ++ hi.toList ++ mx.toList)
  | .call c => (match c.callee with | .value f => [f] | .invoke r _ => [r] | .builtin _ => []) ++ c.args.toList
  | _ => []

def looksB : Op → Bool
  | .load _ _ => true
  | .store _ _ _ => true
  | _ => false
def turnsB : Op → Bool
  | .store _ _ _ => true
  | _ => false
def usesT : Op → Bool
  | .call c => (match c.callee with | .builtin .append => true | _ => false)
  | _ => false
/-- Is it a call of a function that stands in a slot? -/
def via : Op → Bool
  | .call c => (match c.callee with | .value (.func _) => false | .value _ => true | _ => false)
  | _ => false

def calm0 (y : Bool) (o : AO) : Bool :=
  (nilTest o).isNone && !(y && via o.op) && match o.op with
  | .alloc _ => false
  | .box _ _ => false
  | .makeSlice _ _ _ => o.inf.agg && o.inf.acc.isEmpty
  | _ => o.inf.acc.isEmpty

def isCall : Op → Bool
  | .call _ => true
  | _ => false
def calm (y : Bool) (o : AO) : Bool := (o.inf.mc == 0 && calm0 y o) || (o.inf.mc == 1 && isCall o.op)
/-- Does it look at memory that may be written? -/
def looksO (o : AO) : Bool := looksB o.op || o.inf.mc == 1

def gslot (all : List AO) (o : AO) : Option Nat := match o.guard with
  | some (j, _) => (all[j]?).bind (·.dst)
  | none => none

def slots (all : List AO) (o : AO) : List Nat := (opds o.op).filterMap (fun | .tmp n => some n | _ => none) ++ (gslot all o).toList

def apart (all : List AO) (x y : AO) : Bool := match x.dst with
  | some d => !(slots all y).contains d && y.dst != some d
  | none => true

def indep (v : Bool) (all : List AO) (x y : AO) : Bool :=
  calm v x && calm v y && apart all x y && apart all y x && !(turnsB x.op && looksO y) && !(turnsB y.op && looksO x) && !(usesT x.op && usesT y.op)

/-- Is x before oi by the edges? -/
def reach (ao : List AO) (x : Nat) : Nat → List Nat → Bool
  | 0, _ => false
  | d + 1, l => l.contains x || l.any fun j => match ao[j]? with | some o => reach ao x d o.pre | none => false

def drawOk (v : Bool) (ao : List AO) : Bool :=
  (List.range ao.length).all fun i => match ao[i]? with
    | none => false
    | some oi => oi.pre.all (fun j => decide (j < i)) && (List.range i).all fun x => match ao[x]? with
      | none => false
      | some ox => oi.pre.contains x || indep v ao ox oi || reach ao x 6 oi.pre

/-! ### What an operation turns -/
structure Up where
  tm : Option (Nat × TV)
  bx : Option (Nat × List TV)
  tk : Option (Nat × Nat)
  mm : Option (Nat × List PV)

def Up.on (u : Up) (s : St) : St :=
  { s with
    tm := match u.tm with | some (d, x) => s.tm.set d x | none => s.tm
    bx := match u.bx with | some (b, c) => upd b c s.bx | none => s.bx
    tk := match u.tk with | some (t, n) => upd t n s.tk | none => s.tk
    mm := match u.mm with | some (c, x) => s.mm.put c x | none => s.mm }

def put1 (d : Option Nat) (x : TV) : Up := { tm := d.map (·, x), bx := none, tk := none, mm := none }

theorem put1_on (d : Option Nat) (x : TV) (s : St) : (put1 d x).on s = putT s d x := by
  cases d <;> rfl

/-- The two states look alike to the operation. -/
structure Alike (all : List AO) (o : AO) (s s2 : St) : Prop where
  ops : ∀ x ∈ opds o.op, ev s x = ev s2 x
  gd : ∀ d, gslot all o = some d → s.tm[d]? = s2.tm[d]?
  ro : s.ro = s2.ro
  bx : looksB o.op = true → ∀ z ∈ opds o.op, ∀ b off, ev s z = some (.ptr b off) → lk b s.bx = lk b s2.bx
  tk : usesT o.op = true → s.tk = s2.tk
  mm : looksO o = true → MemLe s.mm s2.mm

theorem pvs_congr {s s2 : St} : ∀ {l : List Operand}, (∀ x ∈ l, ev s x = ev s2 x) → pvs s l = pvs s2 l
  | [], _ => rfl
  | x :: l, h => by
    have h1 : pv s x = pv s2 x := by unfold pv; rw [h x (by simp)]
    have h2 := pvs_congr (l := l) fun y hy => h y (by simp [hy])
    simp only [pvs, h1, h2]

theorem capsA_congr {s s2 : St} (hr : s.ro = s2.ro) : ∀ {l : List Operand}, (∀ x ∈ l, ev s x = ev s2 x) → capsA s l = capsA s2 l
  | [], _ => rfl
  | x :: l, h => by
    have h0 : capA s = capA s2 := by funext t; cases t <;> simp only [capA, hr]
    have h2 := capsA_congr hr (l := l) fun y hy => h y (by simp [hy])
    simp only [capsA, h x (by simp), h0, h2]

theorem optPv_congr {s s2 : St} {o : Option Operand} (h : ∀ x ∈ o.toList, ev s x = ev s2 x) : o.map (pv s) = o.map (pv s2) := by
  cases o with
  | none => rfl
  | some x => simp only [Option.map_some, pv, h x (by simp)]

theorem valA_congr {op : Op} {i : Inf} {s s2 : St} (h : ∀ x ∈ opds op, ev s x = ev s2 x) (hr : s.ro = s2.ro) (hb : looksB op = true → ∀ z ∈ opds op, ∀ b off, ev s z = some (.ptr b off) → lk b s.bx = lk b s2.bx) (hm : looksB op = true → s.mm = s2.mm) : valA s op i = valA s2 op i := by
  cases op <;> simp only [opds, List.mem_cons, List.not_mem_nil, or_false, forall_eq_or_imp, forall_eq] at h <;> simp only [valA]
  case move => exact h
  case assign => exact h
  case pick => simp only [pv, h.1, h.2.1, h.2.2]
  case load =>
    rename_i x
    have key : ∀ t, ev s x = some t → ldA s i.agg i.n t = ldA s2 i.agg i.n t := fun t ht => by
      cases t with
      | ptr b off => simp only [ldA, hb rfl x (by simp [opds]) b off ht, hr]
      | v p =>
        cases p with
        | s u =>
          cases u with
          | pointer a =>
            cases a with
            | none => rfl
            | some a =>
              obtain ⟨c, off, sp⟩ := a
              cases sp with
              | none => simp only [ldA, hm rfl]
              | some _ => rfl
          | _ => rfl
        | _ => rfl
      | acc => rfl
      | own => rfl
    rw [← h]
    cases he : ev s x with
    | none => rfl
    | some t => exact key t he
  case fieldAddr => rw [h]
  case field => simp only [pv, h]
  case indexAddr => simp only [pv, h.1, h.2]
  case index => simp only [pv, h.1, h.2]
  case binOp => simp only [h.1, h.2]
  case unOp => simp only [pv, h]
  case makeInterface => simp only [pv, h]
  case extract => simp only [pv, h]
  case makeFunc => rw [capsA_congr hr h]
  case build => rw [pvs_congr h]
  case convert => simp only [pv, h]
  case slice t x lo hi mx =>
    have h0 : pv s x = pv s2 x := by unfold pv; rw [h.1]
    rw [h0, optPv_congr (o := lo) fun x hx => h.2 x (by simp [hx]), optPv_congr (o := hi) fun x hx => h.2 x (by simp [hx]), optPv_congr (o := mx) fun x hx => h.2 x (by simp [hx])]
  case call c =>
    have ha : ∀ x ∈ c.args.toList, ev s x = ev s2 x := fun x hx => h x (by simp [hx])
    split
    · rename_i x h1 h2
      have : pv s x = pv s2 x := by unfold pv; rw [ha x (by rw [h2]; simp)]
      rw [this]
    · rw [pvs_congr ha]
    · rw [pvs_congr ha]
    · rfl

theorem valA_mono {op : Op} {i : Inf} {s s2 : St} {tv : TV} (h : ∀ x ∈ opds op, ev s x = ev s2 x) (hr : s.ro = s2.ro) (hb : looksB op = true → ∀ z ∈ opds op, ∀ b off, ev s z = some (.ptr b off) → lk b s.bx = lk b s2.bx) (hm : looksB op = true → MemLe s.mm s2.mm)
    (hv : valA s op i = some tv) : valA s2 op i = some tv := by
  by_cases hl : ∃ t x, op = .load t x
  · obtain ⟨t, x, rfl⟩ := hl
    simp only [valA] at hv ⊢
    obtain ⟨p, h1, h2⟩ := Option.bind_eq_some_iff.1 hv
    have hx := h x (by simp [opds])
    rw [← hx, h1, Option.bind_some]
    cases p with
    | ptr b off => simpa only [ldA, ← hb rfl x (by simp [opds]) b off h1, ← hr] using h2
    | acc => exact h2
    | own => exact h2
    | v p =>
      cases p with
      | s u =>
        cases u with
        | pointer a =>
          cases a with
          | none => exact h2
          | some a =>
            obtain ⟨c, off, sp⟩ := a
            cases sp with
            | none =>
              simp only [ldA] at h2 ⊢
              split at h2
              · rename_i cs hc
                rw [hm rfl _ _ hc]
                exact h2
              · cases h2
            | some _ => exact h2
        | _ => exact h2
      | _ => exact h2
  · by_cases hst : ∃ t x y, op = .store t x y
    · obtain ⟨t, x, y, rfl⟩ := hst
      simp [valA] at hv
    · have hn : ¬ looksB op = true := by
        intro h
        cases op <;> first | (simp [looksB] at h; done) | exact hl ⟨_, _, rfl⟩ | exact hst ⟨_, _, _, rfl⟩
      rw [← valA_congr h hr hb (fun e => absurd e hn)]
      exact hv

section
variable {P : Program}

/-- What an operation does, as a turn of the state. -/
def Turns (P : Program) (its : Option (Nat × List Item)) (all : List AO) (o : AO) (s : St) (u : Up) : Prop :=
  (∀ d x, u.tm = some (d, x) → o.dst = some d) ∧ (∀ b c, u.bx = some (b, c) → ∃ t x y off, o.op = .store t x y ∧ ev s x = some (.ptr b off)) ∧ (u.tk.isSome = true → usesT o.op = true) ∧ (∀ x, u.mm = some x → ∃ a t z q, o.op = .store t z q ∧ ev s z = some (.v (.s (.pointer a)))) ∧
    ∀ s2, Alike all o s s2 → ∀ K, K (u.on s2) → wpOp P its all o s2 K

/-- The same, of the operation without its guard. -/
def Turns0 (P : Program) (its : Option (Nat × List Item)) (o : AO) (s : St) (u : Up) : Prop :=
  (∀ d x, u.tm = some (d, x) → o.dst = some d) ∧ (∀ b c, u.bx = some (b, c) → ∃ t x y off, o.op = .store t x y ∧ ev s x = some (.ptr b off)) ∧ (u.tk.isSome = true → usesT o.op = true) ∧ (∀ x, u.mm = some x → ∃ a t z q, o.op = .store t z q ∧ ev s z = some (.v (.s (.pointer a)))) ∧
    ∀ s2, (∀ x ∈ opds o.op, ev s x = ev s2 x) → s.ro = s2.ro → (looksB o.op = true → ∀ z ∈ opds o.op, ∀ b off, ev s z = some (.ptr b off) → lk b s.bx = lk b s2.bx) → (usesT o.op = true → s.tk = s2.tk) → (looksO o = true → MemLe s.mm s2.mm) → ∀ K, K (u.on s2) → execB P its s2 o K

theorem Turns.bxB {its : Option (Nat × List Item)} {all : List AO} {o : AO} {s : St} {u : Up} (h : Turns P its all o s u) (p : u.bx.isSome = true) : turnsB o.op = true := by
  obtain ⟨⟨b, c⟩, hbc⟩ := Option.isSome_iff_exists.1 p
  obtain ⟨t, x, y, off, ho, _⟩ := h.2.1 b c hbc
  rw [ho]
  rfl

theorem Turns.mmB {its : Option (Nat × List Item)} {all : List AO} {o : AO} {s : St} {u : Up} (h : Turns P its all o s u) (p : u.mm.isSome = true) : turnsB o.op = true := by
  obtain ⟨x, hx⟩ := Option.isSome_iff_exists.1 p
  obtain ⟨a, t, z, q, ho, _⟩ := h.2.2.2.1 x hx
  rw [ho]
  rfl

variable {its : Option (Nat × List Item)}

theorem put1_tm {o : AO} {x : TV} : ∀ d y, (put1 o.dst x).tm = some (d, y) → o.dst = some d := by
  intro d y h
  cases hd : o.dst with
  | none => simp [put1, hd] at h
  | some d' => simp only [put1, hd, Option.map_some, Option.some.injEq, Prod.mk.injEq] at h; rw [h.1]

theorem turns_val {o : AO} {s : St} {K : St → Prop} (hstep : ∀ s, stepA s o.dst o.op o.inf = (valA s o.op o.inf).map (putT s o.dst))
    (hex : ∀ s K, execB P its s o K = ∃ s', stepA s o.dst o.op o.inf = some s' ∧ K s') (h : ∃ s', stepA s o.dst o.op o.inf = some s' ∧ K s') :
    ∃ u, Turns0 P its o s u ∧ K (u.on s) := by
  obtain ⟨s', h1, h2⟩ := h
  rw [hstep] at h1
  obtain ⟨tv, h3, rfl⟩ := Option.map_eq_some_iff.1 h1
  refine ⟨put1 o.dst tv, ⟨put1_tm, (fun _ _ h => by simp [put1] at h), (fun h => by simp [put1] at h), (fun _ h => by simp [put1] at h), ?_⟩, by rw [put1_on]; exact h2⟩
  intro s2 ho hr hb ht hm K' hK
  rw [hex]
  rw [put1_on] at hK
  exact ⟨_, by rw [hstep, valA_mono ho hr hb (fun e => hm (by simp [looksO, e])) h3]; rfl, hK⟩

theorem turns_call {o : AO} {s : St} {K : St → Prop} {c : Call} (hv : its = none ∨ via o.op = false) (ho : o.op = .call c) (hb : ∀ b, c.callee ≠ .builtin b) (h : callA P its s o.dst c K) : ∃ u, Turns0 P its o s u ∧ K (u.on s) := by
  have hex : ∀ s K, execB P its s o K = callA P its s o.dst c K := fun s K => by
    unfold execB
    rw [ho]
    simp only
  have key : ∀ r : PV, (∀ s2, (∀ x ∈ opds o.op, ev s x = ev s2 x) → ∀ K' : St → Prop, K' (putT s2 o.dst (.v r)) → callA P its s2 o.dst c K') → K (putT s o.dst (.v r)) → ∃ u, Turns0 P its o s u ∧ K (u.on s) := by
    intro r hr hK
    refine ⟨put1 o.dst (.v r), ⟨put1_tm, (fun _ _ h => by simp [put1] at h), (fun h => by simp [put1] at h), (fun _ h => by simp [put1] at h), ?_⟩, by rw [put1_on]; exact hK⟩
    intro s2 h2 _ _ _ _ K' hK'
    rw [hex]
    rw [put1_on] at hK'
    exact hr s2 h2 K' hK'
  unfold callA at h
  split at h
  · exact h.elim
  · rename_i f hf
    have hops : ∀ s2, (∀ x ∈ opds o.op, ev s x = ev s2 x) → ev s f = ev s2 f ∧ pvs s c.args.toList = pvs s2 c.args.toList := fun s2 h2 => by
      rw [ho] at h2
      simp only [opds, hf] at h2
      exact ⟨h2 f (by simp), pvs_congr fun x hx => h2 x (by simp [hx])⟩
    split at h
    · rename_i k caps ps h1 h2
      obtain ⟨r, hOk, hK⟩ := h
      refine key r (fun s2 ha K' hK' => ?_) hK
      obtain ⟨e1, e2⟩ := hops s2 ha
      unfold callA
      rw [hf]
      simp only [← e1, ← e2, h1, h2]
      exact ⟨r, hOk, hK'⟩
    · rename_i l' ps h1 h2
      rcases hv with rfl | hv
      · exact h.elim
      · exfalso
        rw [ho] at hv
        simp only [via, hf] at hv
        cases f <;> simp [ev] at hv h1
    · exact h.elim
  · rename_i rr name hf
    have hops : ∀ s2, (∀ x ∈ opds o.op, ev s x = ev s2 x) → ev s rr = ev s2 rr ∧ pvs s c.args.toList = pvs s2 c.args.toList := fun s2 h2 => by
      rw [ho] at h2
      simp only [opds, hf] at h2
      exact ⟨h2 rr (by simp), pvs_congr fun x hx => h2 x (by simp [hx])⟩
    split at h
    · rename_i t x ps h1 h2
      obtain ⟨f, r, hM, hOk, hK⟩ := h
      refine key r (fun s2 ha K' hK' => ?_) hK
      obtain ⟨e1, e2⟩ := hops s2 ha
      unfold callA
      rw [hf]
      simp only [← e1, ← e2, h1, h2]
      exact ⟨f, r, hM, hOk, hK'⟩
    · exact h.elim

theorem turns_exec {v : Bool} {o : AO} {s : St} {K : St → Prop} (hv : its = none ∨ via o.op = false) (hc : calm0 v o = true) (hmc : o.inf.mc = 0) (h : execB P its s o K) : ∃ u, Turns0 P its o s u ∧ K (u.on s) := by
  obtain ⟨dst, op, guard, pre, inf⟩ := o
  cases op
  case alloc => simp [calm0] at hc
  case box => simp [calm0] at hc
  case makeSlice t l c =>
    have hagg : inf.agg = true := by simp only [calm0, Bool.and_eq_true] at hc; exact hc.2.1
    simp only [execB] at h
    obtain ⟨s', h1, h2⟩ := h
    simp only [stepA] at h1
    split at h1
    · rename_i d k n k' m hl hc'
      have hm3 : ¬ inf.mc = 3 := by rw [hmc]; omega
      rw [if_neg hm3, if_pos hagg] at h1
      split at h1
      · rename_i hcond
        cases h1
        refine ⟨put1 (some d) (.v (.sl true (List.replicate n.toNat (.s (inf.zero.headD .nilFunc))))), ⟨put1_tm (o := ⟨some d, .makeSlice t l c, guard, pre, inf⟩), (fun _ _ e => by cases e), (fun e => by cases e), (fun _ e => by cases e), ?_⟩, by rw [put1_on]; exact h2⟩
        intro s2 ho _ _ _ _ K' hK'
        rw [put1_on] at hK'
        simp only [execB]
        refine ⟨_, ?_, hK'⟩
        simp only [opds, List.mem_cons, List.not_mem_nil, or_false, forall_eq_or_imp, forall_eq] at ho
        simp only [stepA, ← ho.1, ← ho.2, hl, hc']
        rw [if_neg hm3, if_pos hagg, if_pos hcond]
      · cases h1
    · cases h1
  case call c =>
    by_cases hb : ∃ b, c.callee = .builtin b
    · obtain ⟨b, hb⟩ := hb
      obtain ⟨callee, args, ats⟩ := c
      simp only at hb
      subst hb
      by_cases ha : b = .append
      · subst ha
        simp only [execB] at h
        obtain ⟨s', h1, h2⟩ := h
        simp only [stepA] at h1
        split at h1
        · rename_i x y d _ hargs
          split at h1
          · rename_i p ys hx hy
            have hne : inf.acc.isEmpty = true := by simp only [calm0, Bool.and_eq_true] at hc; exact hc.2
            have hops : ∀ s2, (∀ z ∈ opds (.call ⟨.builtin .append, args, ats⟩), ev s z = ev s2 z) → ev s2 x = some p ∧ (pv s2 y).bind rowOf = some ys := fun s2 ha => by
              simp only [opds, List.nil_append] at ha
              have e1 := ha x (by rw [hargs]; simp)
              have e2 := ha y (by rw [hargs]; simp)
              refine ⟨by rw [← e1]; exact hx, ?_⟩
              unfold pv at hy ⊢
              rw [← e2]; exact hy
            unfold appA at h1
            split at h1
            · rename_i t els
              split at h1
              · rename_i hfit
                cases h1
                refine ⟨⟨some (d, .acc t (els ++ ys)), none, some (t, els.length + ys.length), none⟩, ⟨(fun d' x' e => by cases e; rfl), (fun _ _ e => by cases e), (fun _ => rfl), (fun _ e => by cases e), ?_⟩, h2⟩
                intro s2 ho _ _ ht _ K' hK'
                obtain ⟨e1, e2⟩ := hops s2 ho
                have ht := ht rfl
                simp only [execB]
                refine ⟨_, ?_, hK'⟩
                simp only [stepA, hargs, e1, e2, appA]
                rw [if_pos (by rw [← ht]; exact hfit)]
                rfl
              · cases h1
            · rw [hne] at h1; simp at h1
            · split at h1
              · rename_i hfit
                cases h1
                rename_i els
                refine ⟨put1 (some d) (.v (.sl false (els ++ ys))), ⟨put1_tm (o := ⟨some d, .call ⟨.builtin .append, args, ats⟩, guard, pre, inf⟩), (fun _ _ e => by cases e), (fun e => by cases e), (fun _ e => by cases e), ?_⟩, by rw [put1_on]; exact h2⟩
                intro s2 ho _ _ _ _ K' hK'
                obtain ⟨e1, e2⟩ := hops s2 ho
                rw [put1_on] at hK'
                simp only [execB]
                refine ⟨_, ?_, hK'⟩
                simp only [stepA, hargs, e1, e2, appA]
                rw [if_pos hfit, if_pos hne]
              · cases h1
            · cases h1
          · cases h1
        · obtain ⟨tv, hv, _⟩ := Option.map_eq_some_iff.1 h1
          simp [valA] at hv
      · refine turns_val (fun s => ?_) (fun s K => ?_) h
        · simp only [stepA]
          split <;> simp_all
        · simp only [execB]
    · have hb' : ∀ b, c.callee ≠ .builtin b := fun b e => hb ⟨b, e⟩
      refine turns_call (c := c) hv rfl hb' ?_
      simp only [execB] at h
      exact h
  case store t x y =>
    simp only [execB] at h
    obtain ⟨s', h1, h2⟩ := h
    simp only [stepA] at h1
    split at h1
    · rename_i p q hp hq
      obtain ⟨s1, h3, rfl⟩ := Option.map_eq_some_iff.1 h1
      unfold storeA at h3
      split at h3
      · rename_i b off
        split at h3
        · rename_i cs xs hlk hxs
          split at h3
          · rename_i hle
            cases h3
            refine ⟨⟨dst.map (·, .v .junk), some (b, cs.take off ++ xs ++ cs.drop (off + xs.length)), none, none⟩, ⟨put1_tm (o := ⟨dst, .store t x y, guard, pre, inf⟩) (x := .v .junk), (fun _ _ e => by cases e; exact ⟨t, x, y, off, rfl, hp⟩), (fun e => by cases e), (fun _ e => by cases e), ?_⟩, ?_⟩
            · intro s2 ho _ hb _ hm K' hK'
              simp only [opds, List.mem_cons, List.not_mem_nil, or_false, forall_eq_or_imp, forall_eq] at ho
              simp only [execB]
              refine ⟨_, ?_, hK'⟩
              rw [hb rfl x (by simp [opds]) _ _ hp] at hlk
              simp only [stepA, ← ho.1, ← ho.2, hp, hq, storeA, hlk, hxs]
              rw [if_pos hle]
              cases dst <;> rfl
            · revert h2
              cases dst <;> exact fun h => h
          · cases h3
        · cases h3
      · rename_i c off
        split at h3
        · rename_i cs p hlk hxs
          · obtain ⟨cs', hst, rfl⟩ := Option.map_eq_some_iff.1 h3
            refine ⟨⟨dst.map (·, .v .junk), none, none, some (c, cs')⟩, ⟨put1_tm (o := ⟨dst, .store t x y, guard, pre, inf⟩) (x := .v .junk), (fun _ _ e => by cases e), (fun e => by cases e), (fun _ _ => ⟨_, t, x, y, rfl, hp⟩), ?_⟩, ?_⟩
            · intro s2 ho _ _ _ hm K' hK'
              simp only [opds, List.mem_cons, List.not_mem_nil, or_false, forall_eq_or_imp, forall_eq] at ho
              simp only [execB]
              refine ⟨_, ?_, hK'⟩
              replace hlk := hm (by simp [looksO, looksB]) _ _ hlk
              simp only [stepA, ← ho.1, ← ho.2, hp, hq, storeA, hlk, hxs, hst]
              cases dst <;> rfl
            · revert h2
              cases dst <;> exact fun h => h
        · cases h3
      · cases h3
    · cases h1
  case buildSlice t len parts =>
    simp only [execB] at h
    obtain ⟨s', h1, h2⟩ := h
    simp only [stepA] at h1
    split at h1
    · rename_i ps hps
      split at h1
      · rename_i hcond
        cases h1
        refine ⟨put1 dst (.v (.sl true ps)), ⟨put1_tm (o := ⟨dst, .buildSlice t len parts, guard, pre, inf⟩), (fun _ _ e => by cases e), (fun e => by cases e), (fun _ e => by cases e), ?_⟩, by rw [put1_on]; exact h2⟩
        intro s2 ho _ _ _ _ K' hK'
        rw [put1_on] at hK'
        simp only [execB]
        refine ⟨_, ?_, hK'⟩
        simp only [opds] at ho
        simp only [stepA, ← pvs_congr ho, hps]
        rw [if_pos hcond]
      · cases h1
    · cases h1
  case assign x =>
    have hne : inf.acc = [] := by simp only [calm0, Bool.and_eq_true] at hc; exact List.isEmpty_iff.1 hc.2
    refine turns_val (fun s => ?_) (fun s K => by simp only [execB]) h
    simp only [stepA, hne]
    split <;> simp_all
  all_goals exact turns_val (fun s => rfl) (fun s K => rfl) h

/-- The same, of all that is calm. -/
def TurnsA (P : Program) (its : Option (Nat × List Item)) (o : AO) (s : St) (u : Up) : Prop :=
  (∀ d x, u.tm = some (d, x) → o.dst = some d) ∧ (∀ b c, u.bx = some (b, c) → ∃ t x y off, o.op = .store t x y ∧ ev s x = some (.ptr b off)) ∧ (u.tk.isSome = true → usesT o.op = true) ∧ (∀ x, u.mm = some x → ∃ a t z q, o.op = .store t z q ∧ ev s z = some (.v (.s (.pointer a)))) ∧
    ∀ s2, (∀ x ∈ opds o.op, ev s x = ev s2 x) → s.ro = s2.ro → (looksB o.op = true → ∀ z ∈ opds o.op, ∀ b off, ev s z = some (.ptr b off) → lk b s.bx = lk b s2.bx) → (usesT o.op = true → s.tk = s2.tk) → (looksO o = true → MemLe s.mm s2.mm) → ∀ K, K (u.on s2) → execA P its s2 o K

theorem turns_execA {v : Bool} {o : AO} {s : St} {K : St → Prop} (hv : o.inf.mc = 0 → its = none ∨ via o.op = false) (hc : calm v o = true) (h : execA P its s o K) : ∃ u, TurnsA P its o s u ∧ K (u.on s) := by
  unfold calm at hc
  simp only [Bool.or_eq_true, Bool.and_eq_true, beq_iff_eq] at hc
  rcases hc with ⟨hmc, hc⟩ | ⟨hmc, hc⟩
  · have hex : ∀ s K, execA P its s o K = execB P its s o K := fun s K => by
      unfold calm0 at hc
      simp only [Bool.and_eq_true, Option.isNone_iff_eq_none] at hc
      unfold execA
      rw [hmc]
      simp only [hc.1.1]
    rw [hex] at h
    obtain ⟨u, ⟨h1, h2, h3, h4, h5⟩, hK⟩ := turns_exec (hv hmc) hc hmc h
    exact ⟨u, ⟨h1, h2, h3, h4, fun s2 a b c d e K' hK' => by rw [hex]; exact h5 s2 a b c d e K' hK'⟩, hK⟩
  · obtain ⟨c, ho⟩ : ∃ c, o.op = .call c := by
      cases hop : o.op <;> simp_all [isCall]
    have hex : ∀ s K, execA P its s o K = lendA P s o.dst c K := fun s K => by
      unfold execA
      rw [hmc]
      simp only [execM, hmc, ho]
    rw [hex] at h
    unfold lendA at h
    split at h
    · rename_i f hf
      split at h
      · rename_i k caps ps h1 h2
        obtain ⟨l, r, ht, hOk, hrf, hK⟩ := h
        refine ⟨put1 o.dst (.v r), ⟨put1_tm, (fun _ _ h => by simp [put1] at h), (fun h => by simp [put1] at h), (fun _ h => by simp [put1] at h), ?_⟩, by rw [put1_on]; exact hK⟩
        intro s2 ha _ _ _ hm K' hK'
        rw [put1_on] at hK'
        rw [hex]
        have hm' := hm (by simp [looksO, hmc])
        rw [ho] at ha
        simp only [opds, hf] at ha
        have e1 : ev s2 f = ev s f := (ha f (by simp)).symm
        have e2 : pvs s2 c.args.toList = pvs s c.args.toList := (pvs_congr fun x hx => ha x (by simp [hx])).symm
        unfold lendA
        rw [hf]
        simp only [e1, e2, h1, h2]
        exact ⟨l, r, Tells.mono hm' ht, hOk, hrf, hK'⟩
      · exact h.elim
    · exact h.elim

theorem turns_op {v : Bool} {all : List AO} {o : AO} {s : St} {K : St → Prop} (hv : v = true ∨ its = none) (hc : calm v o = true) (h : wpOp P its all o s K) : ∃ u, Turns P its all o s u ∧ K (u.on s) := by
  have hv' : o.inf.mc = 0 → its = none ∨ via o.op = false := fun hmc => by
    rcases hv with rfl | hv
    · simp only [calm, calm0, hmc, Bool.true_and, Bool.and_eq_true, Bool.not_eq_true', Bool.or_eq_true, beq_self_eq_true] at hc
      rcases hc with hc | hc
      · exact .inr hc.1.2
      · simp at hc
    · exact .inl hv
  unfold wpOp at h
  split at h
  · rename_i hg
    obtain ⟨u, ⟨h1, h2, h3, h3', h4⟩, hK⟩ := turns_execA hv' hc h
    refine ⟨u, ⟨h1, h2, h3, h3', fun s2 ha K' hK' => ?_⟩, hK⟩
    unfold wpOp
    rw [hg]
    exact h4 s2 ha.ops ha.ro ha.bx ha.tk ha.mm K' hK'
  · rename_i j want hg
    have hgs : ∀ s2, Alike all o s s2 → ((all[j]?).bind (·.dst)).bind (s2.tm[·]?) = ((all[j]?).bind (·.dst)).bind (s.tm[·]?) := fun s2 ha => by
      have hgd := ha.gd
      simp only [gslot, hg] at hgd
      cases hd : (all[j]?).bind (·.dst) with
      | none => rfl
      | some d => exact (hgd d hd).symm
    split at h
    · rename_i b hb
      split at h
      · rename_i hbw
        obtain ⟨u, ⟨h1, h2, h3, h3', h4⟩, hK⟩ := turns_execA hv' hc h
        refine ⟨u, ⟨h1, h2, h3, h3', fun s2 ha K' hK' => ?_⟩, hK⟩
        unfold wpOp
        rw [hg]
        simp only [hgs s2 ha, hb]
        rw [if_pos hbw]
        exact h4 s2 ha.ops ha.ro ha.bx ha.tk ha.mm K' hK'
      · rename_i hbw
        refine ⟨put1 o.dst (.v (.tup [])), ⟨put1_tm, (fun _ _ e => by cases e), (fun e => by cases e), (fun _ e => by cases e), fun s2 ha K' hK' => ?_⟩, by rw [put1_on]; exact h⟩
        rw [put1_on] at hK'
        unfold wpOp
        rw [hg]
        simp only [hgs s2 ha, hb]
        rw [if_neg hbw]
        exact hK'
    · rename_i hb
      refine ⟨put1 o.dst (.v (.tup [])), ⟨put1_tm, (fun _ _ e => by cases e), (fun e => by cases e), (fun _ e => by cases e), fun s2 ha K' hK' => ?_⟩, by rw [put1_on]; exact h⟩
      rw [put1_on] at hK'
      unfold wpOp
      rw [hg]
      simp only [hgs s2 ha, hb]
      exact hK'
    · exact h.elim

end
end Go.Proofs.YtambpjbpdackfaaGreat.A


/- Regions that draw their order, second part. -/
set_option linter.unusedVariables false
set_option linter.unusedSimpArgs false
namespace Go.Proofs.YtambpjbpdackfaaGreat.A
open Go Go.RowKit Go.Shelf

section
variable {P : Program}

theorem ev_on {all : List AO} {x : AO} {u : Up} {s : St} {z : Operand} (hu : ∀ d y, u.tm = some (d, y) → x.dst = some d) (hz : ∀ n, z = .tmp n → x.dst ≠ some n) : ev (u.on s) z = ev s z := by
  cases z with
  | tmp n =>
    show (u.on s).tm[n]? = s.tm[n]?
    simp only [Up.on]
    split
    · rename_i d y hd
      have := hu d y hd
      have hne : d ≠ n := fun e => hz n rfl (e ▸ this)
      rw [List.getElem?_set_ne hne]
    · rfl
  | _ => rfl

theorem mem_slots_of {all : List AO} {o : AO} {n : Nat} (h : Operand.tmp n ∈ opds o.op) : n ∈ slots all o := by
  simp only [slots, List.mem_append, List.mem_filterMap]
  exact .inl ⟨_, h, rfl⟩

theorem apart_spec {all : List AO} {x y : AO} (h : apart all x y = true) : (∀ n ∈ slots all y, x.dst ≠ some n) ∧ (∀ d, x.dst = some d → y.dst ≠ some d) := by
  unfold apart at h
  split at h
  · rename_i d hd
    simp only [Bool.and_eq_true, Bool.not_eq_true', List.contains_eq_mem, decide_eq_false_iff_not, bne_iff_ne, ne_eq] at h
    rw [hd]
    exact ⟨fun n hn e => by cases e; exact h.1 hn, fun d' e => by cases e; exact h.2⟩
  · rename_i hd
    rw [hd]
    exact ⟨(fun n _ e => by cases e), (fun d e => by cases e)⟩

variable {its : Option (Nat × List Item)}

theorem alike_of {all : List AO} {x y : AO} {s : St} {u : Up} (hu : Turns P its all x s u) (hap : apart all x y = true) (hB : ¬ (turnsB x.op = true ∧ looksO y = true)) (hT : ¬ (usesT x.op = true ∧ usesT y.op = true)) : Alike all y (u.on s) s := by
  have h2 := hu.bxB
  have h3' := hu.mmB
  obtain ⟨h1, _, h3, _, _⟩ := hu
  obtain ⟨a1, _⟩ := apart_spec hap
  refine ⟨fun z hz => ev_on (all := all) h1 fun n e => a1 n (mem_slots_of (e ▸ hz)), fun d hd => ?_, rfl, fun hl z hz b off he => ?_, fun ht => ?_, fun hl => ?_⟩
  · have : d ∈ slots all y := by simp only [slots, hd, Option.toList_some, List.mem_append]; exact .inr (by simp)
    exact ev_on (all := all) (z := .tmp d) h1 fun n e => by cases e; exact a1 d this
  · simp only [Up.on]
    split
    · rename_i b c hb
      exact absurd ⟨h2 (by rw [hb]; rfl), by simp [looksO, hl]⟩ hB
    · rfl
  · simp only [Up.on]
    split
    · rename_i b c hb
      exact absurd ⟨h3 (by rw [hb]; rfl), ht⟩ hT
    · rfl
  · simp only [Up.on]
    split
    · rename_i b c hb
      exact absurd ⟨h3' (by rw [hb]; rfl), hl⟩ hB
    · exact MemLe.refl _

/-- The same, the other way round. -/
theorem alike_rev {all : List AO} {x y : AO} {s : St} {u : Up} (hu : Turns P its all x s u) (hap : apart all x y = true) (hB : ¬ (turnsB x.op = true ∧ looksO y = true)) (hT : ¬ (usesT x.op = true ∧ usesT y.op = true)) : Alike all y s (u.on s) := by
  have h := alike_of hu hap hB hT
  refine ⟨fun x hx => (h.ops x hx).symm, fun d hd => (h.gd d hd).symm, h.ro.symm, fun hl z hz b off he => (h.bx hl z hz b off ((h.ops z hz).trans he)).symm, fun ht => (h.tk ht).symm, fun hl => ?_⟩
  simp only [Up.on]
  split
  · rename_i b c hb
    exact absurd ⟨hu.mmB (by rw [hb]; rfl), hl⟩ hB
  · exact MemLe.refl _

theorem turnsB_looksB {op : Op} (h : turnsB op = true) : looksB op = true := by cases op <;> simp_all [turnsB, looksB]
theorem turnsB_looksO {o : AO} (h : turnsB o.op = true) : looksO o = true := by simp [looksO, turnsB_looksB h]

theorem on_comm {u v : Up} {s : St} (ht : ∀ d x d' x', u.tm = some (d, x) → v.tm = some (d', x') → d' ≠ d) (hb : u.bx.isSome = true → v.bx.isSome = true → False) (hk : u.tk.isSome = true → v.tk.isSome = true → False) (hm : u.mm.isSome = true → v.mm.isSome = true → False) : u.on (v.on s) = v.on (u.on s) := by
  obtain ⟨ut, ub, uk, um⟩ := u
  obtain ⟨vt, vb, vk, vm⟩ := v
  simp only at ht hb hk hm
  simp only [Up.on]
  congr 1
  · cases ut with
    | none => cases vt <;> rfl
    | some p =>
      cases vt with
      | none => rfl
      | some q =>
        obtain ⟨d, x⟩ := p
        obtain ⟨d', x'⟩ := q
        exact List.set_comm _ _ (ht d x d' x' rfl rfl)
  · cases ub <;> cases vb <;> first | rfl | exact (hb rfl rfl).elim
  · cases uk <;> cases vk <;> first | rfl | exact (hk rfl rfl).elim
  · cases um <;> cases vm <;> first | rfl | exact (hm rfl rfl).elim

/-- Two operations that do not look at each other change places. -/
theorem swap_ops {v : Bool} {all : List AO} {x y : AO} {s : St} {K : St → Prop} (hv' : v = true ∨ its = none) (hi : indep v all x y = true) (h : wpOp P its all x s fun s1 => wpOp P its all y s1 K) : wpOp P its all y s fun s1 => wpOp P its all x s1 K := by
  simp only [indep, Bool.and_eq_true, Bool.not_eq_true', Bool.and_eq_false_iff] at hi
  obtain ⟨⟨⟨⟨⟨⟨c1, c2⟩, a1⟩, a2⟩, b1⟩, b2⟩, b3⟩ := hi
  have b1' : ¬ (turnsB x.op = true ∧ looksO y = true) := fun ⟨p, q⟩ => by rcases b1 with b | b <;> simp_all
  have b2' : ¬ (turnsB y.op = true ∧ looksO x = true) := fun ⟨p, q⟩ => by rcases b2 with b | b <;> simp_all
  have b3' : ¬ (usesT x.op = true ∧ usesT y.op = true) := fun ⟨p, q⟩ => by rcases b3 with b | b <;> simp_all
  obtain ⟨u, hu, hy⟩ := turns_op hv' c1 h
  obtain ⟨v, hv, hK⟩ := turns_op hv' c2 hy
  have e1 := alike_of hu a1 b1' b3'
  have hvs : Turns P its all y s v := ⟨hv.1, (fun b c hbc => by
      obtain ⟨t, z, q, off, ho, he⟩ := hv.2.1 b c hbc
      exact ⟨t, z, q, off, ho, (e1.ops z (by rw [ho]; simp [opds])).symm.trans he⟩), hv.2.2.1, (fun x hx => by
      obtain ⟨a, t, z, q, ho, he⟩ := hv.2.2.2.1 x hx
      exact ⟨a, t, z, q, ho, (e1.ops z (by rw [ho]; simp [opds])).symm.trans he⟩), fun s2 ha => hv.2.2.2.2 s2
    ⟨fun z hz => (e1.ops z hz).trans (ha.ops z hz), fun d hd => (e1.gd d hd).trans (ha.gd d hd), e1.ro.trans ha.ro, fun hl z hz b off he => (e1.bx hl z hz b off he).trans (ha.bx hl z hz b off ((e1.ops z hz).symm.trans he)), fun ht => (e1.tk ht).trans (ha.tk ht), fun hl c x h => ha.mm hl c x (e1.mm hl c x h)⟩⟩
  have e2 := alike_rev hvs a2 b2' fun ⟨p, q⟩ => b3' ⟨q, p⟩
  refine hv.2.2.2.2 s e1 _ ?_
  refine hu.2.2.2.2 _ e2 _ ?_
  have e : u.on (v.on s) = v.on (u.on s) := on_comm
    (fun d x d' x' p q => fun e => (apart_spec a1).2 d (hu.1 d x p) (e ▸ hv.1 d' x' q))
    (fun p q => b1' ⟨hu.bxB p, turnsB_looksO (hv.bxB q)⟩) (fun p q => b3' ⟨hu.2.2.1 p, hv.2.2.1 q⟩) (fun p q => b1' ⟨hu.mmB p, turnsB_looksO (hv.mmB q)⟩)
  rw [e]
  exact hK

theorem callA_mono {its' : Option (Nat × List Item)} (he : its' = none ∨ its' = its) {s : St} {d : Option Nat} {c : Call} {K K' : St → Prop} (hK : ∀ s, K s → K' s) (h : callA P its' s d c K) : callA P its s d c K' := by
  unfold callA at h ⊢
  split at h
  · exact h.elim
  · split at h
    · obtain ⟨r, h1, h2⟩ := h; exact ⟨r, h1, hK _ h2⟩
    · rcases he with rfl | rfl
      · exact h.elim
      · split at h
        · exact ⟨h.1, h.2.1, h.2.2.1, h.2.2.2.1, hK _ h.2.2.2.2.1, hK _ h.2.2.2.2.2⟩
        · exact h.elim
    · exact h.elim
  · split at h
    · obtain ⟨f, r, h1, h2, h3⟩ := h; exact ⟨f, r, h1, h2, hK _ h3⟩
    · exact h.elim

theorem execB_mono {its' : Option (Nat × List Item)} (he : its' = none ∨ its' = its) {s : St} {o : AO} {K K' : St → Prop} (hK : ∀ s, K s → K' s) (h : execB P its' s o K) : execB P its s o K' := by
  unfold execB at h ⊢
  split at h
  · split at h
    · obtain ⟨s', h1, h2⟩ := h; exact ⟨s', h1, hK _ h2⟩
    · exact callA_mono he hK h
  · obtain ⟨s', h1, h2⟩ := h
    exact ⟨s', h1, hK _ h2⟩

theorem execM_mono {s : St} {o : AO} {K K' : St → Prop} (hK : ∀ s, K s → K' s) (h : execM P s o K) : execM P s o K' := by
  unfold execM at h ⊢
  split at h
  · unfold lendA at h ⊢
    split at h
    · split at h
      · obtain ⟨l, r, h1, h2, h3, h4⟩ := h; exact ⟨l, r, h1, h2, h3, hK _ h4⟩
      · exact h.elim
    · exact h.elim
  · unfold memA at h ⊢
    split at h
    · split at h
      · obtain ⟨R, h1, h2⟩ := h; exact ⟨R, h1, fun r m' hr => hK _ (h2 r m' hr)⟩
      · exact h.elim
    · exact h.elim
  · unfold newA at h ⊢
    split at h
    · exact fun c hc => hK _ (h c hc)
    · split at h
      · exact ⟨h.1, fun c hc => hK _ (h.2 c hc)⟩
      · exact h.elim
    · split at h
      · obtain ⟨h1, h2, h3, h4, h5⟩ := h; exact ⟨h1, h2, h3, h4, fun c hc => hK _ (h5 c hc)⟩
      · exact h.elim
    · exact h.elim
  · unfold appMA at h ⊢
    split at h
    · split at h
      · obtain ⟨ys, s', h1, h2, h3, h4⟩ := h; exact ⟨ys, s', h1, h2, h3, hK _ h4⟩
      · exact h.elim
    · exact h.elim
  · unfold copyA at h ⊢
    split at h
    · split at h
      · obtain ⟨ys, cells, h1, h2, h3, h4, h5, h6, h7⟩ := h; exact ⟨ys, cells, h1, h2, h3, h4, h5, h6, hK _ h7⟩
      · exact h.elim
    · exact h.elim
  · unfold lendNewA at h ⊢
    split at h
    · split at h
      · obtain ⟨l, R, h1, h2, h3, h4⟩ := h; exact ⟨l, R, h1, h2, h3, fun r m' hr hf => hK _ (h4 r m' hr hf)⟩
      · exact h.elim
    · exact h.elim
  · unfold appInA at h ⊢
    split at h
    · split at h
      · obtain ⟨ys, cells, h1, h2, h3, h4, h5, h6, h7⟩ := h; exact ⟨ys, cells, h1, h2, h3, h4, h5, h6, hK _ h7⟩
      · exact h.elim
    · exact h.elim
  · unfold growA at h ⊢
    split at h
    · split at h
      · obtain ⟨els, ys, h1, h2, h3, h4, h5, h6, h7⟩ := h; exact ⟨els, ys, h1, h2, h3, h4, h5, fun e => hK _ (h6 e), fun e c cap k hc hl hk => hK _ (h7 e c cap k hc hl hk)⟩
      · exact h.elim
    · exact h.elim
  · rcases h with h | h
    · left
      unfold lendAccA at h ⊢
      split at h
      · split at h
        · obtain ⟨l, els, h1, h2, h3, h4⟩ := h; exact ⟨l, els, h1, h2, h3, hK _ h4⟩
        · exact h.elim
      · exact h.elim
    · right
      unfold lendA at h ⊢
      split at h
      · split at h
        · obtain ⟨l, r, h1, h2, h3, h4⟩ := h; exact ⟨l, r, h1, h2, h3, hK _ h4⟩
        · exact h.elim
      · exact h.elim
  · exact h.elim

theorem execA_mono {its' : Option (Nat × List Item)} (he : its' = none ∨ its' = its) {s : St} {o : AO} {K K' : St → Prop} (hK : ∀ s, K s → K' s) (h : execA P its' s o K) : execA P its s o K' := by
  unfold execA at h ⊢
  split at h
  · split at h
    · unfold nilA at h ⊢
      split at h
      · exact fun b hb => hK _ (h b hb)
      · exact hK _ h
      · exact hK _ h
      · exact h.elim
    · exact execB_mono he hK h
  · exact execM_mono hK h

theorem wpOp_mono' {its' : Option (Nat × List Item)} (he : its' = none ∨ its' = its) {all : List AO} {s : St} {o : AO} {K K' : St → Prop} (hK : ∀ s, K s → K' s) (h : wpOp P its' all o s K) : wpOp P its all o s K' := by
  unfold wpOp at h ⊢
  split at h
  · exact execA_mono he hK h
  · split at h
    · split at h
      · rw [if_pos ‹_›]; exact execA_mono he hK h
      · rw [if_neg ‹_›]; exact hK _ h
    · exact hK _ h
    · exact h.elim

/-- The operations of these numbers, one behind the other. -/
def wpL (P : Program) (its : Option (Nat × List Item)) (all : List AO) : List Nat → St → (St → Prop) → Prop
  | [], s, K => K s
  | i :: l, s, K => match all[i]? with
    | some o => wpOp P its all o s fun s' => wpL P its all l s' K
    | none => False

theorem wpL_cons {all : List AO} {i : Nat} {l : List Nat} {s : St} {K : St → Prop} : wpL P its all (i :: l) s K ↔ ∃ o, all[i]? = some o ∧ wpOp P its all o s fun s' => wpL P its all l s' K := by
  simp only [wpL]
  cases all[i]? with
  | none => simp
  | some o => simp

theorem wpL_range {all : List AO} {K : St → Prop} : ∀ (n k : Nat), k + n = all.length → ∀ {s : St}, wpOpsA P its all (all.drop k) s K → wpL P its all (List.range' k n) s K
  | 0, k, hk, s, h => by rw [List.drop_eq_nil_of_le (by omega)] at h; exact h
  | n + 1, k, hk, s, h => by
    have hlt : k < all.length := by omega
    rw [List.drop_eq_getElem_cons hlt] at h
    rw [List.range'_succ, wpL_cons]
    exact ⟨_, List.getElem?_eq_getElem hlt, wpOp_mono' (.inr rfl) (fun s' => wpL_range n (k + 1) (by omega)) h⟩

/-- What may come first, comes first. -/
theorem wpL_first {v : Bool} {all : List AO} (hv : v = true ∨ its = none) {i : Nat} {oi : AO} (hoi : all[i]? = some oi) {K : St → Prop} {l2 : List Nat} : ∀ (l1 : List Nat), (∀ x ∈ l1, ∃ ox, all[x]? = some ox ∧ indep v all ox oi = true) → ∀ {s : St}, wpL P its all (l1 ++ i :: l2) s K → wpL P its all (i :: (l1 ++ l2)) s K
  | [], _, _, h => h
  | x :: l1, hx, s, h => by
    obtain ⟨ox, h1, h2⟩ := hx x (by simp)
    rw [List.cons_append, wpL_cons] at h
    obtain ⟨ox', h3, h4⟩ := h
    rw [h1] at h3
    cases h3
    have h5 : wpOp P its all ox s fun s' => wpOp P its all oi s' fun s'' => wpL P its all (l1 ++ l2) s'' K := wpOp_mono' (.inr rfl) (fun s' hs' => by
      have := wpL_first hv hoi l1 (fun y hy => hx y (by simp [hy])) hs'
      rw [wpL_cons] at this
      obtain ⟨o', k1, k2⟩ := this
      rw [hoi] at k1
      cases k1
      exact k2) h4
    rw [wpL_cons]
    refine ⟨oi, hoi, wpOp_mono' (.inr rfl) (fun s' hs' => ?_) (swap_ops hv h2 h5)⟩
    rw [List.cons_append, wpL_cons]
    exact ⟨ox, h1, hs'⟩

theorem reach_succ (ao : List AO) (x : Nat) : ∀ (d : Nat) (l : List Nat), reach ao x d l = true → reach ao x (d + 1) l = true
  | 0, l, h => by simp [reach] at h
  | d + 1, l, h => by
    rw [reach] at h ⊢
    simp only [Bool.or_eq_true, List.any_eq_true] at h ⊢
    rcases h with h | ⟨j, hj, h⟩
    · exact .inl h
    · refine .inr ⟨j, hj, ?_⟩
      split at h
      · exact reach_succ ao x d _ h
      · cases h

theorem drawOk_spec {v : Bool} {ao : List AO} (h : drawOk v ao = true) {i : Nat} {oi : AO} (hi : ao[i]? = some oi) : (∀ j ∈ oi.pre, j < i) ∧ ∀ x, x < i → reach ao x 7 oi.pre = false → ∃ ox, ao[x]? = some ox ∧ indep v ao ox oi = true := by
  have hlt := (List.getElem?_eq_some_iff.1 hi).1
  have := List.all_eq_true.1 h i (List.mem_range.2 hlt)
  rw [hi] at this
  simp only [Bool.and_eq_true, List.all_eq_true, decide_eq_true_eq, List.mem_range] at this
  refine ⟨this.1, fun x hx hn => ?_⟩
  have := this.2 x hx
  split at this
  · cases this
  · rename_i ox hox
    refine ⟨ox, hox, ?_⟩
    have e : oi.pre.contains x = false := by
      simp only [reach, Bool.or_eq_false_iff] at hn
      exact hn.1
    have e2 : reach ao x 6 oi.pre = false := by
      cases hr : reach ao x 6 oi.pre with
      | false => rfl
      | true => rw [reach_succ ao x 6 _ hr] at hn; cases hn
    rw [e, e2] at this
    simpa using this

/-- What is before a listed one is listed. -/
theorem reach_listed {ao : List AO} {listed : Array Bool} (hdc : ∀ i oi, ao[i]? = some oi → listed.getD i false = true → ∀ j ∈ oi.pre, listed.getD j false = true) {x : Nat} : ∀ (d : Nat) (l : List Nat), (∀ j ∈ l, listed.getD j false = true) → reach ao x d l = true → listed.getD x false = true
  | 0, l, _, h => by simp [reach] at h
  | d + 1, l, hl, h => by
    simp only [reach, Bool.or_eq_true, List.contains_eq_mem, decide_eq_true_eq, List.any_eq_true] at h
    rcases h with h | ⟨j, hj, h⟩
    · exact hl x h
    · split at h
      · rename_i o ho
        exact reach_listed hdc d o.pre (hdc j o ho (hl j hj)) h
      · cases h

theorem sound_go {v : Bool} {ao : List AO} {ops : Array Oper} (hok : drawOk v ao = true) (hag : OpsAgree P ao ops) {its' : Option (Nat × List Item)} (he : its' = none ∨ its' = its) (hv : v = true ∨ its' = none) {w00 : Bs} {I00 : Imm} {Jt : Nat → Imm → World → Prop} {ro : Option Nat} (hctx : Ctx P its Jt) {Q : XA → St → Prop} {sav : List (Array Value)}
    (Iz : Imm) (wz : World) : ∀ (fuel t : Nat) (listed : Array Bool), listed.size = ops.size → (∀ i oi, ao[i]? = some oi → listed.getD i false = true → ∀ j ∈ oi.pre, listed.getD j false = true) → ((List.range ops.size).filter fun i => !listed.getD i true).length = fuel →
    ∀ {I : Imm} {w : World} {s : St} {a : Act} {w0 : Bs} {I0 : Imm} {β : Nat → Nat} {κ : Nat → Nat × Nat × Nat}, Iz.le I → (its = none → KeepsOthers wz w) → (its.isSome = true → a.defers = []) → Base its w00 I00 Jt s.it w0 I0 → Sim w0 I0 I β κ s sav a w →
      wpL P its' ao ((List.range ops.size).filter fun i => !listed.getD i true) s (Q .normal) →
      wpOpsIn (wideR ro) 0 P ops (PostA its (Base its w00 I00 Jt) Iz sav wz Q) (Region.linearise.go .any ops fuel t listed []) a w
  | 0, t, listed, hsz, hdc, hlen, I, w, s, a, w0, I0, β, κ, hle, hk, hdf, hB, h, hs => by
    rw [List.length_eq_zero_iff.1 hlen] at hs
    exact ⟨s, I, hs, hle, hk, hdf, w0, I0, β, κ, hB, h⟩
  | fuel + 1, t, listed, hsz, hdc, hlen, I, w, s, a, w0, I0, β, κ, hle, hk, hdf, hB, h, hs => by
    have hsort : ((List.range ops.size).filter fun i => !listed.getD i true).Pairwise (· < ·) := List.Pairwise.filter _ List.pairwise_lt_range
    have hlisted : ∀ j, j < ops.size → listed.getD j false = listed.getD j true := fun j hj => by
      have : j < listed.size := by omega
      simp [Array.getD, this]
    -- who is ready
    have hready : ∀ i, i ∈ Region.ready .any ops listed ↔ i < ops.size ∧ listed.getD i true = false ∧ ∀ oi, ao[i]? = some oi → ∀ j ∈ oi.pre, listed.getD j false = true := by
      intro i
      simp only [Region.ready, List.mem_filter, List.mem_range, Bool.and_eq_true, Bool.not_eq_true']
      refine and_congr_right fun hi => and_congr_right fun _ => ?_
      obtain ⟨oi, h1, _, _, _, h5, _⟩ := hag.get (Array.getElem?_eq_getElem hi)
      rw [Array.getElem?_eq_getElem hi]
      simp only [Option.map_some, Option.getD_some, h1, Option.some.injEq, forall_eq']
      rw [h5]
      rw [Array.all_eq_true']
      constructor
      · intro hx j hj
        obtain ⟨e, he, rfl⟩ := List.mem_map.1 hj
        obtain ⟨he1, hb⟩ := List.mem_filter.1 he
        have := hx e (by simpa using he1)
        rw [hb] at this
        simpa using this
      · intro hx e he
        cases hb : Region.binds .any e with
        | false => rfl
        | true =>
          have := hx e.on (List.mem_map.2 ⟨e, List.mem_filter.2 ⟨by simpa using he, hb⟩, rfl⟩)
          simpa using this
    have hne : Region.ready .any ops listed ≠ [] := by
      obtain ⟨x, L', hL⟩ : ∃ x L', ((List.range ops.size).filter fun i => !listed.getD i true) = x :: L' := by
        cases hL : ((List.range ops.size).filter fun i => !listed.getD i true) with
        | nil => rw [hL] at hlen; cases hlen
        | cons x L' => exact ⟨x, L', rfl⟩
      have hx : x ∈ ((List.range ops.size).filter fun i => !listed.getD i true) := by rw [hL]; simp
      simp only [List.mem_filter, List.mem_range, Bool.not_eq_true'] at hx
      refine List.ne_nil_of_mem ((hready x).2 ⟨hx.1, hx.2, fun oi hoi j hj => ?_⟩)
      have hjx := (drawOk_spec hok hoi).1 j hj
      rw [hlisted j (by omega)]
      cases hl : listed.getD j true with
      | true => rfl
      | false =>
        have hm : j ∈ ((List.range ops.size).filter fun i => !listed.getD i true) := by simp only [List.mem_filter, List.mem_range, Bool.not_eq_true']; exact ⟨by omega, hl⟩
        rw [hL] at hm hsort
        rcases List.mem_cons.1 hm with hm | hm
        · omega
        · have := (List.pairwise_cons.1 hsort).1 j hm
          omega
    have hlt : t % (Region.ready .any ops listed).length < (Region.ready .any ops listed).length := Nat.mod_lt _ (List.length_pos_iff.2 hne)
    obtain ⟨i, hi⟩ : ∃ i, (Region.ready .any ops listed)[t % (Region.ready .any ops listed).length]? = some i := ⟨_, List.getElem?_eq_getElem hlt⟩
    have hgo : Region.linearise.go .any ops (fuel + 1) t listed [] = i :: Region.linearise.go .any ops fuel (t / (Region.ready .any ops listed).length) (listed.setIfInBounds i true) [] := by
      simp only [Region.linearise.go]
      change (match (Region.ready .any ops listed)[t % (Region.ready .any ops listed).length]? with
        | some i => Region.linearise.go .any ops fuel (t / (Region.ready .any ops listed).length) (listed.setIfInBounds i true) [i]
        | none => [].reverse) = _
      rw [hi]
      simp only []
      rw [linearise_go_acc]
      rfl
    rw [hgo]
    obtain ⟨hi1, hi2, hi3⟩ := (hready i).1 (List.mem_of_getElem? hi)
    have him : i ∈ ((List.range ops.size).filter fun i => !listed.getD i true) := by simp only [List.mem_filter, List.mem_range, Bool.not_eq_true']; exact ⟨hi1, hi2⟩
    obtain ⟨L1, L2, hL⟩ := List.append_of_mem him
    have hilt : i < ao.length := by rw [hag.length]; exact hi1
    have hoi : ao[i]? = some ao[i] := List.getElem?_eq_getElem hilt
    have hL1 : ∀ x ∈ L1, ∃ ox, ao[x]? = some ox ∧ indep v ao ox ao[i] = true := by
      intro x hx
      have hxm : x ∈ ((List.range ops.size).filter fun i => !listed.getD i true) := by rw [hL]; simp [hx]
      simp only [List.mem_filter, List.mem_range, Bool.not_eq_true'] at hxm
      rw [hL] at hsort
      have hxi : x < i := (List.pairwise_append.1 hsort).2.2 x hx i (by simp)
      refine (drawOk_spec hok hoi).2 x hxi (Bool.eq_false_iff.2 fun hp => ?_)
      have := reach_listed hdc 7 _ (hi3 _ hoi) hp
      rw [hlisted x hxm.1, hxm.2] at this
      cases this
    have hL' : ((List.range ops.size).filter fun j => !(listed.setIfInBounds i true).getD j true) = L1 ++ L2 := by
      have e1 : ((List.range ops.size).filter fun j => !(listed.setIfInBounds i true).getD j true) = ((List.range ops.size).filter fun i => !listed.getD i true).filter (· != i) := by
        rw [List.filter_filter]
        refine List.filter_congr fun j hj => ?_
        have hj' := List.mem_range.1 hj
        by_cases e : j = i
        · subst e
          have : j < listed.size := by omega
          simp [Array.getD, this]
        · have e' : i ≠ j := fun h => e h.symm
          simp [getD_set_ne true e', e]
      rw [e1, hL]
      rw [hL] at hsort
      have hs2 := List.pairwise_append.1 hsort
      rw [List.filter_append, List.filter_cons]
      have f1 : L1.filter (· != i) = L1 := List.filter_eq_self.2 fun x hx => by
        have := hs2.2.2 x hx i (by simp)
        simp only [bne_iff_ne, ne_eq]
        omega
      have f2 : L2.filter (· != i) = L2 := List.filter_eq_self.2 fun x hx => by
        have := (List.pairwise_cons.1 hs2.2.1).1 x hx
        simp only [bne_iff_ne, ne_eq]
        omega
      rw [f1, f2]
      simp
    rw [hL] at hs
    have hs1 := wpL_first hv hoi L1 hL1 hs
    rw [wpL_cons] at hs1
    obtain ⟨oi, k1, k2⟩ := hs1
    rw [hoi] at k1
    cases k1
    refine sound_op hag hctx hoi hdf hB h (wpOp_mono' he (fun _ hk => hk) k2) ?_
    intro s' a' w' J hle' hkeep' hsat hK
    obtain ⟨hdf1, w1, I1, β1, κ1, hB1, h1⟩ := hsat
    refine sound_go hok hag he hv hctx Iz wz fuel _ _ (by simpa using hsz) ?_ ?_ (Imm.le_trans hle hle') (fun e => (hk e).trans (hkeep' e)) hdf1 hB1 h1 (by rw [hL']; exact hK)
    · intro k ok hk' hkl j hj
      by_cases e : k = i
      · subst e
        exact getD_set_true (hi3 ok hk' j hj)
      · have e' : i ≠ k := fun h => e h.symm
        rw [getD_set_ne false e'] at hkl
        exact getD_set_true (hdc k ok hk' hkl j hj)
    rw [hL']
    rw [hL] at hlen
    simp only [List.length_append, List.length_cons] at hlen ⊢
    omega

theorem draw_sound {v : Bool} {ao : List AO} (hok : drawOk v ao = true) : DrawSound P v ao := by
  intro ops hag hmix its w00 I00 Jt ro Q I w s sav a w0 I0 β κ t hctx hdf hB h hs
  unfold Region.linearise
  have hall : ((List.range ops.size).filter fun i => !(Array.replicate ops.size false).getD i true) = List.range ops.size := List.filter_eq_self.2 fun i hi => by
    have := List.mem_range.1 hi
    simp [Array.getD, this]
  have hv : (v = true ∨ (if v = true then its else none) = none) := by cases v <;> simp
  have he : (if v = true then its else none) = none ∨ (if v = true then its else none) = its := by cases v <;> simp
  refine sound_go hok hag he hv hctx I w ops.size t _ (by simp) (fun i oi _ h => by simp [Array.getD] at h) (by rw [hall]; simp) (Imm.le_refl _) (fun _ => KeepsOthers.drew w) hdf hB h.drew ?_
  rw [hall, List.range_eq_range']
  have hl := hag.length
  exact wpL_range ops.size 0 (by omega) (by rw [List.drop_zero]; exact hs)

end
end Go.Proofs.YtambpjbpdackfaaGreat.A


