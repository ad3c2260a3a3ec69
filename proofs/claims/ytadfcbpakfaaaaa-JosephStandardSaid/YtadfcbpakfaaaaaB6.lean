/- Code with what is known of it, put together from the code and from hints; a check of the hints; contracts. -/
import Derived.Test.YtadfcbpakfaaaaaB5
set_option linter.unusedVariables false
set_option linter.unusedSimpArgs false
namespace Go.Proofs.Ytadfcbpakfaaaaa.A
open Go Go.RowKit Go.Shelf

/-- What is known beside the code: of operations (by their number in the region), of loops. -/
inductive Hint where
  | o
  | r (l : List (Nat × Inf))
  | y (l : List (Nat × Inf))
  | s (x y : Hint)
  | b (x : Hint)
  | l (g : List Gh) (x : Hint)
  | f (g : List Gh) (x y : Hint)
  | g (g : List Gh) (x : Hint)
  | no
  | d (pa : List (Nat × Nat)) (l : List (Nat × Inf))

def ao (o : Oper) (i : Inf) : AO := ⟨o.dst, o.op, o.guard, (o.after.toList.filter fun e => Region.binds .any e).map (·.on), i⟩

def aoL : Nat → List Oper → List (Nat × Inf) → List AO
  | _, [], _ => []
  | k, o :: os, l => ao o ((lk k l).getD {}) :: aoL (k + 1) os l

def acOf : Hint → Code → AC
  | .no, _ => .dead
  | .d pa l, .region _ ops _ => .regd pa (aoL 0 ops.toList l)
  | .g g h, c => .gh g (acOf h c)
  | .o, .skip => .skip
  | .o, .label _ => .skip
  | .o, .region _ ops d => .reg d false (aoL 0 ops.toList [])
  | .r l, .region _ ops d => .reg d false (aoL 0 ops.toList l)
  | .y l, .region _ ops d => .reg d true (aoL 0 ops.toList l)
  | .s a b, .seq x y => .seq (acOf a x) (acOf b y)
  | .s a b, .cond c x y => .cond c (acOf a x) (acOf b y)
  | .b a, .block id x => .block id (acOf a x)
  | .l g a, .loop x => .loop g (acOf a x)
  | .f g a b, .rangeFunc f ps x y => .rf f ps.toList g (acOf a x) (acOf b y)
  | .o, .exit id => .exit id
  | .o, .ret => .ret
  | _, _ => .skip

/-- Do the hints fit the code, and the types? -/
def okC (P : Program) : Hint → Code → Bool
  | .no, _ => true
  | .d pa l, .region _ ops d => (aoL 0 ops.toList l).all (fun a => infOk' P a.op a.inf) && (d && (drawOkC pa (aoL 0 ops.toList l) && (distinctA (aoL 0 ops.toList l) && nsDist pa (aoL 0 ops.toList l))))
  | .g _ h, c => okC P h c
  | .o, .skip => true
  | .o, .label _ => true
  | .o, .region _ ops d => (aoL 0 ops.toList []).all (fun a => infOk' P a.op a.inf) && (!d || drawOk false (aoL 0 ops.toList []))
  | .r l, .region _ ops d => (aoL 0 ops.toList l).all (fun a => infOk' P a.op a.inf) && (!d || drawOk false (aoL 0 ops.toList l))
  | .y l, .region _ ops d => (aoL 0 ops.toList l).all (fun a => infOk' P a.op a.inf) && (!d || drawOk true (aoL 0 ops.toList l))
  | .s a b, .seq x y => okC P a x && okC P b y
  | .s a b, .cond _ x y => okC P a x && okC P b y
  | .b a, .block _ x => okC P a x
  | .l _ a, .loop x => okC P a x
  | .f _ a b, .rangeFunc _ _ x y => okC P a x && okC P b y
  | .o, .exit _ => true
  | .o, .ret => true
  | _, _ => false

theorem aoL_keys : ∀ (os : List Oper) (k : Nat) (l : List (Nat × Inf)), os.map opKey = (aoL k os l).map AO.key
  | [], _, _ => rfl
  | o :: os, k, l => by
    simp only [aoL, List.map_cons]
    rw [aoL_keys os (k + 1) l]
    rfl

theorem ag_reg {P : Program} (hm : P.follows .mixedOrders = true) {id : Nat} {ops : Array Oper} {d y : Bool} {l : List (Nat × Inf)} (h : ((aoL 0 ops.toList l).all (fun a => infOk' P a.op a.inf) && (!d || drawOk y (aoL 0 ops.toList l))) = true) :
    Ag P (.reg d y (aoL 0 ops.toList l)) (.region id ops d) := by
  simp only [Bool.and_eq_true, Bool.or_eq_true, Bool.not_eq_true'] at h
  obtain ⟨h3, h4⟩ := h
  refine ⟨rfl, ⟨aoL_keys _ _ _, h3⟩, fun hd => ⟨hm, draw_sound ?_⟩⟩
  rcases h4 with h4 | h4
  · rw [h4] at hd; cases hd
  · exact h4

theorem ag_of {P : Program} (hm : P.follows .mixedOrders = true) : ∀ (h : Hint) (code : Code), okC P h code = true → Ag P (acOf h code) code := by
  intro h
  induction h with
  | g g x ih => intro code h1; exact ih code h1
  | no => intro code h1; exact (by cases code <;> trivial)
  | d pa l =>
    intro code h1
    cases code <;> simp only [okC, Bool.false_eq_true] at h1
    simp only [Bool.and_eq_true] at h1
    obtain ⟨h3, rfl, h4, h5, h6⟩ := h1
    exact ⟨rfl, ⟨aoL_keys _ _ _, h3⟩, hm, draw_soundC h4 h5 h6⟩
  | o =>
    intro code h1
    cases code <;> simp only [okC, Bool.false_eq_true] at h1 <;> simp only [acOf] <;> first | exact ag_reg hm h1 | trivial | exact (rfl : _ = _)
  | r l =>
    intro code h1
    cases code <;> simp only [okC, Bool.false_eq_true] at h1
    exact ag_reg hm h1
  | y l =>
    intro code h1
    cases code <;> simp only [okC, Bool.false_eq_true] at h1
    exact ag_reg hm h1
  | s a b iha ihb =>
    intro code h1
    cases code <;> simp only [okC, Bool.false_eq_true, Bool.and_eq_true] at h1
    · exact ⟨iha _ h1.1, ihb _ h1.2⟩
    · exact ⟨rfl, iha _ h1.1, ihb _ h1.2⟩
  | b a ih =>
    intro code h1
    cases code <;> simp only [okC, Bool.false_eq_true] at h1
    exact ⟨rfl, ih _ h1⟩
  | l g a ih =>
    intro code h1
    cases code <;> simp only [okC, Bool.false_eq_true] at h1
    exact ih _ h1
  | f g a b iha ihb =>
    intro code h1
    cases code <;> simp only [okC, Bool.false_eq_true, Bool.and_eq_true] at h1
    exact ⟨rfl, rfl, iha _ h1.1, ihb _ h1.2⟩

/-- The hints fit the function. -/
def okF (P : Program) (fn : Func) (h : Hint) (qs : List (Bool × Nat)) : Bool :=
  !(fn.name == "runtime.NumGoroutine") && rinfOk P fn.results.toList qs && (match fn.body with | some c => okC P h c | none => false)

theorem okF_spec {P : Program} {fn : Func} {code : Code} {h : Hint} {qs : List (Bool × Nat)} (hb : fn.body = some code) (hk : okF P fn h qs = true) :
    (fn.name == "runtime.NumGoroutine") = false ∧ rinfOk P fn.results.toList qs = true ∧ okC P h code = true := by
  simp only [okF, hb, Bool.and_eq_true, Bool.not_eq_true'] at hk
  exact ⟨hk.1.1, hk.1.2, hk.2⟩

theorem ok_fn {P : Program} (hm : P.follows .mixedOrders = true) {f : FuncId} {fn : Func} {code : Code} {h : Hint} {qs : List (Bool × Nat)} {args : List PV} {r : PV} (hf : P.funcs[f]? = some fn) (hb : fn.body = some code) (hk : okF P fn h qs = true)
    (hwp : wpA P none (acOf h code) (RetQ fn.results.toList qs r) (initS args fn.ntmps)) : Ok P f args r := by
  obtain ⟨h1, h2, h3⟩ := okF_spec hb hk
  exact ok_of hf h1 hb (ag_of hm h code h3) h2 hwp

theorem iter_fn {P : Program} (hm : P.follows .mixedOrders = true) {f : FuncId} {fn : Func} {code : Code} {h : Hint} {caps : List PV} {items : List (List PV)} (hf : P.funcs[f]? = some fn) (hb : fn.body = some code) (hk : okF P fn h [] = true)
    (hq : fn.results.toList = [])
    (hwp : ∀ l, wpA P (some (l, items)) (acOf h code) (fun e s => match e with | .exit _ => False | _ => s.it = items.length ∨ s.it = items.length + 1) (initS (.fn (.yield l) [] :: caps) fn.ntmps)) : IterOk P (.fn (.func f) caps) items := by
  obtain ⟨h1, h2, h3⟩ := okF_spec hb hk
  exact iter_of hf h1 hb (ag_of hm h code h3) hq hwp

end Go.Proofs.Ytadfcbpakfaaaaa.A

/- Rules for reckoning what code tells, step by step. -/
set_option linter.unusedVariables false
set_option linter.unusedSimpArgs false
namespace Go.Proofs.Ytadfcbpakfaaaaa.A
open Go Go.RowKit Go.Shelf

/-- A step that tells a state, and what is asked of it. -/
def opt (o : Option St) (K : St → Prop) : Prop := match o with | some s => K s | none => False
theorem opt_some (s : St) (K : St → Prop) : opt (some s) K = K s := rfl
theorem ex_opt (o : Option St) (K : St → Prop) : (∃ s', o = some s' ∧ K s') = opt o K := by
  cases o <;> simp [opt]
@[congr] theorem opt_congr {o o' : Option St} {K : St → Prop} (h : o = o') : opt o K = opt o' K := by rw [h]

/-- A truth value that a guard or a condition looks at. -/
def gB (o : Option TV) (s : St) (x y : St → Prop) : Prop := match o with | some (.v (.s (.bool b))) => if b = true then x s else y s | _ => False
theorem gB_true (s : St) (x y : St → Prop) : gB (some (.v (.s (.bool true)))) s x y = x s := rfl
theorem gB_false (s : St) (x y : St → Prop) : gB (some (.v (.s (.bool false)))) s x y = y s := rfl
theorem gB_dec {p : Prop} [Decidable p] {s : St} {x y : St → Prop} (h1 : p → x s) (h2 : ¬ p → y s) : gB (some (.v (.s (.bool (decide p))))) s x y := by
  unfold gB; by_cases h : p
  · simpa [h] using h1 h
  · simpa [h] using h2 h
theorem gB_bool {b : Bool} {s : St} {x y : St → Prop} (h1 : b = true → x s) (h2 : b = false → y s) : gB (some (.v (.s (.bool b)))) s x y := by
  cases b
  · exact h2 rfl
  · exact h1 rfl

@[congr] theorem wpA_congr {P : Program} {its : Option (Nat × List (List PV))} {ac : AC} {Q : XA → St → Prop} {s s' : St} (h : s = s') : wpA P its ac Q s = wpA P its ac Q s' := by rw [h]
@[congr] theorem wpOpsA_congr {P : Program} {its : Option (Nat × List (List PV))} {all l : List AO} {K : St → Prop} {s s' : St} (h : s = s') : wpOpsA P its all l s K = wpOpsA P its all l s' K := by rw [h]
@[congr] theorem wpOpsC_congr {P : Program} {pa : List (Nat × Nat)} {all l : List AO} {K : St → Prop} {s s' : St} (h : s = s') : wpOpsC P pa all l s K = wpOpsC P pa all l s' K := by rw [h]
@[congr] theorem wpOp_congr {P : Program} {its : Option (Nat × List (List PV))} {all : List AO} {o : AO} {K : St → Prop} {s s' : St} (h : s = s') : wpOp P its all o s K = wpOp P its all o s' K := by rw [h]
@[congr] theorem execA_congr {P : Program} {its : Option (Nat × List (List PV))} {o : AO} {K : St → Prop} {s s' : St} (h : s = s') : execA P its s o K = execA P its s' o K := by rw [h]
@[congr] theorem callA_congr {P : Program} {its : Option (Nat × List (List PV))} {d : Option Nat} {c : Call} {K : St → Prop} {s s' : St} (h : s = s') : callA P its s d c K = callA P its s' d c K := by rw [h]

/-! ### Code -/
def seqK (P : Program) (its : Option (Nat × List (List PV))) (y : AC) (Q : XA → St → Prop) : XA → St → Prop := fun e s' => match e with | .normal => wpA P its y Q s' | .ret => Q .ret s' | .exit id => Q (.exit id) s'
def blockK (id : Nat) (Q : XA → St → Prop) : XA → St → Prop := fun e s' => match e with | .exit j => if j = id then Q .normal s' else Q (.exit j) s' | .normal => Q .normal s' | .ret => Q .ret s'
def wpK (P : Program) (its : Option (Nat × List (List PV))) (a : Hint) (x : Code) (Q : XA → St → Prop) : St → Prop := fun s => wpA P its (acOf a x) Q s
def execK (P : Program) (its : Option (Nat × List (List PV))) (d : Option Nat) (op : Op) (i : Inf) (K : St → Prop) : St → Prop := fun s => execA P its s ⟨d, op, none, [], i⟩ K
def junkK (d : Option Nat) (K : St → Prop) : St → Prop := fun s => K (putT s d (.v .junk))
def opsK (P : Program) (its : Option (Nat × List (List PV))) (all l : List AO) (K : St → Prop) : St → Prop := fun s' => wpOpsA P its all l s' K
def loopK (g : List Gh) (Inv : Nat → St → Prop) (m : Nat) (Q : XA → St → Prop) : XA → St → Prop := fun e s' => match e with | .normal => ∃ s1 m', ghs g s' = some s1 ∧ m' < m ∧ Inv m' s1 | .ret => Q .ret s' | .exit id => Q (.exit id) s'

section
variable {P : Program} {its : Option (Nat × List (List PV))} {Q : XA → St → Prop} {s : St} {K : St → Prop}

theorem wpK_at (a : Hint) (x : Code) : wpK P its a x Q s = wpA P its (acOf a x) Q s := rfl
theorem execK_at (d : Option Nat) (op : Op) (i : Inf) : execK P its d op i K s = execA P its s ⟨d, op, none, [], i⟩ K := rfl
theorem junkK_at (d : Option Nat) : junkK d K s = K (putT s d (.v .junk)) := rfl
theorem seqK_normal (y : AC) : seqK P its y Q .normal s = wpA P its y Q s := rfl
theorem seqK_ret (y : AC) : seqK P its y Q .ret s = Q .ret s := rfl
theorem seqK_exit (y : AC) (id : Nat) : seqK P its y Q (.exit id) s = Q (.exit id) s := rfl
theorem blockK_normal (id : Nat) : blockK id Q .normal s = Q .normal s := rfl
theorem blockK_ret (id : Nat) : blockK id Q .ret s = Q .ret s := rfl
theorem blockK_exit (id j : Nat) : blockK id Q (.exit j) s = if j = id then Q .normal s else Q (.exit j) s := rfl
theorem loopK_normal (g : List Gh) (Inv : Nat → St → Prop) (m : Nat) : loopK g Inv m Q .normal s = ∃ s1 m', ghs g s = some s1 ∧ m' < m ∧ Inv m' s1 := rfl
theorem loopK_ret (g : List Gh) (Inv : Nat → St → Prop) (m : Nat) : loopK g Inv m Q .ret s = Q .ret s := rfl
theorem loopK_exit (g : List Gh) (Inv : Nat → St → Prop) (m id : Nat) : loopK g Inv m Q (.exit id) s = Q (.exit id) s := rfl
theorem opsK_at (all l : List AO) : opsK P its all l K s = wpOpsA P its all l s K := rfl

theorem wp_skip : wpA P its (acOf .o .skip) Q s = Q .normal s := rfl
theorem wp_label (n : Nat) : wpA P its (acOf .o (.label n)) Q s = Q .normal s := rfl
theorem wp_reg0 (id : Nat) (ops : List Oper) : wpA P its (acOf .o (.region id ⟨ops⟩ false)) Q s = wpOpsA P its (aoL 0 ops []) (aoL 0 ops []) s (Q .normal) := rfl
theorem wp_reg (id : Nat) (ops : List Oper) (l : List (Nat × Inf)) : wpA P its (acOf (.r l) (.region id ⟨ops⟩ false)) Q s = wpOpsA P its (aoL 0 ops l) (aoL 0 ops l) s (Q .normal) := rfl
theorem wp_draw0 (id : Nat) (ops : List Oper) : wpA P its (acOf .o (.region id ⟨ops⟩ true)) Q s = wpOpsA P none (aoL 0 ops []) (aoL 0 ops []) s (Q .normal) := rfl
theorem wp_draw (id : Nat) (ops : List Oper) (l : List (Nat × Inf)) : wpA P its (acOf (.r l) (.region id ⟨ops⟩ true)) Q s = wpOpsA P none (aoL 0 ops l) (aoL 0 ops l) s (Q .normal) := rfl
theorem wp_regy (id : Nat) (ops : List Oper) (l : List (Nat × Inf)) : wpA P its (acOf (.y l) (.region id ⟨ops⟩ false)) Q s = wpOpsA P its (aoL 0 ops l) (aoL 0 ops l) s (Q .normal) := rfl
theorem wp_drawy (id : Nat) (ops : List Oper) (l : List (Nat × Inf)) : wpA P its (acOf (.y l) (.region id ⟨ops⟩ true)) Q s = wpOpsA P its (aoL 0 ops l) (aoL 0 ops l) s (Q .normal) := rfl
theorem wp_seq (x y : Code) (a b : Hint) : wpA P its (acOf (.s a b) (.seq x y)) Q s = wpA P its (acOf a x) (seqK P its (acOf b y) Q) s := rfl
theorem wp_cond (c : Operand) (x y : Code) (a b : Hint) : wpA P its (acOf (.s a b) (.cond c x y)) Q s = gB (ev s c) s (wpK P its a x Q) (wpK P its b y Q) := by
  simp only [acOf, wpA, gB]
  rfl
theorem wp_block (id : Nat) (x : Code) (a : Hint) : wpA P its (acOf (.b a) (.block id x)) Q s = wpA P its (acOf a x) (blockK id Q) s := rfl
theorem wp_exit (id : Nat) : wpA P its (acOf .o (.exit id)) Q s = Q (.exit id) s := rfl
theorem wp_ret : wpA P its (acOf .o .ret) Q s = Q .ret s := rfl
theorem wp_gh (g : List Gh) (x : Code) (a : Hint) : wpA P its (acOf (.g g a) x) Q s = opt (ghs g s) (wpK P its a x Q) := by
  have e : acOf (.g g a) x = .gh g (acOf a x) := by cases x <;> rfl
  simp only [e, wpA, ex_opt]
  rfl
/-- A loop: what holds at its head, and a measure that falls. -/
theorem wp_loop {g : List Gh} {x : Code} {a : Hint} (Inv : Nat → St → Prop) (m : Nat) (h0 : opt (ghs g s) (Inv m)) (h : ∀ m s, Inv m s → wpA P its (acOf a x) (loopK g Inv m Q) s) : wpA P its (acOf (.l g a) (.loop x)) Q s := by
  cases hg : ghs g s with
  | none => rw [hg] at h0; exact h0.elim
  | some s0 => rw [hg] at h0; exact ⟨Inv, m, s0, hg, h0, h⟩
theorem loopK_of {g : List Gh} {Inv : Nat → St → Prop} {m m' : Nat} (hm : m' < m) (h : opt (ghs g s) (Inv m')) : loopK g Inv m Q .normal s := by
  cases hg : ghs g s with
  | none => rw [hg] at h; exact h.elim
  | some s0 => rw [hg] at h; exact ⟨s0, m', hg, hm, h⟩

theorem RetQ_ret (vs : List ResultVar) (qs : List (Bool × Nat)) (r : PV) : RetQ vs qs r .ret s = ((resAll s vs qs).map packR = some r) := rfl
theorem RetQ_normal (vs : List ResultVar) (qs : List (Bool × Nat)) (r : PV) : RetQ vs qs r .normal s = ((resAll s vs qs).map packR = some r) := rfl

/-! ### Regions that draw their order, and make variables -/
def opsCK (P : Program) (pa : List (Nat × Nat)) (all l : List AO) (K : St → Prop) : St → Prop := fun s' => (freeAll (dsL l) s' && (paOk pa s' && nonPs (nsL pa l) s')) = true ∧ wpOpsC P pa all l s' K
theorem opsCK_at (pa : List (Nat × Nat)) (all l : List AO) : opsCK P pa all l K s = ((freeAll (dsL l) s && (paOk pa s && nonPs (nsL pa l) s)) = true ∧ wpOpsC P pa all l s K) := rfl
theorem wp_regd (id : Nat) (ops : List Oper) (pa : List (Nat × Nat)) (l : List (Nat × Inf)) (d : Bool) : wpA P its (acOf (.d pa l) (.region id ⟨ops⟩ d)) Q s = ((freeAll (dsL (aoL 0 ops l)) s && (paOk pa s && nonPs (nsL pa (aoL 0 ops l)) s)) = true ∧ wpOpsC P pa (aoL 0 ops l) (aoL 0 ops l) s (Q .normal)) := rfl
theorem opsC_nil (pa : List (Nat × Nat)) (all : List AO) (k : Nat) (l : List (Nat × Inf)) : wpOpsC P pa all (aoL k [] l) s K = K s := rfl
theorem opsC_cons (pa : List (Nat × Nat)) (all : List AO) (k : Nat) (l : List (Nat × Inf)) (os : List Oper) (o : Oper) : wpOpsC P pa all (aoL k (o :: os) l) s K = wpOp P none all (ao o ((lk k l).getD {})) s (opsCK P pa all (aoL (k + 1) os l) K) := rfl
def allocX (d : Option Nat) (op : Op) (g : Option (Nat × Bool)) (i : Inf) : Option (Nat × List Nat) := match op, d, g with
  | .alloc _, some d, none => some (d, i.acc.map (·.2))
  | _, _, _ => none
def dsC : Option (Nat × List Nat) → List (Nat × List Nat) → List (Nat × List Nat)
  | some p, l => p :: l
  | none, l => l
theorem nsL_nil (pa : List (Nat × Nat)) (k : Nat) (l : List (Nat × Inf)) : nsL pa (aoL k [] l) = [] := rfl
theorem nsL_cons (pa : List (Nat × Nat)) (k : Nat) (l : List (Nat × Inf)) (os : List Oper) (d : Option Nat) (op : Op) (t : TypeId) (p : String) (af : Array Edge) (g : Option (Nat × Bool)) :
    nsL pa (aoL k (⟨d, op, t, p, af, g⟩ :: os) l) = nsC pa d (nsL pa (aoL (k + 1) os l)) := rfl
theorem nsL_no (l : List AO) : nsL [] l = [] := by
  induction l with
  | nil => rfl
  | cons o l ih =>
    rw [nsL, ih]
    unfold nsC inPa
    split <;> simp
theorem dsL_nil (k : Nat) (l : List (Nat × Inf)) : dsL (aoL k [] l) = [] := rfl
theorem dsL_cons (k : Nat) (l : List (Nat × Inf)) (os : List Oper) (d : Option Nat) (op : Op) (t : TypeId) (p : String) (af : Array Edge) (g : Option (Nat × Bool)) :
    dsL (aoL k (⟨d, op, t, p, af, g⟩ :: os) l) = dsC (allocX d op g ((lk k l).getD {})) (dsL (aoL (k + 1) os l)) := by
  show (match allocD (ao ⟨d, op, t, p, af, g⟩ ((lk k l).getD {})) with | some p => p :: _ | none => _) = _
  have e : allocD (ao ⟨d, op, t, p, af, g⟩ ((lk k l).getD {})) = allocX d op g ((lk k l).getD {}) := rfl
  rw [e]
  cases allocX d op g ((lk k l).getD {}) <;> rfl

/-! ### Operations -/
theorem ops_nil (all : List AO) (k : Nat) (l : List (Nat × Inf)) : wpOpsA P its all (aoL k [] l) s K = K s := rfl
theorem ops_cons (all : List AO) (k : Nat) (l : List (Nat × Inf)) (os : List Oper) (o : Oper) : wpOpsA P its all (aoL k (o :: os) l) s K = wpOp P its all (ao o ((lk k l).getD {})) s (opsK P its all (aoL (k + 1) os l) K) := rfl
theorem op_plain (all : List AO) (d : Option Nat) (op : Op) (t : TypeId) (p : String) (af : Array Edge) (i : Inf) : wpOp P its all (ao ⟨d, op, t, p, af, none⟩ i) s K = execA P its s ⟨d, op, none, [], i⟩ K := by
  rfl
/-- Where the operation that a guard looks at lays its value. -/
def slotAt (all : List AO) (j : Nat) : Option Nat := (all[j]?).bind (·.dst)
theorem slotAt_zero (o : Oper) (os : List Oper) (k : Nat) (l : List (Nat × Inf)) : slotAt (aoL k (o :: os) l) 0 = o.dst := rfl
theorem slotAt_succ (o : Oper) (os : List Oper) (k j : Nat) (l : List (Nat × Inf)) : slotAt (aoL k (o :: os) l) (j + 1) = slotAt (aoL (k + 1) os l) j := rfl
@[congr] theorem slotAt_congr {all : List AO} {j : Nat} : slotAt all j = slotAt all j := rfl
theorem op_guard (all : List AO) (d : Option Nat) (op : Op) (t : TypeId) (p : String) (af : Array Edge) (j : Nat) (i : Inf) :
    wpOp P its all (ao ⟨d, op, t, p, af, some (j, true)⟩ i) s K = gB ((slotAt all j).bind (s.tm[·]?)) s (execK P its d op i K) (junkK d K) := by
  simp only [wpOp, ao, gB, slotAt]
  rfl
theorem op_guardn (all : List AO) (d : Option Nat) (op : Op) (t : TypeId) (p : String) (af : Array Edge) (j : Nat) (i : Inf) :
    wpOp P its all (ao ⟨d, op, t, p, af, some (j, false)⟩ i) s K = gB ((slotAt all j).bind (s.tm[·]?)) s (junkK d K) (execK P its d op i K) := by
  have key : ∀ (o : Option TV) (x y : St → Prop), (match o with | some (.v (.s (.bool b))) => if b = false then x s else y s | _ => False) = gB o s y x := by
    intro o x y
    unfold gB
    split
    · rename_i b
      cases b <;> simp
    · rfl
  exact key ((slotAt all j).bind (s.tm[·]?)) (execK P its d op i K) (junkK d K)

/-- A row of the code's operations, looked up. -/
theorem step_call (d : Option Nat) (f : Operand) (xs : Array Operand) (ts : Array TypeId) (g : Option (Nat × Bool)) (pre : List Nat) (i : Inf) : execA P its s ⟨d, .call ⟨.value f, xs, ts⟩, g, pre, i⟩ K = callA P its s d ⟨.value f, xs, ts⟩ K := rfl
theorem step_invoke (d : Option Nat) (f : Operand) (n : String) (xs : Array Operand) (ts : Array TypeId) (g : Option (Nat × Bool)) (pre : List Nat) (i : Inf) : execA P its s ⟨d, .call ⟨.invoke f n, xs, ts⟩, g, pre, i⟩ K = callA P its s d ⟨.invoke f n, xs, ts⟩ K := rfl
theorem step_builtin (d : Option Nat) (b : Builtin) (xs : Array Operand) (ts : Array TypeId) (g : Option (Nat × Bool)) (pre : List Nat) (i : Inf) : execA P its s ⟨d, .call ⟨.builtin b, xs, ts⟩, g, pre, i⟩ K = opt (stepA s d (.call ⟨.builtin b, xs, ts⟩) i) K := ex_opt _ _
theorem step_move (d : Option Nat) (x : Operand) (g : Option (Nat × Bool)) (pre : List Nat) (i : Inf) : execA P its s ⟨d, .move x, g, pre, i⟩ K = opt ((ev s x).map (putT s d)) K := ex_opt _ _
theorem step_assign (d : Option Nat) (x : Operand) (g : Option (Nat × Bool)) (pre : List Nat) (i : Inf) : execA P its s ⟨d, .assign x, g, pre, i⟩ K = opt (stepA s d (.assign x) i) K := ex_opt _ _
theorem step_pick (d : Option Nat) (c x y : Operand) (g : Option (Nat × Bool)) (pre : List Nat) (i : Inf) : execA P its s ⟨d, .pick c x y, g, pre, i⟩ K = opt ((valA s (.pick c x y) i).map (putT s d)) K := ex_opt _ _
theorem step_load (d : Option Nat) (t : TypeId) (x : Operand) (g : Option (Nat × Bool)) (pre : List Nat) (i : Inf) : execA P its s ⟨d, .load t x, g, pre, i⟩ K = opt (((ev s x).bind (ldA s i.agg i.n)).map (putT s d)) K := ex_opt _ _
theorem step_fieldAddr (d : Option Nat) (t : TypeId) (x : Operand) (f : Nat) (g : Option (Nat × Bool)) (pre : List Nat) (i : Inf) : execA P its s ⟨d, .fieldAddr t x f, g, pre, i⟩ K = opt (((ev s x).bind (fieldAddrA i.off)).map (putT s d)) K := ex_opt _ _
theorem step_field (d : Option Nat) (t : TypeId) (x : Operand) (f : Nat) (g : Option (Nat × Bool)) (pre : List Nat) (i : Inf) : execA P its s ⟨d, .field t x f, g, pre, i⟩ K = opt (((pv s x).bind (fieldA i.agg i.n i.off)).map (putT s d)) K := ex_opt _ _
theorem step_indexAddr (d : Option Nat) (t : TypeId) (x k : Operand) (g : Option (Nat × Bool)) (pre : List Nat) (i : Inf) : execA P its s ⟨d, .indexAddr t x k, g, pre, i⟩ K = opt ((valA s (.indexAddr t x k) i).map (putT s d)) K := ex_opt _ _
theorem step_index (d : Option Nat) (t : TypeId) (x k : Operand) (g : Option (Nat × Bool)) (pre : List Nat) (i : Inf) : execA P its s ⟨d, .index t x k, g, pre, i⟩ K = opt ((valA s (.index t x k) i).map (putT s d)) K := ex_opt _ _
theorem step_binOp (d : Option Nat) (op : BinOp) (t u : TypeId) (x y : Operand) (g : Option (Nat × Bool)) (pre : List Nat) (i : Inf) (h : (i.t == 1) = false) : execA P its s ⟨d, .binOp op t x y u, g, pre, i⟩ K = opt ((valA s (.binOp op t x y u) i).map (putT s d)) K := by
  have hn : nilTest ⟨d, .binOp op t x y u, g, pre, i⟩ = none := by
    have h' : i.t ≠ 1 := by simpa using h
    unfold nilTest
    split
    · rw [if_neg (fun e => h' e.1)]
    · rfl
  unfold execA
  rw [hn]
  exact ex_opt _ _
theorem step_nil (d : Option Nat) (t u : TypeId) (x : Operand) (g : Option (Nat × Bool)) (pre : List Nat) (i : Inf) (h : (i.t == 1) = true) (h3 : (i.n == 3) = true) : execA P its s ⟨d, .binOp .eql t x (.const (.slice none 0 0)) u, g, pre, i⟩ K = nilA s d x K := by
  have hn : nilTest ⟨d, .binOp .eql t x (.const (.slice none 0 0)) u, g, pre, i⟩ = some x := by
    unfold nilTest
    exact if_pos ⟨by simpa using h, by simpa using h3⟩
  unfold execA
  rw [hn]
theorem nilA_nil (d : Option Nat) (x : Operand) (h : ev s x = some (.v (.s (.slice none 0 0)))) : nilA s d x K = K (putT s d (bl true)) := by
  unfold nilA; rw [h]
  rfl
theorem nilA_sl {ex : Bool} {els : List PV} (d : Option Nat) (x : Operand) (h : ev s x = some (.v (.sl ex els))) (hK : ∀ b : Bool, (els.isEmpty = false → b = false) → K (putT s d (bl b))) : nilA s d x K := by
  unfold nilA; rw [h]; exact hK
theorem step_unOp (d : Option Nat) (op : UnOp) (t : TypeId) (x : Operand) (g : Option (Nat × Bool)) (pre : List Nat) (i : Inf) : execA P its s ⟨d, .unOp op t x, g, pre, i⟩ K = opt (((pv s x).bind (unA op)).map (putT s d)) K := ex_opt _ _
theorem step_iface (d : Option Nat) (t : TypeId) (x : Operand) (g : Option (Nat × Bool)) (pre : List Nat) (i : Inf) : execA P its s ⟨d, .makeInterface t x, g, pre, i⟩ K = opt ((valA s (.makeInterface t x) i).map (putT s d)) K := ex_opt _ _
theorem step_extract (d : Option Nat) (x : Operand) (k : Nat) (g : Option (Nat × Bool)) (pre : List Nat) (i : Inf) : execA P its s ⟨d, .extract x k, g, pre, i⟩ K = opt ((valA s (.extract x k) i).map (putT s d)) K := ex_opt _ _
theorem step_func (d : Option Nat) (f : Fn) (fs xs : Array Operand) (g : Option (Nat × Bool)) (pre : List Nat) (i : Inf) : execA P its s ⟨d, .makeFunc f fs xs, g, pre, i⟩ K = opt ((valA s (.makeFunc f fs xs) i).map (putT s d)) K := ex_opt _ _
theorem step_build (d : Option Nat) (t : TypeId) (parts : Array (Nat × Operand)) (g : Option (Nat × Bool)) (pre : List Nat) (i : Inf) : execA P its s ⟨d, .build t parts, g, pre, i⟩ K = opt ((valA s (.build t parts) i).map (putT s d)) K := ex_opt _ _
theorem step_slice (d : Option Nat) (t : TypeId) (x : Operand) (lo hi mx : Option Operand) (g : Option (Nat × Bool)) (pre : List Nat) (i : Inf) : execA P its s ⟨d, .slice t x lo hi mx, g, pre, i⟩ K = opt ((valA s (.slice t x lo hi mx) i).map (putT s d)) K := ex_opt _ _
theorem step_convert (d : Option Nat) (t u : TypeId) (x : Operand) (g : Option (Nat × Bool)) (pre : List Nat) (i : Inf) : execA P its s ⟨d, .convert t u x, g, pre, i⟩ K = opt ((valA s (.convert t u x) i).map (putT s d)) K := ex_opt _ _
theorem step_alloc (d : Option Nat) (t : TypeId) (g : Option (Nat × Bool)) (pre : List Nat) (i : Inf) : execA P its s ⟨d, .alloc t, g, pre, i⟩ K = opt (stepA s d (.alloc t) i) K := ex_opt _ _
theorem step_box (d : Option Nat) (t : TypeId) (x : Operand) (g : Option (Nat × Bool)) (pre : List Nat) (i : Inf) : execA P its s ⟨d, .box t x, g, pre, i⟩ K = opt (stepA s d (.box t x) i) K := ex_opt _ _
theorem step_makeSlice (d : Option Nat) (t : TypeId) (l c : Operand) (g : Option (Nat × Bool)) (pre : List Nat) (i : Inf) : execA P its s ⟨d, .makeSlice t l c, g, pre, i⟩ K = opt (stepA s d (.makeSlice t l c) i) K := ex_opt _ _
theorem step_store (d : Option Nat) (t : TypeId) (x y : Operand) (g : Option (Nat × Bool)) (pre : List Nat) (i : Inf) : execA P its s ⟨d, .store t x y, g, pre, i⟩ K = opt (stepA s d (.store t x y) i) K := ex_opt _ _
theorem step_buildSlice (d : Option Nat) (t : TypeId) (n : Nat) (parts : Array (Nat × Operand)) (g : Option (Nat × Bool)) (pre : List Nat) (i : Inf) : execA P its s ⟨d, .buildSlice t n parts, g, pre, i⟩ K = opt (stepA s d (.buildSlice t n parts) i) K := ex_opt _ _

/-- A call of a function of the program's, whose contract is known. -/
theorem call_fn {d : Option Nat} {f : Operand} {xs : Array Operand} {ts : Array TypeId} {k : Nat} {caps ps ys : List PV} {r : PV} (hf : ev s f = some (.v (.fn (.func k) caps))) (hp : pvs s xs.toList = some ps) (ha : ps ++ caps = ys) (hOk : Ok P k ys r)
    (hK : K (putT s d (.v r))) : callA P its s d ⟨.value f, xs, ts⟩ K := by
  unfold callA
  subst ha
  simp only [hf, hp]
  exact ⟨r, hOk, hK⟩
theorem call_meth {d : Option Nat} {f : Operand} {n : String} {xs : Array Operand} {ts : Array TypeId} {t k : Nat} {x : PV} {ps : List PV} {r : PV} (hf : ev s f = some (.v (.ifc t x))) (hp : pvs s xs.toList = some ps) (hM : Meth P t n k) (hOk : Ok P k (x :: ps) r)
    (hK : K (putT s d (.v r))) : callA P its s d ⟨.invoke f n, xs, ts⟩ K := by
  unfold callA
  simp only [hf, hp]
  exact ⟨k, r, hM, hOk, hK⟩

theorem range0 : List.range 0 = [] := rfl
theorem range1 : List.range 1 = [0] := rfl
theorem range2 : List.range 2 = [0, 1] := rfl
theorem range3 : List.range 3 = [0, 1, 2] := rfl
theorem range4 : List.range 4 = [0, 1, 2, 3] := rfl
theorem one_int (k : IntKind) (n : Int) : (Value.int k n).oneCell' = true := rfl
theorem one_bool (b : Bool) : (Value.bool b).oneCell' = true := rfl
theorem one_slice (b : Option Addr) (n c : Nat) : (Value.slice b n c).oneCell' = true := rfl

theorem call_yield {d : Option Nat} {f : Operand} {xs : Array Operand} {ts : Array TypeId} {l : Nat} {items : List (List PV)} {ps : List PV} (hf : ev s f = some (.v (.fn (.yield l) []))) (hp : pvs s xs.toList = some ps) (hb : s.bx = []) (ht : s.tk = [])
    (hx : items[s.it]? = some ps) (h1 : K { putT s d (bl true) with it := s.it + 1 }) (h2 : K { putT s d (bl false) with it := items.length + 1 }) : callA P (some (l, items)) s d ⟨.value f, xs, ts⟩ K := by
  unfold callA
  simp only [hf, hp]
  exact ⟨trivial, hb, ht, hx, h1, h2⟩

/-! ### A loop over an iterator -/
/-- Behind the operations that lay a round's values. -/
def rfK (P : Program) (y : AC) (Q' : XA → St → Prop) : XA → St → Prop := fun e s2 => match e with | .normal => wpA P none y Q' s2 | _ => False
/-- Behind a round. -/
def roundK (g : List Gh) (R : St → Prop) (Q : XA → St → Prop) : XA → St → Prop := fun e s' => match e with
  | .normal => ∃ s1, ghs g (betw s') = some s1 ∧ R s1
  | .ret => Q .ret (leaveR s')
  | .exit id => Q (.exit id) (leaveR s')
theorem rfK_normal (y : AC) : rfK P y Q .normal s = wpA P none y Q s := rfl
theorem roundK_normal (g : List Gh) (R : St → Prop) : roundK g R Q .normal s = opt (ghs g (betw s)) R := ex_opt _ _
theorem roundK_ret (g : List Gh) (R : St → Prop) : roundK g R Q .ret s = Q .ret (leaveR s) := rfl
theorem roundK_exit (g : List Gh) (R : St → Prop) (id : Nat) : roundK g R Q (.exit id) s = Q (.exit id) (leaveR s) := rfl
theorem rounds_of {g : List Gh} {ps : List Nat} {a b : AC} (Inv : Nat → St → Prop) {items : List (List PV)}
    (hr : ∀ (i : Nat) (x : List PV) (s' : St) (R : St → Prop), items[i]? = some x → Inv i s' → (∀ s1, Inv (i + 1) s1 → R s1) → x.length = ps.length ∧ wpA P none a (rfK P b (roundK g R Q)) (enterR ps x s'))
    (hq : ∀ s', Inv items.length s' → Q .normal (leaveR s')) :
    ∀ (rest : List (List PV)) (i : Nat) (s' : St), items.drop i = rest → i + rest.length = items.length → Inv i s' →
      Rounds g ps (fun Q' s' => wpA P none a (fun e s2 => match e with | .normal => wpA P none b Q' s2 | _ => False) s') Q rest s' := by
  intro rest
  induction rest with
  | nil =>
    intro i s' hd hl hi
    have : i = items.length := by simpa using hl
    subst this
    exact hq _ hi
  | cons x xs ih =>
    intro i s' hd hl hi
    have hx : items[i]? = some x := by
      have := congrArg (·[0]?) hd
      simpa using this
    have hd' : items.drop (i + 1) = xs := by
      have := congrArg List.tail hd
      simpa using this
    obtain ⟨h1, h2⟩ := hr i x s' (Rounds g ps (fun Q' s' => wpA P none a (fun e s2 => match e with | .normal => wpA P none b Q' s2 | _ => False) s') Q xs) hx hi
      (fun s1 h => ih (i + 1) s1 hd' (by simp only [List.length_cons] at hl; omega) h)
    exact ⟨h1, h2⟩
theorem wp_rf {f : Operand} {ps : Array Nat} {g : List Gh} {a b : Hint} {x y : Code} {p : PV} {items : List (List PV)} (hf : ev s f = some (.v p)) (hI : IterOk P p items) (Inv : Nat → St → Prop)
    (h0 : opt (ghs g (betw { s with sv := s.tm :: s.sv })) (Inv 0))
    (hr : ∀ (i : Nat) (x' : List PV) (s' : St) (R : St → Prop), items[i]? = some x' → Inv i s' → (∀ s1, Inv (i + 1) s1 → R s1) → x'.length = ps.toList.length ∧ wpA P none (acOf a x) (rfK P (acOf b y) (roundK g R Q)) (enterR ps.toList x' s'))
    (hq : ∀ s', Inv items.length s' → Q .normal (leaveR s')) :
    wpA P none (acOf (.f g a b) (.rangeFunc f ps x y)) Q s := by
  cases hg : ghs g (betw { s with sv := s.tm :: s.sv }) with
  | none => rw [hg] at h0; exact h0.elim
  | some s1 =>
    rw [hg] at h0
    exact ⟨items, p, s1, rfl, hf, hI, hg, rounds_of Inv hr hq items 0 s1 (by simp) (by simp) h0⟩
/-- The same; what is told may name the slots as the loop began. -/
theorem wp_rf' {tm : List TV} {bx : List (Nat × List TV)} {ro : List (Nat × List PV)} {tk : List (Nat × Nat)} {sv : List (List TV)} {it : Nat} {f : Operand} {ps : Array Nat} {g : List Gh} {a b : Hint} {x y : Code} {p : PV} {items : List (List PV)} (hf : ev ⟨tm, bx, ro, tk, sv, it⟩ f = some (.v p)) (hI : IterOk P p items)
    (Inv : List (List TV) → Nat → St → Prop) (h0 : opt (ghs g ⟨[], bx, ro, tk, tm :: sv, it⟩) (Inv (tm :: sv) 0))
    (hr : ∀ (i : Nat) (x' : List PV) (s' : St) (R : St → Prop), items[i]? = some x' → Inv (tm :: sv) i s' → (∀ s1, Inv (tm :: sv) (i + 1) s1 → R s1) → x'.length = ps.toList.length ∧ wpA P none (acOf a x) (rfK P (acOf b y) (roundK g R Q)) (enterR ps.toList x' s'))
    (hq : ∀ s', Inv (tm :: sv) items.length s' → Q .normal (leaveR s')) :
    wpA P none (acOf (.f g a b) (.rangeFunc f ps x y)) Q ⟨tm, bx, ro, tk, sv, it⟩ := wp_rf hf hI (Inv (tm :: sv)) h0 hr hq
theorem enterR_mk {tm : List TV} {bx : List (Nat × List TV)} {ro : List (Nat × List PV)} {tk : List (Nat × Nat)} {v : List TV} {sv : List (List TV)} {it : Nat} (ps : List Nat) (x : List PV) : enterR ps x ⟨tm, bx, ro, tk, v :: sv, it⟩ = ⟨setPs ps x v, bx, ro, tk, v :: sv, it⟩ := rfl
theorem leaveR_mk {tm : List TV} {bx : List (Nat × List TV)} {ro : List (Nat × List PV)} {tk : List (Nat × Nat)} {v : List TV} {sv : List (List TV)} {it : Nat} : leaveR ⟨tm, bx, ro, tk, v :: sv, it⟩ = ⟨v, bx, ro, tk, sv, it⟩ := rfl
theorem betw_mk {tm : List TV} {bx : List (Nat × List TV)} {ro : List (Nat × List PV)} {tk : List (Nat × Nat)} {sv : List (List TV)} {it : Nat} : betw ⟨tm, bx, ro, tk, sv, it⟩ = ⟨[], bx, ro, tk, sv, it⟩ := rfl

/-! ### States, by their parts -/
variable {tm : List TV} {bx : List (Nat × List TV)} {ro : List (Nat × List PV)} {tk : List (Nat × Nat)} {sv : List (List TV)} {it : Nat}
theorem ev_tmp (n : Nat) : ev ⟨tm, bx, ro, tk, sv, it⟩ (.tmp n) = tm[n]? := rfl
theorem ev_const (v : Value) : ev s (.const v) = some (.v (.s v)) := rfl
theorem ev_func (f : FuncId) : ev s (.func f) = some (.v (.fn (.func f) [])) := rfl
theorem putT_some (d : Nat) (t : TV) : putT ⟨tm, bx, ro, tk, sv, it⟩ (some d) t = ⟨tm.set d t, bx, ro, tk, sv, it⟩ := rfl
theorem putT_none (t : TV) : putT s none t = s := rfl
theorem pv_eq (x : Operand) : pv s x = (ev s x).bind tov := rfl
theorem st_tm : (St.mk tm bx ro tk sv it).tm = tm := rfl
end
end Go.Proofs.Ytadfcbpakfaaaaa.A

