/- Code with what is known of it, put together from the code and from hints; a check of the hints; contracts. -/
import Derived.Test.YtnfomjnmigkpmaaAD
set_option linter.unusedVariables false
set_option linter.unusedSimpArgs false
namespace Go.Proofs.Ytnfomjnmigkpmaa.A
open Go Go.RowKit Go.Shelf

/-- What is known beside the code: of operations (by their number in the region), of loops. -/
inductive Hint where
  | o
  | r (l : List (Nat × Inf))
  | y (l : List (Nat × Inf))
  | s (x y : Hint)
  | b (x : Hint)
  | l (g : List Gh) (x : Hint)
  | f (g : List Gh) (x y : Hint)
  | g (g : List Gh) (x : Hint)
  | no
  | d (pa : List (Nat × Nat)) (l : List (Nat × Inf))

def ao (o : Oper) (i : Inf) : AO := ⟨o.dst, o.op, o.guard, (o.after.toList.filter fun e => Region.binds .any e).map (·.on), i⟩

def aoL : Nat → List Oper → List (Nat × Inf) → List AO
  | _, [], _ => []
  | k, o :: os, l => ao o ((lk k l).getD {}) :: aoL (k + 1) os l

def acOf : Hint → Code → AC
  | .no, _ => .dead
  | .d pa l, .region _ ops _ => .regd pa (aoL 0 ops.toList l)
  | .g g h, c => .gh g (acOf h c)
  | .o, .skip => .skip
  | .o, .label _ => .skip
  | .o, .region _ ops d => .reg d false (aoL 0 ops.toList [])
  | .r l, .region _ ops d => .reg d false (aoL 0 ops.toList l)
  | .y l, .region _ ops d => .reg d true (aoL 0 ops.toList l)
  | .s a b, .seq x y => .seq (acOf a x) (acOf b y)
  | .s a b, .cond c x y => .cond c (acOf a x) (acOf b y)
  | .b a, .block id x => .block id (acOf a x)
  | .l g a, .loop x => .loop g (acOf a x)
  | .f g a b, .rangeFunc f ps x y => .rf f ps.toList g (acOf a x) (acOf b y)
  | .o, .exit id => .exit id
  | .o, .ret => .ret
  | _, _ => .skip

/-- Do the hints fit the code, and the types? -/
def okC (P : Program) : Hint → Code → Bool
  | .no, _ => true
  | .d pa l, .region _ ops d => (aoL 0 ops.toList l).all (fun a => infOk' P a.op a.inf) && (d && (drawOkC pa (aoL 0 ops.toList l) && (distinctA (aoL 0 ops.toList l) && (aoL 0 ops.toList l).all (paFree pa))))
  | .g _ h, c => okC P h c
  | .o, .skip => true
  | .o, .label _ => true
  | .o, .region _ ops d => (aoL 0 ops.toList []).all (fun a => infOk' P a.op a.inf) && (!d || drawOk false (aoL 0 ops.toList []))
  | .r l, .region _ ops d => (aoL 0 ops.toList l).all (fun a => infOk' P a.op a.inf) && (!d || drawOk false (aoL 0 ops.toList l))
  | .y l, .region _ ops d => (aoL 0 ops.toList l).all (fun a => infOk' P a.op a.inf) && (!d || drawOk true (aoL 0 ops.toList l))
  | .s a b, .seq x y => okC P a x && okC P b y
  | .s a b, .cond _ x y => okC P a x && okC P b y
  | .b a, .block _ x => okC P a x
  | .l _ a, .loop x => okC P a x
  | .f _ a b, .rangeFunc _ _ x y => okC P a x && okC P b y
  | .o, .exit _ => true
  | .o, .ret => true
  | _, _ => false

theorem aoL_keys : ∀ (os : List Oper) (k : Nat) (l : List (Nat × Inf)), os.map opKey = (aoL k os l).map AO.key
  | [], _, _ => rfl
  | o :: os, k, l => by
    simp only [aoL, List.map_cons]
    rw [aoL_keys os (k + 1) l]
    rfl

theorem ag_reg {P : Program} (hm : P.follows .mixedOrders = true) {id : Nat} {ops : Array Oper} {d y : Bool} {l : List (Nat × Inf)} (h : ((aoL 0 ops.toList l).all (fun a => infOk' P a.op a.inf) && (!d || drawOk y (aoL 0 ops.toList l))) = true) :
    Ag P (.reg d y (aoL 0 ops.toList l)) (.region id ops d) := by
  simp only [Bool.and_eq_true, Bool.or_eq_true, Bool.not_eq_true'] at h
  obtain ⟨h3, h4⟩ := h
  refine ⟨rfl, ⟨aoL_keys _ _ _, h3⟩, fun hd => ⟨hm, draw_sound ?_⟩⟩
  rcases h4 with h4 | h4
  · rw [h4] at hd; cases hd
  · exact h4

theorem ag_of {P : Program} (hm : P.follows .mixedOrders = true) : ∀ (h : Hint) (code : Code), okC P h code = true → Ag P (acOf h code) code := by
  intro h
  induction h with
  | g g x ih => intro code h1; exact ih code h1
  | no => intro code h1; exact (by cases code <;> trivial)
  | d pa l =>
    intro code h1
    cases code <;> simp only [okC, Bool.false_eq_true] at h1
    simp only [Bool.and_eq_true] at h1
    obtain ⟨h3, rfl, h4, h5, h6⟩ := h1
    exact ⟨rfl, ⟨aoL_keys _ _ _, h3⟩, hm, draw_soundC h4 h5 h6⟩
  | o =>
    intro code h1
    cases code <;> simp only [okC, Bool.false_eq_true] at h1 <;> simp only [acOf] <;> first | exact ag_reg hm h1 | trivial | exact (rfl : _ = _)
  | r l =>
    intro code h1
    cases code <;> simp only [okC, Bool.false_eq_true] at h1
    exact ag_reg hm h1
  | y l =>
    intro code h1
    cases code <;> simp only [okC, Bool.false_eq_true] at h1
    exact ag_reg hm h1
  | s a b iha ihb =>
    intro code h1
    cases code <;> simp only [okC, Bool.false_eq_true, Bool.and_eq_true] at h1
    · exact ⟨iha _ h1.1, ihb _ h1.2⟩
    · exact ⟨rfl, iha _ h1.1, ihb _ h1.2⟩
  | b a ih =>
    intro code h1
    cases code <;> simp only [okC, Bool.false_eq_true] at h1
    exact ⟨rfl, ih _ h1⟩
  | l g a ih =>
    intro code h1
    cases code <;> simp only [okC, Bool.false_eq_true] at h1
    exact ih _ h1
  | f g a b iha ihb =>
    intro code h1
    cases code <;> simp only [okC, Bool.false_eq_true, Bool.and_eq_true] at h1
    exact ⟨rfl, rfl, iha _ h1.1, ihb _ h1.2⟩

/-- The hints fit the function. -/
def okF (P : Program) (fn : Func) (h : Hint) (qs : List (Bool × Nat)) : Bool :=
  !(fn.name == "runtime.NumGoroutine") && rinfOk P fn.results.toList qs && (match fn.body with | some c => okC P h c | none => false)

theorem okF_spec {P : Program} {fn : Func} {code : Code} {h : Hint} {qs : List (Bool × Nat)} (hb : fn.body = some code) (hk : okF P fn h qs = true) :
    (fn.name == "runtime.NumGoroutine") = false ∧ rinfOk P fn.results.toList qs = true ∧ okC P h code = true := by
  simp only [okF, hb, Bool.and_eq_true, Bool.not_eq_true'] at hk
  exact ⟨hk.1.1, hk.1.2, hk.2⟩

theorem ok_fn {P : Program} (hm : P.follows .mixedOrders = true) {f : FuncId} {fn : Func} {code : Code} {h : Hint} {qs : List (Bool × Nat)} {args : List PV} {r : PV} (hf : P.funcs[f]? = some fn) (hb : fn.body = some code) (hk : okF P fn h qs = true)
    (hwp : wpA P none (acOf h code) (RetQ fn.results.toList qs r) (initS args fn.ntmps)) : Ok P f args r := by
  obtain ⟨h1, h2, h3⟩ := okF_spec hb hk
  exact ok_of hf h1 hb (ag_of hm h code h3) h2 hwp

theorem iter_fn {P : Program} (hm : P.follows .mixedOrders = true) {f : FuncId} {fn : Func} {code : Code} {h : Hint} {caps : List PV} {items : List (List PV)} (hf : P.funcs[f]? = some fn) (hb : fn.body = some code) (hk : okF P fn h [] = true)
    (hq : fn.results.toList = [])
    (hwp : ∀ l, wpA P (some (l, items)) (acOf h code) (fun e s => match e with | .exit _ => False | _ => s.it = items.length ∨ s.it = items.length + 1) (initS (.fn (.yield l) [] :: caps) fn.ntmps)) : IterOk P (.fn (.func f) caps) items := by
  obtain ⟨h1, h2, h3⟩ := okF_spec hb hk
  exact iter_of hf h1 hb (ag_of hm h code h3) hq hwp

end Go.Proofs.Ytnfomjnmigkpmaa.A
