/- Regions that draw their order: what is told in the text's order is done in every order. -/
import Derived.Test.YtadfcbpakfaaaaaB4
import Derived.Orders
set_option linter.unusedVariables false
set_option linter.unusedSimpArgs false
namespace Go.Proofs.Ytadfcbpakfaaaaa.A
open Go Go.RowKit Go.Shelf

/-! ### What an operation looks at -/
def opds : Op → List Operand
  | .move x | .assign x | .load _ x | .fieldAddr _ x _ | .field _ x _ | .unOp _ _ x | .makeInterface _ x | .extract x _ | .convert _ _ x | .box _ x => [x]
  | .pick c x y => [c, x, y]
  | .indexAddr _ x k => [x, k]
  | .index _ x k => [x, k]
  | .binOp _ _ x y _ => [x, y]
  | .store _ x y => [x, y]
  | .makeSlice _ l c => [l, c]
  | .makeFunc _ _ caps => caps.toList
  | .build _ parts => parts.toList.map (·.2)
  | .buildSlice _ _ parts => parts.toList.map (·.2)
  | .slice _ x lo hi mx => x :: (lo.toList ++ hi.toList ++ mx.toList)
  | .call c => (match c.callee with | .value f => [f] | .invoke r _ => [r] | .builtin _ => []) ++ c.args.toList
  | _ => []

def looksB : Op → Bool
  | .load _ _ => true
  | .store _ _ _ => true
  | _ => false
def turnsB : Op → Bool
  | .store _ _ _ => true
  | _ => false
def usesT : Op → Bool
  | .call c => (match c.callee with | .builtin .append => true | _ => false)
  | _ => false
/-- Is it a call of a function that stands in a slot? -/
def via : Op → Bool
  | .call c => (match c.callee with | .value (.func _) => false | .value _ => true | _ => false)
  | _ => false

def calm (y : Bool) (o : AO) : Bool :=
  (nilTest o).isNone && !(y && via o.op) && match o.op with
  | .alloc _ => false
  | .box _ _ => false
  | .makeSlice _ _ _ => o.inf.agg && o.inf.acc.isEmpty
  | _ => o.inf.acc.isEmpty

def gslot (all : List AO) (o : AO) : Option Nat := match o.guard with
  | some (j, _) => (all[j]?).bind (·.dst)
  | none => none

def slots (all : List AO) (o : AO) : List Nat := (opds o.op).filterMap (fun | .tmp n => some n | _ => none) ++ (gslot all o).toList

def apart (all : List AO) (x y : AO) : Bool := match x.dst with
  | some d => !(slots all y).contains d && y.dst != some d
  | none => true

def indep (v : Bool) (all : List AO) (x y : AO) : Bool :=
  calm v x && calm v y && apart all x y && apart all y x && !(turnsB x.op && looksB y.op) && !(turnsB y.op && looksB x.op) && !(usesT x.op && usesT y.op)

/-- Is x before oi by the edges? -/
def reach (ao : List AO) (x : Nat) : Nat → List Nat → Bool
  | 0, _ => false
  | d + 1, l => l.contains x || l.any fun j => match ao[j]? with | some o => reach ao x d o.pre | none => false

def drawOk (v : Bool) (ao : List AO) : Bool :=
  (List.range ao.length).all fun i => match ao[i]? with
    | none => false
    | some oi => oi.pre.all (fun j => decide (j < i)) && (List.range i).all fun x => match ao[x]? with
      | none => false
      | some ox => oi.pre.contains x || indep v ao ox oi || reach ao x 6 oi.pre

/-! ### What an operation turns -/
structure Up where
  tm : Option (Nat × TV)
  bx : Option (Nat × List TV)
  tk : Option (Nat × Nat)

def Up.on (u : Up) (s : St) : St :=
  { s with
    tm := match u.tm with | some (d, x) => s.tm.set d x | none => s.tm
    bx := match u.bx with | some (b, c) => upd b c s.bx | none => s.bx
    tk := match u.tk with | some (t, n) => upd t n s.tk | none => s.tk }

def put1 (d : Option Nat) (x : TV) : Up := { tm := d.map (·, x), bx := none, tk := none }

theorem put1_on (d : Option Nat) (x : TV) (s : St) : (put1 d x).on s = putT s d x := by
  cases d <;> rfl

/-- The two states look alike to the operation. -/
structure Alike (all : List AO) (o : AO) (s s2 : St) : Prop where
  ops : ∀ x ∈ opds o.op, ev s x = ev s2 x
  gd : ∀ d, gslot all o = some d → s.tm[d]? = s2.tm[d]?
  ro : s.ro = s2.ro
  bx : looksB o.op = true → ∀ z ∈ opds o.op, ∀ b off, ev s z = some (.ptr b off) → lk b s.bx = lk b s2.bx
  tk : usesT o.op = true → s.tk = s2.tk

theorem pvs_congr {s s2 : St} : ∀ {l : List Operand}, (∀ x ∈ l, ev s x = ev s2 x) → pvs s l = pvs s2 l
  | [], _ => rfl
  | x :: l, h => by
    have h1 : pv s x = pv s2 x := by unfold pv; rw [h x (by simp)]
    have h2 := pvs_congr (l := l) fun y hy => h y (by simp [hy])
    simp only [pvs, h1, h2]

theorem capsA_congr {s s2 : St} (hr : s.ro = s2.ro) : ∀ {l : List Operand}, (∀ x ∈ l, ev s x = ev s2 x) → capsA s l = capsA s2 l
  | [], _ => rfl
  | x :: l, h => by
    have h0 : capA s = capA s2 := by funext t; cases t <;> simp only [capA, hr]
    have h2 := capsA_congr hr (l := l) fun y hy => h y (by simp [hy])
    simp only [capsA, h x (by simp), h0, h2]

theorem optPv_congr {s s2 : St} {o : Option Operand} (h : ∀ x ∈ o.toList, ev s x = ev s2 x) : o.map (pv s) = o.map (pv s2) := by
  cases o with
  | none => rfl
  | some x => simp only [Option.map_some, pv, h x (by simp)]

theorem valA_congr {op : Op} {i : Inf} {s s2 : St} (h : ∀ x ∈ opds op, ev s x = ev s2 x) (hr : s.ro = s2.ro) (hb : looksB op = true → ∀ z ∈ opds op, ∀ b off, ev s z = some (.ptr b off) → lk b s.bx = lk b s2.bx) : valA s op i = valA s2 op i := by
  cases op <;> simp only [opds, List.mem_cons, List.not_mem_nil, or_false, forall_eq_or_imp, forall_eq] at h <;> simp only [valA]
  case move => exact h
  case assign => exact h
  case pick => simp only [pv, h.1, h.2.1, h.2.2]
  case load =>
    rename_i x
    have key : ∀ t, ev s x = some t → ldA s i.agg i.n t = ldA s2 i.agg i.n t := fun t ht => by
      cases t with
      | ptr b off => simp only [ldA, hb rfl x (by simp [opds]) b off ht, hr]
      | v p => cases p <;> rfl
      | acc => rfl
      | own => rfl
    rw [← h]
    cases he : ev s x with
    | none => rfl
    | some t => exact key t he
  case fieldAddr => rw [h]
  case field => simp only [pv, h]
  case indexAddr => simp only [pv, h.1, h.2]
  case index => simp only [pv, h.1, h.2]
  case binOp => simp only [h.1, h.2]
  case unOp => simp only [pv, h]
  case makeInterface => simp only [pv, h]
  case extract => simp only [pv, h]
  case makeFunc => rw [capsA_congr hr h]
  case build => rw [pvs_congr h]
  case convert => simp only [pv, h]
  case slice t x lo hi mx =>
    have h0 : pv s x = pv s2 x := by unfold pv; rw [h.1]
    rw [h0, optPv_congr (o := lo) fun x hx => h.2 x (by simp [hx]), optPv_congr (o := hi) fun x hx => h.2 x (by simp [hx]), optPv_congr (o := mx) fun x hx => h.2 x (by simp [hx])]
  case call c =>
    have ha : ∀ x ∈ c.args.toList, ev s x = ev s2 x := fun x hx => h x (by simp [hx])
    split
    · rename_i x h1 h2
      have : pv s x = pv s2 x := by unfold pv; rw [ha x (by rw [h2]; simp)]
      rw [this]
    · rw [pvs_congr ha]
    · rw [pvs_congr ha]
    · rfl

section
variable {P : Program}

/-- What an operation does, as a turn of the state. -/
def Turns (P : Program) (its : Option (Nat × List (List PV))) (all : List AO) (o : AO) (s : St) (u : Up) : Prop :=
  (∀ d x, u.tm = some (d, x) → o.dst = some d) ∧ (∀ b c, u.bx = some (b, c) → ∃ t x y off, o.op = .store t x y ∧ ev s x = some (.ptr b off)) ∧ (u.tk.isSome = true → usesT o.op = true) ∧
    ∀ s2, Alike all o s s2 → ∀ K, K (u.on s2) → wpOp P its all o s2 K

/-- The same, of the operation without its guard. -/
def Turns0 (P : Program) (its : Option (Nat × List (List PV))) (o : AO) (s : St) (u : Up) : Prop :=
  (∀ d x, u.tm = some (d, x) → o.dst = some d) ∧ (∀ b c, u.bx = some (b, c) → ∃ t x y off, o.op = .store t x y ∧ ev s x = some (.ptr b off)) ∧ (u.tk.isSome = true → usesT o.op = true) ∧
    ∀ s2, (∀ x ∈ opds o.op, ev s x = ev s2 x) → s.ro = s2.ro → (looksB o.op = true → ∀ z ∈ opds o.op, ∀ b off, ev s z = some (.ptr b off) → lk b s.bx = lk b s2.bx) → (usesT o.op = true → s.tk = s2.tk) → ∀ K, K (u.on s2) → execB P its s2 o K

theorem Turns.bxB {its : Option (Nat × List (List PV))} {all : List AO} {o : AO} {s : St} {u : Up} (h : Turns P its all o s u) (p : u.bx.isSome = true) : turnsB o.op = true := by
  obtain ⟨⟨b, c⟩, hbc⟩ := Option.isSome_iff_exists.1 p
  obtain ⟨t, x, y, off, ho, _⟩ := h.2.1 b c hbc
  rw [ho]
  rfl

variable {its : Option (Nat × List (List PV))}

theorem put1_tm {o : AO} {x : TV} : ∀ d y, (put1 o.dst x).tm = some (d, y) → o.dst = some d := by
  intro d y h
  cases hd : o.dst with
  | none => simp [put1, hd] at h
  | some d' => simp only [put1, hd, Option.map_some, Option.some.injEq, Prod.mk.injEq] at h; rw [h.1]

theorem turns_val {o : AO} {s : St} {K : St → Prop} (hstep : ∀ s, stepA s o.dst o.op o.inf = (valA s o.op o.inf).map (putT s o.dst))
    (hex : ∀ s K, execB P its s o K = ∃ s', stepA s o.dst o.op o.inf = some s' ∧ K s') (h : ∃ s', stepA s o.dst o.op o.inf = some s' ∧ K s') :
    ∃ u, Turns0 P its o s u ∧ K (u.on s) := by
  obtain ⟨s', h1, h2⟩ := h
  rw [hstep] at h1
  obtain ⟨tv, h3, rfl⟩ := Option.map_eq_some_iff.1 h1
  refine ⟨put1 o.dst tv, ⟨put1_tm, (fun _ _ h => by simp [put1] at h), (fun h => by simp [put1] at h), ?_⟩, by rw [put1_on]; exact h2⟩
  intro s2 ho hr hb ht K' hK
  rw [hex]
  rw [put1_on] at hK
  exact ⟨_, by rw [hstep, ← valA_congr ho hr hb, h3]; rfl, hK⟩

theorem turns_call {o : AO} {s : St} {K : St → Prop} {c : Call} (hv : its = none ∨ via o.op = false) (ho : o.op = .call c) (hb : ∀ b, c.callee ≠ .builtin b) (h : callA P its s o.dst c K) : ∃ u, Turns0 P its o s u ∧ K (u.on s) := by
  have hex : ∀ s K, execB P its s o K = callA P its s o.dst c K := fun s K => by
    unfold execB
    rw [ho]
    simp only
  have key : ∀ r : PV, (∀ s2, (∀ x ∈ opds o.op, ev s x = ev s2 x) → ∀ K' : St → Prop, K' (putT s2 o.dst (.v r)) → callA P its s2 o.dst c K') → K (putT s o.dst (.v r)) → ∃ u, Turns0 P its o s u ∧ K (u.on s) := by
    intro r hr hK
    refine ⟨put1 o.dst (.v r), ⟨put1_tm, (fun _ _ h => by simp [put1] at h), (fun h => by simp [put1] at h), ?_⟩, by rw [put1_on]; exact hK⟩
    intro s2 h2 _ _ _ K' hK'
    rw [hex]
    rw [put1_on] at hK'
    exact hr s2 h2 K' hK'
  unfold callA at h
  split at h
  · exact h.elim
  · rename_i f hf
    have hops : ∀ s2, (∀ x ∈ opds o.op, ev s x = ev s2 x) → ev s f = ev s2 f ∧ pvs s c.args.toList = pvs s2 c.args.toList := fun s2 h2 => by
      rw [ho] at h2
      simp only [opds, hf] at h2
      exact ⟨h2 f (by simp), pvs_congr fun x hx => h2 x (by simp [hx])⟩
    split at h
    · rename_i k caps ps h1 h2
      obtain ⟨r, hOk, hK⟩ := h
      refine key r (fun s2 ha K' hK' => ?_) hK
      obtain ⟨e1, e2⟩ := hops s2 ha
      unfold callA
      rw [hf]
      simp only [← e1, ← e2, h1, h2]
      exact ⟨r, hOk, hK'⟩
    · rename_i l' ps h1 h2
      rcases hv with rfl | hv
      · exact h.elim
      · exfalso
        rw [ho] at hv
        simp only [via, hf] at hv
        cases f <;> simp [ev] at hv h1
    · exact h.elim
  · rename_i rr name hf
    have hops : ∀ s2, (∀ x ∈ opds o.op, ev s x = ev s2 x) → ev s rr = ev s2 rr ∧ pvs s c.args.toList = pvs s2 c.args.toList := fun s2 h2 => by
      rw [ho] at h2
      simp only [opds, hf] at h2
      exact ⟨h2 rr (by simp), pvs_congr fun x hx => h2 x (by simp [hx])⟩
    split at h
    · rename_i t x ps h1 h2
      obtain ⟨f, r, hM, hOk, hK⟩ := h
      refine key r (fun s2 ha K' hK' => ?_) hK
      obtain ⟨e1, e2⟩ := hops s2 ha
      unfold callA
      rw [hf]
      simp only [← e1, ← e2, h1, h2]
      exact ⟨f, r, hM, hOk, hK'⟩
    · exact h.elim

theorem turns_exec {v : Bool} {o : AO} {s : St} {K : St → Prop} (hv : its = none ∨ via o.op = false) (hc : calm v o = true) (h : execB P its s o K) : ∃ u, Turns0 P its o s u ∧ K (u.on s) := by
  obtain ⟨dst, op, guard, pre, inf⟩ := o
  cases op
  case alloc => simp [calm] at hc
  case box => simp [calm] at hc
  case makeSlice t l c =>
    have hagg : inf.agg = true := by simp only [calm, Bool.and_eq_true] at hc; exact hc.2.1
    simp only [execB] at h
    obtain ⟨s', h1, h2⟩ := h
    simp only [stepA] at h1
    split at h1
    · rename_i d k n k' m hl hc'
      rw [if_pos hagg] at h1
      split at h1
      · rename_i hcond
        cases h1
        refine ⟨put1 (some d) (.v (.sl true (List.replicate n.toNat (.s (inf.zero.headD .nilFunc))))), ⟨put1_tm (o := ⟨some d, .makeSlice t l c, guard, pre, inf⟩), (fun _ _ e => by cases e), (fun e => by cases e), ?_⟩, by rw [put1_on]; exact h2⟩
        intro s2 ho _ _ _ K' hK'
        rw [put1_on] at hK'
        simp only [execB]
        refine ⟨_, ?_, hK'⟩
        simp only [opds, List.mem_cons, List.not_mem_nil, or_false, forall_eq_or_imp, forall_eq] at ho
        simp only [stepA, ← ho.1, ← ho.2, hl, hc']
        rw [if_pos hagg, if_pos hcond]
      · cases h1
    · cases h1
  case call c =>
    by_cases hb : ∃ b, c.callee = .builtin b
    · obtain ⟨b, hb⟩ := hb
      obtain ⟨callee, args, ats⟩ := c
      simp only at hb
      subst hb
      by_cases ha : b = .append
      · subst ha
        simp only [execB] at h
        obtain ⟨s', h1, h2⟩ := h
        simp only [stepA] at h1
        split at h1
        · rename_i x y d _ hargs
          split at h1
          · rename_i p ys hx hy
            have hne : inf.acc.isEmpty = true := by simp only [calm, Bool.and_eq_true] at hc; exact hc.2
            have hops : ∀ s2, (∀ z ∈ opds (.call ⟨.builtin .append, args, ats⟩), ev s z = ev s2 z) → ev s2 x = some p ∧ (pv s2 y).bind rowOf = some ys := fun s2 ha => by
              simp only [opds, List.nil_append] at ha
              have e1 := ha x (by rw [hargs]; simp)
              have e2 := ha y (by rw [hargs]; simp)
              refine ⟨by rw [← e1]; exact hx, ?_⟩
              unfold pv at hy ⊢
              rw [← e2]; exact hy
            unfold appA at h1
            split at h1
            · rename_i t els
              split at h1
              · rename_i hfit
                cases h1
                refine ⟨⟨some (d, .acc t (els ++ ys)), none, some (t, els.length + ys.length)⟩, ⟨(fun d' x' e => by cases e; rfl), (fun _ _ e => by cases e), (fun _ => rfl), ?_⟩, h2⟩
                intro s2 ho _ _ ht K' hK'
                obtain ⟨e1, e2⟩ := hops s2 ho
                have ht := ht rfl
                simp only [execB]
                refine ⟨_, ?_, hK'⟩
                simp only [stepA, hargs, e1, e2, appA]
                rw [if_pos (by rw [← ht]; exact hfit)]
                rfl
              · cases h1
            · rw [hne] at h1; simp at h1
            · split at h1
              · rename_i hfit
                cases h1
                rename_i els
                refine ⟨put1 (some d) (.v (.sl false (els ++ ys))), ⟨put1_tm (o := ⟨some d, .call ⟨.builtin .append, args, ats⟩, guard, pre, inf⟩), (fun _ _ e => by cases e), (fun e => by cases e), ?_⟩, by rw [put1_on]; exact h2⟩
                intro s2 ho _ _ _ K' hK'
                obtain ⟨e1, e2⟩ := hops s2 ho
                rw [put1_on] at hK'
                simp only [execB]
                refine ⟨_, ?_, hK'⟩
                simp only [stepA, hargs, e1, e2, appA]
                rw [if_pos hfit, if_pos hne]
              · cases h1
            · cases h1
          · cases h1
        · obtain ⟨tv, hv, _⟩ := Option.map_eq_some_iff.1 h1
          simp [valA] at hv
      · refine turns_val (fun s => ?_) (fun s K => ?_) h
        · simp only [stepA]
          split <;> simp_all
        · simp only [execB]
    · have hb' : ∀ b, c.callee ≠ .builtin b := fun b e => hb ⟨b, e⟩
      refine turns_call (c := c) hv rfl hb' ?_
      simp only [execB] at h
      exact h
  case store t x y =>
    simp only [execB] at h
    obtain ⟨s', h1, h2⟩ := h
    simp only [stepA] at h1
    split at h1
    · rename_i p q hp hq
      obtain ⟨s1, h3, rfl⟩ := Option.map_eq_some_iff.1 h1
      unfold storeA at h3
      split at h3
      · rename_i b off
        split at h3
        · rename_i cs xs hlk hxs
          split at h3
          · rename_i hle
            cases h3
            refine ⟨⟨dst.map (·, .v .junk), some (b, cs.take off ++ xs ++ cs.drop (off + xs.length)), none⟩, ⟨put1_tm (o := ⟨dst, .store t x y, guard, pre, inf⟩) (x := .v .junk), (fun _ _ e => by cases e; exact ⟨t, x, y, off, rfl, hp⟩), (fun e => by cases e), ?_⟩, ?_⟩
            · intro s2 ho _ hb _ K' hK'
              simp only [opds, List.mem_cons, List.not_mem_nil, or_false, forall_eq_or_imp, forall_eq] at ho
              simp only [execB]
              refine ⟨_, ?_, hK'⟩
              rw [hb rfl x (by simp [opds]) _ _ hp] at hlk
              simp only [stepA, ← ho.1, ← ho.2, hp, hq, storeA, hlk, hxs]
              rw [if_pos hle]
              cases dst <;> rfl
            · revert h2
              cases dst <;> exact fun h => h
          · cases h3
        · cases h3
      · cases h3
    · cases h1
  case buildSlice t len parts =>
    simp only [execB] at h
    obtain ⟨s', h1, h2⟩ := h
    simp only [stepA] at h1
    split at h1
    · rename_i ps hps
      split at h1
      · rename_i hcond
        cases h1
        refine ⟨put1 dst (.v (.sl true ps)), ⟨put1_tm (o := ⟨dst, .buildSlice t len parts, guard, pre, inf⟩), (fun _ _ e => by cases e), (fun e => by cases e), ?_⟩, by rw [put1_on]; exact h2⟩
        intro s2 ho _ _ _ K' hK'
        rw [put1_on] at hK'
        simp only [execB]
        refine ⟨_, ?_, hK'⟩
        simp only [opds] at ho
        simp only [stepA, ← pvs_congr ho, hps]
        rw [if_pos hcond]
      · cases h1
    · cases h1
  case assign x =>
    have hne : inf.acc = [] := by simp only [calm, Bool.and_eq_true] at hc; exact List.isEmpty_iff.1 hc.2
    refine turns_val (fun s => ?_) (fun s K => by simp only [execB]) h
    simp only [stepA, hne]
    split <;> simp_all
  all_goals exact turns_val (fun s => rfl) (fun s K => rfl) h

theorem execA_calm {v : Bool} {o : AO} {s : St} {K : St → Prop} (hc : calm v o = true) : execA P its s o K = execB P its s o K := by
  unfold calm at hc
  simp only [Bool.and_eq_true, Option.isNone_iff_eq_none] at hc
  unfold execA
  rw [hc.1.1]

theorem turns_op {v : Bool} {all : List AO} {o : AO} {s : St} {K : St → Prop} (hv : v = true ∨ its = none) (hc : calm v o = true) (h : wpOp P its all o s K) : ∃ u, Turns P its all o s u ∧ K (u.on s) := by
  have hv' : its = none ∨ via o.op = false := by
    rcases hv with rfl | hv
    · simp only [calm, Bool.true_and, Bool.and_eq_true, Bool.not_eq_true'] at hc
      exact .inr hc.1.2
    · exact .inl hv
  unfold wpOp at h
  split at h
  · rename_i hg
    rw [execA_calm hc] at h
    obtain ⟨u, ⟨h1, h2, h3, h4⟩, hK⟩ := turns_exec hv' hc h
    refine ⟨u, ⟨h1, h2, h3, fun s2 ha K' hK' => ?_⟩, hK⟩
    unfold wpOp
    rw [hg]
    simp only [execA_calm hc]
    exact h4 s2 ha.ops ha.ro ha.bx ha.tk K' hK'
  · rename_i j want hg
    have hgs : ∀ s2, Alike all o s s2 → ((all[j]?).bind (·.dst)).bind (s2.tm[·]?) = ((all[j]?).bind (·.dst)).bind (s.tm[·]?) := fun s2 ha => by
      have hgd := ha.gd
      simp only [gslot, hg] at hgd
      cases hd : (all[j]?).bind (·.dst) with
      | none => rfl
      | some d => exact (hgd d hd).symm
    split at h
    · rename_i b hb
      split at h
      · rename_i hbw
        rw [execA_calm hc] at h
        obtain ⟨u, ⟨h1, h2, h3, h4⟩, hK⟩ := turns_exec hv' hc h
        refine ⟨u, ⟨h1, h2, h3, fun s2 ha K' hK' => ?_⟩, hK⟩
        unfold wpOp
        rw [hg]
        simp only [hgs s2 ha, hb]
        rw [if_pos hbw, execA_calm hc]
        exact h4 s2 ha.ops ha.ro ha.bx ha.tk K' hK'
      · rename_i hbw
        refine ⟨put1 o.dst (.v .junk), ⟨put1_tm, (fun _ _ e => by cases e), (fun e => by cases e), fun s2 ha K' hK' => ?_⟩, by rw [put1_on]; exact h⟩
        rw [put1_on] at hK'
        unfold wpOp
        rw [hg]
        simp only [hgs s2 ha, hb]
        rw [if_neg hbw]
        exact hK'
    · exact h.elim

end
end Go.Proofs.Ytadfcbpakfaaaaa.A

/- Regions that draw their order, second part. -/
set_option linter.unusedVariables false
set_option linter.unusedSimpArgs false
namespace Go.Proofs.Ytadfcbpakfaaaaa.A
open Go Go.RowKit Go.Shelf

section
variable {P : Program}

theorem ev_on {all : List AO} {x : AO} {u : Up} {s : St} {z : Operand} (hu : ∀ d y, u.tm = some (d, y) → x.dst = some d) (hz : ∀ n, z = .tmp n → x.dst ≠ some n) : ev (u.on s) z = ev s z := by
  cases z with
  | tmp n =>
    show (u.on s).tm[n]? = s.tm[n]?
    simp only [Up.on]
    split
    · rename_i d y hd
      have := hu d y hd
      have hne : d ≠ n := fun e => hz n rfl (e ▸ this)
      rw [List.getElem?_set_ne hne]
    · rfl
  | _ => rfl

theorem mem_slots_of {all : List AO} {o : AO} {n : Nat} (h : Operand.tmp n ∈ opds o.op) : n ∈ slots all o := by
  simp only [slots, List.mem_append, List.mem_filterMap]
  exact .inl ⟨_, h, rfl⟩

theorem apart_spec {all : List AO} {x y : AO} (h : apart all x y = true) : (∀ n ∈ slots all y, x.dst ≠ some n) ∧ (∀ d, x.dst = some d → y.dst ≠ some d) := by
  unfold apart at h
  split at h
  · rename_i d hd
    simp only [Bool.and_eq_true, Bool.not_eq_true', List.contains_eq_mem, decide_eq_false_iff_not, bne_iff_ne, ne_eq] at h
    rw [hd]
    exact ⟨fun n hn e => by cases e; exact h.1 hn, fun d' e => by cases e; exact h.2⟩
  · rename_i hd
    rw [hd]
    exact ⟨(fun n _ e => by cases e), (fun d e => by cases e)⟩

variable {its : Option (Nat × List (List PV))}

theorem alike_of {all : List AO} {x y : AO} {s : St} {u : Up} (hu : Turns P its all x s u) (hap : apart all x y = true) (hB : ¬ (turnsB x.op = true ∧ looksB y.op = true)) (hT : ¬ (usesT x.op = true ∧ usesT y.op = true)) : Alike all y (u.on s) s := by
  have h2 := hu.bxB
  obtain ⟨h1, _, h3, _⟩ := hu
  obtain ⟨a1, _⟩ := apart_spec hap
  refine ⟨fun z hz => ev_on (all := all) h1 fun n e => a1 n (mem_slots_of (e ▸ hz)), fun d hd => ?_, rfl, fun hl z hz b off he => ?_, fun ht => ?_⟩
  · have : d ∈ slots all y := by simp only [slots, hd, Option.toList_some, List.mem_append]; exact .inr (by simp)
    exact ev_on (all := all) (z := .tmp d) h1 fun n e => by cases e; exact a1 d this
  · simp only [Up.on]
    split
    · rename_i b c hb
      exact absurd ⟨h2 (by rw [hb]; rfl), hl⟩ hB
    · rfl
  · simp only [Up.on]
    split
    · rename_i b c hb
      exact absurd ⟨h3 (by rw [hb]; rfl), ht⟩ hT
    · rfl

theorem Alike.symm {all : List AO} {o : AO} {s s2 : St} (h : Alike all o s s2) : Alike all o s2 s :=
  ⟨fun x hx => (h.ops x hx).symm, fun d hd => (h.gd d hd).symm, h.ro.symm, fun hl z hz b off he => (h.bx hl z hz b off ((h.ops z hz).trans he)).symm, fun ht => (h.tk ht).symm⟩

theorem turnsB_looksB {op : Op} (h : turnsB op = true) : looksB op = true := by cases op <;> simp_all [turnsB, looksB]

theorem on_comm {u v : Up} {s : St} (ht : ∀ d x d' x', u.tm = some (d, x) → v.tm = some (d', x') → d' ≠ d) (hb : u.bx.isSome = true → v.bx.isSome = true → False) (hk : u.tk.isSome = true → v.tk.isSome = true → False) : u.on (v.on s) = v.on (u.on s) := by
  obtain ⟨ut, ub, uk⟩ := u
  obtain ⟨vt, vb, vk⟩ := v
  simp only at ht hb hk
  simp only [Up.on]
  congr 1
  · cases ut with
    | none => cases vt <;> rfl
    | some p =>
      cases vt with
      | none => rfl
      | some q =>
        obtain ⟨d, x⟩ := p
        obtain ⟨d', x'⟩ := q
        exact List.set_comm _ _ (ht d x d' x' rfl rfl)
  · cases ub <;> cases vb <;> first | rfl | exact (hb rfl rfl).elim
  · cases uk <;> cases vk <;> first | rfl | exact (hk rfl rfl).elim

/-- Two operations that do not look at each other change places. -/
theorem swap_ops {v : Bool} {all : List AO} {x y : AO} {s : St} {K : St → Prop} (hv' : v = true ∨ its = none) (hi : indep v all x y = true) (h : wpOp P its all x s fun s1 => wpOp P its all y s1 K) : wpOp P its all y s fun s1 => wpOp P its all x s1 K := by
  simp only [indep, Bool.and_eq_true, Bool.not_eq_true', Bool.and_eq_false_iff] at hi
  obtain ⟨⟨⟨⟨⟨⟨c1, c2⟩, a1⟩, a2⟩, b1⟩, b2⟩, b3⟩ := hi
  have b1' : ¬ (turnsB x.op = true ∧ looksB y.op = true) := fun ⟨p, q⟩ => by rcases b1 with b | b <;> simp_all
  have b2' : ¬ (turnsB y.op = true ∧ looksB x.op = true) := fun ⟨p, q⟩ => by rcases b2 with b | b <;> simp_all
  have b3' : ¬ (usesT x.op = true ∧ usesT y.op = true) := fun ⟨p, q⟩ => by rcases b3 with b | b <;> simp_all
  obtain ⟨u, hu, hy⟩ := turns_op hv' c1 h
  obtain ⟨v, hv, hK⟩ := turns_op hv' c2 hy
  have e1 := alike_of hu a1 b1' b3'
  have hvs : Turns P its all y s v := ⟨hv.1, (fun b c hbc => by
      obtain ⟨t, z, q, off, ho, he⟩ := hv.2.1 b c hbc
      exact ⟨t, z, q, off, ho, (e1.ops z (by rw [ho]; simp [opds])).symm.trans he⟩), hv.2.2.1, fun s2 ha => hv.2.2.2 s2
    ⟨fun z hz => (e1.ops z hz).trans (ha.ops z hz), fun d hd => (e1.gd d hd).trans (ha.gd d hd), e1.ro.trans ha.ro, fun hl z hz b off he => (e1.bx hl z hz b off he).trans (ha.bx hl z hz b off ((e1.ops z hz).symm.trans he)), fun ht => (e1.tk ht).trans (ha.tk ht)⟩⟩
  have e2 := alike_of hvs a2 b2' fun ⟨p, q⟩ => b3' ⟨q, p⟩
  refine hv.2.2.2 s e1 _ ?_
  refine hu.2.2.2 _ e2.symm _ ?_
  have e : u.on (v.on s) = v.on (u.on s) := on_comm
    (fun d x d' x' p q => fun e => (apart_spec a1).2 d (hu.1 d x p) (e ▸ hv.1 d' x' q))
    (fun p q => b1' ⟨hu.bxB p, turnsB_looksB (hv.bxB q)⟩) (fun p q => b3' ⟨hu.2.2.1 p, hv.2.2.1 q⟩)
  rw [e]
  exact hK

theorem callA_mono {its' : Option (Nat × List (List PV))} (he : its' = none ∨ its' = its) {s : St} {d : Option Nat} {c : Call} {K K' : St → Prop} (hK : ∀ s, K s → K' s) (h : callA P its' s d c K) : callA P its s d c K' := by
  unfold callA at h ⊢
  split at h
  · exact h.elim
  · split at h
    · obtain ⟨r, h1, h2⟩ := h; exact ⟨r, h1, hK _ h2⟩
    · rcases he with rfl | rfl
      · exact h.elim
      · split at h
        · exact ⟨h.1, h.2.1, h.2.2.1, h.2.2.2.1, hK _ h.2.2.2.2.1, hK _ h.2.2.2.2.2⟩
        · exact h.elim
    · exact h.elim
  · split at h
    · obtain ⟨f, r, h1, h2, h3⟩ := h; exact ⟨f, r, h1, h2, hK _ h3⟩
    · exact h.elim

theorem execB_mono {its' : Option (Nat × List (List PV))} (he : its' = none ∨ its' = its) {s : St} {o : AO} {K K' : St → Prop} (hK : ∀ s, K s → K' s) (h : execB P its' s o K) : execB P its s o K' := by
  unfold execB at h ⊢
  split at h
  · split at h
    · obtain ⟨s', h1, h2⟩ := h; exact ⟨s', h1, hK _ h2⟩
    · exact callA_mono he hK h
  · obtain ⟨s', h1, h2⟩ := h
    exact ⟨s', h1, hK _ h2⟩

theorem execA_mono {its' : Option (Nat × List (List PV))} (he : its' = none ∨ its' = its) {s : St} {o : AO} {K K' : St → Prop} (hK : ∀ s, K s → K' s) (h : execA P its' s o K) : execA P its s o K' := by
  unfold execA at h ⊢
  split at h
  · unfold nilA at h ⊢
    split at h
    · exact fun b hb => hK _ (h b hb)
    · exact hK _ h
    · exact h.elim
  · exact execB_mono he hK h

theorem wpOp_mono' {its' : Option (Nat × List (List PV))} (he : its' = none ∨ its' = its) {all : List AO} {s : St} {o : AO} {K K' : St → Prop} (hK : ∀ s, K s → K' s) (h : wpOp P its' all o s K) : wpOp P its all o s K' := by
  unfold wpOp at h ⊢
  split at h
  · exact execA_mono he hK h
  · split at h
    · split at h
      · rw [if_pos ‹_›]; exact execA_mono he hK h
      · rw [if_neg ‹_›]; exact hK _ h
    · exact h.elim

/-- The operations of these numbers, one behind the other. -/
def wpL (P : Program) (its : Option (Nat × List (List PV))) (all : List AO) : List Nat → St → (St → Prop) → Prop
  | [], s, K => K s
  | i :: l, s, K => match all[i]? with
    | some o => wpOp P its all o s fun s' => wpL P its all l s' K
    | none => False

theorem wpL_cons {all : List AO} {i : Nat} {l : List Nat} {s : St} {K : St → Prop} : wpL P its all (i :: l) s K ↔ ∃ o, all[i]? = some o ∧ wpOp P its all o s fun s' => wpL P its all l s' K := by
  simp only [wpL]
  cases all[i]? with
  | none => simp
  | some o => simp

theorem wpL_range {all : List AO} {K : St → Prop} : ∀ (n k : Nat), k + n = all.length → ∀ {s : St}, wpOpsA P its all (all.drop k) s K → wpL P its all (List.range' k n) s K
  | 0, k, hk, s, h => by rw [List.drop_eq_nil_of_le (by omega)] at h; exact h
  | n + 1, k, hk, s, h => by
    have hlt : k < all.length := by omega
    rw [List.drop_eq_getElem_cons hlt] at h
    rw [List.range'_succ, wpL_cons]
    exact ⟨_, List.getElem?_eq_getElem hlt, wpOp_mono' (.inr rfl) (fun s' => wpL_range n (k + 1) (by omega)) h⟩

/-- What may come first, comes first. -/
theorem wpL_first {v : Bool} {all : List AO} (hv : v = true ∨ its = none) {i : Nat} {oi : AO} (hoi : all[i]? = some oi) {K : St → Prop} {l2 : List Nat} : ∀ (l1 : List Nat), (∀ x ∈ l1, ∃ ox, all[x]? = some ox ∧ indep v all ox oi = true) → ∀ {s : St}, wpL P its all (l1 ++ i :: l2) s K → wpL P its all (i :: (l1 ++ l2)) s K
  | [], _, _, h => h
  | x :: l1, hx, s, h => by
    obtain ⟨ox, h1, h2⟩ := hx x (by simp)
    rw [List.cons_append, wpL_cons] at h
    obtain ⟨ox', h3, h4⟩ := h
    rw [h1] at h3
    cases h3
    have h5 : wpOp P its all ox s fun s' => wpOp P its all oi s' fun s'' => wpL P its all (l1 ++ l2) s'' K := wpOp_mono' (.inr rfl) (fun s' hs' => by
      have := wpL_first hv hoi l1 (fun y hy => hx y (by simp [hy])) hs'
      rw [wpL_cons] at this
      obtain ⟨o', k1, k2⟩ := this
      rw [hoi] at k1
      cases k1
      exact k2) h4
    rw [wpL_cons]
    refine ⟨oi, hoi, wpOp_mono' (.inr rfl) (fun s' hs' => ?_) (swap_ops hv h2 h5)⟩
    rw [List.cons_append, wpL_cons]
    exact ⟨ox, h1, hs'⟩

theorem reach_succ (ao : List AO) (x : Nat) : ∀ (d : Nat) (l : List Nat), reach ao x d l = true → reach ao x (d + 1) l = true
  | 0, l, h => by simp [reach] at h
  | d + 1, l, h => by
    rw [reach] at h ⊢
    simp only [Bool.or_eq_true, List.any_eq_true] at h ⊢
    rcases h with h | ⟨j, hj, h⟩
    · exact .inl h
    · refine .inr ⟨j, hj, ?_⟩
      split at h
      · exact reach_succ ao x d _ h
      · cases h

theorem drawOk_spec {v : Bool} {ao : List AO} (h : drawOk v ao = true) {i : Nat} {oi : AO} (hi : ao[i]? = some oi) : (∀ j ∈ oi.pre, j < i) ∧ ∀ x, x < i → reach ao x 7 oi.pre = false → ∃ ox, ao[x]? = some ox ∧ indep v ao ox oi = true := by
  have hlt := (List.getElem?_eq_some_iff.1 hi).1
  have := List.all_eq_true.1 h i (List.mem_range.2 hlt)
  rw [hi] at this
  simp only [Bool.and_eq_true, List.all_eq_true, decide_eq_true_eq, List.mem_range] at this
  refine ⟨this.1, fun x hx hn => ?_⟩
  have := this.2 x hx
  split at this
  · cases this
  · rename_i ox hox
    refine ⟨ox, hox, ?_⟩
    have e : oi.pre.contains x = false := by
      simp only [reach, Bool.or_eq_false_iff] at hn
      exact hn.1
    have e2 : reach ao x 6 oi.pre = false := by
      cases hr : reach ao x 6 oi.pre with
      | false => rfl
      | true => rw [reach_succ ao x 6 _ hr] at hn; cases hn
    rw [e, e2] at this
    simpa using this

/-- What is before a listed one is listed. -/
theorem reach_listed {ao : List AO} {listed : Array Bool} (hdc : ∀ i oi, ao[i]? = some oi → listed.getD i false = true → ∀ j ∈ oi.pre, listed.getD j false = true) {x : Nat} : ∀ (d : Nat) (l : List Nat), (∀ j ∈ l, listed.getD j false = true) → reach ao x d l = true → listed.getD x false = true
  | 0, l, _, h => by simp [reach] at h
  | d + 1, l, hl, h => by
    simp only [reach, Bool.or_eq_true, List.contains_eq_mem, decide_eq_true_eq, List.any_eq_true] at h
    rcases h with h | ⟨j, hj, h⟩
    · exact hl x h
    · split at h
      · rename_i o ho
        exact reach_listed hdc d o.pre (hdc j o ho (hl j hj)) h
      · cases h

theorem sound_go {v : Bool} {ao : List AO} {ops : Array Oper} (hok : drawOk v ao = true) (hag : OpsAgree P ao ops) {its' : Option (Nat × List (List PV))} (he : its' = none ∨ its' = its) (hv : v = true ∨ its' = none) {w00 : World} {I00 : Imm} {Jt : Nat → Imm → World → Prop} {ro : Option Nat} (hctx : Ctx P its Jt) {Q : XA → St → Prop} {sav : List (Array Value)}
    (Iz : Imm) (wz : World) : ∀ (fuel t : Nat) (listed : Array Bool), listed.size = ops.size → (∀ i oi, ao[i]? = some oi → listed.getD i false = true → ∀ j ∈ oi.pre, listed.getD j false = true) → ((List.range ops.size).filter fun i => !listed.getD i true).length = fuel →
    ∀ {I : Imm} {w : World} {s : St} {a : Act} {w0 : World} {I0 : Imm} {β : Nat → Nat} {κ : Nat → Nat × Nat × Nat}, Iz.le I → (its = none → KeepsOthers wz w) → (its.isSome = true → a.defers = []) → Base its w00 I00 Jt s.it w0 I0 → Sim w0 I0 I β κ s sav a w →
      wpL P its' ao ((List.range ops.size).filter fun i => !listed.getD i true) s (Q .normal) →
      wpOpsIn (wideR ro) 0 P ops (PostA its (Base its w00 I00 Jt) Iz sav wz Q) (Region.linearise.go .any ops fuel t listed []) a w
  | 0, t, listed, hsz, hdc, hlen, I, w, s, a, w0, I0, β, κ, hle, hk, hdf, hB, h, hs => by
    rw [List.length_eq_zero_iff.1 hlen] at hs
    exact ⟨s, I, hs, hle, hk, hdf, w0, I0, β, κ, hB, h⟩
  | fuel + 1, t, listed, hsz, hdc, hlen, I, w, s, a, w0, I0, β, κ, hle, hk, hdf, hB, h, hs => by
    have hsort : ((List.range ops.size).filter fun i => !listed.getD i true).Pairwise (· < ·) := List.Pairwise.filter _ List.pairwise_lt_range
    have hlisted : ∀ j, j < ops.size → listed.getD j false = listed.getD j true := fun j hj => by
      have : j < listed.size := by omega
      simp [Array.getD, this]
    -- who is ready
    have hready : ∀ i, i ∈ Region.ready .any ops listed ↔ i < ops.size ∧ listed.getD i true = false ∧ ∀ oi, ao[i]? = some oi → ∀ j ∈ oi.pre, listed.getD j false = true := by
      intro i
      simp only [Region.ready, List.mem_filter, List.mem_range, Bool.and_eq_true, Bool.not_eq_true']
      refine and_congr_right fun hi => and_congr_right fun _ => ?_
      obtain ⟨oi, h1, _, _, _, h5, _⟩ := hag.get (Array.getElem?_eq_getElem hi)
      rw [Array.getElem?_eq_getElem hi]
      simp only [Option.map_some, Option.getD_some, h1, Option.some.injEq, forall_eq']
      rw [h5]
      rw [Array.all_eq_true']
      constructor
      · intro hx j hj
        obtain ⟨e, he, rfl⟩ := List.mem_map.1 hj
        obtain ⟨he1, hb⟩ := List.mem_filter.1 he
        have := hx e (by simpa using he1)
        rw [hb] at this
        simpa using this
      · intro hx e he
        cases hb : Region.binds .any e with
        | false => rfl
        | true =>
          have := hx e.on (List.mem_map.2 ⟨e, List.mem_filter.2 ⟨by simpa using he, hb⟩, rfl⟩)
          simpa using this
    have hne : Region.ready .any ops listed ≠ [] := by
      obtain ⟨x, L', hL⟩ : ∃ x L', ((List.range ops.size).filter fun i => !listed.getD i true) = x :: L' := by
        cases hL : ((List.range ops.size).filter fun i => !listed.getD i true) with
        | nil => rw [hL] at hlen; cases hlen
        | cons x L' => exact ⟨x, L', rfl⟩
      have hx : x ∈ ((List.range ops.size).filter fun i => !listed.getD i true) := by rw [hL]; simp
      simp only [List.mem_filter, List.mem_range, Bool.not_eq_true'] at hx
      refine List.ne_nil_of_mem ((hready x).2 ⟨hx.1, hx.2, fun oi hoi j hj => ?_⟩)
      have hjx := (drawOk_spec hok hoi).1 j hj
      rw [hlisted j (by omega)]
      cases hl : listed.getD j true with
      | true => rfl
      | false =>
        have hm : j ∈ ((List.range ops.size).filter fun i => !listed.getD i true) := by simp only [List.mem_filter, List.mem_range, Bool.not_eq_true']; exact ⟨by omega, hl⟩
        rw [hL] at hm hsort
        rcases List.mem_cons.1 hm with hm | hm
        · omega
        · have := (List.pairwise_cons.1 hsort).1 j hm
          omega
    have hlt : t % (Region.ready .any ops listed).length < (Region.ready .any ops listed).length := Nat.mod_lt _ (List.length_pos_iff.2 hne)
    obtain ⟨i, hi⟩ : ∃ i, (Region.ready .any ops listed)[t % (Region.ready .any ops listed).length]? = some i := ⟨_, List.getElem?_eq_getElem hlt⟩
    have hgo : Region.linearise.go .any ops (fuel + 1) t listed [] = i :: Region.linearise.go .any ops fuel (t / (Region.ready .any ops listed).length) (listed.setIfInBounds i true) [] := by
      simp only [Region.linearise.go]
      change (match (Region.ready .any ops listed)[t % (Region.ready .any ops listed).length]? with
        | some i => Region.linearise.go .any ops fuel (t / (Region.ready .any ops listed).length) (listed.setIfInBounds i true) [i]
        | none => [].reverse) = _
      rw [hi]
      simp only []
      rw [linearise_go_acc]
      rfl
    rw [hgo]
    obtain ⟨hi1, hi2, hi3⟩ := (hready i).1 (List.mem_of_getElem? hi)
    have him : i ∈ ((List.range ops.size).filter fun i => !listed.getD i true) := by simp only [List.mem_filter, List.mem_range, Bool.not_eq_true']; exact ⟨hi1, hi2⟩
    obtain ⟨L1, L2, hL⟩ := List.append_of_mem him
    have hilt : i < ao.length := by rw [hag.length]; exact hi1
    have hoi : ao[i]? = some ao[i] := List.getElem?_eq_getElem hilt
    have hL1 : ∀ x ∈ L1, ∃ ox, ao[x]? = some ox ∧ indep v ao ox ao[i] = true := by
      intro x hx
      have hxm : x ∈ ((List.range ops.size).filter fun i => !listed.getD i true) := by rw [hL]; simp [hx]
      simp only [List.mem_filter, List.mem_range, Bool.not_eq_true'] at hxm
      rw [hL] at hsort
      have hxi : x < i := (List.pairwise_append.1 hsort).2.2 x hx i (by simp)
      refine (drawOk_spec hok hoi).2 x hxi (Bool.eq_false_iff.2 fun hp => ?_)
      have := reach_listed hdc 7 _ (hi3 _ hoi) hp
      rw [hlisted x hxm.1, hxm.2] at this
      cases this
    have hL' : ((List.range ops.size).filter fun j => !(listed.setIfInBounds i true).getD j true) = L1 ++ L2 := by
      have e1 : ((List.range ops.size).filter fun j => !(listed.setIfInBounds i true).getD j true) = ((List.range ops.size).filter fun i => !listed.getD i true).filter (· != i) := by
        rw [List.filter_filter]
        refine List.filter_congr fun j hj => ?_
        have hj' := List.mem_range.1 hj
        by_cases e : j = i
        · subst e
          have : j < listed.size := by omega
          simp [Array.getD, this]
        · have e' : i ≠ j := fun h => e h.symm
          simp [getD_set_ne true e', e]
      rw [e1, hL]
      rw [hL] at hsort
      have hs2 := List.pairwise_append.1 hsort
      rw [List.filter_append, List.filter_cons]
      have f1 : L1.filter (· != i) = L1 := List.filter_eq_self.2 fun x hx => by
        have := hs2.2.2 x hx i (by simp)
        simp only [bne_iff_ne, ne_eq]
        omega
      have f2 : L2.filter (· != i) = L2 := List.filter_eq_self.2 fun x hx => by
        have := (List.pairwise_cons.1 hs2.2.1).1 x hx
        simp only [bne_iff_ne, ne_eq]
        omega
      rw [f1, f2]
      simp
    rw [hL] at hs
    have hs1 := wpL_first hv hoi L1 hL1 hs
    rw [wpL_cons] at hs1
    obtain ⟨oi, k1, k2⟩ := hs1
    rw [hoi] at k1
    cases k1
    refine sound_op hag hctx hoi hdf hB h (wpOp_mono' he (fun _ hk => hk) k2) ?_
    intro s' a' w' J hle' hkeep' hsat hK
    obtain ⟨hdf1, w1, I1, β1, κ1, hB1, h1⟩ := hsat
    refine sound_go hok hag he hv hctx Iz wz fuel _ _ (by simpa using hsz) ?_ ?_ (Imm.le_trans hle hle') (fun e => (hk e).trans (hkeep' e)) hdf1 hB1 h1 (by rw [hL']; exact hK)
    · intro k ok hk' hkl j hj
      by_cases e : k = i
      · subst e
        exact getD_set_true (hi3 ok hk' j hj)
      · have e' : i ≠ k := fun h => e h.symm
        rw [getD_set_ne false e'] at hkl
        exact getD_set_true (hdc k ok hk' hkl j hj)
    rw [hL']
    rw [hL] at hlen
    simp only [List.length_append, List.length_cons] at hlen ⊢
    omega

theorem draw_sound {v : Bool} {ao : List AO} (hok : drawOk v ao = true) : DrawSound P v ao := by
  intro ops hag hmix its w00 I00 Jt ro Q I w s sav a w0 I0 β κ t hctx hdf hB h hs
  unfold Region.linearise
  have hall : ((List.range ops.size).filter fun i => !(Array.replicate ops.size false).getD i true) = List.range ops.size := List.filter_eq_self.2 fun i hi => by
    have := List.mem_range.1 hi
    simp [Array.getD, this]
  have hv : (v = true ∨ (if v = true then its else none) = none) := by cases v <;> simp
  have he : (if v = true then its else none) = none ∨ (if v = true then its else none) = its := by cases v <;> simp
  refine sound_go hok hag he hv hctx I w ops.size t _ (by simp) (fun i oi _ h => by simp [Array.getD] at h) (by rw [hall]; simp) (Imm.le_refl _) (fun _ => KeepsOthers.drew w) hdf hB h.drew ?_
  rw [hall, List.range_eq_range']
  have hl := hag.length
  exact wpL_range ops.size 0 (by omega) (by rw [List.drop_zero]; exact hs)

end
end Go.Proofs.Ytadfcbpakfaaaaa.A

/- Regions that draw their order, and make variables. -/
set_option linter.unusedVariables false
set_option linter.unusedSimpArgs false
namespace Go.Proofs.Ytadfcbpakfaaaaa.A
open Go Go.RowKit Go.Shelf

def tkAll : List (Nat × Nat) → List (Nat × Nat) → List (Nat × Nat)
  | [], l => l
  | p :: ps, l => tkAll ps (upd p.2 0 l)

theorem tkAll_upd {t n : Nat} : ∀ (ps : List (Nat × Nat)) (l : List (Nat × Nat)), (∀ p ∈ ps, p.2 ≠ t) → tkAll ps (upd t n l) = upd t n (tkAll ps l)
  | [], _, _ => rfl
  | p :: ps, l, h => by
    simp only [tkAll]
    rw [upd_comm (h p (by simp)), tkAll_upd ps _ fun q hq => h q (by simp [hq])]

theorem tkAll_comm : ∀ (ps qs l : List (Nat × Nat)), (∀ p ∈ ps, ∀ q ∈ qs, p.2 ≠ q.2) → tkAll ps (tkAll qs l) = tkAll qs (tkAll ps l)
  | [], _, _, _ => rfl
  | p :: ps, qs, l, h => by
    simp only [tkAll]
    rw [← tkAll_upd qs l fun q hq e => h p (by simp) q hq e.symm, tkAll_comm ps qs _ fun p' hp' => h p' (by simp [hp'])]

theorem killPtr_free {d : Nat} {ts : List Nat} {t : TV} (h : t.freeB d ts = true) : t.killPtr d = t := by
  cases t <;> simp_all [TV.freeB, TV.killPtr]
theorem killTok_free {d k : Nat} {ts : List Nat} (hk : k ∈ ts) {t : TV} (h : t.freeB d ts = true) : t.killTok k = t := by
  cases t with
  | acc t els =>
    simp only [TV.freeB, Bool.not_eq_true', List.contains_eq_mem, decide_eq_false_iff_not] at h
    have : t ≠ k := fun e => h (e ▸ hk)
    simp [TV.killTok, this]
  | _ => rfl

theorem map_same {f : TV → TV} {l : List TV} (h : ∀ t ∈ l, f t = t) : l.map f = l := by
  rw [List.map_congr_left h, List.map_id']

theorem mapTV_same {f : TV → TV} {s : St} (h1 : ∀ t ∈ s.tm, f t = t) (h2 : ∀ q ∈ s.bx, ∀ t ∈ q.2, f t = t) (h3 : ∀ l ∈ s.sv, ∀ t ∈ l, f t = t) : s.mapTV f = s := by
  obtain ⟨tm, bx, ro, tk, sv, it⟩ := s
  have e1 : tm.map f = tm := map_same h1
  have e2 : (bx.map fun p => (p.1, p.2.map f)) = bx := by
    have : ∀ p ∈ bx, (p.1, p.2.map f) = p := fun p hp => by rw [map_same (h2 p hp)]
    rw [List.map_congr_left this, List.map_id']
  have e3 : (sv.map fun l => l.map f) = sv := by
    have : ∀ l ∈ sv, l.map f = l := fun l hl => map_same (h3 l hl)
    rw [List.map_congr_left this, List.map_id']
  simp only [St.mapTV, e1, e2, e3]

theorem freeB_iff {p : Nat × List Nat} {s : St} : s.freeB p = true ↔ lk p.1 s.bx = none ∧ (∀ t ∈ s.tm, t.freeB p.1 p.2 = true) ∧ (∀ q ∈ s.bx, ∀ t ∈ q.2, t.freeB p.1 p.2 = true) ∧ ∀ l ∈ s.sv, ∀ t ∈ l, t.freeB p.1 p.2 = true := by
  simp only [St.freeB, Bool.and_eq_true, Option.isNone_iff_eq_none, List.all_eq_true, and_assoc]

theorem freeAll_iff {ps : List (Nat × List Nat)} {s : St} : freeAll ps s = true ↔ ∀ p ∈ ps, s.freeB p = true := by
  induction ps with
  | nil => simp [freeAll]
  | cons p ps ih => simp [freeAll, ih]

/-- What making a variable does, where nothing names it. -/
def aOn (d : Nat) (i : Inf) (s : St) : St := { s with tm := s.tm.set d (.ptr d 0), bx := upd d (zeroT i) s.bx, tk := tkAll i.acc s.tk }

theorem newToks_free {d : Nat} {ts : List Nat} : ∀ (l : List (Nat × Nat)) (s : St), (∀ p ∈ l, p.2 ∈ ts) → s.freeB (d, ts) = true → newToks l s = { s with tk := tkAll l s.tk }
  | [], s, _, _ => rfl
  | p :: l, s, h, hf => by
    obtain ⟨_, f2, f3, f4⟩ := freeB_iff.1 hf
    have hk := h p (by simp)
    have e : s.newTok p.2 = { s with tk := upd p.2 0 s.tk } := by
      unfold St.newTok
      rw [mapTV_same (fun t ht => killTok_free hk (f2 t ht)) (fun q hq t ht => killTok_free hk (f3 q hq t ht)) (fun l hl t ht => killTok_free hk (f4 l hl t ht))]
    simp only [newToks]
    rw [e, newToks_free l _ (fun q hq => h q (by simp [hq])) (by rw [← hf]; rfl)]
    rfl

theorem zeroT_mem (i : Inf) : ∀ t ∈ zeroT i, (∃ v, t = .v (.s v)) ∨ ∃ p ∈ i.acc, t = .acc p.2 [] := by
  have key : ∀ (acc : List (Nat × Nat)) (l : List TV) (hl : ∀ t ∈ l, (∃ v, t = .v (.s v)) ∨ ∃ p ∈ i.acc, t = .acc p.2 []) (ha : ∀ p ∈ acc, p ∈ i.acc), ∀ t ∈ acc.foldl (fun l p => l.set p.1 (.acc p.2 [])) l, (∃ v, t = .v (.s v)) ∨ ∃ p ∈ i.acc, t = .acc p.2 [] := by
    intro acc
    induction acc with
    | nil => exact fun l hl _ => hl
    | cons p acc ih =>
      intro l hl ha
      refine ih _ (fun t ht => ?_) fun q hq => ha q (by simp [hq])
      rcases List.mem_or_eq_of_mem_set ht with ht | ht
      · exact hl t ht
      · exact .inr ⟨p, ha p (by simp), ht⟩
  refine key i.acc _ (fun t ht => ?_) fun p hp => hp
  obtain ⟨v, _, rfl⟩ := List.mem_map.1 ht
  exact .inl ⟨v, rfl⟩

theorem zeroT_kill (i : Inf) (d : Nat) : (zeroT i).map (TV.killPtr d) = zeroT i := map_same fun t ht => by
  rcases zeroT_mem i t ht with ⟨v, rfl⟩ | ⟨p, _, rfl⟩ <;> rfl

section
variable {P : Program}

theorem allocD_spec {o : AO} {d : Nat} {ts : List Nat} (h : allocD o = some (d, ts)) : (∃ t, o.op = .alloc t) ∧ o.dst = some d ∧ o.guard = none ∧ ts = o.inf.acc.map (·.2) := by
  unfold allocD at h
  split at h
  · rename_i t d' h1 h2 h3
    cases h
    exact ⟨⟨t, h1⟩, h2, h3, rfl⟩
  · cases h

theorem alloc_wp {its : Option (Nat × List (List PV))} {all : List AO} {o : AO} {d : Nat} {ts : List Nat} {s : St} {K : St → Prop} (ho : allocD o = some (d, ts)) (hf : s.freeB (d, ts) = true) :
    wpOp P its all o s K ↔ (lk d s.ro).isNone = true ∧ K (aOn d o.inf s) := by
  obtain ⟨⟨t, h1⟩, h2, h3, rfl⟩ := allocD_spec ho
  obtain ⟨f1, f2, f3, f4⟩ := freeB_iff.1 hf
  have e : stepA s o.dst o.op o.inf = if (lk d s.ro).isNone = true then some (aOn d o.inf s) else none := by
    rw [h1, h2]
    simp only [stepA]
    have e1 := newToks_free o.inf.acc s (d := d) (ts := o.inf.acc.map (·.2)) (fun p hp => List.mem_map_of_mem hp) hf
    rw [e1]
    unfold St.newBox
    rw [mapTV_same (f := TV.killPtr d) (s := { s with tk := tkAll o.inf.acc s.tk }) (fun t ht => killPtr_free (f2 t ht)) (fun q hq t ht => killPtr_free (f3 q hq t ht)) (fun l hl t ht => killPtr_free (f4 l hl t ht)), zeroT_kill]
    rfl
  have hn : nilTest o = none := by
    unfold nilTest
    rw [h1]
  have hB : execB P its s o K ↔ ∃ s', stepA s o.dst o.op o.inf = some s' ∧ K s' := by
    unfold execB
    rw [h1]
  unfold wpOp
  rw [h3]
  simp only [execA, hn]
  rw [hB, e]
  by_cases h : (lk d s.ro).isNone = true
  · simp [h]
  · simp [h]

/-- Two new variables have nothing in common. -/
def apartD (p q : Nat × List Nat) : Prop := p.1 ≠ q.1 ∧ (∀ t ∈ p.2, t ∉ q.2) ∧ ∀ t ∈ q.2, t ∉ p.2

theorem mem_upd {β : Type} {k : Nat} {x : β} : ∀ {l : List (Nat × β)} {q : Nat × β}, q ∈ upd k x l → q = (k, x) ∨ q ∈ l
  | [], q, h => by simp only [upd, List.mem_singleton] at h; exact .inl h
  | (j, y) :: l, q, h => by
    simp only [upd] at h
    split at h
    · rcases List.mem_cons.1 h with h | h
      · exact .inl h
      · exact .inr (by simp [h])
    · split at h
      · rcases List.mem_cons.1 h with h | h
        · exact .inl h
        · exact .inr h
      · rcases List.mem_cons.1 h with h | h
        · exact .inr (by simp [h])
        · rcases mem_upd h with h | h
          · exact .inl h
          · exact .inr (by simp [h])
theorem upd_mem {β : Type} {k : Nat} {x : β} : ∀ (l : List (Nat × β)), (k, x) ∈ upd k x l
  | [] => by simp [upd]
  | (j, y) :: l => by
    simp only [upd]
    split
    · simp
    · split
      · simp
      · exact List.mem_cons_of_mem _ (upd_mem l)

theorem freeB_aOn {p : Nat × List Nat} {d : Nat} {i : Inf} {s : St} (h : s.freeB p = true) (hap : apartD (d, i.acc.map (·.2)) p) : (aOn d i s).freeB p = true := by
  obtain ⟨f1, f2, f3, f4⟩ := freeB_iff.1 h
  obtain ⟨h1, h2, _⟩ := hap
  have hne : ¬ p.1 = d := fun e => h1 e.symm
  refine freeB_iff.2 ⟨?_, fun t ht => ?_, fun q hq t ht => ?_, f4⟩
  · show lk p.1 (upd d (zeroT i) s.bx) = none
    rw [lk_upd, if_neg hne, f1]
  · rcases List.mem_or_eq_of_mem_set ht with ht | rfl
    · exact f2 t ht
    · simp only [TV.freeB, bne_iff_ne, ne_eq]
      exact fun e => hne e.symm
  · rcases mem_upd hq with rfl | hq
    · rcases zeroT_mem i t ht with ⟨v, rfl⟩ | ⟨p', hp', rfl⟩
      · rfl
      · have := h2 p'.2 (List.mem_map_of_mem hp')
        simp [TV.freeB, this]
    · exact f3 q hq t ht

theorem freeB_on {p : Nat × List Nat} {u v : Up} {s : St} (h : s.freeB p = true) (h2 : (v.on (u.on s)).freeB p = true) : (v.on s).freeB p = true := by
  obtain ⟨f1, f2, f3, f4⟩ := freeB_iff.1 h
  obtain ⟨g1, g2, g3, g4⟩ := freeB_iff.1 h2
  obtain ⟨vt, vb, vk⟩ := v
  have hlen : (u.on s).tm.length = s.tm.length := by
    unfold Up.on
    cases u.tm <;> simp
  refine freeB_iff.2 ⟨?_, fun t ht => ?_, fun q hq t ht => ?_, f4⟩
  · cases vb with
    | none => exact f1
    | some bc =>
      obtain ⟨b, c⟩ := bc
      simp only [Up.on] at g1 ⊢
      rw [lk_upd] at g1 ⊢
      split at g1
      · cases g1
      · rename_i hne
        rw [if_neg hne, f1]
  · cases vt with
    | none => exact f2 t ht
    | some dx =>
      obtain ⟨d, x⟩ := dx
      simp only [Up.on] at ht g2
      rcases List.mem_or_eq_of_mem_set ht with ht' | rfl
      · exact f2 t ht'
      · by_cases hd : d < s.tm.length
        · refine g2 t ?_
          refine List.mem_iff_getElem.2 ⟨d, ?_, ?_⟩
          · rw [List.length_set]
            have := hlen
            unfold Up.on at this
            simp only at this
            omega
          · simp
        · rw [List.set_eq_of_length_le (by omega)] at ht
          exact f2 t ht
  · cases vb with
    | none => exact f3 q hq t ht
    | some bc =>
      obtain ⟨b, c⟩ := bc
      simp only [Up.on] at hq g3
      rcases mem_upd hq with rfl | hq
      · exact g3 _ (upd_mem _) t ht
      · exact f3 q hq t ht

/-- x reads through a slot, y writes through another one: of these it is known that they point to two variables. -/
def indepP (pa : List (Nat × Nat)) (all : List AO) (x y : AO) : Bool :=
  calm false x && calm false y && apart all x y && apart all y x && !(usesT x.op && usesT y.op) && match x.op, y.op with
    | .load _ (.tmp n), .store _ (.tmp m) _ => pa.contains (n, m)
    | _, _ => false

/-- May y, that stands behind x, go first? -/
def indepC (pa : List (Nat × Nat)) (all : List AO) (x y : AO) : Bool := match allocD x, allocD y with
  | none, none => indep false all x y || indepP pa all x y
  | none, some _ => calm false x && !turnsB x.op && !usesT x.op && apart all x y && apart all y x
  | some _, some _ => true
  | some _, none => false

theorem paOk_iff {pa : List (Nat × Nat)} {s : St} : paOk pa s = true ↔ ∀ p ∈ pa, ∀ b o b' o', s.tm[p.1]? = some (.ptr b o) → s.tm[p.2]? = some (.ptr b' o') → b ≠ b' := by
  induction pa with
  | nil => simp [paOk]
  | cons p ps ih =>
    simp only [paOk, Bool.and_eq_true, ih, List.mem_cons, forall_eq_or_imp]
    refine and_congr_left fun _ => ?_
    constructor
    · intro h b o b' o' h1 h2
      rw [h1, h2] at h
      simpa using h
    · intro h
      split
      · rename_i b o b' o' h1 h2
        simpa using h _ _ _ _ h1 h2
      · rfl
theorem inPa_iff {d : Nat} {pa : List (Nat × Nat)} : inPa d pa = true ↔ ∃ p ∈ pa, p.1 = d ∨ p.2 = d := by
  induction pa with
  | nil => simp [inPa]
  | cons p ps ih => simp [inPa, ih]
theorem nonPs_iff {l : List Nat} {s : St} : nonPs l s = true ↔ ∀ d ∈ l, nptr s d = true := by
  induction l with
  | nil => simp [nonPs]
  | cons d l ih => simp [nonPs, ih]
def nsO (pa : List (Nat × Nat)) (o : AO) : List Nat := nsC pa o.dst []
theorem nsC_eq (pa : List (Nat × Nat)) (d : Option Nat) (l : List Nat) : nsC pa d l = nsC pa d [] ++ l := by
  unfold nsC
  cases d with
  | none => rfl
  | some d => simp only; split <;> simp
theorem mem_nsO {pa : List (Nat × Nat)} {o : AO} {d : Nat} : d ∈ nsO pa o ↔ o.dst = some d ∧ inPa d pa = true := by
  unfold nsO nsC
  cases o.dst with
  | none => simp
  | some e =>
    simp only
    split
    · rename_i h
      simp only [List.mem_singleton, Option.some.injEq]
      constructor
      · rintro rfl; exact ⟨rfl, h⟩
      · exact fun h => h.1.symm
    · rename_i h
      simp only [List.not_mem_nil, Option.some.injEq, false_iff]
      rintro ⟨rfl, h'⟩
      exact h h'
/-- What is not known yet does not point anywhere; what is known will not turn. -/
theorem paMid {pa : List (Nat × Nat)} {s1 s2 : St} {x : AO} (h2 : ∀ n, x.dst ≠ some n → s2.tm[n]? = s1.tm[n]?) (hpb : paOk pa s2 = true) (hx : ∀ d ∈ nsO pa x, nptr s1 d = true) : paOk pa s1 = true := by
  rw [paOk_iff] at hpb ⊢
  intro p hp b o b' o' e1 e2
  have key : ∀ n, (p.1 = n ∨ p.2 = n) → ∀ b o, s1.tm[n]? = some (.ptr b o) → s2.tm[n]? = some (.ptr b o) := fun n hn b o e => by
    by_cases hd : x.dst = some n
    · have := hx n (mem_nsO.2 ⟨hd, inPa_iff.2 ⟨p, hp, hn⟩⟩)
      unfold nptr at this
      rw [e] at this
      cases this
    · rw [h2 n hd]; exact e
  exact hpb p hp b o b' o' (key _ (.inl rfl) _ _ e1) (key _ (.inr rfl) _ _ e2)
theorem tm_on {u : Up} {s : St} {dst : Option Nat} (hu : ∀ d x, u.tm = some (d, x) → dst = some d) {n : Nat} (hn : dst ≠ some n) : (u.on s).tm[n]? = s.tm[n]? := by
  unfold Up.on
  cases ht : u.tm with
  | none => rfl
  | some q =>
    obtain ⟨d, x⟩ := q
    exact List.getElem?_set_ne (fun e => hn (by rw [← e]; exact hu d x ht))
theorem nptr_same {s s' : St} {d : Nat} (h : s'.tm[d]? = s.tm[d]?) : nptr s' d = nptr s d := by unfold nptr; rw [h]
theorem tm_aOn {d n : Nat} {i : Inf} {s : St} (h : d ≠ n) : (aOn d i s).tm[n]? = s.tm[n]? := List.getElem?_set_ne h

def dsO (o : AO) : List (Nat × List Nat) := (allocD o).toList

theorem swapC {pa : List (Nat × Nat)} {all : List AO} {x y : AO} {D : List (Nat × List Nat)} {E : List Nat} {s : St} {K : St → Prop} (hpa : paOk pa s = true) (hN : ∀ d ∈ nsO pa x ++ E, nptr s d = true) (hdN : ∀ d ∈ nsO pa x ++ E, y.dst ≠ some d) (hF : ∀ p ∈ dsO x ++ (dsO y ++ D), s.freeB p = true) (hi : indepC pa all x y = true)
    (hd : ∀ p ∈ dsO y, ∀ q ∈ dsO x ++ D, apartD p q) (hK : ∀ s, K s → ∀ p ∈ D, s.freeB p = true) (hKp : ∀ s, K s → paOk pa s = true)
    (h : wpOp P none all x s fun s1 => (∀ p ∈ dsO y ++ D, s1.freeB p = true) ∧ wpOp P none all y s1 K) :
    wpOp P none all y s fun s1 => ((∀ p ∈ dsO x ++ D, s1.freeB p = true) ∧ paOk pa s1 = true ∧ ∀ d ∈ nsO pa x ++ E, nptr s1 d = true) ∧ wpOp P none all x s1 K := by
  have hv' : false = true ∨ (none : Option (Nat × List (List PV))) = none := .inr rfl
  have mid : ∀ {s1 s2 : St}, (∀ n, y.dst ≠ some n → s1.tm[n]? = s.tm[n]?) → (∀ n, x.dst ≠ some n → s2.tm[n]? = s1.tm[n]?) → K s2 → paOk pa s1 = true ∧ ∀ d ∈ nsO pa x ++ E, nptr s1 d = true := fun {s1 s2} h1 h2 h3 => by
    have hn : ∀ d ∈ nsO pa x ++ E, nptr s1 d = true := fun d hd => by
      rw [nptr_same (h1 d (hdN d hd))]
      exact hN d hd
    exact ⟨paMid h2 (hKp _ h3) fun d hd => hn d (List.mem_append_left _ hd), hn⟩
  unfold indepC at hi
  split at hi
  · rename_i hax hay
    have ex : dsO x = [] := by simp [dsO, hax]
    have ey : dsO y = [] := by simp [dsO, hay]
    rw [ex, ey] at hF
    simp only [List.nil_append] at hF
    obtain ⟨c1, c2, a1, a2, b3', hbox⟩ : calm false x = true ∧ calm false y = true ∧ apart all x y = true ∧ apart all y x = true ∧ ¬ (usesT x.op = true ∧ usesT y.op = true) ∧
        (¬ (turnsB x.op = true ∧ looksB y.op = true) ∧ (¬ (turnsB y.op = true ∧ looksB x.op = true) ∨ ∃ t n t' m z, x.op = .load t (.tmp n) ∧ y.op = .store t' (.tmp m) z ∧ (n, m) ∈ pa)) := by
      rcases Bool.or_eq_true _ _ ▸ hi with hi | hi
      · simp only [indep, Bool.and_eq_true, Bool.not_eq_true', Bool.and_eq_false_iff] at hi
        obtain ⟨⟨⟨⟨⟨⟨c1, c2⟩, a1⟩, a2⟩, b1⟩, b2⟩, b3⟩ := hi
        exact ⟨c1, c2, a1, a2, (fun ⟨p, q⟩ => by rcases b3 with b | b <;> simp_all), (fun ⟨p, q⟩ => by rcases b1 with b | b <;> simp_all), .inl fun ⟨p, q⟩ => by rcases b2 with b | b <;> simp_all⟩
      · simp only [indepP, Bool.and_eq_true, Bool.not_eq_true', Bool.and_eq_false_iff] at hi
        obtain ⟨⟨⟨⟨⟨c1, c2⟩, a1⟩, a2⟩, b3⟩, b4⟩ := hi
        split at b4
        · rename_i t n t' m z ex' ey'
          exact ⟨c1, c2, a1, a2, (fun ⟨p, q⟩ => by rcases b3 with b | b <;> simp_all), (fun ⟨p, q⟩ => by rw [ex'] at p; cases p), .inr ⟨t, n, t', m, z, ex', ey', by simpa using b4⟩⟩
        · cases b4
    obtain ⟨b1', hbox⟩ := hbox
    obtain ⟨u, hu, hfu, hy⟩ := turns_op hv' c1 h
    obtain ⟨v, hv, hKv⟩ := turns_op hv' c2 hy
    have e1 := alike_of hu a1 b1' b3'
    have hvs : Turns P none all y s v := ⟨hv.1, (fun b c hbc => by
      obtain ⟨t, z, q, off, ho, he⟩ := hv.2.1 b c hbc
      exact ⟨t, z, q, off, ho, (e1.ops z (by rw [ho]; simp [opds])).symm.trans he⟩), hv.2.2.1, fun s2 ha => hv.2.2.2 s2
      ⟨fun z hz => (e1.ops z hz).trans (ha.ops z hz), fun d hd => (e1.gd d hd).trans (ha.gd d hd), e1.ro.trans ha.ro, fun hl z hz b off he => (e1.bx hl z hz b off he).trans (ha.bx hl z hz b off ((e1.ops z hz).symm.trans he)), fun ht => (e1.tk ht).trans (ha.tk ht)⟩⟩
    -- the variable that y writes is not the one that x reads
    have hlk : looksB x.op = true → ∀ z ∈ opds x.op, ∀ b off, ev s z = some (.ptr b off) → lk b (v.on s).bx = lk b s.bx := fun hl z hz b off he => by
      cases hb : v.bx with
      | none => simp only [Up.on, hb]
      | some bc =>
        obtain ⟨b', c⟩ := bc
        simp only [Up.on, hb]
        obtain ⟨t, zz, q, off', ho, he'⟩ := hvs.2.1 b' c hb
        have hne : ¬ b = b' := by
          rcases hbox with h2 | ⟨t1, n, t2, m, z', ex', ey', hm⟩
          · exact absurd ⟨by rw [ho]; rfl, hl⟩ h2
          · rw [ey'] at ho
            cases ho
            rw [ex'] at hz
            simp only [opds, List.mem_singleton] at hz
            subst hz
            have q1 : s.tm[n]? = some (.ptr b off) := he
            have q2 : s.tm[m]? = some (.ptr b' off') := he'
            exact paOk_iff.1 hpa _ hm _ _ _ _ q1 q2
        rw [lk_upd, if_neg hne]
    obtain ⟨k1, k2⟩ := apart_spec a2
    have e2 : Alike all x s (v.on s) := ⟨fun z hz => (ev_on (all := all) hvs.1 fun n e => k1 n (mem_slots_of (e ▸ hz))).symm, fun d hd => by
        have : d ∈ slots all x := by simp only [slots, hd, Option.toList_some, List.mem_append]; exact .inr (by simp)
        exact (ev_on (all := all) (z := .tmp d) hvs.1 fun n e => by cases e; exact k1 d this).symm, rfl, fun hl z hz b off he => (hlk hl z hz b off he).symm, fun ht => by
        cases hk : v.tk with
        | none => simp only [Up.on, hk]
        | some _ => exact absurd ⟨ht, hvs.2.2.1 (by rw [hk]; rfl)⟩ b3'⟩
    have ecomm : u.on (v.on s) = v.on (u.on s) := on_comm
        (fun d x d' x' p q => fun e => (apart_spec a1).2 d (hu.1 d x p) (e ▸ hv.1 d' x' q))
        (fun p q => b1' ⟨hu.bxB p, turnsB_looksB (hv.bxB q)⟩) (fun p q => b3' ⟨hu.2.2.1 p, hv.2.2.1 q⟩)
    refine hv.2.2.2 s e1 _ ⟨⟨fun p hp => ?_, mid (s2 := v.on (u.on s)) (fun n hn => tm_on hv.1 hn) (fun n hn => by rw [← ecomm]; exact tm_on hu.1 hn) hKv⟩, hu.2.2.2 _ e2 _ ?_⟩
    · rw [ex, List.nil_append] at hp
      exact freeB_on (hF p hp) (hK _ hKv p hp)
    · have e : u.on (v.on s) = v.on (u.on s) := on_comm
        (fun d x d' x' p q => fun e => (apart_spec a1).2 d (hu.1 d x p) (e ▸ hv.1 d' x' q))
        (fun p q => b1' ⟨hu.bxB p, turnsB_looksB (hv.bxB q)⟩) (fun p q => b3' ⟨hu.2.2.1 p, hv.2.2.1 q⟩)
      rw [e]
      exact hKv
  · rename_i dt hax hay
    obtain ⟨dy, ty⟩ := dt
    have ex : dsO x = [] := by simp [dsO, hax]
    have ey : dsO y = [(dy, ty)] := by simp [dsO, hay]
    rw [ex, ey] at hF
    rw [ey] at hd h
    rw [ex] at hd ⊢
    simp only [List.nil_append] at hF hd ⊢
    simp only [Bool.and_eq_true, Bool.not_eq_true'] at hi
    obtain ⟨⟨⟨⟨c1, b1⟩, b2⟩, a1⟩, a2⟩ := hi
    obtain ⟨hop, hdst, _, hts⟩ := allocD_spec hay
    subst hts
    obtain ⟨u, hu, hfu, hy⟩ := turns_op hv' c1 h
    have fy : s.freeB (dy, y.inf.acc.map (·.2)) = true := hF _ (by simp)
    obtain ⟨r1, r2⟩ := (alloc_wp hay (hfu _ (by simp))).1 hy
    obtain ⟨g1, g2, g3, g4⟩ := freeB_iff.1 fy
    obtain ⟨a1', a1''⟩ := apart_spec a1
    obtain ⟨a2', a2''⟩ := apart_spec a2
    have ub : u.bx = none := by
      cases hb : u.bx with
      | none => rfl
      | some _ => have := hu.bxB (by rw [hb]; rfl); rw [b1] at this; cases this
    have uk : u.tk = none := by
      cases hb : u.tk with
      | none => rfl
      | some _ => have := hu.2.2.1 (by rw [hb]; rfl); rw [b2] at this; cases this
    have ecomm : u.on (aOn dy y.inf s) = aOn dy y.inf (u.on s) := by
        simp only [Up.on, aOn, ub, uk]
        congr 1
        cases ht : u.tm with
        | none => rfl
        | some q =>
          obtain ⟨d, z⟩ := q
          have hdx := hu.1 d z ht
          have : dy ≠ d := fun e => a1'' d hdx (e ▸ hdst)
          exact List.set_comm _ _ this
    refine (alloc_wp hay fy).2 ⟨r1, ⟨fun p hp => freeB_aOn (hF p (by simp [hp])) (hd _ (by simp) p hp), mid (s2 := aOn dy y.inf (u.on s)) (fun n hn => tm_aOn fun e => hn (by rw [hdst, e])) (fun n hn => by rw [← ecomm]; exact tm_on hu.1 hn) r2⟩, ?_⟩
    have hne : ∀ n, n ∈ slots all x → dy ≠ n := fun n hn e => a2' n hn (e ▸ hdst)
    refine hu.2.2.2 (aOn dy y.inf s) ⟨fun z hz => ?_, fun d hd' => ?_, rfl, fun hl z hz b off he => ?_, fun ht => by rw [b2] at ht; cases ht⟩ _ ?_
    · cases z with
      | tmp n =>
        show s.tm[n]? = (s.tm.set dy _)[n]?
        rw [List.getElem?_set_ne (hne n (mem_slots_of hz))]
      | _ => rfl
    · have : d ∈ slots all x := by simp only [slots, hd', Option.toList_some, List.mem_append]; exact .inr (by simp)
      show s.tm[d]? = (s.tm.set dy _)[d]?
      rw [List.getElem?_set_ne (hne d this)]
    · show lk b s.bx = lk b (upd dy _ s.bx)
      have hbd : ¬ b = dy := by
        cases z with
        | tmp n =>
          have hm : TV.ptr b off ∈ s.tm := List.mem_of_getElem? he
          have := g2 _ hm
          simpa [TV.freeB] using this
        | const w => simp [ev] at he
        | func w => simp [ev] at he
        | _ => cases he
      rw [lk_upd, if_neg hbd]
    · have e : u.on (aOn dy y.inf s) = aOn dy y.inf (u.on s) := by
        simp only [Up.on, aOn, ub, uk]
        congr 1
        cases ht : u.tm with
        | none => rfl
        | some q =>
          obtain ⟨d, z⟩ := q
          have hdx := hu.1 d z ht
          have : dy ≠ d := fun e => a1'' d hdx (e ▸ hdst)
          exact List.set_comm _ _ this
      rw [e]
      exact r2
  · rename_i dtx dty hax hay
    obtain ⟨dx, tx⟩ := dtx
    obtain ⟨dy, ty⟩ := dty
    have ex : dsO x = [(dx, tx)] := by simp [dsO, hax]
    have ey : dsO y = [(dy, ty)] := by simp [dsO, hay]
    rw [ex, ey] at hF
    rw [ey] at hd h
    rw [ex] at hd ⊢
    obtain ⟨_, hdstx, _, htx⟩ := allocD_spec hax
    obtain ⟨_, hdsty, _, hty⟩ := allocD_spec hay
    subst htx
    subst hty
    have fx : s.freeB (dx, x.inf.acc.map (·.2)) = true := hF _ (by simp)
    have fy : s.freeB (dy, y.inf.acc.map (·.2)) = true := hF _ (by simp)
    have hap : apartD (dy, y.inf.acc.map (·.2)) (dx, x.inf.acc.map (·.2)) := hd _ (by simp) _ (by simp)
    obtain ⟨r1, r2, r3⟩ := (alloc_wp hax fx).1 h
    obtain ⟨q1, q2⟩ := (alloc_wp hay (r2 _ (by simp))).1 r3
    have ecomm : aOn dx x.inf (aOn dy y.inf s) = aOn dy y.inf (aOn dx x.inf s) := by
        simp only [aOn]
        congr 1
        · exact List.set_comm _ _ hap.1
        · exact upd_comm (fun e => hap.1 e.symm) _
        · exact tkAll_comm _ _ _ fun p hp q hq e => hap.2.1 q.2 (List.mem_map_of_mem hq) (e ▸ List.mem_map_of_mem hp)
    refine (alloc_wp hay fy).2 ⟨q1, ⟨fun p hp => ?_, mid (s2 := aOn dy y.inf (aOn dx x.inf s)) (fun n hn => tm_aOn fun e => hn (by rw [hdsty, e])) (fun n hn => by rw [← ecomm]; exact tm_aOn fun e => hn (by rw [hdstx, e])) q2⟩, (alloc_wp hax (freeB_aOn fx hap)).2 ⟨r1, ?_⟩⟩
    · refine freeB_aOn (hF p ?_) (hd _ (by simp) p hp)
      rcases List.mem_append.1 hp with hp | hp
      · simp at hp; simp [hp]
      · simp [hp]
    · have e : aOn dx x.inf (aOn dy y.inf s) = aOn dy y.inf (aOn dx x.inf s) := by
        simp only [aOn]
        congr 1
        · exact List.set_comm _ _ hap.1
        · exact upd_comm (fun e => hap.1 e.symm) _
        · exact tkAll_comm _ _ _ fun p hp q hq e => hap.2.1 q.2 (List.mem_map_of_mem hq) (e ▸ List.mem_map_of_mem hp)
      rw [e]
      exact q2
  · cases hi

/-- The new variables of these operations. -/
def dsI (all : List AO) : List Nat → List (Nat × List Nat)
  | [] => []
  | i :: l => (match all[i]? with | some o => dsO o | none => []) ++ dsI all l

/-- The slots that are spoken of, and that the operations of these numbers write. -/
def nsI (pa : List (Nat × Nat)) (all : List AO) : List Nat → List Nat
  | [] => []
  | i :: l => (match all[i]? with | some o => nsO pa o | none => []) ++ nsI pa all l
/-- Nothing names what is to be made; slots do not point to one variable, and do not point anywhere before they are written. -/
def InvC (pa : List (Nat × Nat)) (all : List AO) (l : List Nat) (s : St) : Prop := (∀ p ∈ dsI all l, s.freeB p = true) ∧ paOk pa s = true ∧ ∀ d ∈ nsI pa all l, nptr s d = true

/-- The operations of these numbers, one behind the other; nothing names what is to be made. -/
def wpLC (P : Program) (pa : List (Nat × Nat)) (all : List AO) : List Nat → St → (St → Prop) → Prop
  | [], s, K => K s
  | i :: l, s, K => match all[i]? with
    | some o => wpOp P none all o s fun s' => InvC pa all l s' ∧ wpLC P pa all l s' K
    | none => False

theorem wpLC_cons {pa : List (Nat × Nat)} {all : List AO} {i : Nat} {l : List Nat} {s : St} {K : St → Prop} : wpLC P pa all (i :: l) s K ↔ ∃ o, all[i]? = some o ∧ wpOp P none all o s fun s' => InvC pa all l s' ∧ wpLC P pa all l s' K := by
  simp only [wpLC]
  cases all[i]? with
  | none => simp
  | some o => simp

theorem dsI_range {all : List AO} : ∀ (n k : Nat), k + n = all.length → dsI all (List.range' k n) = dsL (all.drop k)
  | 0, k, hk => by rw [List.drop_eq_nil_of_le (by omega)]; rfl
  | n + 1, k, hk => by
    have hlt : k < all.length := by omega
    have ih := dsI_range (all := all) n (k + 1) (by omega)
    rw [List.drop_eq_getElem_cons hlt, List.range'_succ]
    simp only [dsI, List.getElem?_eq_getElem hlt, dsL, dsO]
    rw [ih]
    cases allocD all[k] <;> rfl

theorem nsI_range {pa : List (Nat × Nat)} {all : List AO} : ∀ (n k : Nat), k + n = all.length → nsI pa all (List.range' k n) = nsL pa (all.drop k)
  | 0, k, hk => by rw [List.drop_eq_nil_of_le (by omega)]; rfl
  | n + 1, k, hk => by
    have hlt : k < all.length := by omega
    have ih := nsI_range (pa := pa) (all := all) n (k + 1) (by omega)
    rw [List.drop_eq_getElem_cons hlt, List.range'_succ]
    simp only [nsI, List.getElem?_eq_getElem hlt, nsL]
    rw [ih, nsC_eq]
    rfl

theorem wpLC_range {pa : List (Nat × Nat)} {all : List AO} {K : St → Prop} : ∀ (n k : Nat), k + n = all.length → ∀ {s : St}, wpOpsC P pa all (all.drop k) s K → wpLC P pa all (List.range' k n) s K
  | 0, k, hk, s, h => by rw [List.drop_eq_nil_of_le (by omega)] at h; exact h
  | n + 1, k, hk, s, h => by
    have hlt : k < all.length := by omega
    rw [List.drop_eq_getElem_cons hlt] at h
    rw [List.range'_succ, wpLC_cons]
    refine ⟨_, List.getElem?_eq_getElem hlt, wpOp_mono' (.inr rfl) (fun s' hs' => ⟨?_, wpLC_range n (k + 1) (by omega) hs'.2⟩) h⟩
    unfold InvC
    rw [dsI_range n (k + 1) (by omega), nsI_range n (k + 1) (by omega)]
    have := hs'.1
    simp only [Bool.and_eq_true] at this
    exact ⟨freeAll_iff.1 this.1, this.2.1, nonPs_iff.1 this.2.2⟩

theorem dsI_append {all : List AO} : ∀ (l m : List Nat), dsI all (l ++ m) = dsI all l ++ dsI all m
  | [], m => rfl
  | i :: l, m => by simp only [List.cons_append, dsI, dsI_append l m, List.append_assoc]

theorem nsI_append {pa : List (Nat × Nat)} {all : List AO} : ∀ (l m : List Nat), nsI pa all (l ++ m) = nsI pa all l ++ nsI pa all m
  | [], m => rfl
  | i :: l, m => by simp only [List.cons_append, nsI, nsI_append l m, List.append_assoc]
theorem mem_nsI {pa : List (Nat × Nat)} {all : List AO} {d : Nat} : ∀ {l : List Nat}, d ∈ nsI pa all l → ∃ i ∈ l, ∃ o, all[i]? = some o ∧ d ∈ nsO pa o
  | [], h => by simp [nsI] at h
  | i :: l, h => by
    simp only [nsI, List.mem_append] at h
    rcases h with h | h
    · cases ho : all[i]? with
      | none => rw [ho] at h; simp at h
      | some o => rw [ho] at h; exact ⟨i, by simp, o, ho, h⟩
    · obtain ⟨j, hj, o, ho, hp⟩ := mem_nsI h
      exact ⟨j, by simp [hj], o, ho, hp⟩
/-- No slot that is spoken of is written twice. -/
def nsDist (pa : List (Nat × Nat)) (all : List AO) : Bool :=
  (List.range all.length).all fun i => (List.range all.length).all fun j => i == j || match all[i]?, all[j]? with
    | some p, some q => (nsO pa p).all fun d => q.dst != some d
    | _, _ => true
theorem nsDist_spec {pa : List (Nat × Nat)} {all : List AO} (h : nsDist pa all = true) {i j : Nat} {oi oj : AO} (hi : all[i]? = some oi) (hj : all[j]? = some oj) (hne : i ≠ j) {d : Nat} (hd : d ∈ nsO pa oi) : oj.dst ≠ some d := by
  have li := (List.getElem?_eq_some_iff.1 hi).1
  have lj := (List.getElem?_eq_some_iff.1 hj).1
  have := List.all_eq_true.1 (List.all_eq_true.1 h i (List.mem_range.2 li)) j (List.mem_range.2 lj)
  rw [hi, hj] at this
  simp only [Bool.or_eq_true, beq_iff_eq, hne, false_or, List.all_eq_true, bne_iff_ne, ne_eq] at this
  exact this d hd

theorem mem_dsI {all : List AO} {p : Nat × List Nat} : ∀ {l : List Nat}, p ∈ dsI all l → ∃ i ∈ l, ∃ o, all[i]? = some o ∧ p ∈ dsO o
  | [], h => by simp [dsI] at h
  | i :: l, h => by
    simp only [dsI, List.mem_append] at h
    rcases h with h | h
    · cases ho : all[i]? with
      | none => rw [ho] at h; simp at h
      | some o => rw [ho] at h; exact ⟨i, by simp, o, ho, h⟩
    · obtain ⟨j, hj, o, ho, hp⟩ := mem_dsI h
      exact ⟨j, by simp [hj], o, ho, hp⟩

/-- All that is made is apart. -/
def distinctA (all : List AO) : Bool :=
  (List.range all.length).all fun i => (List.range all.length).all fun j => i == j || match (all[i]?).bind allocD, (all[j]?).bind allocD with
    | some p, some q => p.1 != q.1 && p.2.all (fun t => !q.2.contains t) && q.2.all (fun t => !p.2.contains t)
    | _, _ => true

theorem distinctA_spec {all : List AO} (h : distinctA all = true) {i j : Nat} {oi oj : AO} (hi : all[i]? = some oi) (hj : all[j]? = some oj) (hne : i ≠ j) {p q : Nat × List Nat} (hp : p ∈ dsO oi) (hq : q ∈ dsO oj) : apartD p q := by
  have li := (List.getElem?_eq_some_iff.1 hi).1
  have lj := (List.getElem?_eq_some_iff.1 hj).1
  have := List.all_eq_true.1 (List.all_eq_true.1 h i (List.mem_range.2 li)) j (List.mem_range.2 lj)
  have hp' : allocD oi = some p := by simpa [dsO] using hp
  have hq' : allocD oj = some q := by simpa [dsO] using hq
  rw [hi, hj] at this
  simp only [Option.bind_some, hp', hq', Bool.or_eq_true, beq_iff_eq, hne, false_or, Bool.and_eq_true, bne_iff_ne, ne_eq, List.all_eq_true, Bool.not_eq_true', List.contains_eq_mem, decide_eq_false_iff_not] at this
  exact ⟨this.1.1, this.1.2, this.2⟩

/-- What may come first, comes first. -/
theorem wpLC_first {pa : List (Nat × Nat)} {all : List AO} (hdis : distinctA all = true) (hpf : nsDist pa all = true) {i : Nat} {oi : AO} (hoi : all[i]? = some oi) {K : St → Prop} {l2 : List Nat} : ∀ (l1 : List Nat), (l1 ++ i :: l2).Nodup → (∀ x ∈ l1, ∃ ox, all[x]? = some ox ∧ indepC pa all ox oi = true) → ∀ {s : St},
    InvC pa all (l1 ++ i :: l2) s → wpLC P pa all (l1 ++ i :: l2) s K → wpOp P none all oi s fun s' => InvC pa all (l1 ++ l2) s' ∧ wpLC P pa all (l1 ++ l2) s' K
  | [], _, _, s, hF, h => by
    rw [List.nil_append, wpLC_cons] at h
    obtain ⟨o, h1, h2⟩ := h
    rw [hoi] at h1
    cases h1
    exact h2
  | x :: l1, hnd, hx, s, hF, h => by
    obtain ⟨ox, h1, h2⟩ := hx x (by simp)
    rw [List.cons_append, wpLC_cons] at h
    obtain ⟨ox', h3, h4⟩ := h
    rw [h1] at h3
    cases h3
    rw [List.cons_append] at hnd hF
    have hnd' := List.nodup_cons.1 hnd
    have e0 : dsI all (x :: (l1 ++ i :: l2)) = dsO ox ++ dsI all (l1 ++ i :: l2) := by simp only [dsI, h1]
    have ei : dsI all (i :: l2) = dsO oi ++ dsI all l2 := by simp only [dsI, hoi]
    have hsub : ∀ p, p ∈ dsO oi ++ dsI all (l1 ++ l2) ↔ p ∈ dsI all (l1 ++ i :: l2) := fun p => by
      rw [dsI_append, dsI_append, ei]
      simp only [List.mem_append]
      constructor <;> (rintro (h | h | h) <;> simp [h])
    have h5 : wpOp P none all ox s fun s1 => (∀ p ∈ dsO oi ++ dsI all (l1 ++ l2), s1.freeB p = true) ∧ wpOp P none all oi s1 fun s2 => InvC pa all (l1 ++ l2) s2 ∧ wpLC P pa all (l1 ++ l2) s2 K :=
      wpOp_mono' (.inr rfl) (fun s' hs' => ⟨fun p hp => hs'.1.1 p ((hsub p).1 hp), wpLC_first hdis hpf hoi l1 hnd'.2 (fun y hy => hx y (by simp [hy])) hs'.1 hs'.2⟩) h4
    have en : nsI pa all (x :: (l1 ++ i :: l2)) = nsO pa ox ++ nsI pa all (l1 ++ i :: l2) := by simp only [nsI, h1]
    have hsubN : ∀ d, d ∈ nsI pa all (l1 ++ l2) → d ∈ nsI pa all (l1 ++ i :: l2) := fun d => by
      rw [nsI_append, nsI_append]
      simp only [nsI, List.mem_append]
      rintro (h | h) <;> simp [h]
    have h6 := swapC (x := ox) (y := oi) (D := dsI all (l1 ++ l2)) (E := nsI pa all (l1 ++ l2)) (K := fun s2 => InvC pa all (l1 ++ l2) s2 ∧ wpLC P pa all (l1 ++ l2) s2 K)
      hF.2.1
      (fun d hd => by
        refine hF.2.2 d ?_
        rw [en]
        rcases List.mem_append.1 hd with hd | hd
        · simp [hd]
        · exact List.mem_append_right _ (hsubN d hd))
      (fun d hd => by
        rcases List.mem_append.1 hd with hd | hd
        · refine nsDist_spec hpf h1 hoi (fun e => ?_) hd
          subst e
          exact hnd'.1 (by simp)
        · obtain ⟨j, hj, oj, hoj, hqj⟩ := mem_nsI hd
          refine nsDist_spec hpf hoj hoi (fun e => ?_) hqj
          subst e
          have hn := hnd'.2
          rw [List.nodup_append] at hn
          rcases List.mem_append.1 hj with hj | hj
          · exact hn.2.2 j hj j (by simp) rfl
          · exact (List.nodup_cons.1 hn.2.1).1 hj)
      (fun p hp => by
        refine hF.1 p ?_
        rw [e0]
        rcases List.mem_append.1 hp with hp | hp
        · simp [hp]
        · exact List.mem_append_right _ ((hsub p).1 hp)) h2
      (fun p hp q hq => by
        rcases List.mem_append.1 hq with hq | hq
        · refine distinctA_spec hdis hoi h1 (fun e => ?_) hp hq
          subst e
          exact hnd'.1 (by simp)
        · obtain ⟨j, hj, oj, hoj, hqj⟩ := mem_dsI hq
          refine distinctA_spec hdis hoi hoj (fun e => ?_) hp hqj
          subst e
          have hn := hnd'.2
          rw [List.nodup_append] at hn
          rcases List.mem_append.1 hj with hj | hj
          · exact hn.2.2 i hj i (by simp) rfl
          · exact (List.nodup_cons.1 hn.2.1).1 hj)
      (fun s hs p hp => hs.1.1 p hp) (fun s hs => hs.1.2.1) h5
    refine wpOp_mono' (.inr rfl) (fun s' hs' => ?_) h6
    refine ⟨⟨fun p hp => ?_, hs'.1.2.1, fun d hd => ?_⟩, ?_⟩
    · refine hs'.1.1 p ?_
      rw [List.cons_append] at hp
      have : dsI all (x :: (l1 ++ l2)) = dsO ox ++ dsI all (l1 ++ l2) := by simp only [dsI, h1]
      rwa [this] at hp
    · refine hs'.1.2.2 d ?_
      rw [List.cons_append] at hd
      have : nsI pa all (x :: (l1 ++ l2)) = nsO pa ox ++ nsI pa all (l1 ++ l2) := by simp only [nsI, h1]
      rwa [this] at hd
    · rw [List.cons_append, wpLC_cons]
      exact ⟨ox, h1, hs'.2⟩
/-- Does what the region's edges leave open not matter? -/
def drawOkC (pa : List (Nat × Nat)) (ao : List AO) : Bool :=
  (List.range ao.length).all fun i => match ao[i]? with
    | none => false
    | some oi => oi.pre.all (fun j => decide (j < i)) && (List.range i).all fun x => match ao[x]? with
      | none => false
      | some ox => oi.pre.contains x || indepC pa ao ox oi || reach ao x 6 oi.pre

theorem drawOkC_spec {pa : List (Nat × Nat)} {ao : List AO} (h : drawOkC pa ao = true) {i : Nat} {oi : AO} (hi : ao[i]? = some oi) : (∀ j ∈ oi.pre, j < i) ∧ ∀ x, x < i → reach ao x 7 oi.pre = false → ∃ ox, ao[x]? = some ox ∧ indepC pa ao ox oi = true := by
  have hlt := (List.getElem?_eq_some_iff.1 hi).1
  have := List.all_eq_true.1 h i (List.mem_range.2 hlt)
  rw [hi] at this
  simp only [Bool.and_eq_true, List.all_eq_true, decide_eq_true_eq, List.mem_range] at this
  refine ⟨this.1, fun x hx hn => ?_⟩
  have := this.2 x hx
  split at this
  · cases this
  · rename_i ox hox
    refine ⟨ox, hox, ?_⟩
    have e : oi.pre.contains x = false := by
      simp only [reach, Bool.or_eq_false_iff] at hn
      exact hn.1
    have e2 : reach ao x 6 oi.pre = false := by
      cases hr : reach ao x 6 oi.pre with
      | false => rfl
      | true => rw [reach_succ ao x 6 _ hr] at hn; cases hn
    rw [e, e2] at this
    simpa using this

theorem sound_goC {pa : List (Nat × Nat)} {ao : List AO} {ops : Array Oper} (hok : drawOkC pa ao = true) (hdis : distinctA ao = true) (hpf : nsDist pa ao = true) (hag : OpsAgree P ao ops) {its : Option (Nat × List (List PV))} {w00 : World} {I00 : Imm} {Jt : Nat → Imm → World → Prop} {ro : Option Nat} (hctx : Ctx P its Jt) {Q : XA → St → Prop} {sav : List (Array Value)}
    (Iz : Imm) (wz : World) : ∀ (fuel t : Nat) (listed : Array Bool), listed.size = ops.size → (∀ i oi, ao[i]? = some oi → listed.getD i false = true → ∀ j ∈ oi.pre, listed.getD j false = true) → ((List.range ops.size).filter fun i => !listed.getD i true).length = fuel →
    ∀ {I : Imm} {w : World} {s : St} {a : Act} {w0 : World} {I0 : Imm} {β : Nat → Nat} {κ : Nat → Nat × Nat × Nat}, Iz.le I → (its = none → KeepsOthers wz w) → (its.isSome = true → a.defers = []) → Base its w00 I00 Jt s.it w0 I0 → Sim w0 I0 I β κ s sav a w →
      InvC pa ao ((List.range ops.size).filter fun i => !listed.getD i true) s → wpLC P pa ao ((List.range ops.size).filter fun i => !listed.getD i true) s (Q .normal) →
      wpOpsIn (wideR ro) 0 P ops (PostA its (Base its w00 I00 Jt) Iz sav wz Q) (Region.linearise.go .any ops fuel t listed []) a w
  | 0, t, listed, hsz, hdc, hlen, I, w, s, a, w0, I0, β, κ, hle, hk, hdf, hB, h, hF, hs => by
    rw [List.length_eq_zero_iff.1 hlen] at hs
    exact ⟨s, I, hs, hle, hk, hdf, w0, I0, β, κ, hB, h⟩
  | fuel + 1, t, listed, hsz, hdc, hlen, I, w, s, a, w0, I0, β, κ, hle, hk, hdf, hB, h, hF, hs => by
    have hsort : ((List.range ops.size).filter fun i => !listed.getD i true).Pairwise (· < ·) := List.Pairwise.filter _ List.pairwise_lt_range
    have hlisted : ∀ j, j < ops.size → listed.getD j false = listed.getD j true := fun j hj => by
      have : j < listed.size := by omega
      simp [Array.getD, this]
    -- who is ready
    have hready : ∀ i, i ∈ Region.ready .any ops listed ↔ i < ops.size ∧ listed.getD i true = false ∧ ∀ oi, ao[i]? = some oi → ∀ j ∈ oi.pre, listed.getD j false = true := by
      intro i
      simp only [Region.ready, List.mem_filter, List.mem_range, Bool.and_eq_true, Bool.not_eq_true']
      refine and_congr_right fun hi => and_congr_right fun _ => ?_
      obtain ⟨oi, h1, _, _, _, h5, _⟩ := hag.get (Array.getElem?_eq_getElem hi)
      rw [Array.getElem?_eq_getElem hi]
      simp only [Option.map_some, Option.getD_some, h1, Option.some.injEq, forall_eq']
      rw [h5]
      rw [Array.all_eq_true']
      constructor
      · intro hx j hj
        obtain ⟨e, he, rfl⟩ := List.mem_map.1 hj
        obtain ⟨he1, hb⟩ := List.mem_filter.1 he
        have := hx e (by simpa using he1)
        rw [hb] at this
        simpa using this
      · intro hx e he
        cases hb : Region.binds .any e with
        | false => rfl
        | true =>
          have := hx e.on (List.mem_map.2 ⟨e, List.mem_filter.2 ⟨by simpa using he, hb⟩, rfl⟩)
          simpa using this
    have hne : Region.ready .any ops listed ≠ [] := by
      obtain ⟨x, L', hL⟩ : ∃ x L', ((List.range ops.size).filter fun i => !listed.getD i true) = x :: L' := by
        cases hL : ((List.range ops.size).filter fun i => !listed.getD i true) with
        | nil => rw [hL] at hlen; cases hlen
        | cons x L' => exact ⟨x, L', rfl⟩
      have hx : x ∈ ((List.range ops.size).filter fun i => !listed.getD i true) := by rw [hL]; simp
      simp only [List.mem_filter, List.mem_range, Bool.not_eq_true'] at hx
      refine List.ne_nil_of_mem ((hready x).2 ⟨hx.1, hx.2, fun oi hoi j hj => ?_⟩)
      have hjx := (drawOkC_spec hok hoi).1 j hj
      rw [hlisted j (by omega)]
      cases hl : listed.getD j true with
      | true => rfl
      | false =>
        have hm : j ∈ ((List.range ops.size).filter fun i => !listed.getD i true) := by simp only [List.mem_filter, List.mem_range, Bool.not_eq_true']; exact ⟨by omega, hl⟩
        rw [hL] at hm hsort
        rcases List.mem_cons.1 hm with hm | hm
        · omega
        · have := (List.pairwise_cons.1 hsort).1 j hm
          omega
    have hlt : t % (Region.ready .any ops listed).length < (Region.ready .any ops listed).length := Nat.mod_lt _ (List.length_pos_iff.2 hne)
    obtain ⟨i, hi⟩ : ∃ i, (Region.ready .any ops listed)[t % (Region.ready .any ops listed).length]? = some i := ⟨_, List.getElem?_eq_getElem hlt⟩
    have hgo : Region.linearise.go .any ops (fuel + 1) t listed [] = i :: Region.linearise.go .any ops fuel (t / (Region.ready .any ops listed).length) (listed.setIfInBounds i true) [] := by
      simp only [Region.linearise.go]
      change (match (Region.ready .any ops listed)[t % (Region.ready .any ops listed).length]? with
        | some i => Region.linearise.go .any ops fuel (t / (Region.ready .any ops listed).length) (listed.setIfInBounds i true) [i]
        | none => [].reverse) = _
      rw [hi]
      simp only []
      rw [linearise_go_acc]
      rfl
    rw [hgo]
    obtain ⟨hi1, hi2, hi3⟩ := (hready i).1 (List.mem_of_getElem? hi)
    have him : i ∈ ((List.range ops.size).filter fun i => !listed.getD i true) := by simp only [List.mem_filter, List.mem_range, Bool.not_eq_true']; exact ⟨hi1, hi2⟩
    obtain ⟨L1, L2, hL⟩ := List.append_of_mem him
    have hilt : i < ao.length := by rw [hag.length]; exact hi1
    have hoi : ao[i]? = some ao[i] := List.getElem?_eq_getElem hilt
    have hL1 : ∀ x ∈ L1, ∃ ox, ao[x]? = some ox ∧ indepC pa ao ox ao[i] = true := by
      intro x hx
      have hxm : x ∈ ((List.range ops.size).filter fun i => !listed.getD i true) := by rw [hL]; simp [hx]
      simp only [List.mem_filter, List.mem_range, Bool.not_eq_true'] at hxm
      rw [hL] at hsort
      have hxi : x < i := (List.pairwise_append.1 hsort).2.2 x hx i (by simp)
      refine (drawOkC_spec hok hoi).2 x hxi (Bool.eq_false_iff.2 fun hp => ?_)
      have := reach_listed hdc 7 _ (hi3 _ hoi) hp
      rw [hlisted x hxm.1, hxm.2] at this
      cases this
    have hL' : ((List.range ops.size).filter fun j => !(listed.setIfInBounds i true).getD j true) = L1 ++ L2 := by
      have e1 : ((List.range ops.size).filter fun j => !(listed.setIfInBounds i true).getD j true) = ((List.range ops.size).filter fun i => !listed.getD i true).filter (· != i) := by
        rw [List.filter_filter]
        refine List.filter_congr fun j hj => ?_
        have hj' := List.mem_range.1 hj
        by_cases e : j = i
        · subst e
          have : j < listed.size := by omega
          simp [Array.getD, this]
        · have e' : i ≠ j := fun h => e h.symm
          simp [getD_set_ne true e', e]
      rw [e1, hL]
      rw [hL] at hsort
      have hs2 := List.pairwise_append.1 hsort
      rw [List.filter_append, List.filter_cons]
      have f1 : L1.filter (· != i) = L1 := List.filter_eq_self.2 fun x hx => by
        have := hs2.2.2 x hx i (by simp)
        simp only [bne_iff_ne, ne_eq]
        omega
      have f2 : L2.filter (· != i) = L2 := List.filter_eq_self.2 fun x hx => by
        have := (List.pairwise_cons.1 hs2.2.1).1 x hx
        simp only [bne_iff_ne, ne_eq]
        omega
      rw [f1, f2]
      simp
    have hnd : ((List.range ops.size).filter fun i => !listed.getD i true).Nodup := hsort.imp fun h => Nat.ne_of_lt h
    rw [hL] at hs hF hnd
    have k2 := wpLC_first hdis hpf hoi L1 hnd hL1 hF hs
    refine sound_op hag hctx hoi hdf hB h (wpOp_mono' (.inl rfl) (fun _ hk => hk) k2) ?_
    intro s' a' w' J hle' hkeep' hsat hK
    obtain ⟨hdf1, w1, I1, β1, κ1, hB1, h1⟩ := hsat
    refine sound_goC hok hdis hpf hag hctx Iz wz fuel _ _ (by simpa using hsz) ?_ ?_ (Imm.le_trans hle hle') (fun e => (hk e).trans (hkeep' e)) hdf1 hB1 h1 (by rw [hL']; exact hK.1) (by rw [hL']; exact hK.2)
    · intro k ok hk' hkl j hj
      by_cases e : k = i
      · subst e
        exact getD_set_true (hi3 ok hk' j hj)
      · have e' : i ≠ k := fun h => e h.symm
        rw [getD_set_ne false e'] at hkl
        exact getD_set_true (hdc k ok hk' hkl j hj)
    rw [hL']
    rw [hL] at hlen
    simp only [List.length_append, List.length_cons] at hlen ⊢
    omega

theorem draw_soundC {pa : List (Nat × Nat)} {ao : List AO} (hok : drawOkC pa ao = true) (hdis : distinctA ao = true) (hpf : nsDist pa ao = true) : DrawSoundC P pa ao := by
  intro ops hag hmix its w00 I00 Jt ro Q I w s sav a w0 I0 β κ t hctx hdf hB h hF hs
  unfold Region.linearise
  have hall : ((List.range ops.size).filter fun i => !(Array.replicate ops.size false).getD i true) = List.range ops.size := List.filter_eq_self.2 fun i hi => by
    have := List.mem_range.1 hi
    simp [Array.getD, this]
  have hl := hag.length
  refine sound_goC hok hdis hpf hag hctx I w ops.size t _ (by simp) (fun i oi _ h => by simp [Array.getD] at h) (by rw [hall]; simp) (Imm.le_refl _) (fun _ => KeepsOthers.drew w) hdf hB h.drew ?_ ?_
  · unfold InvC
    rw [hall, List.range_eq_range', dsI_range ops.size 0 (by omega), nsI_range ops.size 0 (by omega), List.drop_zero]
    simp only [Bool.and_eq_true] at hF
    exact ⟨freeAll_iff.1 hF.1, hF.2.1, nonPs_iff.1 hF.2.2⟩
  · rw [hall, List.range_eq_range']
    exact wpLC_range ops.size 0 (by omega) (by rw [List.drop_zero]; exact hs)

end
end Go.Proofs.Ytadfcbpakfaaaaa.A

