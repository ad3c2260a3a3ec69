/- Regions that draw their order: what is told in the text's order is done in every order. -/
import Derived.Test.YtnfomjnmigkpmaaA21
set_option linter.unusedVariables false
set_option linter.unusedSimpArgs false
namespace Go.Proofs.Ytnfomjnmigkpmaa.A
open Go Go.RowKit Go.Shelf

/-! ### What an operation looks at -/
def opds : Op → List Operand
  | .move x | .assign x | .load _ x | .fieldAddr _ x _ | .field _ x _ | .unOp _ _ x | .makeInterface _ x | .extract x _ | .convert _ _ x | .box _ x => [x]
  | .pick c x y => [c, x, y]
  | .indexAddr _ x k => [x, k]
  | .index _ x k => [x, k]
  | .binOp _ _ x y _ => [x, y]
  | .store _ x y => [x, y]
  | .makeSlice _ l c => [l, c]
  | .makeFunc _ _ caps => caps.toList
  | .build _ parts => parts.toList.map (·.2)
  | .buildSlice _ _ parts => parts.toList.map (·.2)
  | .slice _ x lo hi mx => x :: (lo.toList ++ hi.toList ++ mx.toList)
  | .call c => (match c.callee with | .value f => [f] | .invoke r _ => [r] | .builtin _ => []) ++ c.args.toList
  | _ => []

def looksB : Op → Bool
  | .load _ _ => true
  | .store _ _ _ => true
  | _ => false
def turnsB : Op → Bool
  | .store _ _ _ => true
  | _ => false
def usesT : Op → Bool
  | .call c => (match c.callee with | .builtin .append => true | _ => false)
  | _ => false
/-- Is it a call of a function that stands in a slot? -/
def via : Op → Bool
  | .call c => (match c.callee with | .value (.func _) => false | .value _ => true | _ => false)
  | _ => false

def calm (y : Bool) (o : AO) : Bool :=
  (nilTest o).isNone && !(y && via o.op) && match o.op with
  | .alloc _ => false
  | .box _ _ => false
  | .makeSlice _ _ _ => o.inf.agg && o.inf.acc.isEmpty
  | _ => o.inf.acc.isEmpty

def gslot (all : List AO) (o : AO) : Option Nat := match o.guard with
  | some (j, _) => (all[j]?).bind (·.dst)
  | none => none

def slots (all : List AO) (o : AO) : List Nat := (opds o.op).filterMap (fun | .tmp n => some n | _ => none) ++ (gslot all o).toList

def apart (all : List AO) (x y : AO) : Bool := match x.dst with
  | some d => !(slots all y).contains d && y.dst != some d
  | none => true

def indep (v : Bool) (all : List AO) (x y : AO) : Bool :=
  calm v x && calm v y && apart all x y && apart all y x && !(turnsB x.op && looksB y.op) && !(turnsB y.op && looksB x.op) && !(usesT x.op && usesT y.op)

/-- Is x before oi by the edges? -/
def reach (ao : List AO) (x : Nat) : Nat → List Nat → Bool
  | 0, _ => false
  | d + 1, l => l.contains x || l.any fun j => match ao[j]? with | some o => reach ao x d o.pre | none => false

def drawOk (v : Bool) (ao : List AO) : Bool :=
  (List.range ao.length).all fun i => match ao[i]? with
    | none => false
    | some oi => oi.pre.all (fun j => decide (j < i)) && (List.range i).all fun x => match ao[x]? with
      | none => false
      | some ox => oi.pre.contains x || indep v ao ox oi || reach ao x 6 oi.pre

/-! ### What an operation turns -/
structure Up where
  tm : Option (Nat × TV)
  bx : Option (Nat × List TV)
  tk : Option (Nat × Nat)

def Up.on (u : Up) (s : St) : St :=
  { s with
    tm := match u.tm with | some (d, x) => s.tm.set d x | none => s.tm
    bx := match u.bx with | some (b, c) => upd b c s.bx | none => s.bx
    tk := match u.tk with | some (t, n) => upd t n s.tk | none => s.tk }

def put1 (d : Option Nat) (x : TV) : Up := { tm := d.map (·, x), bx := none, tk := none }

theorem put1_on (d : Option Nat) (x : TV) (s : St) : (put1 d x).on s = putT s d x := by
  cases d <;> rfl

/-- The two states look alike to the operation. -/
structure Alike (all : List AO) (o : AO) (s s2 : St) : Prop where
  ops : ∀ x ∈ opds o.op, ev s x = ev s2 x
  gd : ∀ d, gslot all o = some d → s.tm[d]? = s2.tm[d]?
  ro : s.ro = s2.ro
  bx : looksB o.op = true → ∀ z ∈ opds o.op, ∀ b off, ev s z = some (.ptr b off) → lk b s.bx = lk b s2.bx
  tk : usesT o.op = true → s.tk = s2.tk

theorem pvs_congr {s s2 : St} : ∀ {l : List Operand}, (∀ x ∈ l, ev s x = ev s2 x) → pvs s l = pvs s2 l
  | [], _ => rfl
  | x :: l, h => by
    have h1 : pv s x = pv s2 x := by unfold pv; rw [h x (by simp)]
    have h2 := pvs_congr (l := l) fun y hy => h y (by simp [hy])
    simp only [pvs, h1, h2]

theorem capsA_congr {s s2 : St} (hr : s.ro = s2.ro) : ∀ {l : List Operand}, (∀ x ∈ l, ev s x = ev s2 x) → capsA s l = capsA s2 l
  | [], _ => rfl
  | x :: l, h => by
    have h0 : capA s = capA s2 := by funext t; cases t <;> simp only [capA, hr]
    have h2 := capsA_congr hr (l := l) fun y hy => h y (by simp [hy])
    simp only [capsA, h x (by simp), h0, h2]

theorem optPv_congr {s s2 : St} {o : Option Operand} (h : ∀ x ∈ o.toList, ev s x = ev s2 x) : o.map (pv s) = o.map (pv s2) := by
  cases o with
  | none => rfl
  | some x => simp only [Option.map_some, pv, h x (by simp)]

theorem valA_congr {op : Op} {i : Inf} {s s2 : St} (h : ∀ x ∈ opds op, ev s x = ev s2 x) (hr : s.ro = s2.ro) (hb : looksB op = true → ∀ z ∈ opds op, ∀ b off, ev s z = some (.ptr b off) → lk b s.bx = lk b s2.bx) : valA s op i = valA s2 op i := by
  cases op <;> simp only [opds, List.mem_cons, List.not_mem_nil, or_false, forall_eq_or_imp, forall_eq] at h <;> simp only [valA]
  case move => exact h
  case assign => exact h
  case pick => simp only [pv, h.1, h.2.1, h.2.2]
  case load =>
    rename_i x
    have key : ∀ t, ev s x = some t → ldA s i.agg i.n t = ldA s2 i.agg i.n t := fun t ht => by
      cases t with
      | ptr b off => simp only [ldA, hb rfl x (by simp [opds]) b off ht, hr]
      | v p => cases p <;> rfl
      | acc => rfl
      | own => rfl
    rw [← h]
    cases he : ev s x with
    | none => rfl
    | some t => exact key t he
  case fieldAddr => rw [h]
  case field => simp only [pv, h]
  case indexAddr => simp only [pv, h.1, h.2]
  case index => simp only [pv, h.1, h.2]
  case binOp => simp only [h.1, h.2]
  case unOp => simp only [pv, h]
  case makeInterface => simp only [pv, h]
  case extract => simp only [pv, h]
  case makeFunc => rw [capsA_congr hr h]
  case build => rw [pvs_congr h]
  case convert => simp only [pv, h]
  case slice t x lo hi mx =>
    have h0 : pv s x = pv s2 x := by unfold pv; rw [h.1]
    rw [h0, optPv_congr (o := lo) fun x hx => h.2 x (by simp [hx]), optPv_congr (o := hi) fun x hx => h.2 x (by simp [hx]), optPv_congr (o := mx) fun x hx => h.2 x (by simp [hx])]
  case call c =>
    have ha : ∀ x ∈ c.args.toList, ev s x = ev s2 x := fun x hx => h x (by simp [hx])
    split
    · rename_i x h1 h2
      have : pv s x = pv s2 x := by unfold pv; rw [ha x (by rw [h2]; simp)]
      rw [this]
    · rw [pvs_congr ha]
    · rw [pvs_congr ha]
    · rfl

section
variable {P : Program}

/-- What an operation does, as a turn of the state. -/
def Turns (P : Program) (its : Option (Nat × List (List PV))) (all : List AO) (o : AO) (s : St) (u : Up) : Prop :=
  (∀ d x, u.tm = some (d, x) → o.dst = some d) ∧ (∀ b c, u.bx = some (b, c) → ∃ t x y off, o.op = .store t x y ∧ ev s x = some (.ptr b off)) ∧ (u.tk.isSome = true → usesT o.op = true) ∧
    ∀ s2, Alike all o s s2 → ∀ K, K (u.on s2) → wpOp P its all o s2 K

/-- The same, of the operation without its guard. -/
def Turns0 (P : Program) (its : Option (Nat × List (List PV))) (o : AO) (s : St) (u : Up) : Prop :=
  (∀ d x, u.tm = some (d, x) → o.dst = some d) ∧ (∀ b c, u.bx = some (b, c) → ∃ t x y off, o.op = .store t x y ∧ ev s x = some (.ptr b off)) ∧ (u.tk.isSome = true → usesT o.op = true) ∧
    ∀ s2, (∀ x ∈ opds o.op, ev s x = ev s2 x) → s.ro = s2.ro → (looksB o.op = true → ∀ z ∈ opds o.op, ∀ b off, ev s z = some (.ptr b off) → lk b s.bx = lk b s2.bx) → (usesT o.op = true → s.tk = s2.tk) → ∀ K, K (u.on s2) → execB P its s2 o K

theorem Turns.bxB {its : Option (Nat × List (List PV))} {all : List AO} {o : AO} {s : St} {u : Up} (h : Turns P its all o s u) (p : u.bx.isSome = true) : turnsB o.op = true := by
  obtain ⟨⟨b, c⟩, hbc⟩ := Option.isSome_iff_exists.1 p
  obtain ⟨t, x, y, off, ho, _⟩ := h.2.1 b c hbc
  rw [ho]
  rfl

variable {its : Option (Nat × List (List PV))}

theorem put1_tm {o : AO} {x : TV} : ∀ d y, (put1 o.dst x).tm = some (d, y) → o.dst = some d := by
  intro d y h
  cases hd : o.dst with
  | none => simp [put1, hd] at h
  | some d' => simp only [put1, hd, Option.map_some, Option.some.injEq, Prod.mk.injEq] at h; rw [h.1]

theorem turns_val {o : AO} {s : St} {K : St → Prop} (hstep : ∀ s, stepA s o.dst o.op o.inf = (valA s o.op o.inf).map (putT s o.dst))
    (hex : ∀ s K, execB P its s o K = ∃ s', stepA s o.dst o.op o.inf = some s' ∧ K s') (h : ∃ s', stepA s o.dst o.op o.inf = some s' ∧ K s') :
    ∃ u, Turns0 P its o s u ∧ K (u.on s) := by
  obtain ⟨s', h1, h2⟩ := h
  rw [hstep] at h1
  obtain ⟨tv, h3, rfl⟩ := Option.map_eq_some_iff.1 h1
  refine ⟨put1 o.dst tv, ⟨put1_tm, (fun _ _ h => by simp [put1] at h), (fun h => by simp [put1] at h), ?_⟩, by rw [put1_on]; exact h2⟩
  intro s2 ho hr hb ht K' hK
  rw [hex]
  rw [put1_on] at hK
  exact ⟨_, by rw [hstep, ← valA_congr ho hr hb, h3]; rfl, hK⟩

theorem turns_call {o : AO} {s : St} {K : St → Prop} {c : Call} (hv : its = none ∨ via o.op = false) (ho : o.op = .call c) (hb : ∀ b, c.callee ≠ .builtin b) (h : callA P its s o.dst c K) : ∃ u, Turns0 P its o s u ∧ K (u.on s) := by
  have hex : ∀ s K, execB P its s o K = callA P its s o.dst c K := fun s K => by
    unfold execB
    rw [ho]
    simp only
  have key : ∀ r : PV, (∀ s2, (∀ x ∈ opds o.op, ev s x = ev s2 x) → ∀ K' : St → Prop, K' (putT s2 o.dst (.v r)) → callA P its s2 o.dst c K') → K (putT s o.dst (.v r)) → ∃ u, Turns0 P its o s u ∧ K (u.on s) := by
    intro r hr hK
    refine ⟨put1 o.dst (.v r), ⟨put1_tm, (fun _ _ h => by simp [put1] at h), (fun h => by simp [put1] at h), ?_⟩, by rw [put1_on]; exact hK⟩
    intro s2 h2 _ _ _ K' hK'
    rw [hex]
    rw [put1_on] at hK'
    exact hr s2 h2 K' hK'
  unfold callA at h
  split at h
  · exact h.elim
  · rename_i f hf
    have hops : ∀ s2, (∀ x ∈ opds o.op, ev s x = ev s2 x) → ev s f = ev s2 f ∧ pvs s c.args.toList = pvs s2 c.args.toList := fun s2 h2 => by
      rw [ho] at h2
      simp only [opds, hf] at h2
      exact ⟨h2 f (by simp), pvs_congr fun x hx => h2 x (by simp [hx])⟩
    split at h
    · rename_i k caps ps h1 h2
      obtain ⟨r, hOk, hK⟩ := h
      refine key r (fun s2 ha K' hK' => ?_) hK
      obtain ⟨e1, e2⟩ := hops s2 ha
      unfold callA
      rw [hf]
      simp only [← e1, ← e2, h1, h2]
      exact ⟨r, hOk, hK'⟩
    · rename_i l' ps h1 h2
      rcases hv with rfl | hv
      · exact h.elim
      · exfalso
        rw [ho] at hv
        simp only [via, hf] at hv
        cases f <;> simp [ev] at hv h1
    · exact h.elim
  · rename_i rr name hf
    have hops : ∀ s2, (∀ x ∈ opds o.op, ev s x = ev s2 x) → ev s rr = ev s2 rr ∧ pvs s c.args.toList = pvs s2 c.args.toList := fun s2 h2 => by
      rw [ho] at h2
      simp only [opds, hf] at h2
      exact ⟨h2 rr (by simp), pvs_congr fun x hx => h2 x (by simp [hx])⟩
    split at h
    · rename_i t x ps h1 h2
      obtain ⟨f, r, hM, hOk, hK⟩ := h
      refine key r (fun s2 ha K' hK' => ?_) hK
      obtain ⟨e1, e2⟩ := hops s2 ha
      unfold callA
      rw [hf]
      simp only [← e1, ← e2, h1, h2]
      exact ⟨f, r, hM, hOk, hK'⟩
    · exact h.elim

theorem turns_exec {v : Bool} {o : AO} {s : St} {K : St → Prop} (hv : its = none ∨ via o.op = false) (hc : calm v o = true) (h : execB P its s o K) : ∃ u, Turns0 P its o s u ∧ K (u.on s) := by
  obtain ⟨dst, op, guard, pre, inf⟩ := o
  cases op
  case alloc => simp [calm] at hc
  case box => simp [calm] at hc
  case makeSlice t l c =>
    have hagg : inf.agg = true := by simp only [calm, Bool.and_eq_true] at hc; exact hc.2.1
    simp only [execB] at h
    obtain ⟨s', h1, h2⟩ := h
    simp only [stepA] at h1
    split at h1
    · rename_i d k n k' m hl hc'
      rw [if_pos hagg] at h1
      split at h1
      · rename_i hcond
        cases h1
        refine ⟨put1 (some d) (.v (.sl true (List.replicate n.toNat (.s (inf.zero.headD .nilFunc))))), ⟨put1_tm (o := ⟨some d, .makeSlice t l c, guard, pre, inf⟩), (fun _ _ e => by cases e), (fun e => by cases e), ?_⟩, by rw [put1_on]; exact h2⟩
        intro s2 ho _ _ _ K' hK'
        rw [put1_on] at hK'
        simp only [execB]
        refine ⟨_, ?_, hK'⟩
        simp only [opds, List.mem_cons, List.not_mem_nil, or_false, forall_eq_or_imp, forall_eq] at ho
        simp only [stepA, ← ho.1, ← ho.2, hl, hc']
        rw [if_pos hagg, if_pos hcond]
      · cases h1
    · cases h1
  case call c =>
    by_cases hb : ∃ b, c.callee = .builtin b
    · obtain ⟨b, hb⟩ := hb
      obtain ⟨callee, args, ats⟩ := c
      simp only at hb
      subst hb
      by_cases ha : b = .append
      · subst ha
        simp only [execB] at h
        obtain ⟨s', h1, h2⟩ := h
        simp only [stepA] at h1
        split at h1
        · rename_i x y d _ hargs
          split at h1
          · rename_i p ys hx hy
            have hne : inf.acc.isEmpty = true := by simp only [calm, Bool.and_eq_true] at hc; exact hc.2
            have hops : ∀ s2, (∀ z ∈ opds (.call ⟨.builtin .append, args, ats⟩), ev s z = ev s2 z) → ev s2 x = some p ∧ (pv s2 y).bind rowOf = some ys := fun s2 ha => by
              simp only [opds, List.nil_append] at ha
              have e1 := ha x (by rw [hargs]; simp)
              have e2 := ha y (by rw [hargs]; simp)
              refine ⟨by rw [← e1]; exact hx, ?_⟩
              unfold pv at hy ⊢
              rw [← e2]; exact hy
            unfold appA at h1
            split at h1
            · rename_i t els
              split at h1
              · rename_i hfit
                cases h1
                refine ⟨⟨some (d, .acc t (els ++ ys)), none, some (t, els.length + ys.length)⟩, ⟨(fun d' x' e => by cases e; rfl), (fun _ _ e => by cases e), (fun _ => rfl), ?_⟩, h2⟩
                intro s2 ho _ _ ht K' hK'
                obtain ⟨e1, e2⟩ := hops s2 ho
                have ht := ht rfl
                simp only [execB]
                refine ⟨_, ?_, hK'⟩
                simp only [stepA, hargs, e1, e2, appA]
                rw [if_pos (by rw [← ht]; exact hfit)]
                rfl
              · cases h1
            · rw [hne] at h1; simp at h1
            · split at h1
              · rename_i hfit
                cases h1
                rename_i els
                refine ⟨put1 (some d) (.v (.sl false (els ++ ys))), ⟨put1_tm (o := ⟨some d, .call ⟨.builtin .append, args, ats⟩, guard, pre, inf⟩), (fun _ _ e => by cases e), (fun e => by cases e), ?_⟩, by rw [put1_on]; exact h2⟩
                intro s2 ho _ _ _ K' hK'
                obtain ⟨e1, e2⟩ := hops s2 ho
                rw [put1_on] at hK'
                simp only [execB]
                refine ⟨_, ?_, hK'⟩
                simp only [stepA, hargs, e1, e2, appA]
                rw [if_pos hfit, if_pos hne]
              · cases h1
            · cases h1
          · cases h1
        · obtain ⟨tv, hv, _⟩ := Option.map_eq_some_iff.1 h1
          simp [valA] at hv
      · refine turns_val (fun s => ?_) (fun s K => ?_) h
        · simp only [stepA]
          split <;> simp_all
        · simp only [execB]
    · have hb' : ∀ b, c.callee ≠ .builtin b := fun b e => hb ⟨b, e⟩
      refine turns_call (c := c) hv rfl hb' ?_
      simp only [execB] at h
      exact h
  case store t x y =>
    simp only [execB] at h
    obtain ⟨s', h1, h2⟩ := h
    simp only [stepA] at h1
    split at h1
    · rename_i p q hp hq
      obtain ⟨s1, h3, rfl⟩ := Option.map_eq_some_iff.1 h1
      unfold storeA at h3
      split at h3
      · rename_i b off
        split at h3
        · rename_i cs xs hlk hxs
          split at h3
          · rename_i hle
            cases h3
            refine ⟨⟨dst.map (·, .v .junk), some (b, cs.take off ++ xs ++ cs.drop (off + xs.length)), none⟩, ⟨put1_tm (o := ⟨dst, .store t x y, guard, pre, inf⟩) (x := .v .junk), (fun _ _ e => by cases e; exact ⟨t, x, y, off, rfl, hp⟩), (fun e => by cases e), ?_⟩, ?_⟩
            · intro s2 ho _ hb _ K' hK'
              simp only [opds, List.mem_cons, List.not_mem_nil, or_false, forall_eq_or_imp, forall_eq] at ho
              simp only [execB]
              refine ⟨_, ?_, hK'⟩
              rw [hb rfl x (by simp [opds]) _ _ hp] at hlk
              simp only [stepA, ← ho.1, ← ho.2, hp, hq, storeA, hlk, hxs]
              rw [if_pos hle]
              cases dst <;> rfl
            · revert h2
              cases dst <;> exact fun h => h
          · cases h3
        · cases h3
      · cases h3
    · cases h1
  case buildSlice t len parts =>
    simp only [execB] at h
    obtain ⟨s', h1, h2⟩ := h
    simp only [stepA] at h1
    split at h1
    · rename_i ps hps
      split at h1
      · rename_i hcond
        cases h1
        refine ⟨put1 dst (.v (.sl true ps)), ⟨put1_tm (o := ⟨dst, .buildSlice t len parts, guard, pre, inf⟩), (fun _ _ e => by cases e), (fun e => by cases e), ?_⟩, by rw [put1_on]; exact h2⟩
        intro s2 ho _ _ _ K' hK'
        rw [put1_on] at hK'
        simp only [execB]
        refine ⟨_, ?_, hK'⟩
        simp only [opds] at ho
        simp only [stepA, ← pvs_congr ho, hps]
        rw [if_pos hcond]
      · cases h1
    · cases h1
  case assign x =>
    have hne : inf.acc = [] := by simp only [calm, Bool.and_eq_true] at hc; exact List.isEmpty_iff.1 hc.2
    refine turns_val (fun s => ?_) (fun s K => by simp only [execB]) h
    simp only [stepA, hne]
    split <;> simp_all
  all_goals exact turns_val (fun s => rfl) (fun s K => rfl) h

theorem execA_calm {v : Bool} {o : AO} {s : St} {K : St → Prop} (hc : calm v o = true) : execA P its s o K = execB P its s o K := by
  unfold calm at hc
  simp only [Bool.and_eq_true, Option.isNone_iff_eq_none] at hc
  unfold execA
  rw [hc.1.1]

theorem turns_op {v : Bool} {all : List AO} {o : AO} {s : St} {K : St → Prop} (hv : v = true ∨ its = none) (hc : calm v o = true) (h : wpOp P its all o s K) : ∃ u, Turns P its all o s u ∧ K (u.on s) := by
  have hv' : its = none ∨ via o.op = false := by
    rcases hv with rfl | hv
    · simp only [calm, Bool.true_and, Bool.and_eq_true, Bool.not_eq_true'] at hc
      exact .inr hc.1.2
    · exact .inl hv
  unfold wpOp at h
  split at h
  · rename_i hg
    rw [execA_calm hc] at h
    obtain ⟨u, ⟨h1, h2, h3, h4⟩, hK⟩ := turns_exec hv' hc h
    refine ⟨u, ⟨h1, h2, h3, fun s2 ha K' hK' => ?_⟩, hK⟩
    unfold wpOp
    rw [hg]
    simp only [execA_calm hc]
    exact h4 s2 ha.ops ha.ro ha.bx ha.tk K' hK'
  · rename_i j want hg
    have hgs : ∀ s2, Alike all o s s2 → ((all[j]?).bind (·.dst)).bind (s2.tm[·]?) = ((all[j]?).bind (·.dst)).bind (s.tm[·]?) := fun s2 ha => by
      have hgd := ha.gd
      simp only [gslot, hg] at hgd
      cases hd : (all[j]?).bind (·.dst) with
      | none => rfl
      | some d => exact (hgd d hd).symm
    split at h
    · rename_i b hb
      split at h
      · rename_i hbw
        rw [execA_calm hc] at h
        obtain ⟨u, ⟨h1, h2, h3, h4⟩, hK⟩ := turns_exec hv' hc h
        refine ⟨u, ⟨h1, h2, h3, fun s2 ha K' hK' => ?_⟩, hK⟩
        unfold wpOp
        rw [hg]
        simp only [hgs s2 ha, hb]
        rw [if_pos hbw, execA_calm hc]
        exact h4 s2 ha.ops ha.ro ha.bx ha.tk K' hK'
      · rename_i hbw
        refine ⟨put1 o.dst (.v .junk), ⟨put1_tm, (fun _ _ e => by cases e), (fun e => by cases e), fun s2 ha K' hK' => ?_⟩, by rw [put1_on]; exact h⟩
        rw [put1_on] at hK'
        unfold wpOp
        rw [hg]
        simp only [hgs s2 ha, hb]
        rw [if_neg hbw]
        exact hK'
    · exact h.elim

end
end Go.Proofs.Ytnfomjnmigkpmaa.A
