/- What 'wpA' tells, the model does. -/
import Derived.Test.YtnfomjnmigkpmaaA19
set_option linter.unusedVariables false
set_option linter.unusedSimpArgs false
namespace Go.Proofs.Ytnfomjnmigkpmaa.A
open Go Go.RowKit Go.Shelf

/-- A region that draws its order, whose told run is the text's: see the text on regions. -/
def DrawSound (P : Program) (y : Bool) (ao : List AO) : Prop :=
  ∀ (ops : Array Oper), OpsAgree P ao ops → P.follows .mixedOrders = true → ∀ (its : Option (Nat × List (List PV))) (w00 : World) (I00 : Imm) (Jt : Nat → Imm → World → Prop) (ro : Option Nat) (Q : XA → St → Prop)
    (I : Imm) (w : World) (s : St) (sav : List (Array Value)) (a : Act) (w0 : World) (I0 : Imm) (β : Nat → Nat) (κ : Nat → Nat × Nat × Nat) (t : Nat), Ctx P its Jt → (its.isSome = true → a.defers = []) → Base its w00 I00 Jt s.it w0 I0 → Sim w0 I0 I β κ s sav a w → wpOpsA P (if y = true then its else none) ao ao s (Q .normal) →
    wpOpsIn (wideR ro) 0 P ops (PostA its (Base its w00 I00 Jt) I sav w Q) (Region.linearise .any ops t) a w.drew

/-- The same, of a region that makes variables. -/
def DrawSoundC (P : Program) (pa : List (Nat × Nat)) (ao : List AO) : Prop :=
  ∀ (ops : Array Oper), OpsAgree P ao ops → P.follows .mixedOrders = true → ∀ (its : Option (Nat × List (List PV))) (w00 : World) (I00 : Imm) (Jt : Nat → Imm → World → Prop) (ro : Option Nat) (Q : XA → St → Prop)
    (I : Imm) (w : World) (s : St) (sav : List (Array Value)) (a : Act) (w0 : World) (I0 : Imm) (β : Nat → Nat) (κ : Nat → Nat × Nat × Nat) (t : Nat), Ctx P its Jt → (its.isSome = true → a.defers = []) → Base its w00 I00 Jt s.it w0 I0 → Sim w0 I0 I β κ s sav a w → (freeAll (dsL ao) s && paOk pa s) = true → wpOpsC P pa ao ao s (Q .normal) →
    wpOpsIn (wideR ro) 0 P ops (PostA its (Base its w00 I00 Jt) I sav w Q) (Region.linearise .any ops t) a w.drew

/-- The told code is the code. -/
def Ag (P : Program) : AC → Code → Prop
  | .gh _ x, c => Ag P x c
  | .dead, _ => True
  | .skip, .skip => True
  | .skip, .label _ => True
  | .reg d y ao, .region _ ops d' => d = d' ∧ OpsAgree P ao ops ∧ (d = true → P.follows .mixedOrders = true ∧ DrawSound P y ao)
  | .regd pa ao, .region _ ops d' => d' = true ∧ OpsAgree P ao ops ∧ P.follows .mixedOrders = true ∧ DrawSoundC P pa ao
  | .seq x y, .seq c d => Ag P x c ∧ Ag P y d
  | .cond c x y, .cond c' d e => c = c' ∧ Ag P x d ∧ Ag P y e
  | .block id x, .block id' c => id = id' ∧ Ag P x c
  | .loop _ x, .loop c => Ag P x c
  | .rf f ps _ x y, .rangeFunc f' ps' c d => f = f' ∧ ps = ps'.toList ∧ Ag P x c ∧ Ag P y d
  | .exit id, .exit id' => id = id'
  | .ret, .ret => True
  | _, _ => False

section
variable {P : Program}

theorem calls_ro {ro : Option Nat} {f : FuncId} {args : Array Value} {w : World} {R : Ending → World → Prop} (h : Calls P f args w R) : CallsIn (wideR ro) (0 - 1) P f args w R := by
  have := (callsIn_wide (n := 0 - 1)).2 h
  cases ro with
  | none => exact this
  | some l => exact CallsIn.inRound l this

theorem least {p : Nat → Prop} (h : ∃ m, p m) : ∃ m, p m ∧ ∀ k, p k → m ≤ k := by
  obtain ⟨m, hm⟩ := h
  induction m using Nat.strongRecOn with
  | _ m ih =>
    by_cases hk : ∃ k, k < m ∧ p k
    · obtain ⟨k, hlt, hp⟩ := hk
      exact ih k hlt hp
    · exact ⟨m, hm, fun k hp => Nat.le_of_not_lt fun hlt => hk ⟨k, hlt, hp⟩⟩

theorem wpIn_loop_rel {F : Fence} {n : Nat} {c : Code} {Q : Exit → Act → World → Prop} {a : Act} {w : World} (Inv : Nat → Act → World → Prop) {m : Nat} (h0 : Inv m a w)
    (round : ∀ m a w, Inv m a w → c.wpIn F n P (Exit.then (fun a' w' => ∃ m', m' < m ∧ Inv m' a' w') Q) a w) : (Code.loop c).wpIn F n P Q a w := by
  classical
  let μ : Act → World → Nat := fun a w => if h : ∃ m, Inv m a w then (least h).choose else 0
  have hμ : ∀ a w (h : ∃ m, Inv m a w), Inv (μ a w) a w ∧ ∀ k, Inv k a w → μ a w ≤ k := fun a w h => by
    simp only [μ, dif_pos h]
    exact (least h).choose_spec
  refine wpIn_loop (fun a w => ∃ m, Inv m a w) μ ⟨m, h0⟩ ?_
  intro a w hI
  refine wpIn_mono (round (μ a w) a w (hμ a w hI).1) ?_
  intro e a' w' hq
  cases e with
  | normal =>
    obtain ⟨m', hlt, hi⟩ := hq
    exact ⟨⟨m', hi⟩, Nat.lt_of_le_of_lt ((hμ a' w' ⟨m', hi⟩).2 m' hi) hlt⟩
  | _ => exact hq

/-- The record of the round that is walked lies there. -/
def RoundAt (ro : Option Nat) (w : World) : Prop := ∀ l, ro = some l → ∃ r, w.heap[l]? = some (.loop r)

theorem RoundAt.keep {ro : Option Nat} {w w' : World} (h : RoundAt ro w) (hk : KeepsOthers w w') : RoundAt ro w' := fun l hl => by
  obtain ⟨r, hr⟩ := h l hl
  exact ⟨r, hk.same l _ hr rfl⟩

theorem PostA.mono {its : Option (Nat × List (List PV))} {B : Nat → World → Imm → Prop} {I J : Imm} {sav : List (Array Value)} {w w' : World} {Q : XA → St → Prop} (hle : I.le J) (hk : its = none → KeepsOthers w w') {e : Exit} {a2 : Act} {w2 : World}
    (h : PostA its B J sav w' Q e a2 w2) : PostA its B I sav w Q e a2 w2 := by
  cases e with
  | normal => obtain ⟨s', J', h1, h2, h3, h4⟩ := h; exact ⟨s', J', h1, Imm.le_trans hle h2, fun e => (hk e).trans (h3 e), h4⟩
  | ret => obtain ⟨s', J', h1, h2, h3, h4⟩ := h; exact ⟨s', J', h1, Imm.le_trans hle h2, fun e => (hk e).trans (h3 e), h4⟩
  | exit id => obtain ⟨s', J', h1, h2, h3, h4⟩ := h; exact ⟨s', J', h1, Imm.le_trans hle h2, fun e => (hk e).trans (h3 e), h4⟩
  | _ => exact h

theorem sound : ∀ (c : AC) (code : Code), Ag P c code → ∀ (its : Option (Nat × List (List PV))) (w00 : World) (I00 : Imm) (Jt : Nat → Imm → World → Prop) (ro : Option Nat), Ctx P its Jt → (ro.isSome = true → its = none) →
    ∀ (Q : XA → St → Prop) (I : Imm) (w : World) (s : St) (sav : List (Array Value)) (a : Act), wpA P its c Q s → RoundAt ro w → Sat its (Base its w00 I00 Jt) I s sav a w →
      code.wpIn (wideR ro) 0 P (PostA its (Base its w00 I00 Jt) I sav w Q) a w := by
  intro c
  induction c with
  | dead =>
    intro code hag its w00 I00 Jt ro hctx hro Q I w s sav a hs hr hsat
    exact hs.elim
  | gh g x ih =>
    intro code hag its w00 I00 Jt ro hctx hro Q I w s sav a hs hr hsat
    obtain ⟨s1, h1, h2⟩ := hs
    obtain ⟨J, hJ, hsat'⟩ := sat_ghs hsat h1
    exact wpIn_mono (ih code hag its w00 I00 Jt ro hctx hro Q J w s1 sav a h2 hr hsat') fun e a2 w2 h => PostA.mono hJ (fun _ => KeepsOthers.refl _) h
  | skip =>
    intro code hag its w00 I00 Jt ro hctx hro Q I w s sav a hs hr hsat
    cases code <;> first | exact hag.elim | skip
    · exact wpIn_skip ⟨s, I, hs, Imm.le_refl _, fun _ => KeepsOthers.refl _, hsat⟩
    · exact wpIn_label ⟨s, I, hs, Imm.le_refl _, fun _ => KeepsOthers.refl _, hsat⟩
  | reg d y ao =>
    intro code hag its w00 I00 Jt ro hctx hro Q I w s sav a hs hr hsat
    cases code <;> first | exact hag.elim | skip
    rename_i id ops d'
    obtain ⟨rfl, hops, hdraw⟩ := hag
    obtain ⟨hdf, w0, I0, β, κ, hB, h⟩ := hsat
    cases d with
    | false =>
      refine wpIn_region ?_
      have := sound_ops (ro := ro) (Q := Q) hops hctx I w ops.size 0 (by omega) (Imm.le_refl _) (fun _ => KeepsOthers.refl _) hdf hB h (by rw [List.drop_zero]; exact hs)
      rwa [← List.range_eq_range'] at this
    | true =>
      obtain ⟨hmix, hds⟩ := hdraw rfl
      refine wpIn_region_draw fun t => ?_
      have e : Region.schedule (P.follows .mixedOrders) ops t = Region.linearise .any ops t := by simp [Region.schedule, hmix]
      rw [e]
      refine hds ops hops hmix its w00 I00 Jt ro Q I w s sav a w0 I0 β κ t hctx hdf hB h ?_
      cases y
      · exact hs
      · exact hs
  | regd pa ao =>
    intro code hag its w00 I00 Jt ro hctx hro Q I w s sav a hs hr hsat
    cases code <;> first | exact hag.elim | skip
    rename_i id ops d'
    obtain ⟨rfl, hops, hmix, hds⟩ := hag
    obtain ⟨hdf, w0, I0, β, κ, hB, h⟩ := hsat
    refine wpIn_region_draw fun t => ?_
    have e : Region.schedule (P.follows .mixedOrders) ops t = Region.linearise .any ops t := by simp [Region.schedule, hmix]
    rw [e]
    exact hds ops hops hmix its w00 I00 Jt ro Q I w s sav a w0 I0 β κ t hctx hdf hB h hs.1 hs.2
  | seq x y ihx ihy =>
    intro code hag its w00 I00 Jt ro hctx hro Q I w s sav a hs hr hsat
    cases code <;> first | exact hag.elim | skip
    rename_i cx cy
    obtain ⟨h1, h2⟩ := hag
    refine wpIn_seq (wpIn_mono (ihx cx h1 its w00 I00 Jt ro hctx hro _ I w s sav a hs hr hsat) ?_)
    intro e a2 w2 hp
    cases e with
    | normal =>
      obtain ⟨s', J, k1, k2, k3, k4⟩ := hp
      have hr' : RoundAt ro w2 := fun l hl => (hr.keep (k3 (hro (by simp [hl])))) l hl
      exact wpIn_mono (ihy cy h2 its w00 I00 Jt ro hctx hro Q J w2 s' sav a2 k1 hr' k4) fun e a3 w3 h => PostA.mono k2 k3 h
    | ret => exact hp
    | exit id => exact hp
    | _ => exact hp
  | cond c x y ihx ihy =>
    intro code hag its w00 I00 Jt ro hctx hro Q I w s sav a hs hr hsat
    cases code <;> first | exact hag.elim | skip
    rename_i c' cx cy
    obtain ⟨rfl, h1, h2⟩ := hag
    simp only [wpA] at hs
    split at hs
    · rename_i b hb
      obtain ⟨hdf, w0, I0, β, κ, hB, h⟩ := hsat
      have hv := (ev_R h hb).inv.inv_s
      refine wpIn_cond hv ?_
      cases b with
      | true => exact ihx cx h1 its w00 I00 Jt ro hctx hro Q I w s sav a (by simpa using hs) hr ⟨hdf, w0, I0, β, κ, hB, h⟩
      | false => exact ihy cy h2 its w00 I00 Jt ro hctx hro Q I w s sav a (by simpa using hs) hr ⟨hdf, w0, I0, β, κ, hB, h⟩
    · exact hs.elim
  | block id x ih =>
    intro code hag its w00 I00 Jt ro hctx hro Q I w s sav a hs hr hsat
    cases code <;> first | exact hag.elim | skip
    rename_i id' cx
    obtain ⟨rfl, h1⟩ := hag
    refine wpIn_block (wpIn_mono (ih cx h1 its w00 I00 Jt ro hctx hro _ I w s sav a hs hr hsat) ?_)
    intro e a2 w2 hp
    cases e with
    | exit j =>
      obtain ⟨s', J, k1, k2, k3, k4⟩ := hp
      simp only [Exit.inBlock]
      by_cases hj : j = id
      · rw [if_pos hj]
        simp only [hj, if_true] at k1
        exact ⟨s', J, k1, k2, k3, k4⟩
      · rw [if_neg hj]
        simp only [hj, if_false] at k1
        exact ⟨s', J, k1, k2, k3, k4⟩
    | _ => exact hp
  | loop g x ih =>
    intro code hag its w00 I00 Jt ro hctx hro Q I w s sav a hs hr hsat
    cases code <;> first | exact hag.elim | skip
    rename_i cx
    obtain ⟨Inv, m, s0, hg, h0, hround⟩ := hs
    obtain ⟨J0, hJ0, hsat0⟩ := sat_ghs hsat hg
    refine wpIn_loop_rel (fun m a' w' => ∃ s' J', Inv m s' ∧ I.le J' ∧ (its = none → KeepsOthers w w') ∧ Sat its (Base its w00 I00 Jt) J' s' sav a' w') (m := m) ⟨s0, J0, h0, hJ0, fun _ => KeepsOthers.refl _, hsat0⟩ ?_
    rintro m a1 w1 ⟨s1, J1, hi, hle, hk, hs1⟩
    have hr' : RoundAt ro w1 := fun l hl => (hr.keep (hk (hro (by simp [hl])))) l hl
    refine wpIn_mono (ih cx hag its w00 I00 Jt ro hctx hro _ J1 w1 s1 sav a1 (hround m s1 hi) hr' hs1) ?_
    intro e a2 w2 hp
    have hp' := PostA.mono hle hk hp
    cases e with
    | normal =>
      obtain ⟨s', J, ⟨s2, m', k0, k1, k1'⟩, k2, k3, k4⟩ := hp'
      obtain ⟨J2, hJ2, hsat2⟩ := sat_ghs k4 k0
      exact ⟨m', k1, s2, J2, k1', Imm.le_trans k2 hJ2, k3, hsat2⟩
    | ret => exact hp'
    | exit id => exact hp'
    | _ => exact hp'
  | exit id =>
    intro code hag its w00 I00 Jt ro hctx hro Q I w s sav a hs hr hsat
    cases code <;> first | exact hag.elim | skip
    obtain rfl := hag
    exact wpIn_exit ⟨s, I, hs, Imm.le_refl _, fun _ => KeepsOthers.refl _, hsat⟩
  | ret =>
    intro code hag its w00 I00 Jt ro hctx hro Q I w s sav a hs hr hsat
    cases code <;> first | exact hag.elim | skip
    exact wpIn_ret ⟨s, I, hs, Imm.le_refl _, fun _ => KeepsOthers.refl _, hsat⟩
  | rf f ps g x y ihx ihy =>
    intro code hag its w00 I00 Jt ro hctx hro Q I w s sav a hs hr hsat
    cases code <;> first | exact hag.elim | skip
    rename_i f' ps' cx cy
    obtain ⟨rfl, rfl, h1, h2⟩ := hag
    obtain ⟨items, p, s1, hits, hev, ⟨k, caps, hpk, hent, hiter⟩, hg, hR⟩ := hs
    subst hits
    obtain ⟨_, w0, I0, β, κ, ⟨rfl, rfl⟩, h⟩ := hsat
    subst hpk
    obtain ⟨arr, hfv, hcaps⟩ := (ev_R h hev).inv.inv_fn
    have hgo : ∀ (fn : FuncId) (wA : World) (mark : List Deferred) (dfb : Nat), Below w.heap.size w wA → Sim w0 I0 I β κ s sav { a with defers := mark ++ a.defers } wA →
        (Instr.enterLoop fn a.tmps ps' cx cy ro).run P w = .ok (wA.heap.size, mark) (wA.alloc (.loop { state := .ready, pending := none, fn, tmps := a.tmps, params := ps', assign := cx, body := cy, defers := dfb })) →
        CallsIn (wideR ro) (0 - 1) P k (#[.func (.yield wA.heap.size) #[] #[]] ++ arr) (wA.alloc (.loop { state := .ready, pending := none, fn, tmps := a.tmps, params := ps', assign := cx, body := cy, defers := dfb }))
          (rangePost (wideR ro) 0 P wA.heap.size (PostA none (Base none w0 I0 Jt) I sav w Q) { a with defers := mark ++ a.defers }) := by
      intro fn wA mark dfb hwA hA _
      obtain ⟨rec, hrec⟩ : ∃ rec : LoopState → Option Code → Loop, rec = fun st pe => { state := st, pending := pe, fn, tmps := a.tmps, params := ps', assign := cx, body := cy, defers := dfb } := ⟨_, rfl⟩
      have hl1 : (wA.alloc (.loop (rec .ready none))).heap[wA.heap.size]? = some (.loop (rec .ready none)) := World.alloc_heap_new wA _
      have hb1 : w0.heap.size ≤ wA.heap.size := hA.size
      have h1A := hA.alloc (.loop (rec .ready none))
      have hbet := h1A.between
      obtain ⟨_, J1, hJ1, hs1⟩ := ghs_sound g hbet hg
      have hround : RoundOk P wA.heap.size (BetwRounds g ps'.toList (fun Q' s' => wpA P none x (fun e s2 => match e with | .normal => wpA P none y Q' s2 | _ => False) s') Q items w0 I0 (a.tmps :: sav) wA I wA.heap.size rec) items := by
        rw [hrec]
        refine round_ok hb1 (Nat.le_refl _) ?_
        intro Q' s' I' β' κ' a' W hw hS hrr post hpost hlW
        have hx := ihx cx h1 none w0 I0 Jt (some wA.heap.size) (fun _ _ e => by cases e) (fun _ => rfl) _ I' W s' (a.tmps :: sav) a' hw
          (fun l hl => by cases hl; exact hrr) ⟨(fun e => by cases e), w0, I0, β', κ', ⟨rfl, rfl⟩, hS⟩
        refine wpIn_mono hx ?_
        intro e a2 w2 hp
        cases e with
        | normal =>
          obtain ⟨s2, J2, k1, k2, k3, _, w02, I02, β2, κ2, ⟨rfl, rfl⟩, hS2⟩ := hp
          have hl2 := (k3 rfl).same _ _ hlW rfl
          have hlt2 := (Array.getElem?_eq_some_iff.1 hl2).1
          refine ⟨_, run_beginRound hl2 rfl, ?_⟩
          have hS3 := hS2.putLoop hl2 hb1 (.loop { state := .busy, pending := none, fn, tmps := a.tmps, params := ps', assign := cx, body := cy, defers := dfb })
          have hy := ihy cy h2 none w02 I02 Jt (some wA.heap.size) (fun _ _ e => by cases e) (fun _ => rfl) Q' J2 _ s2 (a.tmps :: sav) a2 k1
            (fun l hl => by cases hl; exact ⟨_, World.putObj_heap_same hlt2⟩) ⟨(fun e => by cases e), w02, I02, β2, κ2, ⟨rfl, rfl⟩, hS3⟩
          refine wpIn_mono hy ?_
          have hcomb : ∀ {W' : World}, KeepsOthers (w2.putObj wA.heap.size (.loop { state := .busy, pending := none, fn, tmps := a.tmps, params := ps', assign := cx, body := cy, defers := dfb })) W' →
              KeepsOthers (W.putObj wA.heap.size (.loop { state := .busy, pending := none, fn, tmps := a.tmps, params := ps', assign := cx, body := cy, defers := dfb })) W' := fun {W'} hk =>
            ⟨by have := hk.size; have := (k3 rfl).size; simp at *; omega, fun j o hj ho => by
              by_cases ej : j = wA.heap.size
              · subst ej
                have hltW := (Array.getElem?_eq_some_iff.1 hlW).1
                rw [World.putObj_heap_same hltW] at hj
                cases hj
                exact hk.same _ _ (World.putObj_heap_same hlt2) rfl
              · rw [World.putObj_heap_other ej] at hj
                exact hk.same _ _ (by rw [World.putObj_heap_other ej]; exact (k3 rfl).same _ _ hj ho) ho⟩
          intro e a3 w3 hp
          cases e with
          | normal => obtain ⟨s3, J3, q1, q2, q3, _, w03, I03, β3, κ3, ⟨rfl, rfl⟩, hS4⟩ := hp; exact hpost .normal s3 J3 a3 w3 β3 κ3 q1 (Imm.le_trans k2 q2) (hcomb (q3 rfl)) hS4
          | ret => obtain ⟨s3, J3, q1, q2, q3, _, w03, I03, β3, κ3, ⟨rfl, rfl⟩, hS4⟩ := hp; exact hpost .ret s3 J3 a3 w3 β3 κ3 q1 (Imm.le_trans k2 q2) (hcomb (q3 rfl)) hS4
          | exit id => obtain ⟨s3, J3, q1, q2, q3, _, w03, I03, β3, κ3, ⟨rfl, rfl⟩, hS4⟩ := hp; exact hpost (.exit id) s3 J3 a3 w3 β3 κ3 q1 (Imm.le_trans k2 q2) (hcomb (q3 rfl)) hS4
          | goto _ => exact hp.elim
          | panic _ => exact hp.elim
          | outgrown => exact hp.elim
        | ret => obtain ⟨s2, J2, k1, _⟩ := hp; exact k1.elim
        | exit id => obtain ⟨s2, J2, k1, _⟩ := hp; exact k1.elim
        | goto _ => exact hp.elim
        | panic _ => exact hp.elim
        | outgrown => exact hp.elim
      have hcall := hiter J1 (wA.alloc (.loop (rec .ready none))) arr.toList hs1.good (hcaps.mono hJ1) wA.heap.size _ betw_abiding hround
        ⟨hJ1, KeepsOthers.alloc _ _, .inl ⟨Nat.zero_le _, s1, β, κ, by rw [List.drop_zero]; exact hR, hs1, hl1⟩⟩
      have e1 : #[Value.func (.yield wA.heap.size) #[] #[]] ++ arr.toList.toArray = #[Value.func (.yield wA.heap.size) #[] #[]] ++ arr := by simp
      rw [e1] at hcall
      have hcall' := calls_ro (ro := ro) hcall
      rw [hrec] at hcall'
      refine hcall'.mono ?_
      rintro e W' ⟨⟨v, rfl⟩, I', i, hle, hgd, ⟨hle2, hk2, hd⟩, hi⟩
      have fin : ∀ {s3 : St} {β3 : Nat → Nat} {κ3 : Nat → Nat × Nat × Nat} {r : Loop}, Sim w0 I0 I' β3 κ3 s3 (a.tmps :: sav) { tmps := #[], defers := [] } W' → W'.heap[wA.heap.size]? = some (.loop r) → ∀ o,
          Sat none (Base none w0 I0 Jt) I' (leaveR s3) sav { a with defers := mark ++ a.defers } (W'.putObj wA.heap.size o) ∧ KeepsOthers w (W'.putObj wA.heap.size o) := by
        intro s3 β3 κ3 r hS hl o
        have hS' := hS.putLoop hl hb1 o
        have hkA : KeepsOthers wA (W'.putObj wA.heap.size o) := keepsPut hk2 (Nat.le_refl _) o
        refine ⟨⟨(fun e => by cases e), w0, I0, β3, κ3, ⟨rfl, rfl⟩, hS'.leave ?_⟩, (KeepsOthers.ofBelow hwA).trans hkA⟩
        obtain ⟨Ds, d1, d2, d3⟩ := hA.dfr
        exact ⟨Ds, d1, d2, fun D hD => ⟨(d3 D hD).1, hkA.same _ _ (d3 D hD).2 rfl⟩⟩
      rcases hd with ⟨hin, s3, β3, κ3, hR3, hS, hl⟩ | ⟨hin, xa, s3, β3, κ3, c, hj, hq, hS, hl⟩
      · have e2 : items.drop i = [] := List.drop_eq_nil_of_le (by omega)
        rw [e2] at hR3
        obtain ⟨k1, k2⟩ := fin hS hl (.loop { state := .exhausted, pending := none, fn, tmps := a.tmps, params := ps', assign := cx, body := cy, defers := dfb })
        have hl := hl
        exact ⟨none, _, run_endLoop (P := P) hl (by simp), leaveR s3, I', hR3, hle2, fun _ => k2, k1⟩
      · obtain ⟨k1, k2⟩ := fin hS hl (.loop { state := .exhausted, pending := some c, fn, tmps := a.tmps, params := ps', assign := cx, body := cy, defers := dfb })
        have hl := hl
        refine ⟨some c, _, run_endLoop (P := P) hl (by simp), ?_⟩
        cases xa with
        | normal => cases hj
        | ret => cases hj; exact wpIn_ret ⟨leaveR s3, I', hq, hle2, fun _ => k2, k1⟩
        | exit id => cases hj; exact wpIn_exit ⟨leaveR s3, I', hq, hle2, fun _ => k2, k1⟩
    refine wpIn_rangeFunc ?_
    intro fn _
    have hinv : ∀ (l : Nat) (w1 : World), (resolve a.eval (rangeCall f l) 0).run P w1 = .ok { target := .fn (.func k) arr, args := #[.func (.yield l) #[] #[]] } w1 ∧
        (invoke (.fn (.func k) arr) #[.func (.yield l) #[] #[]]).run P w1 = .ok (.enter k (#[.func (.yield l) #[] #[]] ++ arr)) w1 := fun l w1 =>
      ⟨by simp only [resolve, hfv]; simp [Deferred.ofValue, Act.eval], by simp [invoke, hent (#[.func (.yield l) #[] #[]] ++ arr) w1]⟩
    cases hro' : ro with
    | none =>
      have hA : Sim w0 I0 I β κ s sav { a with defers := [{ target := .collected w.heap.size, args := #[] }] ++ a.defers } (w.alloc (.deferred (some []))) := by
        have h2 := h.alloc (.deferred (some []))
        obtain ⟨Ds, d1, d2, d3⟩ := h2.dfr
        obtain ⟨Ds', d1', d2', d3'⟩ := h.dfr
        refine { h2 with dfr := ⟨w.heap.size :: Ds', by simp [d1'], ?_, ?_⟩ }
        · refine List.nodup_cons.2 ⟨fun hm => ?_, d2'⟩
          have := (Array.getElem?_eq_some_iff.1 (d3' _ hm).2).1
          omega
        · intro D hD
          rcases List.mem_cons.1 hD with rfl | hD
          · exact ⟨h.size, World.alloc_heap_new w _⟩
          · exact ⟨(d3' D hD).1, (Below.heap_alloc w _ D (Array.getElem?_eq_some_iff.1 (d3' D hD).2).1).trans (d3' D hD).2⟩
      have hent2 := run_enterLoop_outer (P := P) (w := w) fn a.tmps ps' cx cy
      have hg2 := hgo fn (w.alloc (.deferred (some []))) [{ target := .collected w.heap.size, args := #[] }] w.heap.size ((Below.refl _ w).alloc (Nat.le_refl _) _) hA (by rw [hro', World.size_alloc]; exact hent2)
      rw [hro'] at hg2
      rw [World.size_alloc] at hg2
      exact ⟨_, _, _, _, _, _, _, _, hent2, (hinv _ _).1, fun _ _ => trivial, (hinv _ _).2, fun e => by simp [wideR, Fence.wide] at e, hg2⟩
    | some l₀ =>
      obtain ⟨r₀, hr₀⟩ := hr l₀ hro'
      have hent2 := run_enterLoop_inner (P := P) hr₀ fn a.tmps ps' cx cy
      have hg2 := hgo fn w [] r₀.defers (Below.refl _ w) (by simpa using h) (by rw [hro']; exact hent2)
      rw [hro'] at hg2
      exact ⟨_, _, _, _, _, _, _, _, hent2, (hinv _ _).1, fun _ _ => trivial, (hinv _ _).2, fun e => by simp [wideR, Fence.wide] at e, hg2⟩

end
end Go.Proofs.Ytnfomjnmigkpmaa.A
