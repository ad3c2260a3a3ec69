/- Regions in the text's order; what is said of a state that no operation does. -/
import Derived.Test.YtnfomjnmigkpmaaA17
set_option linter.unusedVariables false
set_option linter.unusedSimpArgs false
namespace Go.Proofs.Ytnfomjnmigkpmaa.A
open Go Go.RowKit Go.Shelf

/-- What a region's operations are, without where they stand in the text. -/
def opKey (o : Oper) : Option Nat × Op × Option (Nat × Bool) × List Nat := (o.dst, o.op, o.guard, (o.after.toList.filter fun e => Region.binds .any e).map (·.on))
def AO.key (o : AO) : Option Nat × Op × Option (Nat × Bool) × List Nat := (o.dst, o.op, o.guard, o.pre)

structure OpsAgree (P : Program) (ao : List AO) (ops : Array Oper) : Prop where
  same : ops.toList.map opKey = ao.map AO.key
  inf : ao.all (fun a => infOk' P a.op a.inf) = true

theorem OpsAgree.get {P : Program} {ao : List AO} {ops : Array Oper} (h : OpsAgree P ao ops) {i : Nat} {o : Oper} (ho : ops[i]? = some o) : ∃ a, ao[i]? = some a ∧ a.dst = o.dst ∧ a.op = o.op ∧ a.guard = o.guard ∧ a.pre = (o.after.toList.filter fun e => Region.binds .any e).map (·.on) ∧ infOk' P a.op a.inf = true := by
  have h1 := congrArg (fun l => l[i]?) h.same
  simp only [List.getElem?_map, Array.getElem?_toList, ho, Option.map_some] at h1
  cases ha : ao[i]? with
  | none => rw [ha] at h1; cases h1
  | some a =>
    rw [ha] at h1
    simp only [Option.map_some, Option.some.injEq] at h1
    simp only [opKey, AO.key, Prod.mk.injEq] at h1
    have h2 := h.inf
    rw [List.all_eq_true] at h2
    exact ⟨a, rfl, h1.1.symm, h1.2.1.symm, h1.2.2.1.symm, h1.2.2.2.symm, h2 a (List.mem_of_getElem? ha)⟩

theorem OpsAgree.length {P : Program} {ao : List AO} {ops : Array Oper} (h : OpsAgree P ao ops) : ao.length = ops.size := by
  have := congrArg List.length h.same
  simpa using this.symm

section
variable {P : Program} {its : Option (Nat × List (List PV))} {w00 : World} {I00 : Imm} {Jt : Nat → Imm → World → Prop} {ro : Option Nat}
variable {w0 w w' : World} {I0 I J : Imm} {β : Nat → Nat} {κ : Nat → Nat × Nat × Nat} {s s' : St} {sav : List (Array Value)} {a : Act}

theorem run_nilTest {t e : TypeId} (hu : P.underlying t = some (.slice e)) {ex : Bool} {els : List PV} {u : Value} (hC : C I (.sl ex els) u) (x y : Operand) :
    ∃ b : Bool, (els.isEmpty = false → b = false) ∧ (eqGuard .eql t x y u (.slice none 0 0)).run P w = .ok () w ∧ (binOp .eql t u (.slice none 0 0)).run P w = .ok (.bool b) w := by
  cases hC with
  | sl0 =>
    refine ⟨true, (fun h => by cases h), run_eqGuard_num (by simp) (by simp) w, ?_⟩
    have e1 : binOp .eql t (.slice none 0 0) (.slice none 0 0) = (do pure (.bool (← Op.equal t (.slice none 0 0) (.slice none 0 0)))) := rfl
    have h : (Op.equal t (.slice none 0 0) (.slice none 0 0)).run P w = .ok true w := eqIn_nil_slice 9999 hu none 0 0 0 0 w
    rw [e1]
    simp [h]
  | @sle _ ad =>
    refine ⟨false, fun _ => rfl, run_eqGuard_num (by simp) (by simp) w, ?_⟩
    have e1 : binOp .eql t (.slice (some ad) 0 0) (.slice none 0 0) = (do pure (.bool (← Op.equal t (.slice (some ad) 0 0) (.slice none 0 0)))) := rfl
    have h : (Op.equal t (.slice (some ad) 0 0) (.slice none 0 0)).run P w = .ok false w := eqIn_slice_nil 9999 hu _ _ _ _ _ w
    rw [e1]
    simp [h]
  | @sl _ _ b off n sz cap arr _ _ _ _ _ _ _ =>
    refine ⟨false, fun _ => rfl, run_eqGuard_num (by simp) (by simp) w, ?_⟩
    have e1 : binOp .eql t (.slice (some ⟨b, off, none⟩) n cap) (.slice none 0 0) = (do pure (.bool (← Op.equal t (.slice (some ⟨b, off, none⟩) n cap) (.slice none 0 0)))) := rfl
    have h : (Op.equal t (.slice (some ⟨b, off, none⟩) n cap) (.slice none 0 0)).run P w = .ok false w := eqIn_slice_nil 9999 hu _ _ _ _ _ w
    rw [e1]
    simp [h]

theorem sound_nil {o : Oper} {ao : AO} {x : Operand} {next : Act → World → Prop} {Q : Exit → Act → World → Prop} {K : St → Prop} (hop : ao.op = o.op) (hdst : ao.dst = o.dst) (hi : infOk' P ao.op ao.inf = true)
    (hdf : its.isSome = true → a.defers = []) (hB : Base its w00 I00 Jt s.it w0 I0) (h : Sim w0 I0 I β κ s sav a w) (hx : nilTest ao = some x) (hs : nilA s o.dst x K) (hn : Next1 its (Base its w00 I00 Jt) I sav w next K) : o.wpIn (wideR ro) 0 P a w next Q := by
  unfold nilTest at hx
  split at hx
  · rename_i t x' yt hop'
    split at hx
    · rename_i hfl
      cases hx
      rw [hop'] at hop hi
      obtain ⟨odst, oop, otype, opos, oaf, og⟩ := o
      simp only at hop hs
      subst hop
      have hu : ∃ e, P.underlying t = some (.slice e) := by
        simp only [infOk', infOk] at hi
        exact eqTy_slice (i := ao.inf) hi hfl.2
      obtain ⟨e, hu⟩ := hu
      refine wpIn_run (by simp) ?_
      have hgo : ∀ b : Bool, K (putT s odst (bl b)) → next (a.put odst (.bool b)) w := fun b hK =>
        hn _ _ w I (Imm.le_refl _) (fun _ => KeepsOthers.refl _) ⟨fun e => by rw [put_defers]; exact hdf e, w0, I0, β, κ, by
          have : (putT s odst (.v (.s (.bool b)))).it = s.it := by cases odst <;> rfl
          rw [this]; exact hB, h.putT odst (.v (.s _))⟩ hK
      unfold nilA at hs
      split at hs
      · rename_i ex els hev
        have hC := (ev_R h hev).inv
        obtain ⟨b, h1, h2, h3⟩ := run_nilTest (w := w) hu hC x (.const (.slice none 0 0))
        have hrun : (execOp a.eval ⟨odst, .binOp .eql t x (.const (.slice none 0 0)) yt, otype, opos, oaf, og⟩).run P w = .ok (.value (.bool b)) w := by
          have e0 : a.eval (.const (.slice none 0 0)) = .slice none 0 0 := rfl
          simp [execOp, e0, h2, h3]
        rw [hrun]
        exact hgo b (hs b h1)
      · rename_i hev
        have hC := (ev_R h hev).inv.inv_s
        obtain ⟨b, h1, h2, h3⟩ := run_nilTest (w := w) (I := I) hu (C.sl0 (ex := true)) x (.const (.slice none 0 0))
        have h4 : (binOp .eql t (.slice none 0 0) (.slice none 0 0)).run P w = .ok (.bool true) w := by
          have e1 : binOp .eql t (.slice none 0 0) (.slice none 0 0) = (do pure (.bool (← Op.equal t (.slice none 0 0) (.slice none 0 0)))) := rfl
          have h : (Op.equal t (.slice none 0 0) (.slice none 0 0)).run P w = .ok true w := eqIn_nil_slice 9999 hu none 0 0 0 0 w
          rw [e1]
          simp [h]
        have hrun : (execOp a.eval ⟨odst, .binOp .eql t x (.const (.slice none 0 0)) yt, otype, opos, oaf, og⟩).run P w = .ok (.value (.bool true)) w := by
          have e0 : a.eval (.const (.slice none 0 0)) = .slice none 0 0 := rfl
          simp [execOp, e0, hC, h2, h4]
        rw [hrun]
        exact hgo true hs
      · exact hs.elim
    · cases hx
  · cases hx

theorem sound_exec {o : Oper} {ao : AO} {next : Act → World → Prop} {Q : Exit → Act → World → Prop} {K : St → Prop} (hop : ao.op = o.op) (hdst : ao.dst = o.dst) (hi : infOk' P ao.op ao.inf = true) (hctx : Ctx P its Jt)
    (hdf : its.isSome = true → a.defers = []) (hB : Base its w00 I00 Jt s.it w0 I0) (h : Sim w0 I0 I β κ s sav a w) (hs : execA P its s ao K) (hn : Next1 its (Base its w00 I00 Jt) I sav w next K) : o.wpIn (wideR ro) 0 P a w next Q := by
  unfold execA at hs
  split at hs
  · rename_i x hx
    exact sound_nil hop hdst hi hdf hB h hx (hdst ▸ hs) hn
  unfold execB at hs
  split at hs
  · rename_i c hc
    split at hs
    · obtain ⟨s', h1, h2⟩ := hs
      exact sound_step hop hdst hi hdf hB h h1 h2 hn
    · rw [hdst] at hs
      exact sound_call (hop ▸ hc) hctx hdf hB h hs hn
  · obtain ⟨s', h1, h2⟩ := hs
    exact sound_step hop hdst hi hdf hB h h1 h2 hn

/-- The value that a guard looks at. -/
theorem guard_val {ops : Array Oper} {all : List AO} (hag : OpsAgree P all ops) (h : Sim w0 I0 I β κ s sav a w) {j : Nat} {b : Bool} (hg : ((all[j]?).bind (·.dst)).bind (s.tm[·]?) = some (.v (.s (.bool b)))) : yielded ops a.tmps j = some b := by
  obtain ⟨d, h1, h2⟩ := Option.bind_eq_some_iff.1 hg
  obtain ⟨ao, h3, h4⟩ := Option.bind_eq_some_iff.1 h1
  have hlt : j < ops.size := by rw [← hag.length]; exact (List.getElem?_eq_some_iff.1 h3).1
  obtain ⟨ao', k1, k2, _⟩ := hag.get (Array.getElem?_eq_getElem hlt)
  rw [h3] at k1
  cases k1
  obtain ⟨v, hv, hR⟩ := h.tm.get h2
  have hvb := hR.inv.inv_s
  subst hvb
  unfold yielded
  rw [Array.getElem?_eq_getElem hlt]
  simp only [Option.bind_some]
  rw [← k2, h4]
  simp only [Option.bind_some]
  rw [Array.getElem?_toList] at hv
  rw [hv]

theorem sound_op {ops : Array Oper} {all : List AO} (hag : OpsAgree P all ops) (hctx : Ctx P its Jt) {i : Nat} {rest : List Nat} {ao : AO} {K : St → Prop} {Q : Exit → Act → World → Prop} (hao : all[i]? = some ao)
    (hdf : its.isSome = true → a.defers = []) (hB : Base its w00 I00 Jt s.it w0 I0) (h : Sim w0 I0 I β κ s sav a w) (hs : wpOp P its all ao s K)
    (hn : Next1 its (Base its w00 I00 Jt) I sav w (wpOpsIn (wideR ro) 0 P ops Q rest) K) : wpOpsIn (wideR ro) 0 P ops Q (i :: rest) a w := by
  have hlt : i < ops.size := by rw [← hag.length]; exact (List.getElem?_eq_some_iff.1 hao).1
  obtain ⟨ao', k1, k2, k3, k4, k5, k6⟩ := hag.get (Array.getElem?_eq_getElem hlt)
  rw [hao] at k1
  cases k1
  simp only [wpOpsIn, Array.getElem?_eq_getElem hlt]
  unfold wpOp at hs
  split at hs
  · rename_i hg
    have hw : Region.wanted ops[i] (yielded ops a.tmps) = true := by unfold Region.wanted; rw [← k4, hg]
    rw [if_pos hw]
    exact sound_exec k3 k2 k6 hctx hdf hB h hs hn
  · rename_i j want hg
    split at hs
    · rename_i b hb
      have hy := guard_val hag h hb
      split at hs
      · rename_i hbw
        have hw : Region.wanted ops[i] (yielded ops a.tmps) = true := by unfold Region.wanted; rw [← k4, hg]; simp only [hy, hbw, beq_self_eq_true]
        rw [if_pos hw]
        exact sound_exec k3 k2 k6 hctx hdf hB h hs hn
      · rename_i hbw
        have hw : ¬ (Region.wanted ops[i] (yielded ops a.tmps) = true) := by unfold Region.wanted; rw [← k4, hg]; simp only [hy]; simpa using hbw
        rw [if_neg hw]
        refine ⟨fun _ _ => trivial, ?_⟩
        refine hn _ _ w I (Imm.le_refl _) (fun _ => KeepsOthers.refl _) ⟨fun e => by rw [put_defers]; exact hdf e, w0, I0, β, κ, ?_, h.putT _ (.v (.junk _))⟩ (k2 ▸ hs)
        have : (putT s ops[i].dst (.v .junk)).it = s.it := by cases ops[i].dst <;> rfl
        rw [this]; exact hB
    · exact hs.elim

/-- What is told behind code. -/
def PostA (its : Option (Nat × List (List PV))) (B : Nat → World → Imm → Prop) (I : Imm) (sav : List (Array Value)) (w : World) (Q : XA → St → Prop) : Exit → Act → World → Prop
  | .normal, a', w' => ∃ s' J, Q .normal s' ∧ I.le J ∧ (its = none → KeepsOthers w w') ∧ Sat its B J s' sav a' w'
  | .ret, a', w' => ∃ s' J, Q .ret s' ∧ I.le J ∧ (its = none → KeepsOthers w w') ∧ Sat its B J s' sav a' w'
  | .exit id, a', w' => ∃ s' J, Q (.exit id) s' ∧ I.le J ∧ (its = none → KeepsOthers w w') ∧ Sat its B J s' sav a' w'
  | _, _, _ => False

theorem sound_ops {ops : Array Oper} {all : List AO} (hag : OpsAgree P all ops) (hctx : Ctx P its Jt) {Q : XA → St → Prop} (Iz : Imm) (wz : World) : ∀ (n k : Nat), k + n = ops.size → ∀ {I w s a w0 I0 β κ}, Iz.le I → (its = none → KeepsOthers wz w) →
    (its.isSome = true → a.defers = []) → Base its w00 I00 Jt s.it w0 I0 → Sim w0 I0 I β κ s sav a w → wpOpsA P its all (all.drop k) s (Q .normal) →
    wpOpsIn (wideR ro) 0 P ops (PostA its (Base its w00 I00 Jt) Iz sav wz Q) (List.range' k n) a w
  | 0, k, hk, I, w, s, a, w0, I0, β, κ, hle, hkeep, hdf, hB, h, hs => by
    have e : all.drop k = [] := List.drop_eq_nil_of_le (by rw [hag.length]; omega)
    rw [e] at hs
    exact ⟨s, I, hs, hle, hkeep, hdf, w0, I0, β, κ, hB, h⟩
  | n + 1, k, hk, I, w, s, a, w0, I0, β, κ, hle, hkeep, hdf, hB, h, hs => by
    have hlt : k < all.length := by rw [hag.length]; omega
    have e : all.drop k = all[k] :: all.drop (k + 1) := List.drop_eq_getElem_cons hlt
    rw [e] at hs
    refine sound_op hag hctx (List.getElem?_eq_getElem hlt) hdf hB h hs ?_
    intro s' a' w' J hle' hkeep' ⟨hdf1, w1, I1, β1, κ1, hB1, h1⟩ hK
    exact sound_ops hag hctx Iz wz n (k + 1) (by omega) (Imm.le_trans hle hle') (fun e => (hkeep e).trans (hkeep' e)) hdf1 hB1 h1 hK

/-! ### What no operation does -/
theorem Sim.junkAll (l : List Nat) : ∀ {s : St}, Sim w0 I0 I β κ s sav a w → Sim w0 I0 I β κ { s with tm := A.junkAll l s.tm } sav a w := by
  induction l with
  | nil => exact fun h => h
  | cons d l ih =>
    intro s h
    have htm : Rs I β κ (tkOf s.tk) (s.tm.set d (.v .junk)) a.tmps.toList := by
      have hl := h.tm.length
      by_cases hd : d < a.tmps.toList.length
      · have := h.tm.set d (x := .v .junk) (v := a.tmps.toList[d]) (.v (.junk _))
        rwa [List.set_getElem_self] at this
      · have e : s.tm.set d (.v .junk) = s.tm := List.set_eq_of_length_le (by omega)
        rw [e]
        exact h.tm
    have h1 : Sim w0 I0 I β κ { s with tm := s.tm.set d (.v .junk) } sav a w := { h with tm := htm }
    exact ih h1

theorem lk_rmAll {γ : Type} (ds : List Nat) : ∀ (l : List (Nat × γ)) (b : Nat) (c : γ), lk b (rmAll ds l) = some c → lk b l = some c := by
  induction ds with
  | nil => exact fun _ _ _ h => h
  | cons d ds ih =>
    intro l b c h
    have := ih _ b c h
    rw [lk_rm] at this
    split at this
    · cases this
    · exact this

theorem Sim.boxTo (h : Sim w0 I0 I β κ s sav a w) {b : Nat} {cells cells' : List TV} (hb : lk b s.bx = some cells) (hR : ∀ vs, Rs I β κ (tkOf s.tk) cells vs → Rs I β κ (tkOf s.tk) cells' vs) :
    Sim w0 I0 I β κ { s with bx := upd b cells' s.bx } sav a w := by
  have hold : ∀ j c, lk j (upd b cells' s.bx) = some c → ∃ c0, lk j s.bx = some c0 ∧ (j = b → c0 = cells ∧ c = cells') ∧ (j ≠ b → c0 = c) := by
    intro j c hj
    rw [lk_upd] at hj
    by_cases e : j = b
    · rw [if_pos e] at hj
      cases hj
      subst e
      exact ⟨cells, hb, fun _ => ⟨rfl, rfl⟩, fun e => (e rfl).elim⟩
    · rw [if_neg e] at hj
      exact ⟨c, hj, fun e' => (e e').elim, fun _ => rfl⟩
  exact
    { h with
      box := fun j c hj => by
        obtain ⟨c0, h0, h1, h2⟩ := hold j c hj
        obtain ⟨g1, g2, cs, ty, g3, g4⟩ := h.box j c0 h0
        refine ⟨g1, g2, cs, ty, g3, ?_, g4.2⟩
        by_cases e : j = b
        · obtain ⟨e1, e2⟩ := h1 e
          rw [e2]
          rw [e1] at g4
          exact hR _ g4.1
        · rw [← h2 e]; exact g4.1
      inj := fun j j' c c' hj hj' hβ => by
        obtain ⟨c0, h0, _⟩ := hold j c hj
        obtain ⟨c1, h1, _⟩ := hold j' c' hj'
        exact h.inj _ _ _ _ h0 h1 hβ }

theorem Rs_tovs {tk : Nat → Nat} : ∀ {l : List TV} {cs : List PV} {vs : List Value}, tovs l = some cs → Rs I β κ tk l vs → Rs I β κ tk (cs.map .v) vs
  | [], cs, vs, h, hR => by simp only [tovs, Option.some.injEq] at h; subst h; cases hR; exact .nil
  | x :: l, cs, vs, h, hR => by
    simp only [tovs] at h
    split at h
    · rename_i y ys h1 h2
      cases h
      cases hR with
      | cons g1 g2 => exact .cons (.v (tov_C g1 h1)) (Rs_tovs h2 g2)
    · cases h

theorem gh1_sound {g : Gh} (h : Sim w0 I0 I β κ s sav a w) (hg : gh1 g s = some s') : s'.it = s.it ∧ ∃ J, I.le J ∧ Sim w0 I0 J β κ s' sav a w := by
  cases g with
  | freeze b =>
    simp only [gh1] at hg
    split at hg
    · rename_i cells hb
      obtain ⟨cs, hcs, rfl⟩ := Option.map_eq_some_iff.1 hg
      obtain ⟨J, hJ, hs⟩ := (h.boxTo hb fun vs hR => Rs_tovs hcs hR).freeze (b := b) (cells := cs) (by simp [lk_upd])
      exact ⟨rfl, J, hJ, hs⟩
    · split at hg
      · cases hg; exact ⟨rfl, I, Imm.le_refl _, h⟩
      · cases hg
  | shut b =>
    simp only [gh1] at hg
    split at hg
    · rename_i cells hb
      split at hg
      · rename_i cs hcs
        split at hg
        · rename_i hone
          cases hg
          obtain ⟨J, hJ, hs⟩ := (h.boxTo hb fun vs hR => Rs_tovs hcs hR).shut (b := b) (cells := cs) (by simp [lk_upd]) hone
          exact ⟨rfl, J, hJ, hs⟩
        · cases hg
      · cases hg
    · cases hg
  | junk l => cases hg; exact ⟨rfl, I, Imm.le_refl _, h.junkAll l⟩
  | drop l =>
    cases hg
    exact ⟨rfl, I, Imm.le_refl _,
      { h with
        box := fun b c hc => h.box b c (lk_rmAll l _ _ _ hc)
        rob := fun b c hc => h.rob b c (lk_rmAll l _ _ _ hc)
        inj := fun b b' c c' hc hc' => h.inj b b' c c' (lk_rmAll l _ _ _ hc) (lk_rmAll l _ _ _ hc') }⟩
  | forget t => cases hg; exact ⟨rfl, I, Imm.le_refl _, h.newTok t⟩
  | row b off t =>
    simp only [gh1] at hg
    split at hg
    · rename_i cells hb
      split at hg
      · rename_i hc
        cases hg
        refine ⟨rfl, I, Imm.le_refl _, (h.newTok t).boxTo hb fun vs hR => ?_⟩
        obtain ⟨v, hv, hRv⟩ := hR.get hc
        have hv0 := hRv.inv.inv_s
        have := hR.set off (x := .acc t []) (v := v) (by rw [hv0]; exact .acc0)
        obtain ⟨hlt, hve⟩ := List.getElem?_eq_some_iff.1 hv
        rw [← hve, List.set_getElem_self] at this
        exact this
      · cases hg; exact ⟨rfl, I, Imm.le_refl _, h⟩
    · cases hg; exact ⟨rfl, I, Imm.le_refl _, h⟩

theorem ghs_sound : ∀ (l : List Gh) {s s' : St} {I : Imm}, Sim w0 I0 I β κ s sav a w → ghs l s = some s' → s'.it = s.it ∧ ∃ J, I.le J ∧ Sim w0 I0 J β κ s' sav a w
  | [], s, s', I, h, hg => by simp only [ghs, Option.some.injEq] at hg; subst hg; exact ⟨rfl, I, Imm.le_refl _, h⟩
  | g :: l, s, s', I, h, hg => by
    obtain ⟨s1, h1, h2⟩ := Option.bind_eq_some_iff.1 hg
    obtain ⟨e1, J, hJ, hs⟩ := gh1_sound h h1
    obtain ⟨e2, J2, hJ2, hs2⟩ := ghs_sound l hs h2
    exact ⟨e2.trans e1, J2, Imm.le_trans hJ hJ2, hs2⟩

theorem sat_ghs {B : Nat → World → Imm → Prop} {l : List Gh} (h : Sat its B I s sav a w) (hg : ghs l s = some s') : ∃ J, I.le J ∧ Sat its B J s' sav a w := by
  obtain ⟨hdf, w0, I0, β, κ, hB, hs⟩ := h
  obtain ⟨e, J, hJ, hs'⟩ := ghs_sound l hs hg
  exact ⟨J, hJ, hdf, w0, I0, β, κ, by rw [e]; exact hB, hs'⟩

end
end Go.Proofs.Ytnfomjnmigkpmaa.A
