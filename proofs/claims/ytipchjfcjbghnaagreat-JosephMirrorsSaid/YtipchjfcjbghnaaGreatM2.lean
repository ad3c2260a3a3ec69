/- Regions in the text's order; what is said of a state that no operation does. -/
import Derived.Test.YtipchjfcjbghnaaGreatM1
import Derived.Orders
import Derived.WalkKit
import Derived.ProofKit
import Derived.OpenShut
import Derived.ChangeOld
import Derived.SizedLaws
set_option linter.unusedVariables false
set_option linter.unusedSimpArgs false
namespace Go.Proofs.YtipchjfcjbghnaaGreat.A
open Go Go.RowKit Go.Shelf

/-- What a region's operations are, without where they stand in the text. -/
def opKey (o : Oper) : Option Nat × Op × Option (Nat × Bool) × List Nat := (o.dst, o.op, o.guard, (o.after.toList.filter fun e => Region.binds .any e).map (·.on))
def AO.key (o : AO) : Option Nat × Op × Option (Nat × Bool) × List Nat := (o.dst, o.op, o.guard, o.pre)

structure OpsAgree (P : Program) (ao : List AO) (ops : Array Oper) : Prop where
  same : ops.toList.map opKey = ao.map AO.key
  inf : ao.all (fun a => infOk' P a.op a.inf) = true

theorem OpsAgree.get {P : Program} {ao : List AO} {ops : Array Oper} (h : OpsAgree P ao ops) {i : Nat} {o : Oper} (ho : ops[i]? = some o) : ∃ a, ao[i]? = some a ∧ a.dst = o.dst ∧ a.op = o.op ∧ a.guard = o.guard ∧ a.pre = (o.after.toList.filter fun e => Region.binds .any e).map (·.on) ∧ infOk' P a.op a.inf = true := by
  have h1 := congrArg (fun l => l[i]?) h.same
  simp only [List.getElem?_map, Array.getElem?_toList, ho, Option.map_some] at h1
  cases ha : ao[i]? with
  | none => rw [ha] at h1; cases h1
  | some a =>
    rw [ha] at h1
    simp only [Option.map_some, Option.some.injEq] at h1
    simp only [opKey, AO.key, Prod.mk.injEq] at h1
    have h2 := h.inf
    rw [List.all_eq_true] at h2
    exact ⟨a, rfl, h1.1.symm, h1.2.1.symm, h1.2.2.1.symm, h1.2.2.2.symm, h2 a (List.mem_of_getElem? ha)⟩

theorem OpsAgree.length {P : Program} {ao : List AO} {ops : Array Oper} (h : OpsAgree P ao ops) : ao.length = ops.size := by
  have := congrArg List.length h.same
  simpa using this.symm

section
variable {P : Program} {its : Option (Nat × List (List PV))} {w00 : World} {I00 : Imm} {Jt : Nat → Imm → World → Prop} {ro : Option Nat}
variable {w0 w w' : World} {I0 I J : Imm} {β : Nat → Nat} {κ : Nat → Nat × Nat × Nat} {s s' : St} {sav : List (Array Value)} {a : Act}

theorem run_nilTest {t e : TypeId} (hu : P.underlying t = some (.slice e)) {ex : Bool} {els : List PV} {u : Value} (hC : C I (.sl ex els) u) (x y : Operand) :
    ∃ b : Bool, (els.isEmpty = false → b = false) ∧ (eqGuard .eql t x y u (.slice none 0 0)).run P w = .ok () w ∧ (binOp .eql t u (.slice none 0 0)).run P w = .ok (.bool b) w := by
  cases hC with
  | sl0 =>
    refine ⟨true, (fun h => by cases h), run_eqGuard_num (by simp) (by simp) w, ?_⟩
    have e1 : binOp .eql t (.slice none 0 0) (.slice none 0 0) = (do pure (.bool (← Op.equal t (.slice none 0 0) (.slice none 0 0)))) := rfl
    have h : (Op.equal t (.slice none 0 0) (.slice none 0 0)).run P w = .ok true w := eqIn_nil_slice 9999 hu none 0 0 0 0 w
    rw [e1]
    simp [h]
  | @sle _ ad =>
    refine ⟨false, fun _ => rfl, run_eqGuard_num (by simp) (by simp) w, ?_⟩
    have e1 : binOp .eql t (.slice (some ad) 0 0) (.slice none 0 0) = (do pure (.bool (← Op.equal t (.slice (some ad) 0 0) (.slice none 0 0)))) := rfl
    have h : (Op.equal t (.slice (some ad) 0 0) (.slice none 0 0)).run P w = .ok false w := eqIn_slice_nil 9999 hu _ _ _ _ _ w
    rw [e1]
    simp [h]
  | @sl _ _ b off n sz cap arr _ _ _ _ _ _ _ =>
    refine ⟨false, fun _ => rfl, run_eqGuard_num (by simp) (by simp) w, ?_⟩
    have e1 : binOp .eql t (.slice (some ⟨b, off, none⟩) n cap) (.slice none 0 0) = (do pure (.bool (← Op.equal t (.slice (some ⟨b, off, none⟩) n cap) (.slice none 0 0)))) := rfl
    have h : (Op.equal t (.slice (some ⟨b, off, none⟩) n cap) (.slice none 0 0)).run P w = .ok false w := eqIn_slice_nil 9999 hu _ _ _ _ _ w
    rw [e1]
    simp [h]

theorem sound_nil {o : Oper} {ao : AO} {x : Operand} {next : Act → World → Prop} {Q : Exit → Act → World → Prop} {K : St → Prop} (hop : ao.op = o.op) (hdst : ao.dst = o.dst) (hi : infOk' P ao.op ao.inf = true)
    (hdf : its.isSome = true → a.defers = []) (hB : Base its w00 I00 Jt s.it w0 I0) (h : Sim w0 I0 I β κ s sav a w) (hx : nilTest ao = some x) (hs : nilA s o.dst x K) (hn : Next1 its (Base its w00 I00 Jt) I sav w next K) : o.wpIn (wideR ro) 0 P a w next Q := by
  unfold nilTest at hx
  split at hx
  · rename_i t x' yt hop'
    split at hx
    · rename_i hfl
      cases hx
      rw [hop'] at hop hi
      obtain ⟨odst, oop, otype, opos, oaf, og⟩ := o
      simp only at hop hs
      subst hop
      have hu : ∃ e, P.underlying t = some (.slice e) := by
        simp only [infOk', infOk] at hi
        exact eqTy_slice (i := ao.inf) hi hfl.2
      obtain ⟨e, hu⟩ := hu
      refine wpIn_run (by simp) ?_
      have hgo : ∀ b : Bool, K (putT s odst (bl b)) → next (a.put odst (.bool b)) w := fun b hK =>
        hn _ _ w I (Imm.le_refl _) (fun _ => KeepsOthers.refl _) ⟨fun e => by rw [put_defers]; exact hdf e, w0, I0, β, κ, by
          have : (putT s odst (.v (.s (.bool b)))).it = s.it := by cases odst <;> rfl
          rw [this]; exact hB, h.putT odst (.v (.s _))⟩ hK
      unfold nilA at hs
      split at hs
      · rename_i ex els hev
        have hC := (ev_R h hev).inv
        obtain ⟨b, h1, h2, h3⟩ := run_nilTest (w := w) hu hC x (.const (.slice none 0 0))
        have hrun : (execOp a.eval ⟨odst, .binOp .eql t x (.const (.slice none 0 0)) yt, otype, opos, oaf, og⟩).run P w = .ok (.value (.bool b)) w := by
          have e0 : a.eval (.const (.slice none 0 0)) = .slice none 0 0 := rfl
          simp [execOp, e0, h2, h3]
        rw [hrun]
        exact hgo b (hs b h1)
      · rename_i hev
        have hC := (ev_R h hev).inv.inv_s
        obtain ⟨b, h1, h2, h3⟩ := run_nilTest (w := w) (I := I) hu (C.sl0 (ex := true)) x (.const (.slice none 0 0))
        have h4 : (binOp .eql t (.slice none 0 0) (.slice none 0 0)).run P w = .ok (.bool true) w := by
          have e1 : binOp .eql t (.slice none 0 0) (.slice none 0 0) = (do pure (.bool (← Op.equal t (.slice none 0 0) (.slice none 0 0)))) := rfl
          have h : (Op.equal t (.slice none 0 0) (.slice none 0 0)).run P w = .ok true w := eqIn_nil_slice 9999 hu none 0 0 0 0 w
          rw [e1]
          simp [h]
        have hrun : (execOp a.eval ⟨odst, .binOp .eql t x (.const (.slice none 0 0)) yt, otype, opos, oaf, og⟩).run P w = .ok (.value (.bool true)) w := by
          have e0 : a.eval (.const (.slice none 0 0)) = .slice none 0 0 := rfl
          simp [execOp, e0, hC, h2, h4]
        rw [hrun]
        exact hgo true hs
      · exact hs.elim
    · cases hx
  · cases hx

theorem sound_exec {o : Oper} {ao : AO} {next : Act → World → Prop} {Q : Exit → Act → World → Prop} {K : St → Prop} (hop : ao.op = o.op) (hdst : ao.dst = o.dst) (hi : infOk' P ao.op ao.inf = true) (hctx : Ctx P its Jt)
    (hdf : its.isSome = true → a.defers = []) (hB : Base its w00 I00 Jt s.it w0 I0) (h : Sim w0 I0 I β κ s sav a w) (hs : execA P its s ao K) (hn : Next1 its (Base its w00 I00 Jt) I sav w next K) : o.wpIn (wideR ro) 0 P a w next Q := by
  unfold execA at hs
  split at hs
  · rename_i x hx
    exact sound_nil hop hdst hi hdf hB h hx (hdst ▸ hs) hn
  unfold execB at hs
  split at hs
  · rename_i c hc
    split at hs
    · obtain ⟨s', h1, h2⟩ := hs
      exact sound_step hop hdst hi hdf hB h h1 h2 hn
    · rw [hdst] at hs
      exact sound_call (hop ▸ hc) hctx hdf hB h hs hn
  · obtain ⟨s', h1, h2⟩ := hs
    exact sound_step hop hdst hi hdf hB h h1 h2 hn

/-- The value that a guard looks at. -/
theorem guard_val {ops : Array Oper} {all : List AO} (hag : OpsAgree P all ops) (h : Sim w0 I0 I β κ s sav a w) {j : Nat} {b : Bool} (hg : ((all[j]?).bind (·.dst)).bind (s.tm[·]?) = some (.v (.s (.bool b)))) : yielded ops a.tmps j = some b := by
  obtain ⟨d, h1, h2⟩ := Option.bind_eq_some_iff.1 hg
  obtain ⟨ao, h3, h4⟩ := Option.bind_eq_some_iff.1 h1
  have hlt : j < ops.size := by rw [← hag.length]; exact (List.getElem?_eq_some_iff.1 h3).1
  obtain ⟨ao', k1, k2, _⟩ := hag.get (Array.getElem?_eq_getElem hlt)
  rw [h3] at k1
  cases k1
  obtain ⟨v, hv, hR⟩ := h.tm.get h2
  have hvb := hR.inv.inv_s
  subst hvb
  unfold yielded
  rw [Array.getElem?_eq_getElem hlt]
  simp only [Option.bind_some]
  rw [← k2, h4]
  simp only [Option.bind_some]
  rw [Array.getElem?_toList] at hv
  rw [hv]

/-- What a guard looks at was passed by itself. -/
theorem guard_none {ops : Array Oper} {all : List AO} (hag : OpsAgree P all ops) (h : Sim w0 I0 I β κ s sav a w) {j : Nat} (hg : ((all[j]?).bind (·.dst)).bind (s.tm[·]?) = some (.v (.tup []))) : yielded ops a.tmps j = none := by
  obtain ⟨d, h1, h2⟩ := Option.bind_eq_some_iff.1 hg
  obtain ⟨ao, h3, h4⟩ := Option.bind_eq_some_iff.1 h1
  have hlt : j < ops.size := by rw [← hag.length]; exact (List.getElem?_eq_some_iff.1 h3).1
  obtain ⟨ao', k1, k2, _⟩ := hag.get (Array.getElem?_eq_getElem hlt)
  rw [h3] at k1
  cases k1
  obtain ⟨v, hv, hR⟩ := h.tm.get h2
  have hC := hR.inv
  cases hC with
  | tup hl =>
    unfold yielded
    rw [Array.getElem?_eq_getElem hlt]
    simp only [Option.bind_some]
    rw [← k2, h4]
    simp only [Option.bind_some]
    rw [Array.getElem?_toList] at hv
    rw [hv]
theorem sound_op {ops : Array Oper} {all : List AO} (hag : OpsAgree P all ops) (hctx : Ctx P its Jt) {i : Nat} {rest : List Nat} {ao : AO} {K : St → Prop} {Q : Exit → Act → World → Prop} (hao : all[i]? = some ao)
    (hdf : its.isSome = true → a.defers = []) (hB : Base its w00 I00 Jt s.it w0 I0) (h : Sim w0 I0 I β κ s sav a w) (hs : wpOp P its all ao s K)
    (hn : Next1 its (Base its w00 I00 Jt) I sav w (wpOpsIn (wideR ro) 0 P ops Q rest) K) : wpOpsIn (wideR ro) 0 P ops Q (i :: rest) a w := by
  have hlt : i < ops.size := by rw [← hag.length]; exact (List.getElem?_eq_some_iff.1 hao).1
  obtain ⟨ao', k1, k2, k3, k4, k5, k6⟩ := hag.get (Array.getElem?_eq_getElem hlt)
  rw [hao] at k1
  cases k1
  simp only [wpOpsIn, Array.getElem?_eq_getElem hlt]
  unfold wpOp at hs
  split at hs
  · rename_i hg
    have hw : Region.wanted ops[i] (yielded ops a.tmps) = true := by unfold Region.wanted; rw [← k4, hg]
    rw [if_pos hw]
    exact sound_exec k3 k2 k6 hctx hdf hB h hs hn
  · rename_i j want hg
    split at hs
    · rename_i b hb
      have hy := guard_val hag h hb
      split at hs
      · rename_i hbw
        have hw : Region.wanted ops[i] (yielded ops a.tmps) = true := by unfold Region.wanted; rw [← k4, hg]; simp only [hy, hbw, beq_self_eq_true]
        rw [if_pos hw]
        exact sound_exec k3 k2 k6 hctx hdf hB h hs hn
      · rename_i hbw
        have hw : ¬ (Region.wanted ops[i] (yielded ops a.tmps) = true) := by unfold Region.wanted; rw [← k4, hg]; simp only [hy]; simpa using hbw
        rw [if_neg hw]
        refine ⟨fun _ _ => trivial, ?_⟩
        refine hn _ _ w I (Imm.le_refl _) (fun _ => KeepsOthers.refl _) ⟨fun e => by rw [put_defers]; exact hdf e, w0, I0, β, κ, ?_, h.putT _ (.v (.tup .nil))⟩ (k2 ▸ hs)
        have : (putT s ops[i].dst (.v (.tup []))).it = s.it := by cases ops[i].dst <;> rfl
        rw [this]; exact hB
    · rename_i hb
      have hy := guard_none hag h hb
      have hw : ¬ (Region.wanted ops[i] (yielded ops a.tmps) = true) := by unfold Region.wanted; rw [← k4, hg]; simp only [hy]; simp
      rw [if_neg hw]
      refine ⟨fun _ _ => trivial, ?_⟩
      refine hn _ _ w I (Imm.le_refl _) (fun _ => KeepsOthers.refl _) ⟨fun e => by rw [put_defers]; exact hdf e, w0, I0, β, κ, ?_, h.putT _ (.v (.tup .nil))⟩ (k2 ▸ hs)
      have : (putT s ops[i].dst (.v (.tup []))).it = s.it := by cases ops[i].dst <;> rfl
      rw [this]; exact hB
    · exact hs.elim

/-- What is told behind code. -/
def PostA (its : Option (Nat × List (List PV))) (B : Nat → World → Imm → Prop) (I : Imm) (sav : List (Array Value)) (w : World) (Q : XA → St → Prop) : Exit → Act → World → Prop
  | .normal, a', w' => ∃ s' J, Q .normal s' ∧ I.le J ∧ (its = none → KeepsOthers w w') ∧ Sat its B J s' sav a' w'
  | .ret, a', w' => ∃ s' J, Q .ret s' ∧ I.le J ∧ (its = none → KeepsOthers w w') ∧ Sat its B J s' sav a' w'
  | .exit id, a', w' => ∃ s' J, Q (.exit id) s' ∧ I.le J ∧ (its = none → KeepsOthers w w') ∧ Sat its B J s' sav a' w'
  | _, _, _ => False

theorem sound_ops {ops : Array Oper} {all : List AO} (hag : OpsAgree P all ops) (hctx : Ctx P its Jt) {Q : XA → St → Prop} (Iz : Imm) (wz : World) : ∀ (n k : Nat), k + n = ops.size → ∀ {I w s a w0 I0 β κ}, Iz.le I → (its = none → KeepsOthers wz w) →
    (its.isSome = true → a.defers = []) → Base its w00 I00 Jt s.it w0 I0 → Sim w0 I0 I β κ s sav a w → wpOpsA P its all (all.drop k) s (Q .normal) →
    wpOpsIn (wideR ro) 0 P ops (PostA its (Base its w00 I00 Jt) Iz sav wz Q) (List.range' k n) a w
  | 0, k, hk, I, w, s, a, w0, I0, β, κ, hle, hkeep, hdf, hB, h, hs => by
    have e : all.drop k = [] := List.drop_eq_nil_of_le (by rw [hag.length]; omega)
    rw [e] at hs
    exact ⟨s, I, hs, hle, hkeep, hdf, w0, I0, β, κ, hB, h⟩
  | n + 1, k, hk, I, w, s, a, w0, I0, β, κ, hle, hkeep, hdf, hB, h, hs => by
    have hlt : k < all.length := by rw [hag.length]; omega
    have e : all.drop k = all[k] :: all.drop (k + 1) := List.drop_eq_getElem_cons hlt
    rw [e] at hs
    refine sound_op hag hctx (List.getElem?_eq_getElem hlt) hdf hB h hs ?_
    intro s' a' w' J hle' hkeep' ⟨hdf1, w1, I1, β1, κ1, hB1, h1⟩ hK
    exact sound_ops hag hctx Iz wz n (k + 1) (by omega) (Imm.le_trans hle hle') (fun e => (hkeep e).trans (hkeep' e)) hdf1 hB1 h1 hK

/-! ### What no operation does -/
theorem Sim.junkAll (l : List Nat) : ∀ {s : St}, Sim w0 I0 I β κ s sav a w → Sim w0 I0 I β κ { s with tm := A.junkAll l s.tm } sav a w := by
  induction l with
  | nil => exact fun h => h
  | cons d l ih =>
    intro s h
    have htm : Rs I β κ (tkOf s.tk) (s.tm.set d (.v .junk)) a.tmps.toList := by
      have hl := h.tm.length
      by_cases hd : d < a.tmps.toList.length
      · have := h.tm.set d (x := .v .junk) (v := a.tmps.toList[d]) (.v (.junk _))
        rwa [List.set_getElem_self] at this
      · have e : s.tm.set d (.v .junk) = s.tm := List.set_eq_of_length_le (by omega)
        rw [e]
        exact h.tm
    have h1 : Sim w0 I0 I β κ { s with tm := s.tm.set d (.v .junk) } sav a w := { h with tm := htm }
    exact ih h1

theorem lk_rmAll {γ : Type} (ds : List Nat) : ∀ (l : List (Nat × γ)) (b : Nat) (c : γ), lk b (rmAll ds l) = some c → lk b l = some c := by
  induction ds with
  | nil => exact fun _ _ _ h => h
  | cons d ds ih =>
    intro l b c h
    have := ih _ b c h
    rw [lk_rm] at this
    split at this
    · cases this
    · exact this

theorem Sim.boxTo (h : Sim w0 I0 I β κ s sav a w) {b : Nat} {cells cells' : List TV} (hb : lk b s.bx = some cells) (hR : ∀ vs, Rs I β κ (tkOf s.tk) cells vs → Rs I β κ (tkOf s.tk) cells' vs) :
    Sim w0 I0 I β κ { s with bx := upd b cells' s.bx } sav a w := by
  have hold : ∀ j c, lk j (upd b cells' s.bx) = some c → ∃ c0, lk j s.bx = some c0 ∧ (j = b → c0 = cells ∧ c = cells') ∧ (j ≠ b → c0 = c) := by
    intro j c hj
    rw [lk_upd] at hj
    by_cases e : j = b
    · rw [if_pos e] at hj
      cases hj
      subst e
      exact ⟨cells, hb, fun _ => ⟨rfl, rfl⟩, fun e => (e rfl).elim⟩
    · rw [if_neg e] at hj
      exact ⟨c, hj, fun e' => (e e').elim, fun _ => rfl⟩
  exact
    { h with
      box := fun j c hj => by
        obtain ⟨c0, h0, h1, h2⟩ := hold j c hj
        obtain ⟨g1, g2, cs, ty, g3, g4⟩ := h.box j c0 h0
        refine ⟨g1, g2, cs, ty, g3, ?_, g4.2⟩
        by_cases e : j = b
        · obtain ⟨e1, e2⟩ := h1 e
          rw [e2]
          rw [e1] at g4
          exact hR _ g4.1
        · rw [← h2 e]; exact g4.1
      inj := fun j j' c c' hj hj' hβ => by
        obtain ⟨c0, h0, _⟩ := hold j c hj
        obtain ⟨c1, h1, _⟩ := hold j' c' hj'
        exact h.inj _ _ _ _ h0 h1 hβ }

theorem Rs_tovs {tk : Nat → Nat} : ∀ {l : List TV} {cs : List PV} {vs : List Value}, tovs l = some cs → Rs I β κ tk l vs → Rs I β κ tk (cs.map .v) vs
  | [], cs, vs, h, hR => by simp only [tovs, Option.some.injEq] at h; subst h; cases hR; exact .nil
  | x :: l, cs, vs, h, hR => by
    simp only [tovs] at h
    split at h
    · rename_i y ys h1 h2
      cases h
      cases hR with
      | cons g1 g2 => exact .cons (.v (tov_C g1 h1)) (Rs_tovs h2 g2)
    · cases h

theorem gh1_sound {g : Gh} (h : Sim w0 I0 I β κ s sav a w) (hg : gh1 g s = some s') : s'.it = s.it ∧ ∃ J, I.le J ∧ Sim w0 I0 J β κ s' sav a w := by
  cases g with
  | freeze b =>
    simp only [gh1] at hg
    split at hg
    · rename_i cells hb
      obtain ⟨cs, hcs, rfl⟩ := Option.map_eq_some_iff.1 hg
      obtain ⟨J, hJ, hs⟩ := (h.boxTo hb fun vs hR => Rs_tovs hcs hR).freeze (b := b) (cells := cs) (by simp [lk_upd])
      exact ⟨rfl, J, hJ, hs⟩
    · split at hg
      · cases hg; exact ⟨rfl, I, Imm.le_refl _, h⟩
      · cases hg
  | shut b =>
    simp only [gh1] at hg
    split at hg
    · rename_i cells hb
      split at hg
      · rename_i cs hcs
        split at hg
        · rename_i hone
          cases hg
          obtain ⟨J, hJ, hs⟩ := (h.boxTo hb fun vs hR => Rs_tovs hcs hR).shut (b := b) (cells := cs) (by simp [lk_upd]) hone
          exact ⟨rfl, J, hJ, hs⟩
        · cases hg
      · cases hg
    · cases hg
  | junk l => cases hg; exact ⟨rfl, I, Imm.le_refl _, h.junkAll l⟩
  | drop l =>
    cases hg
    exact ⟨rfl, I, Imm.le_refl _,
      { h with
        box := fun b c hc => h.box b c (lk_rmAll l _ _ _ hc)
        rob := fun b c hc => h.rob b c (lk_rmAll l _ _ _ hc)
        inj := fun b b' c c' hc hc' => h.inj b b' c c' (lk_rmAll l _ _ _ hc) (lk_rmAll l _ _ _ hc') }⟩
  | forget t => cases hg; exact ⟨rfl, I, Imm.le_refl _, h.newTok t⟩
  | row b off t =>
    simp only [gh1] at hg
    split at hg
    · rename_i cells hb
      split at hg
      · rename_i hc
        cases hg
        refine ⟨rfl, I, Imm.le_refl _, (h.newTok t).boxTo hb fun vs hR => ?_⟩
        obtain ⟨v, hv, hRv⟩ := hR.get hc
        have hv0 := hRv.inv.inv_s
        have := hR.set off (x := .acc t []) (v := v) (by rw [hv0]; exact .acc0)
        obtain ⟨hlt, hve⟩ := List.getElem?_eq_some_iff.1 hv
        rw [← hve, List.set_getElem_self] at this
        exact this
      · cases hg; exact ⟨rfl, I, Imm.le_refl _, h⟩
    · cases hg; exact ⟨rfl, I, Imm.le_refl _, h⟩

theorem ghs_sound : ∀ (l : List Gh) {s s' : St} {I : Imm}, Sim w0 I0 I β κ s sav a w → ghs l s = some s' → s'.it = s.it ∧ ∃ J, I.le J ∧ Sim w0 I0 J β κ s' sav a w
  | [], s, s', I, h, hg => by simp only [ghs, Option.some.injEq] at hg; subst hg; exact ⟨rfl, I, Imm.le_refl _, h⟩
  | g :: l, s, s', I, h, hg => by
    obtain ⟨s1, h1, h2⟩ := Option.bind_eq_some_iff.1 hg
    obtain ⟨e1, J, hJ, hs⟩ := gh1_sound h h1
    obtain ⟨e2, J2, hJ2, hs2⟩ := ghs_sound l hs h2
    exact ⟨e2.trans e1, J2, Imm.le_trans hJ hJ2, hs2⟩

theorem sat_ghs {B : Nat → World → Imm → Prop} {l : List Gh} (h : Sat its B I s sav a w) (hg : ghs l s = some s') : ∃ J, I.le J ∧ Sat its B J s' sav a w := by
  obtain ⟨hdf, w0, I0, β, κ, hB, hs⟩ := h
  obtain ⟨e, J, hJ, hs'⟩ := ghs_sound l hs hg
  exact ⟨J, hJ, hdf, w0, I0, β, κ, by rw [e]; exact hB, hs'⟩

end
end Go.Proofs.YtipchjfcjbghnaaGreat.A

/- A range over a function: the rounds, told one by one. -/
set_option linter.unusedVariables false
set_option linter.unusedSimpArgs false
namespace Go.Proofs.YtipchjfcjbghnaaGreat.A
open Go Go.RowKit Go.Shelf

section
variable {P : Program} {ro : Option Nat}
variable {w0 w w' : World} {I0 I J : Imm} {β : Nat → Nat} {κ : Nat → Nat × Nat × Nat} {s s' : St} {sav : List (Array Value)} {a : Act}

theorem OnlyAt.putObj (w : World) (l : Nat) (o : Obj) : OnlyAt l w (w.putObj l o) := ⟨rfl, rfl, rfl, by simp, fun j hj => World.putObj_heap_other hj⟩

theorem Sim.putLoop (h : Sim w0 I0 I β κ s sav a w) {l : Nat} {r : Loop} (hl : w.heap[l]? = some (.loop r)) (hb : w0.heap.size ≤ l) (o : Obj) : Sim w0 I0 I β κ s sav a (w.putObj l o) := by
  have ho := OnlyAt.putObj w l o
  exact
    { below := h.below.trans (ho.below hb)
      good := fun b arr hI => by
        obtain ⟨cs, ty, fz, more, h1, h2⟩ := h.good b arr hI
        exact ⟨cs, ty, fz, more, (ho.block b (fun e => by rw [e, hl] at h1; cases h1)).trans h1, h2⟩
      ext := h.ext
      old := h.old
      tm := h.tm
      sv := h.sv
      box := fun b cells hc => by
        obtain ⟨h1, h2, cs, ty, h3, h4⟩ := h.box b cells hc
        exact ⟨h1, h2, cs, ty, (ho.block _ (fun e => by rw [e, hl] at h3; cases h3)).trans h3, h4⟩
      rob := h.rob
      inj := h.inj
      tok := fun t ht => by
        obtain ⟨h1, cs, ty, arr, h3, h4⟩ := h.tok t ht
        exact ⟨h1, cs, ty, arr, (ho.block _ (fun e => by rw [e, hl] at h3; cases h3)).trans h3, h4⟩
      tinj := h.tinj
      dfr := by
        obtain ⟨Ds, h1, h2, h3⟩ := h.dfr
        exact ⟨Ds, h1, h2, fun D hD => ⟨(h3 D hD).1, (ho.block D (fun e => by have := (h3 D hD).2; rw [e, hl] at this; cases this)).trans (h3 D hD).2⟩⟩ }

theorem Sim.between (h : Sim w0 I0 I β κ s sav a w) : Sim w0 I0 I β κ (betw { s with sv := s.tm :: s.sv }) (a.tmps :: sav) { tmps := #[], defers := [] } w :=
  { below := h.below, good := h.good, ext := h.ext, old := h.old, tm := .nil, sv := .cons h.tm h.sv, box := h.box, rob := h.rob, inj := h.inj, tok := h.tok, tinj := h.tinj, dfr := ⟨[], rfl, List.nodup_nil, by simp⟩ }

/-- The slots of a round forgotten. -/
theorem Sim.forgetTm (h : Sim w0 I0 I β κ s sav a w) : Sim w0 I0 I β κ (betw s) sav { tmps := #[], defers := [] } w :=
  { below := h.below, good := h.good, ext := h.ext, old := h.old, tm := .nil, sv := h.sv, box := h.box, rob := h.rob, inj := h.inj, tok := h.tok, tinj := h.tinj, dfr := ⟨[], rfl, List.nodup_nil, by simp⟩ }

theorem setPs_R {tk : Nat → Nat} : ∀ (ps : List Nat) (x : List PV) (vs : List Value) (tm : List TV) (tms : Array Value), x.length = ps.length → Cs I x vs → Rs I β κ tk tm tms.toList →
    Rs I β κ tk (setPs ps x tm) ((ps.zip vs).foldl (fun t (p, v) => t.setIfInBounds p v) tms).toList
  | [], [], vs, tm, tms, _, hc, h => by cases hc; exact h
  | p :: ps, y :: x, vs, tm, tms, hl, hc, h => by
    cases hc with
    | cons h1 h2 =>
      simp only [setPs, List.zip_cons_cons, List.foldl_cons]
      exact setPs_R ps x _ _ _ (by simpa using hl) h2 (by rw [Array.toList_setIfInBounds]; exact h.set p (.v h1))
  | [], _ :: _, _, _, _, hl, _, _ => by simp at hl
  | _ :: _, [], _, _, _, hl, _, _ => by simp at hl

theorem Sim.enter {ps : Array Nat} {x : List PV} {vs : List Value} {tms : Array Value} (h : Sim w0 I0 I β κ s (tms :: sav) a w) (hx : x.length = ps.toList.length) (hc : Cs I x vs) :
    Sim w0 I0 I β κ (enterR ps.toList x s) (tms :: sav) { tmps := (ps.zip vs.toArray).foldl (fun t (p, v) => t.setIfInBounds p v) tms, defers := [] } w := by
  have hsv := h.sv
  have htm : Rs I β κ (tkOf s.tk) (setPs ps.toList x (s.sv.headD [])) ((ps.zip vs.toArray).foldl (fun t (p, v) => t.setIfInBounds p v) tms).toList := by
    generalize hs : s.sv = l at hsv
    cases hsv with
    | cons h1 h2 =>
      have := setPs_R ps.toList x vs _ tms hx hc h1
      rw [← Array.foldl_toList, Array.toList_zip]
      exact this
  exact { below := h.below, good := h.good, ext := h.ext, old := h.old, tm := htm, sv := h.sv, box := h.box, rob := h.rob, inj := h.inj, tok := h.tok, tinj := h.tinj, dfr := ⟨[], rfl, List.nodup_nil, by simp⟩ }

theorem Sim.leave {tms : Array Value} {df : List Deferred} (h : Sim w0 I0 I β κ s (tms :: sav) a w)
    (hd : ∃ Ds : List Nat, df = Ds.map (fun D => { target := .collected D, args := #[] }) ∧ Ds.Nodup ∧ ∀ D ∈ Ds, w0.heap.size ≤ D ∧ w.heap[D]? = some (.deferred (some []))) :
    Sim w0 I0 I β κ (leaveR s) sav { tmps := tms, defers := df } w := by
  have hsv := h.sv
  have h2 : Rs I β κ (tkOf s.tk) (s.sv.headD []) tms.toList ∧ Rss I β κ (tkOf s.tk) s.sv.tail sav := by
    generalize hs : s.sv = l at hsv
    cases hsv with
    | cons h1 h2 => exact ⟨h1, h2⟩
  exact { below := h.below, good := h.good, ext := h.ext, old := h.old, tm := h2.1, sv := h2.2, box := h.box, rob := h.rob, inj := h.inj, tok := h.tok, tinj := h.tinj, dfr := hd }

/-- How a round's body is left, as a jump. -/
def jumpOf : XA → Option Code
  | .normal => none
  | .ret => some .ret
  | .exit id => some (.exit id)

/-- What holds between the rounds. -/
def BetwRounds (g : List Gh) (ps : List Nat) (run : (XA → St → Prop) → St → Prop) (Q : XA → St → Prop) (items : List (List PV)) (w0 : World) (I0 : Imm) (sav : List (Array Value)) (w : World) (I : Imm) (l : Nat) (rec : LoopState → Option Code → Loop)
    (i : Nat) (I' : Imm) (W : World) : Prop :=
  I.le I' ∧ KeepsOthers w W ∧
    ((i ≤ items.length ∧ ∃ s β κ, Rounds g ps run Q (items.drop i) s ∧ Sim w0 I0 I' β κ s sav { tmps := #[], defers := [] } W ∧ W.heap[l]? = some (.loop (rec .ready none))) ∨
     (i = items.length + 1 ∧ ∃ xa s β κ c, jumpOf xa = some c ∧ Q xa (leaveR s) ∧ Sim w0 I0 I' β κ s sav { tmps := #[], defers := [] } W ∧ W.heap[l]? = some (.loop (rec .done (some c)))))

theorem betw_abiding {g : List Gh} {ps : List Nat} {run : (XA → St → Prop) → St → Prop} {Q : XA → St → Prop} {items : List (List PV)} {l : Nat} {rec : LoopState → Option Code → Loop} :
    Abiding (BetwRounds g ps run Q items w0 I0 sav w I l rec) := by
  rintro i I₁ W₁ I₂ W₂ ⟨hle, hk, hd⟩ hb hle2 hold hg
  refine ⟨Imm.le_trans hle hle2, hk.trans (KeepsOthers.ofBelow hb), ?_⟩
  rcases hd with ⟨hi, s, β, κ, hR, hS, hl⟩ | ⟨hi, xa, s, β, κ, c, hj, hq, hS, hl⟩
  · exact .inl ⟨hi, s, β, κ, hR, hS.grow hb hle2 hold hg, by rw [hb.block _ (Array.getElem?_eq_some_iff.1 hl).1, hl]⟩
  · exact .inr ⟨hi, xa, s, β, κ, c, hj, hq, hS.grow hb hle2 hold hg, by rw [hb.block _ (Array.getElem?_eq_some_iff.1 hl).1, hl]⟩

theorem keepsPut {W : World} (h : KeepsOthers w W) {l : Nat} (hl : w.heap.size ≤ l) (o : Obj) : KeepsOthers w (W.putObj l o) :=
  ⟨by simpa using h.size, fun k o' hk ho => by
    have := (Array.getElem?_eq_some_iff.1 hk).1
    rw [World.putObj_heap_other (by omega)]
    exact h.same k o' hk ho⟩

/-- ONE ROUND, for a body whose wp is known. -/
theorem round_ok {items : List (List PV)} {g : List Gh} {Q : XA → St → Prop} {l : Nat} {fn : FuncId} {ps : Array Tmp} {assign body : Code} {tms : Array Value} {dfb : Nat} {run : (XA → St → Prop) → St → Prop}
    (hbase : w0.heap.size ≤ l) (hlw : w.heap.size ≤ l)
    (hrun : ∀ (Q' : XA → St → Prop) (s : St) (I' : Imm) (β : Nat → Nat) (κ : Nat → Nat × Nat × Nat) (a : Act) (W : World), run Q' s → Sim w0 I0 I' β κ s (tms :: sav) a W → (∃ r, W.heap[l]? = some (.loop r)) →
      ∀ (post : Exit → Act → World → Prop), (∀ xa s' J a' W' β' κ', Q' xa s' → I'.le J → KeepsOthers (W.putObj l (.loop { state := .busy, pending := none, fn, tmps := tms, params := ps, assign, body, defers := dfb })) W' →
          Sim w0 I0 J β' κ' s' (tms :: sav) a' W' → post (match xa with | .normal => .normal | .ret => .ret | .exit id => .exit id) a' W') →
        W.heap[l]? = some (.loop { state := .ready, pending := none, fn, tmps := tms, params := ps, assign, body, defers := dfb }) →
        assign.wpIn (wideR (some l)) 0 P (Exit.then (fun a₁ w₁ => ∃ w₂, (Instr.beginRound l).run P w₁ = .ok () w₂ ∧ body.wpIn (wideR (some l)) 0 P post a₁ w₂) (fun _ _ _ => False)) a W) :
    RoundOk P l (BetwRounds g ps.toList run Q items w0 I0 (tms :: sav) w I l (fun st pe => { state := st, pending := pe, fn, tmps := tms, params := ps, assign, body, defers := dfb })) items := by
  intro i x I₁ W₁ vs hi ⟨hle, hk, hd⟩ hg hc
  have hlt : i < items.length := (List.getElem?_eq_some_iff.1 hi).1
  rcases hd with ⟨_, s, β, κ, hR, hS, hl⟩ | ⟨hi', _⟩
  case inr => omega
  have hdrop : items.drop i = x :: items.drop (i + 1) := by
    rw [List.drop_eq_getElem_cons hlt]
    have := (List.getElem?_eq_some_iff.1 hi).2
    rw [this]
  rw [hdrop] at hR
  obtain ⟨hxl, hbody⟩ := hR
  have hy := run_yield (P := P) (args := vs.toArray) hl (by have := hc.length; simp only [List.size_toArray]; rw [← this, hxl, Array.length_toList])
  refine ⟨fn, _, assign, body, hy, ?_⟩
  have hS1 := hS.enter (ps := ps) (by simpa using hxl) hc
  refine roundIn_of_wpIn (F := Fence.wide) trivial ?_
  refine hrun _ _ _ _ _ _ _ hbody hS1 ⟨_, hl⟩ _ ?_ hl
  intro xa s' J a' W' β' κ' hQ hle' hkeep hS'
  have hlt1 : l < W₁.heap.size := (Array.getElem?_eq_some_iff.1 hl).1
  have hbusy : W'.heap[l]? = some (.loop { state := .busy, pending := none, fn, tmps := tms, params := ps, assign, body, defers := dfb }) := hkeep.same l _ (World.putObj_heap_same hlt1) rfl
  have hlt' : l < W'.heap.size := (Array.getElem?_eq_some_iff.1 hbusy).1
  have hk2 : KeepsOthers w W' := (keepsPut hk hlw _).trans hkeep
  have hsim2 : ∀ o, Sim w0 I0 J β' κ' s' (tms :: sav) a' (W'.putObj l o) := fun o => hS'.putLoop hbusy hbase o
  have fin : ∀ (c : Code), (xa = .ret ∧ c = .ret ∨ ∃ id, xa = .exit id ∧ c = .exit id) → Q xa (leaveR s') →
      ∃ v w'', (Instr.endRound l (some c)).run P W' = .ok v w'' ∧ ∃ I₂, I₁.le I₂ ∧ Good I₂ w'' ∧ ((Ending.returned v = .returned (.bool true) ∧ BetwRounds g ps.toList run Q items w0 I0 (tms :: sav) w I l (fun st pe => { state := st, pending := pe, fn, tmps := tms, params := ps, assign, body, defers := dfb }) (i + 1) I₂ w'') ∨
        (Ending.returned v = .returned (.bool false) ∧ BetwRounds g ps.toList run Q items w0 I0 (tms :: sav) w I l (fun st pe => { state := st, pending := pe, fn, tmps := tms, params := ps, assign, body, defers := dfb }) (items.length + 1) I₂ w'')) := by
    intro c hx hq
    refine ⟨_, _, run_endRound (P := P) (some c) hbusy, J, hle', (hsim2 _).good, .inr ⟨rfl, Imm.le_trans hle hle', keepsPut hk2 hlw _, .inr ⟨rfl, xa, betw s', β', κ', c, ?_, hq, (hsim2 _).forgetTm, ?_⟩⟩⟩
    · rcases hx with ⟨rfl, rfl⟩ | ⟨id, rfl, rfl⟩ <;> rfl
    · exact World.putObj_heap_same hlt'
  cases xa with
  | normal =>
    obtain ⟨s1, hgs, hrest⟩ := hQ
    obtain ⟨e1, J2, hJ2, hs2⟩ := ghs_sound g (hsim2 (.loop { state := .ready, pending := none, fn, tmps := tms, params := ps, assign, body, defers := dfb })).forgetTm hgs
    refine ⟨_, _, run_endRound (P := P) none hbusy, J2, Imm.le_trans hle' hJ2, hs2.good, .inl ⟨rfl, Imm.le_trans hle (Imm.le_trans hle' hJ2), keepsPut hk2 hlw _, .inl ⟨hlt, s1, β', κ', hrest, hs2, World.putObj_heap_same hlt'⟩⟩⟩
  | ret => exact fin .ret (.inl ⟨rfl, rfl⟩) hQ
  | exit id => exact fin (.exit id) (.inr ⟨id, rfl, rfl⟩) hQ

end
end Go.Proofs.YtipchjfcjbghnaaGreat.A

/- What 'wpA' tells, the model does. -/
set_option linter.unusedVariables false
set_option linter.unusedSimpArgs false
namespace Go.Proofs.YtipchjfcjbghnaaGreat.A
open Go Go.RowKit Go.Shelf

/-- A region that draws its order, whose told run is the text's: see the text on regions. -/
def DrawSound (P : Program) (y : Bool) (ao : List AO) : Prop :=
  ∀ (ops : Array Oper), OpsAgree P ao ops → P.follows .mixedOrders = true → ∀ (its : Option (Nat × List (List PV))) (w00 : World) (I00 : Imm) (Jt : Nat → Imm → World → Prop) (ro : Option Nat) (Q : XA → St → Prop)
    (I : Imm) (w : World) (s : St) (sav : List (Array Value)) (a : Act) (w0 : World) (I0 : Imm) (β : Nat → Nat) (κ : Nat → Nat × Nat × Nat) (t : Nat), Ctx P its Jt → (its.isSome = true → a.defers = []) → Base its w00 I00 Jt s.it w0 I0 → Sim w0 I0 I β κ s sav a w → wpOpsA P (if y = true then its else none) ao ao s (Q .normal) →
    wpOpsIn (wideR ro) 0 P ops (PostA its (Base its w00 I00 Jt) I sav w Q) (Region.linearise .any ops t) a w.drew

/-- The same, of a region that makes variables. -/
def DrawSoundC (P : Program) (pa : List (Nat × Nat)) (ao : List AO) : Prop :=
  ∀ (ops : Array Oper), OpsAgree P ao ops → P.follows .mixedOrders = true → ∀ (its : Option (Nat × List (List PV))) (w00 : World) (I00 : Imm) (Jt : Nat → Imm → World → Prop) (ro : Option Nat) (Q : XA → St → Prop)
    (I : Imm) (w : World) (s : St) (sav : List (Array Value)) (a : Act) (w0 : World) (I0 : Imm) (β : Nat → Nat) (κ : Nat → Nat × Nat × Nat) (t : Nat), Ctx P its Jt → (its.isSome = true → a.defers = []) → Base its w00 I00 Jt s.it w0 I0 → Sim w0 I0 I β κ s sav a w → (freeAll (dsL ao) s && (paOk pa s && nonPs (nsL pa ao) s)) = true → wpOpsC P pa ao ao s (Q .normal) →
    wpOpsIn (wideR ro) 0 P ops (PostA its (Base its w00 I00 Jt) I sav w Q) (Region.linearise .any ops t) a w.drew

/-- The told code is the code. -/
def Ag (P : Program) : AC → Code → Prop
  | .gh _ x, c => Ag P x c
  | .dead, _ => True
  | .skip, .skip => True
  | .skip, .label _ => True
  | .reg d y ao, .region _ ops d' => d = d' ∧ OpsAgree P ao ops ∧ (d = true → P.follows .mixedOrders = true ∧ DrawSound P y ao)
  | .regd pa ao, .region _ ops d' => d' = true ∧ OpsAgree P ao ops ∧ P.follows .mixedOrders = true ∧ DrawSoundC P pa ao
  | .seq x y, .seq c d => Ag P x c ∧ Ag P y d
  | .cond c x y, .cond c' d e => c = c' ∧ Ag P x d ∧ Ag P y e
  | .block id x, .block id' c => id = id' ∧ Ag P x c
  | .loop _ x, .loop c => Ag P x c
  | .rf f ps _ x y, .rangeFunc f' ps' c d => f = f' ∧ ps = ps'.toList ∧ Ag P x c ∧ Ag P y d
  | .exit id, .exit id' => id = id'
  | .ret, .ret => True
  | _, _ => False

section
variable {P : Program}

theorem calls_ro {ro : Option Nat} {f : FuncId} {args : Array Value} {w : World} {R : Ending → World → Prop} (h : Calls P f args w R) : CallsIn (wideR ro) (0 - 1) P f args w R := by
  have := (callsIn_wide (n := 0 - 1)).2 h
  cases ro with
  | none => exact this
  | some l => exact CallsIn.inRound l this

theorem least {p : Nat → Prop} (h : ∃ m, p m) : ∃ m, p m ∧ ∀ k, p k → m ≤ k := by
  obtain ⟨m, hm⟩ := h
  induction m using Nat.strongRecOn with
  | _ m ih =>
    by_cases hk : ∃ k, k < m ∧ p k
    · obtain ⟨k, hlt, hp⟩ := hk
      exact ih k hlt hp
    · exact ⟨m, hm, fun k hp => Nat.le_of_not_lt fun hlt => hk ⟨k, hlt, hp⟩⟩

theorem wpIn_loop_rel {F : Fence} {n : Nat} {c : Code} {Q : Exit → Act → World → Prop} {a : Act} {w : World} (Inv : Nat → Act → World → Prop) {m : Nat} (h0 : Inv m a w)
    (round : ∀ m a w, Inv m a w → c.wpIn F n P (Exit.then (fun a' w' => ∃ m', m' < m ∧ Inv m' a' w') Q) a w) : (Code.loop c).wpIn F n P Q a w := by
  classical
  let μ : Act → World → Nat := fun a w => if h : ∃ m, Inv m a w then (least h).choose else 0
  have hμ : ∀ a w (h : ∃ m, Inv m a w), Inv (μ a w) a w ∧ ∀ k, Inv k a w → μ a w ≤ k := fun a w h => by
    simp only [μ, dif_pos h]
    exact (least h).choose_spec
  refine wpIn_loop (fun a w => ∃ m, Inv m a w) μ ⟨m, h0⟩ ?_
  intro a w hI
  refine wpIn_mono (round (μ a w) a w (hμ a w hI).1) ?_
  intro e a' w' hq
  cases e with
  | normal =>
    obtain ⟨m', hlt, hi⟩ := hq
    exact ⟨⟨m', hi⟩, Nat.lt_of_le_of_lt ((hμ a' w' ⟨m', hi⟩).2 m' hi) hlt⟩
  | _ => exact hq

/-- The record of the round that is walked lies there. -/
def RoundAt (ro : Option Nat) (w : World) : Prop := ∀ l, ro = some l → ∃ r, w.heap[l]? = some (.loop r)

theorem RoundAt.keep {ro : Option Nat} {w w' : World} (h : RoundAt ro w) (hk : KeepsOthers w w') : RoundAt ro w' := fun l hl => by
  obtain ⟨r, hr⟩ := h l hl
  exact ⟨r, hk.same l _ hr rfl⟩

theorem PostA.mono {its : Option (Nat × List (List PV))} {B : Nat → World → Imm → Prop} {I J : Imm} {sav : List (Array Value)} {w w' : World} {Q : XA → St → Prop} (hle : I.le J) (hk : its = none → KeepsOthers w w') {e : Exit} {a2 : Act} {w2 : World}
    (h : PostA its B J sav w' Q e a2 w2) : PostA its B I sav w Q e a2 w2 := by
  cases e with
  | normal => obtain ⟨s', J', h1, h2, h3, h4⟩ := h; exact ⟨s', J', h1, Imm.le_trans hle h2, fun e => (hk e).trans (h3 e), h4⟩
  | ret => obtain ⟨s', J', h1, h2, h3, h4⟩ := h; exact ⟨s', J', h1, Imm.le_trans hle h2, fun e => (hk e).trans (h3 e), h4⟩
  | exit id => obtain ⟨s', J', h1, h2, h3, h4⟩ := h; exact ⟨s', J', h1, Imm.le_trans hle h2, fun e => (hk e).trans (h3 e), h4⟩
  | _ => exact h

theorem sound : ∀ (c : AC) (code : Code), Ag P c code → ∀ (its : Option (Nat × List (List PV))) (w00 : World) (I00 : Imm) (Jt : Nat → Imm → World → Prop) (ro : Option Nat), Ctx P its Jt → (ro.isSome = true → its = none) →
    ∀ (Q : XA → St → Prop) (I : Imm) (w : World) (s : St) (sav : List (Array Value)) (a : Act), wpA P its c Q s → RoundAt ro w → Sat its (Base its w00 I00 Jt) I s sav a w →
      code.wpIn (wideR ro) 0 P (PostA its (Base its w00 I00 Jt) I sav w Q) a w := by
  intro c
  induction c with
  | dead =>
    intro code hag its w00 I00 Jt ro hctx hro Q I w s sav a hs hr hsat
    exact hs.elim
  | gh g x ih =>
    intro code hag its w00 I00 Jt ro hctx hro Q I w s sav a hs hr hsat
    obtain ⟨s1, h1, h2⟩ := hs
    obtain ⟨J, hJ, hsat'⟩ := sat_ghs hsat h1
    exact wpIn_mono (ih code hag its w00 I00 Jt ro hctx hro Q J w s1 sav a h2 hr hsat') fun e a2 w2 h => PostA.mono hJ (fun _ => KeepsOthers.refl _) h
  | skip =>
    intro code hag its w00 I00 Jt ro hctx hro Q I w s sav a hs hr hsat
    cases code <;> first | exact hag.elim | skip
    · exact wpIn_skip ⟨s, I, hs, Imm.le_refl _, fun _ => KeepsOthers.refl _, hsat⟩
    · exact wpIn_label ⟨s, I, hs, Imm.le_refl _, fun _ => KeepsOthers.refl _, hsat⟩
  | reg d y ao =>
    intro code hag its w00 I00 Jt ro hctx hro Q I w s sav a hs hr hsat
    cases code <;> first | exact hag.elim | skip
    rename_i id ops d'
    obtain ⟨rfl, hops, hdraw⟩ := hag
    obtain ⟨hdf, w0, I0, β, κ, hB, h⟩ := hsat
    cases d with
    | false =>
      refine wpIn_region ?_
      have := sound_ops (ro := ro) (Q := Q) hops hctx I w ops.size 0 (by omega) (Imm.le_refl _) (fun _ => KeepsOthers.refl _) hdf hB h (by rw [List.drop_zero]; exact hs)
      rwa [← List.range_eq_range'] at this
    | true =>
      obtain ⟨hmix, hds⟩ := hdraw rfl
      refine wpIn_region_draw fun t => ?_
      have e : Region.schedule (P.follows .mixedOrders) ops t = Region.linearise .any ops t := by simp [Region.schedule, hmix]
      rw [e]
      refine hds ops hops hmix its w00 I00 Jt ro Q I w s sav a w0 I0 β κ t hctx hdf hB h ?_
      cases y
      · exact hs
      · exact hs
  | regd pa ao =>
    intro code hag its w00 I00 Jt ro hctx hro Q I w s sav a hs hr hsat
    cases code <;> first | exact hag.elim | skip
    rename_i id ops d'
    obtain ⟨rfl, hops, hmix, hds⟩ := hag
    obtain ⟨hdf, w0, I0, β, κ, hB, h⟩ := hsat
    refine wpIn_region_draw fun t => ?_
    have e : Region.schedule (P.follows .mixedOrders) ops t = Region.linearise .any ops t := by simp [Region.schedule, hmix]
    rw [e]
    exact hds ops hops hmix its w00 I00 Jt ro Q I w s sav a w0 I0 β κ t hctx hdf hB h hs.1 hs.2
  | seq x y ihx ihy =>
    intro code hag its w00 I00 Jt ro hctx hro Q I w s sav a hs hr hsat
    cases code <;> first | exact hag.elim | skip
    rename_i cx cy
    obtain ⟨h1, h2⟩ := hag
    refine wpIn_seq (wpIn_mono (ihx cx h1 its w00 I00 Jt ro hctx hro _ I w s sav a hs hr hsat) ?_)
    intro e a2 w2 hp
    cases e with
    | normal =>
      obtain ⟨s', J, k1, k2, k3, k4⟩ := hp
      have hr' : RoundAt ro w2 := fun l hl => (hr.keep (k3 (hro (by simp [hl])))) l hl
      exact wpIn_mono (ihy cy h2 its w00 I00 Jt ro hctx hro Q J w2 s' sav a2 k1 hr' k4) fun e a3 w3 h => PostA.mono k2 k3 h
    | ret => exact hp
    | exit id => exact hp
    | _ => exact hp
  | cond c x y ihx ihy =>
    intro code hag its w00 I00 Jt ro hctx hro Q I w s sav a hs hr hsat
    cases code <;> first | exact hag.elim | skip
    rename_i c' cx cy
    obtain ⟨rfl, h1, h2⟩ := hag
    simp only [wpA] at hs
    split at hs
    · rename_i b hb
      obtain ⟨hdf, w0, I0, β, κ, hB, h⟩ := hsat
      have hv := (ev_R h hb).inv.inv_s
      refine wpIn_cond hv ?_
      cases b with
      | true => exact ihx cx h1 its w00 I00 Jt ro hctx hro Q I w s sav a (by simpa using hs) hr ⟨hdf, w0, I0, β, κ, hB, h⟩
      | false => exact ihy cy h2 its w00 I00 Jt ro hctx hro Q I w s sav a (by simpa using hs) hr ⟨hdf, w0, I0, β, κ, hB, h⟩
    · exact hs.elim
  | block id x ih =>
    intro code hag its w00 I00 Jt ro hctx hro Q I w s sav a hs hr hsat
    cases code <;> first | exact hag.elim | skip
    rename_i id' cx
    obtain ⟨rfl, h1⟩ := hag
    refine wpIn_block (wpIn_mono (ih cx h1 its w00 I00 Jt ro hctx hro _ I w s sav a hs hr hsat) ?_)
    intro e a2 w2 hp
    cases e with
    | exit j =>
      obtain ⟨s', J, k1, k2, k3, k4⟩ := hp
      simp only [Exit.inBlock]
      by_cases hj : j = id
      · rw [if_pos hj]
        simp only [hj, if_true] at k1
        exact ⟨s', J, k1, k2, k3, k4⟩
      · rw [if_neg hj]
        simp only [hj, if_false] at k1
        exact ⟨s', J, k1, k2, k3, k4⟩
    | _ => exact hp
  | loop g x ih =>
    intro code hag its w00 I00 Jt ro hctx hro Q I w s sav a hs hr hsat
    cases code <;> first | exact hag.elim | skip
    rename_i cx
    obtain ⟨Inv, m, s0, hg, h0, hround⟩ := hs
    obtain ⟨J0, hJ0, hsat0⟩ := sat_ghs hsat hg
    refine wpIn_loop_rel (fun m a' w' => ∃ s' J', Inv m s' ∧ I.le J' ∧ (its = none → KeepsOthers w w') ∧ Sat its (Base its w00 I00 Jt) J' s' sav a' w') (m := m) ⟨s0, J0, h0, hJ0, fun _ => KeepsOthers.refl _, hsat0⟩ ?_
    rintro m a1 w1 ⟨s1, J1, hi, hle, hk, hs1⟩
    have hr' : RoundAt ro w1 := fun l hl => (hr.keep (hk (hro (by simp [hl])))) l hl
    refine wpIn_mono (ih cx hag its w00 I00 Jt ro hctx hro _ J1 w1 s1 sav a1 (hround m s1 hi) hr' hs1) ?_
    intro e a2 w2 hp
    have hp' := PostA.mono hle hk hp
    cases e with
    | normal =>
      obtain ⟨s', J, ⟨s2, m', k0, k1, k1'⟩, k2, k3, k4⟩ := hp'
      obtain ⟨J2, hJ2, hsat2⟩ := sat_ghs k4 k0
      exact ⟨m', k1, s2, J2, k1', Imm.le_trans k2 hJ2, k3, hsat2⟩
    | ret => exact hp'
    | exit id => exact hp'
    | _ => exact hp'
  | exit id =>
    intro code hag its w00 I00 Jt ro hctx hro Q I w s sav a hs hr hsat
    cases code <;> first | exact hag.elim | skip
    obtain rfl := hag
    exact wpIn_exit ⟨s, I, hs, Imm.le_refl _, fun _ => KeepsOthers.refl _, hsat⟩
  | ret =>
    intro code hag its w00 I00 Jt ro hctx hro Q I w s sav a hs hr hsat
    cases code <;> first | exact hag.elim | skip
    exact wpIn_ret ⟨s, I, hs, Imm.le_refl _, fun _ => KeepsOthers.refl _, hsat⟩
  | rf f ps g x y ihx ihy =>
    intro code hag its w00 I00 Jt ro hctx hro Q I w s sav a hs hr hsat
    cases code <;> first | exact hag.elim | skip
    rename_i f' ps' cx cy
    obtain ⟨rfl, rfl, h1, h2⟩ := hag
    obtain ⟨items, p, s1, hits, hev, ⟨k, caps, hpk, hent, hiter⟩, hg, hR⟩ := hs
    subst hits
    obtain ⟨_, w0, I0, β, κ, ⟨rfl, rfl⟩, h⟩ := hsat
    subst hpk
    obtain ⟨arr, hfv, hcaps⟩ := (ev_R h hev).inv.inv_fn
    have hgo : ∀ (fn : FuncId) (wA : World) (mark : List Deferred) (dfb : Nat), Below w.heap.size w wA → Sim w0 I0 I β κ s sav { a with defers := mark ++ a.defers } wA →
        (Instr.enterLoop fn a.tmps ps' cx cy ro).run P w = .ok (wA.heap.size, mark) (wA.alloc (.loop { state := .ready, pending := none, fn, tmps := a.tmps, params := ps', assign := cx, body := cy, defers := dfb })) →
        CallsIn (wideR ro) (0 - 1) P k (#[.func (.yield wA.heap.size) #[] #[]] ++ arr) (wA.alloc (.loop { state := .ready, pending := none, fn, tmps := a.tmps, params := ps', assign := cx, body := cy, defers := dfb }))
          (rangePost (wideR ro) 0 P wA.heap.size (PostA none (Base none w0 I0 Jt) I sav w Q) { a with defers := mark ++ a.defers }) := by
      intro fn wA mark dfb hwA hA _
      obtain ⟨rec, hrec⟩ : ∃ rec : LoopState → Option Code → Loop, rec = fun st pe => { state := st, pending := pe, fn, tmps := a.tmps, params := ps', assign := cx, body := cy, defers := dfb } := ⟨_, rfl⟩
      have hl1 : (wA.alloc (.loop (rec .ready none))).heap[wA.heap.size]? = some (.loop (rec .ready none)) := World.alloc_heap_new wA _
      have hb1 : w0.heap.size ≤ wA.heap.size := hA.size
      have h1A := hA.alloc (.loop (rec .ready none))
      have hbet := h1A.between
      obtain ⟨_, J1, hJ1, hs1⟩ := ghs_sound g hbet hg
      have hround : RoundOk P wA.heap.size (BetwRounds g ps'.toList (fun Q' s' => wpA P none x (fun e s2 => match e with | .normal => wpA P none y Q' s2 | _ => False) s') Q items w0 I0 (a.tmps :: sav) wA I wA.heap.size rec) items := by
        rw [hrec]
        refine round_ok hb1 (Nat.le_refl _) ?_
        intro Q' s' I' β' κ' a' W hw hS hrr post hpost hlW
        have hx := ihx cx h1 none w0 I0 Jt (some wA.heap.size) (fun _ _ e => by cases e) (fun _ => rfl) _ I' W s' (a.tmps :: sav) a' hw
          (fun l hl => by cases hl; exact hrr) ⟨(fun e => by cases e), w0, I0, β', κ', ⟨rfl, rfl⟩, hS⟩
        refine wpIn_mono hx ?_
        intro e a2 w2 hp
        cases e with
        | normal =>
          obtain ⟨s2, J2, k1, k2, k3, _, w02, I02, β2, κ2, ⟨rfl, rfl⟩, hS2⟩ := hp
          have hl2 := (k3 rfl).same _ _ hlW rfl
          have hlt2 := (Array.getElem?_eq_some_iff.1 hl2).1
          refine ⟨_, run_beginRound hl2 rfl, ?_⟩
          have hS3 := hS2.putLoop hl2 hb1 (.loop { state := .busy, pending := none, fn, tmps := a.tmps, params := ps', assign := cx, body := cy, defers := dfb })
          have hy := ihy cy h2 none w02 I02 Jt (some wA.heap.size) (fun _ _ e => by cases e) (fun _ => rfl) Q' J2 _ s2 (a.tmps :: sav) a2 k1
            (fun l hl => by cases hl; exact ⟨_, World.putObj_heap_same hlt2⟩) ⟨(fun e => by cases e), w02, I02, β2, κ2, ⟨rfl, rfl⟩, hS3⟩
          refine wpIn_mono hy ?_
          have hcomb : ∀ {W' : World}, KeepsOthers (w2.putObj wA.heap.size (.loop { state := .busy, pending := none, fn, tmps := a.tmps, params := ps', assign := cx, body := cy, defers := dfb })) W' →
              KeepsOthers (W.putObj wA.heap.size (.loop { state := .busy, pending := none, fn, tmps := a.tmps, params := ps', assign := cx, body := cy, defers := dfb })) W' := fun {W'} hk =>
            ⟨by have := hk.size; have := (k3 rfl).size; simp at *; omega, fun j o hj ho => by
              by_cases ej : j = wA.heap.size
              · subst ej
                have hltW := (Array.getElem?_eq_some_iff.1 hlW).1
                rw [World.putObj_heap_same hltW] at hj
                cases hj
                exact hk.same _ _ (World.putObj_heap_same hlt2) rfl
              · rw [World.putObj_heap_other ej] at hj
                exact hk.same _ _ (by rw [World.putObj_heap_other ej]; exact (k3 rfl).same _ _ hj ho) ho⟩
          intro e a3 w3 hp
          cases e with
          | normal => obtain ⟨s3, J3, q1, q2, q3, _, w03, I03, β3, κ3, ⟨rfl, rfl⟩, hS4⟩ := hp; exact hpost .normal s3 J3 a3 w3 β3 κ3 q1 (Imm.le_trans k2 q2) (hcomb (q3 rfl)) hS4
          | ret => obtain ⟨s3, J3, q1, q2, q3, _, w03, I03, β3, κ3, ⟨rfl, rfl⟩, hS4⟩ := hp; exact hpost .ret s3 J3 a3 w3 β3 κ3 q1 (Imm.le_trans k2 q2) (hcomb (q3 rfl)) hS4
          | exit id => obtain ⟨s3, J3, q1, q2, q3, _, w03, I03, β3, κ3, ⟨rfl, rfl⟩, hS4⟩ := hp; exact hpost (.exit id) s3 J3 a3 w3 β3 κ3 q1 (Imm.le_trans k2 q2) (hcomb (q3 rfl)) hS4
          | goto _ => exact hp.elim
          | panic _ => exact hp.elim
          | outgrown => exact hp.elim
        | ret => obtain ⟨s2, J2, k1, _⟩ := hp; exact k1.elim
        | exit id => obtain ⟨s2, J2, k1, _⟩ := hp; exact k1.elim
        | goto _ => exact hp.elim
        | panic _ => exact hp.elim
        | outgrown => exact hp.elim
      have hcall := hiter J1 (wA.alloc (.loop (rec .ready none))) arr.toList hs1.good (hcaps.mono hJ1) wA.heap.size _ betw_abiding hround
        ⟨hJ1, KeepsOthers.alloc _ _, .inl ⟨Nat.zero_le _, s1, β, κ, by rw [List.drop_zero]; exact hR, hs1, hl1⟩⟩
      have e1 : #[Value.func (.yield wA.heap.size) #[] #[]] ++ arr.toList.toArray = #[Value.func (.yield wA.heap.size) #[] #[]] ++ arr := by simp
      rw [e1] at hcall
      have hcall' := calls_ro (ro := ro) hcall
      rw [hrec] at hcall'
      refine hcall'.mono ?_
      rintro e W' ⟨⟨v, rfl⟩, I', i, hle, hgd, ⟨hle2, hk2, hd⟩, hi⟩
      have fin : ∀ {s3 : St} {β3 : Nat → Nat} {κ3 : Nat → Nat × Nat × Nat} {r : Loop}, Sim w0 I0 I' β3 κ3 s3 (a.tmps :: sav) { tmps := #[], defers := [] } W' → W'.heap[wA.heap.size]? = some (.loop r) → ∀ o,
          Sat none (Base none w0 I0 Jt) I' (leaveR s3) sav { a with defers := mark ++ a.defers } (W'.putObj wA.heap.size o) ∧ KeepsOthers w (W'.putObj wA.heap.size o) := by
        intro s3 β3 κ3 r hS hl o
        have hS' := hS.putLoop hl hb1 o
        have hkA : KeepsOthers wA (W'.putObj wA.heap.size o) := keepsPut hk2 (Nat.le_refl _) o
        refine ⟨⟨(fun e => by cases e), w0, I0, β3, κ3, ⟨rfl, rfl⟩, hS'.leave ?_⟩, (KeepsOthers.ofBelow hwA).trans hkA⟩
        obtain ⟨Ds, d1, d2, d3⟩ := hA.dfr
        exact ⟨Ds, d1, d2, fun D hD => ⟨(d3 D hD).1, hkA.same _ _ (d3 D hD).2 rfl⟩⟩
      rcases hd with ⟨hin, s3, β3, κ3, hR3, hS, hl⟩ | ⟨hin, xa, s3, β3, κ3, c, hj, hq, hS, hl⟩
      · have e2 : items.drop i = [] := List.drop_eq_nil_of_le (by omega)
        rw [e2] at hR3
        obtain ⟨k1, k2⟩ := fin hS hl (.loop { state := .exhausted, pending := none, fn, tmps := a.tmps, params := ps', assign := cx, body := cy, defers := dfb })
        have hl := hl
        exact ⟨none, _, run_endLoop (P := P) hl (by simp), leaveR s3, I', hR3, hle2, fun _ => k2, k1⟩
      · obtain ⟨k1, k2⟩ := fin hS hl (.loop { state := .exhausted, pending := some c, fn, tmps := a.tmps, params := ps', assign := cx, body := cy, defers := dfb })
        have hl := hl
        refine ⟨some c, _, run_endLoop (P := P) hl (by simp), ?_⟩
        cases xa with
        | normal => cases hj
        | ret => cases hj; exact wpIn_ret ⟨leaveR s3, I', hq, hle2, fun _ => k2, k1⟩
        | exit id => cases hj; exact wpIn_exit ⟨leaveR s3, I', hq, hle2, fun _ => k2, k1⟩
    refine wpIn_rangeFunc ?_
    intro fn _
    have hinv : ∀ (l : Nat) (w1 : World), (resolve a.eval (rangeCall f l) 0).run P w1 = .ok { target := .fn (.func k) arr, args := #[.func (.yield l) #[] #[]] } w1 ∧
        (invoke (.fn (.func k) arr) #[.func (.yield l) #[] #[]]).run P w1 = .ok (.enter k (#[.func (.yield l) #[] #[]] ++ arr)) w1 := fun l w1 =>
      ⟨by simp only [resolve, hfv]; simp [Deferred.ofValue, Act.eval], by simp [invoke, hent (#[.func (.yield l) #[] #[]] ++ arr) w1]⟩
    cases hro' : ro with
    | none =>
      have hA : Sim w0 I0 I β κ s sav { a with defers := [{ target := .collected w.heap.size, args := #[] }] ++ a.defers } (w.alloc (.deferred (some []))) := by
        have h2 := h.alloc (.deferred (some []))
        obtain ⟨Ds, d1, d2, d3⟩ := h2.dfr
        obtain ⟨Ds', d1', d2', d3'⟩ := h.dfr
        refine { h2 with dfr := ⟨w.heap.size :: Ds', by simp [d1'], ?_, ?_⟩ }
        · refine List.nodup_cons.2 ⟨fun hm => ?_, d2'⟩
          have := (Array.getElem?_eq_some_iff.1 (d3' _ hm).2).1
          omega
        · intro D hD
          rcases List.mem_cons.1 hD with rfl | hD
          · exact ⟨h.size, World.alloc_heap_new w _⟩
          · exact ⟨(d3' D hD).1, (Below.heap_alloc w _ D (Array.getElem?_eq_some_iff.1 (d3' D hD).2).1).trans (d3' D hD).2⟩
      have hent2 := run_enterLoop_outer (P := P) (w := w) fn a.tmps ps' cx cy
      have hg2 := hgo fn (w.alloc (.deferred (some []))) [{ target := .collected w.heap.size, args := #[] }] w.heap.size ((Below.refl _ w).alloc (Nat.le_refl _) _) hA (by rw [hro', World.size_alloc]; exact hent2)
      rw [hro'] at hg2
      rw [World.size_alloc] at hg2
      exact ⟨_, _, _, _, _, _, _, _, hent2, (hinv _ _).1, fun _ _ => trivial, (hinv _ _).2, fun e => by simp [wideR, Fence.wide] at e, hg2⟩
    | some l₀ =>
      obtain ⟨r₀, hr₀⟩ := hr l₀ hro'
      have hent2 := run_enterLoop_inner (P := P) hr₀ fn a.tmps ps' cx cy
      have hg2 := hgo fn w [] r₀.defers (Below.refl _ w) (by simpa using h) (by rw [hro']; exact hent2)
      rw [hro'] at hg2
      exact ⟨_, _, _, _, _, _, _, _, hent2, (hinv _ _).1, fun _ _ => trivial, (hinv _ _).2, fun e => by simp [wideR, Fence.wide] at e, hg2⟩

end
end Go.Proofs.YtipchjfcjbghnaaGreat.A

/- Contracts out of what is told. -/
set_option linter.unusedVariables false
set_option linter.unusedSimpArgs false
namespace Go.Proofs.YtipchjfcjbghnaaGreat.A
open Go Go.RowKit Go.Shelf

/-- A result, as it is told. -/
def res1 (s : St) : ResultVar → Bool × Nat → Option PV
  | .tmp t, _ => (s.tm[t]?).bind tov
  | .cell a _, q => ((s.tm[a]?).bind (ldA s q.1 q.2)).bind tov

def resAll (s : St) : List ResultVar → List (Bool × Nat) → Option (List PV)
  | [], [] => some []
  | v :: vs, q :: qs => match res1 s v q, resAll s vs qs with
    | some x, some xs => some (x :: xs)
    | _, _ => none
  | _, _ => none

def packR : List PV → PV
  | [x] => x
  | l => .tup l

def rinfOk (P : Program) : List ResultVar → List (Bool × Nat) → Bool
  | [], [] => true
  | .tmp _ :: vs, _ :: qs => rinfOk P vs qs
  | .cell _ t :: vs, q :: qs => tAgg P t == some q.1 && tSize P t == some q.2 && (q.1 || q.2 == 1) && rinfOk P vs qs
  | _, _ => false

/-- The state as a call begins. -/
def initS (args : List PV) (n : Nat) : St := { tm := args.map .v ++ List.replicate (n - args.length) (.v .junk), bx := [], ro := [], tk := [], sv := [] }

def RetQ (vs : List ResultVar) (qs : List (Bool × Nat)) (r : PV) : XA → St → Prop
  | .exit _, _ => False
  | _, s => (resAll s vs qs).map packR = some r

section
variable {P : Program}
variable {w0 w w' : World} {I0 I J : Imm} {β : Nat → Nat} {κ : Nat → Nat × Nat × Nat} {s s' : St} {sav : List (Array Value)} {a : Act}

theorem run_res1 (h : Sim w0 I0 I β κ s sav a w) {v : ResultVar} {q : Bool × Nat} {x : PV} (hq : rinfOk P [v] [q] = true) (hx : res1 s v q = some x) :
    ∃ u, (match v with | .tmp t => pure (a.tmps.getD t undef) | .cell c t => do loadVar t (← asAddr (a.tmps.getD c undef)) : Sem Value).run P w = .ok u w ∧ C I x u := by
  cases v with
  | tmp t =>
    obtain ⟨tv, h1, h2⟩ := Option.bind_eq_some_iff.1 hx
    exact ⟨_, rfl, tov_C (ev_R (x := .tmp t) h h1) h2⟩
  | cell c t =>
    obtain ⟨tv, h1, h2⟩ := Option.bind_eq_some_iff.1 hx
    obtain ⟨p, h3, h4⟩ := Option.bind_eq_some_iff.1 h1
    simp only [rinfOk, Bool.and_eq_true, beq_iff_eq, Bool.or_eq_true, and_true] at hq
    have hone : q.1 = false → q.2 = 1 := by
      intro e
      rcases hq.2 with e' | e'
      · rw [e] at e'; cases e'
      · exact e'
    obtain ⟨u, hu, hR⟩ := ldA_sound (x := .tmp c) h hq.1.1 hq.1.2 hone h3 h4
    refine ⟨u, ?_, tov_C hR h2⟩
    have haddr : ∃ ad, a.tmps.getD c undef = .pointer (some ad) := by
      have hev := ev_R (x := .tmp c) h h3
      have e : a.eval (.tmp c) = a.tmps.getD c undef := rfl
      rw [e] at hev
      revert hev h4
      generalize a.tmps.getD c undef = u'
      intro h4 hev
      unfold ldA at h4
      split at h4
      · cases hev.inv; exact ⟨_, rfl⟩
      · cases hev; exact ⟨_, rfl⟩
      · cases h4
    obtain ⟨ad, had⟩ := haddr
    have e : a.eval (.tmp c) = .pointer (some ad) := had
    rw [e] at hu
    simp only [Instr.loadAt, Instr.sureAddr, Sem.run_bind, Sem.run_pure, Result.andThen_ok] at hu
    show (do loadVar t (← asAddr (a.tmps.getD c undef)) : Sem Value).run P w = _
    rw [had]
    simpa [asAddr] using hu

theorem run_resAll (h : Sim w0 I0 I β κ s sav a w) : ∀ {vs : List ResultVar} {qs : List (Bool × Nat)} {xs : List PV}, rinfOk P vs qs = true → resAll s vs qs = some xs →
    ∃ us, (vs.mapM fun | .tmp t => pure (a.tmps.getD t undef) | .cell c t => do loadVar t (← asAddr (a.tmps.getD c undef)) : Sem (List Value)).run P w = .ok us w ∧ Cs I xs us
  | [], [], xs, _, hx => by simp only [resAll, Option.some.injEq] at hx; subst hx; exact ⟨[], rfl, .nil⟩
  | v :: vs, q :: qs, xs, hq, hx => by
    simp only [resAll] at hx
    split at hx
    · rename_i y ys h1 h2
      cases hx
      have hq1 : rinfOk P [v] [q] = true ∧ rinfOk P vs qs = true := by
        cases v with
        | tmp t => exact ⟨rfl, hq⟩
        | cell c t => simp only [rinfOk, Bool.and_eq_true, and_true] at hq ⊢; exact ⟨hq.1, hq.2⟩
      obtain ⟨u, hu, hC⟩ := run_res1 h hq1.1 h1
      obtain ⟨us, hus, hCs⟩ := run_resAll h hq1.2 h2
      refine ⟨u :: us, ?_, .cons hC hCs⟩
      simp only [List.mapM_cons, Sem.run_bind]
      rw [hu]
      simp only [Result.andThen_ok, Sem.run_bind]
      rw [hus]
      rfl
    · cases hx
  | [], _ :: _, _, hq, _ => by simp [rinfOk] at hq
  | _ :: _, [], _, hq, _ => by rename_i v vs _; cases v <;> simp [rinfOk] at hq

theorem run_results (h : Sim w0 I0 I β κ s sav a w) {fn : Func} {qs : List (Bool × Nat)} {r : PV} (hq : rinfOk P fn.results.toList qs = true) (hr : (resAll s fn.results.toList qs).map packR = some r) :
    ∃ u, (results fn a.tmps).run P w = .ok u w ∧ C I r u := by
  obtain ⟨xs, hx, rfl⟩ := Option.map_eq_some_iff.1 hr
  obtain ⟨us, hus, hC⟩ := run_resAll h hq hx
  have hrun : (results fn a.tmps).run P w = .ok (match us with | [v] => v | _ => .tuple us.toArray) w := by
    unfold results
    rw [Array.mapM_eq_mapM_toList]
    simp only [Sem.run_bind, Sem.run_map]
    refine (congrArg (fun x => (Result.andThen x _).andThen _) (Eq.trans ?_ hus)).trans ?_
    · congr 2
    · simp only [Result.andThen_ok, Sem.run_pure]
      match us with
      | [] => rfl
      | [v] => rfl
      | _ :: _ :: _ => simp
  refine ⟨_, hrun, ?_⟩
  cases hC with
  | nil => exact .tup .nil
  | cons h1 h2 => cases h2 with
    | nil => exact h1
    | cons h2 h3 => exact .tup (.cons h1 (.cons h2 h3))

theorem Sim.putOther (h : Sim w0 I0 I β κ s sav a w) {l : Nat} {o o' : Obj} (hl : w.heap[l]? = some o) (ho : o.isCells = false) (hb : w0.heap.size ≤ l) {df : List Deferred}
    (hd : ∃ Ds : List Nat, df = Ds.map (fun D => { target := .collected D, args := #[] }) ∧ Ds.Nodup ∧ ∀ D ∈ Ds, w0.heap.size ≤ D ∧ (w.putObj l o').heap[D]? = some (.deferred (some []))) :
    Sim w0 I0 I β κ s sav { tmps := a.tmps, defers := df } (w.putObj l o') := by
  have hon := OnlyAt.putObj w l o'
  exact
    { below := h.below.trans (hon.below hb)
      good := fun b arr hI => by
        obtain ⟨cs, ty, fz, more, h1, h2⟩ := h.good b arr hI
        exact ⟨cs, ty, fz, more, (hon.block b (fun e => by rw [e, hl] at h1; cases h1; cases ho)).trans h1, h2⟩
      ext := h.ext
      old := h.old
      tm := h.tm
      sv := h.sv
      box := fun b cells hc => by
        obtain ⟨h1, h2, cs, ty, h3, h4⟩ := h.box b cells hc
        exact ⟨h1, h2, cs, ty, (hon.block _ (fun e => by rw [e, hl] at h3; cases h3; cases ho)).trans h3, h4⟩
      rob := h.rob
      inj := h.inj
      tok := fun t ht => by
        obtain ⟨h1, cs, ty, arr, h3, h4⟩ := h.tok t ht
        exact ⟨h1, cs, ty, arr, (hon.block _ (fun e => by rw [e, hl] at h3; cases h3; cases ho)).trans h3, h4⟩
      tinj := h.tinj
      dfr := hd }

/-- What a call leaves. -/
def Left (w0 : World) (I0 : Imm) (r : PV) (e : Ending) (w' : World) : Prop := ∃ v J, e = .returned v ∧ Below w0.heap.size w0 w' ∧ I0.le J ∧ Good J w' ∧ (∀ b, b < w0.heap.size → J b = I0 b) ∧ C J r v

theorem leaves_of {F : Fence} {n : Nat} {fn : Func} {qs : List (Bool × Nat)} {r : PV} (hq : rinfOk P fn.results.toList qs = true) (hr : (resAll s fn.results.toList qs).map packR = some r) : ∀ (Ds : List Nat) (w : World), Ds.Nodup → (∀ D ∈ Ds, w0.heap.size ≤ D ∧ w.heap[D]? = some (.deferred (some []))) →
    Sim w0 I0 I β κ s sav { tmps := a.tmps, defers := Ds.map (fun D => { target := .collected D, args := #[] }) } w → LeavesInM F n P fn a.tmps (Left w0 I0 r) (Ds.map (fun D => { target := .collected D, args := #[] })) .returning w
  | [], w, _, _, h => by
    obtain ⟨u, hu, hC⟩ := run_results h hq hr
    exact ⟨u, hu, u, I, rfl, h.below, h.ext, h.good, h.old, hC⟩
  | D :: Ds, w, hnd, hD, h => by
    obtain ⟨hn1, hn2⟩ := List.nodup_cons.1 hnd
    have hD0 := hD D (by simp)
    have hrest : ∀ D' ∈ Ds, w0.heap.size ≤ D' ∧ (w.putObj D (.deferred none)).heap[D']? = some (.deferred (some [])) := fun D' hm => by
      have := hD D' (by simp [hm])
      exact ⟨this.1, by rw [World.putObj_heap_other (fun e => hn1 (by rw [← e]; exact hm))]; exact this.2⟩
    refine ⟨by simp, .inl ⟨D, _, rfl, run_takeDeferred hD0.2, leaves_of hq hr Ds _ hn2 hrest ?_⟩⟩
    exact h.putOther hD0.2 rfl hD0.1 ⟨Ds, rfl, hn2, hrest⟩

theorem initS_sim {vs : List Value} {args : List PV} (n : Nat) (hg : Good I w) (hc : Cs I args vs) :
    Sim w I I (fun _ => 0) (fun _ => (0, 0, 0)) (initS args n) [] { tmps := vs.toArray ++ Array.replicate (n - vs.toArray.size) undef, defers := [] } w where
  below := Below.refl _ _
  good := hg
  ext := Imm.le_refl _
  old := fun _ _ => rfl
  tm := by
    have hl := hc.length
    have hj : ∀ k, Rs I (fun _ => 0) (fun _ => (0, 0, 0)) (tkOf []) (List.replicate k (.v .junk)) (List.replicate k undef) := fun k => by
      induction k with
      | zero => exact .nil
      | succ k ih => exact .cons (.v (.junk _)) ih
    have := (Rs.of_Cs (β := fun _ => 0) (κ := fun _ => (0, 0, 0)) (tk := tkOf []) hc).append (hj (n - args.length))
    simpa [initS, hl] using this
  sv := .nil
  box := fun b c hb => by simp [initS, lk] at hb
  rob := fun b c hb => by simp [initS, lk] at hb
  inj := fun b b' c c' hb => by simp [initS, lk] at hb
  tok := fun t ht => by simp [initS, tkOf, lk] at ht
  tinj := fun t t' ht => by simp [initS, tkOf, lk] at ht
  dfr := ⟨[], rfl, List.nodup_nil, by simp⟩

/-- A FUNCTION's CONTRACT, out of what its code tells. -/
theorem ok_of {f : FuncId} {fn : Func} {code : Code} {ac : AC} {qs : List (Bool × Nat)} {args : List PV} {r : PV} (hf : P.funcs[f]? = some fn) (hname : (fn.name == "runtime.NumGoroutine") = false) (hb : fn.body = some code) (hag : Ag P ac code)
    (hq : rinfOk P fn.results.toList qs = true) (hwp : wpA P none ac (RetQ fn.results.toList qs r) (initS args fn.ntmps)) : Ok P f args r := by
  refine ⟨enters_of hf hname hb, fun I w vs hg hc => ?_⟩
  refine (callsIn_wide (n := 0)).1 ?_
  refine (callsIn_of_wp_marks (R := Left w I r) hf hb trivial ?_ rfl).mono ?_
  · have hs := sound ac code hag none w I (fun _ _ _ => True) none (fun _ _ e => by cases e) (fun _ => rfl) _ I w (initS args fn.ntmps) [] { tmps := vs.toArray ++ Array.replicate (fn.ntmps - vs.toArray.size) undef, defers := [] } hwp (fun _ e => by cases e)
      ⟨(fun e => by cases e), w, I, _, _, ⟨rfl, rfl⟩, initS_sim fn.ntmps hg hc⟩
    refine wpIn_mono hs ?_
    intro e a2 w2 hp
    have fin : ∀ {xa : XA}, (xa = .normal ∨ xa = .ret) → (∃ s' J, RetQ fn.results.toList qs r xa s' ∧ I.le J ∧ (none (α := Nat × List (List PV)) = none → KeepsOthers w w2) ∧ Sat none (Base none w I (fun _ _ _ => True)) J s' [] a2 w2) →
        LeavesInM Fence.wide 0 P fn a2.tmps (Left w I r) a2.defers .returning w2 := by
      rintro xa hxa ⟨s', J, hr, hle, _, _, w1, I1, β1, κ1, ⟨rfl, rfl⟩, hS⟩
      have hr' : (resAll s' fn.results.toList qs).map packR = some r := by rcases hxa with rfl | rfl <;> exact hr
      obtain ⟨Ds, d1, d2, d3⟩ := hS.dfr
      obtain ⟨tms, dfs⟩ := a2
      simp only at d1
      subst d1
      exact leaves_of (a := ⟨tms, _⟩) hq hr' Ds w2 d2 d3 hS
    cases e with
    | normal => exact fin (.inl rfl) hp
    | ret => exact fin (.inr rfl) hp
    | exit id => obtain ⟨s', J, hr, _⟩ := hp; exact hr.elim
    | goto _ => exact hp.elim
    | panic _ => exact hp.elim
    | outgrown => exact hp.elim
  · rintro e w' ⟨v, J, h1, h2, h3, h4, h5, h6⟩
    exact ⟨v, J, h1, h2, h3, h4, h5, h6⟩

/-- AN ITERATOR's CONTRACT, out of what its code tells. -/
theorem iter_of {f : FuncId} {fn : Func} {code : Code} {ac : AC} {caps : List PV} {items : List (List PV)} (hf : P.funcs[f]? = some fn) (hname : (fn.name == "runtime.NumGoroutine") = false) (hb : fn.body = some code) (hag : Ag P ac code)
    (hq : fn.results.toList = [])
    (hwp : ∀ l, wpA P (some (l, items)) ac (fun e s => match e with | .exit _ => False | _ => s.it = items.length ∨ s.it = items.length + 1) (initS (.fn (.yield l) [] :: caps) fn.ntmps)) : IterOk P (.fn (.func f) caps) items := by
  refine ⟨f, caps, rfl, enters_of hf hname hb, fun I w cs hg hc l J hab hround hJ0 => ?_⟩
  refine (callsIn_wide (n := 0)).1 ?_
  have hctx : Ctx P (some (l, items)) J := fun l' xs e => by cases e; exact ⟨hab, hround⟩
  have hall : Cs I (.fn (.yield l) [] :: caps) (.func (.yield l) #[] #[] :: cs) := .cons (.fn .nil) hc
  have e1 : #[Value.func (.yield l) #[] #[]] ++ cs.toArray = (Value.func (.yield l) #[] #[] :: cs).toArray := by simp
  rw [e1]
  refine callsIn_of_wp hf hb trivial ?_ rfl
  have hs := sound ac code hag (some (l, items)) w I J none hctx (fun e => by cases e) _ I w (initS (.fn (.yield l) [] :: caps) fn.ntmps) [] { tmps := (Value.func (.yield l) #[] #[] :: cs).toArray ++ Array.replicate (fn.ntmps - (Value.func (.yield l) #[] #[] :: cs).toArray.size) undef, defers := [] }
    (hwp l) (fun _ e => by cases e) ⟨fun _ => rfl, w, I, _, _, ⟨hJ0, Imm.le_refl _⟩, initS_sim fn.ntmps hg hall⟩
  refine wpIn_mono hs ?_
  intro e a2 w2 hp
  have fin : (∃ s' J', (s'.it = items.length ∨ s'.it = items.length + 1) ∧ I.le J' ∧ (some (l, items) = none → KeepsOthers w w2) ∧ Sat (some (l, items)) (Base (some (l, items)) w I J) J' s' [] a2 w2) →
      a2.defers = [] ∧ ∃ v, (results fn a2.tmps).run P w2 = .ok v w2 ∧ ((∃ v', Ending.returned v = .returned v') ∧ ∃ I' i, I.le I' ∧ Good I' w2 ∧ J i I' w2 ∧ (i = items.length ∨ i = items.length + 1)) := by
    rintro ⟨s', J', hi, hle, _, hdf, w1, I1, β1, κ1, ⟨hJ, hle1⟩, hS⟩
    refine ⟨hdf rfl, .tuple #[], ?_, ⟨_, rfl⟩, J', s'.it, hle, hS.good, hab _ _ _ _ _ hJ hS.below hS.ext hS.old hS.good, hi⟩
    have e0 : fn.results = #[] := by
      have := congrArg List.toArray hq
      simpa using this
    simp [results, e0]
  cases e with
  | normal => exact fin hp
  | ret => exact fin hp
  | exit id => obtain ⟨s', J', hr, _⟩ := hp; exact hr.elim
  | goto _ => exact hp.elim
  | panic _ => exact hp.elim
  | outgrown => exact hp.elim

end
end Go.Proofs.YtipchjfcjbghnaaGreat.A

/- Regions that draw their order: what is told in the text's order is done in every order. -/
set_option linter.unusedVariables false
set_option linter.unusedSimpArgs false
namespace Go.Proofs.YtipchjfcjbghnaaGreat.A
open Go Go.RowKit Go.Shelf

/-! ### What an operation looks at -/
def opds : Op → List Operand
  | .move x | .assign x | .load _ x | .fieldAddr _ x _ | .field _ x _ | .unOp _ _ x | .makeInterface _ x | .extract x _ | .convert _ _ x | .box _ x => [x]
  | .pick c x y => [c, x, y]
  | .indexAddr _ x k => [x, k]
  | .index _ x k => [x, k]
  | .binOp _ _ x y _ => [x, y]
  | .store _ x y => [x, y]
  | .makeSlice _ l c => [l, c]
  | .makeFunc _ _ caps => caps.toList
  | .build _ parts => parts.toList.map (·.2)
  | .buildSlice _ _ parts => parts.toList.map (·.2)
  | .slice _ x lo hi mx => x :: (lo.toList ++ hi.toList ++ mx.toList)
  | .call c => (match c.callee with | .value f => [f] | .invoke r _ => [r] | .builtin _ => []) ++ c.args.toList
  | _ => []

def looksB : Op → Bool
  | .load _ _ => true
  | .store _ _ _ => true
  | _ => false
def turnsB : Op → Bool
  | .store _ _ _ => true
  | _ => false
def usesT : Op → Bool
  | .call c => (match c.callee with | .builtin .append => true | _ => false)
  | _ => false
/-- Is it a call of a function that stands in a slot? -/
def via : Op → Bool
  | .call c => (match c.callee with | .value (.func _) => false | .value _ => true | _ => false)
  | _ => false

def calm (y : Bool) (o : AO) : Bool :=
  (nilTest o).isNone && !(y && via o.op) && match o.op with
  | .alloc _ => false
  | .box _ _ => false
  | .makeSlice _ _ _ => o.inf.agg && o.inf.acc.isEmpty
  | _ => o.inf.acc.isEmpty

def gslot (all : List AO) (o : AO) : Option Nat := match o.guard with
  | some (j, _) => (all[j]?).bind (·.dst)
  | none => none

def slots (all : List AO) (o : AO) : List Nat := (opds o.op).filterMap (fun | .tmp n => some n | _ => none) ++ (gslot all o).toList

def apart (all : List AO) (x y : AO) : Bool := match x.dst with
  | some d => !(slots all y).contains d && y.dst != some d
  | none => true

def indep (v : Bool) (all : List AO) (x y : AO) : Bool :=
  calm v x && calm v y && apart all x y && apart all y x && !(turnsB x.op && looksB y.op) && !(turnsB y.op && looksB x.op) && !(usesT x.op && usesT y.op)

/-- Is x before oi by the edges? -/
def reach (ao : List AO) (x : Nat) : Nat → List Nat → Bool
  | 0, _ => false
  | d + 1, l => l.contains x || l.any fun j => match ao[j]? with | some o => reach ao x d o.pre | none => false

def drawOk (v : Bool) (ao : List AO) : Bool :=
  (List.range ao.length).all fun i => match ao[i]? with
    | none => false
    | some oi => oi.pre.all (fun j => decide (j < i)) && (List.range i).all fun x => match ao[x]? with
      | none => false
      | some ox => oi.pre.contains x || indep v ao ox oi || reach ao x 6 oi.pre

/-! ### What an operation turns -/
structure Up where
  tm : Option (Nat × TV)
  bx : Option (Nat × List TV)
  tk : Option (Nat × Nat)

def Up.on (u : Up) (s : St) : St :=
  { s with
    tm := match u.tm with | some (d, x) => s.tm.set d x | none => s.tm
    bx := match u.bx with | some (b, c) => upd b c s.bx | none => s.bx
    tk := match u.tk with | some (t, n) => upd t n s.tk | none => s.tk }

def put1 (d : Option Nat) (x : TV) : Up := { tm := d.map (·, x), bx := none, tk := none }

theorem put1_on (d : Option Nat) (x : TV) (s : St) : (put1 d x).on s = putT s d x := by
  cases d <;> rfl

/-- The two states look alike to the operation. -/
structure Alike (all : List AO) (o : AO) (s s2 : St) : Prop where
  ops : ∀ x ∈ opds o.op, ev s x = ev s2 x
  gd : ∀ d, gslot all o = some d → s.tm[d]? = s2.tm[d]?
  ro : s.ro = s2.ro
  bx : looksB o.op = true → ∀ z ∈ opds o.op, ∀ b off, ev s z = some (.ptr b off) → lk b s.bx = lk b s2.bx
  tk : usesT o.op = true → s.tk = s2.tk

theorem pvs_congr {s s2 : St} : ∀ {l : List Operand}, (∀ x ∈ l, ev s x = ev s2 x) → pvs s l = pvs s2 l
  | [], _ => rfl
  | x :: l, h => by
    have h1 : pv s x = pv s2 x := by unfold pv; rw [h x (by simp)]
    have h2 := pvs_congr (l := l) fun y hy => h y (by simp [hy])
    simp only [pvs, h1, h2]

theorem capsA_congr {s s2 : St} (hr : s.ro = s2.ro) : ∀ {l : List Operand}, (∀ x ∈ l, ev s x = ev s2 x) → capsA s l = capsA s2 l
  | [], _ => rfl
  | x :: l, h => by
    have h0 : capA s = capA s2 := by funext t; cases t <;> simp only [capA, hr]
    have h2 := capsA_congr hr (l := l) fun y hy => h y (by simp [hy])
    simp only [capsA, h x (by simp), h0, h2]

theorem optPv_congr {s s2 : St} {o : Option Operand} (h : ∀ x ∈ o.toList, ev s x = ev s2 x) : o.map (pv s) = o.map (pv s2) := by
  cases o with
  | none => rfl
  | some x => simp only [Option.map_some, pv, h x (by simp)]

theorem valA_congr {op : Op} {i : Inf} {s s2 : St} (h : ∀ x ∈ opds op, ev s x = ev s2 x) (hr : s.ro = s2.ro) (hb : looksB op = true → ∀ z ∈ opds op, ∀ b off, ev s z = some (.ptr b off) → lk b s.bx = lk b s2.bx) : valA s op i = valA s2 op i := by
  cases op <;> simp only [opds, List.mem_cons, List.not_mem_nil, or_false, forall_eq_or_imp, forall_eq] at h <;> simp only [valA]
  case move => exact h
  case assign => exact h
  case pick => simp only [pv, h.1, h.2.1, h.2.2]
  case load =>
    rename_i x
    have key : ∀ t, ev s x = some t → ldA s i.agg i.n t = ldA s2 i.agg i.n t := fun t ht => by
      cases t with
      | ptr b off => simp only [ldA, hb rfl x (by simp [opds]) b off ht, hr]
      | v p => cases p <;> rfl
      | acc => rfl
      | own => rfl
    rw [← h]
    cases he : ev s x with
    | none => rfl
    | some t => exact key t he
  case fieldAddr => rw [h]
  case field => simp only [pv, h]
  case indexAddr => simp only [pv, h.1, h.2]
  case index => simp only [pv, h.1, h.2]
  case binOp => simp only [h.1, h.2]
  case unOp => simp only [pv, h]
  case makeInterface => simp only [pv, h]
  case extract => simp only [pv, h]
  case makeFunc => rw [capsA_congr hr h]
  case build => rw [pvs_congr h]
  case convert => simp only [pv, h]
  case slice t x lo hi mx =>
    have h0 : pv s x = pv s2 x := by unfold pv; rw [h.1]
    rw [h0, optPv_congr (o := lo) fun x hx => h.2 x (by simp [hx]), optPv_congr (o := hi) fun x hx => h.2 x (by simp [hx]), optPv_congr (o := mx) fun x hx => h.2 x (by simp [hx])]
  case call c =>
    have ha : ∀ x ∈ c.args.toList, ev s x = ev s2 x := fun x hx => h x (by simp [hx])
    split
    · rename_i x h1 h2
      have : pv s x = pv s2 x := by unfold pv; rw [ha x (by rw [h2]; simp)]
      rw [this]
    · rw [pvs_congr ha]
    · rw [pvs_congr ha]
    · rfl

section
variable {P : Program}

/-- What an operation does, as a turn of the state. -/
def Turns (P : Program) (its : Option (Nat × List (List PV))) (all : List AO) (o : AO) (s : St) (u : Up) : Prop :=
  (∀ d x, u.tm = some (d, x) → o.dst = some d) ∧ (∀ b c, u.bx = some (b, c) → ∃ t x y off, o.op = .store t x y ∧ ev s x = some (.ptr b off)) ∧ (u.tk.isSome = true → usesT o.op = true) ∧
    ∀ s2, Alike all o s s2 → ∀ K, K (u.on s2) → wpOp P its all o s2 K

/-- The same, of the operation without its guard. -/
def Turns0 (P : Program) (its : Option (Nat × List (List PV))) (o : AO) (s : St) (u : Up) : Prop :=
  (∀ d x, u.tm = some (d, x) → o.dst = some d) ∧ (∀ b c, u.bx = some (b, c) → ∃ t x y off, o.op = .store t x y ∧ ev s x = some (.ptr b off)) ∧ (u.tk.isSome = true → usesT o.op = true) ∧
    ∀ s2, (∀ x ∈ opds o.op, ev s x = ev s2 x) → s.ro = s2.ro → (looksB o.op = true → ∀ z ∈ opds o.op, ∀ b off, ev s z = some (.ptr b off) → lk b s.bx = lk b s2.bx) → (usesT o.op = true → s.tk = s2.tk) → ∀ K, K (u.on s2) → execB P its s2 o K

theorem Turns.bxB {its : Option (Nat × List (List PV))} {all : List AO} {o : AO} {s : St} {u : Up} (h : Turns P its all o s u) (p : u.bx.isSome = true) : turnsB o.op = true := by
  obtain ⟨⟨b, c⟩, hbc⟩ := Option.isSome_iff_exists.1 p
  obtain ⟨t, x, y, off, ho, _⟩ := h.2.1 b c hbc
  rw [ho]
  rfl

variable {its : Option (Nat × List (List PV))}

theorem put1_tm {o : AO} {x : TV} : ∀ d y, (put1 o.dst x).tm = some (d, y) → o.dst = some d := by
  intro d y h
  cases hd : o.dst with
  | none => simp [put1, hd] at h
  | some d' => simp only [put1, hd, Option.map_some, Option.some.injEq, Prod.mk.injEq] at h; rw [h.1]

theorem turns_val {o : AO} {s : St} {K : St → Prop} (hstep : ∀ s, stepA s o.dst o.op o.inf = (valA s o.op o.inf).map (putT s o.dst))
    (hex : ∀ s K, execB P its s o K = ∃ s', stepA s o.dst o.op o.inf = some s' ∧ K s') (h : ∃ s', stepA s o.dst o.op o.inf = some s' ∧ K s') :
    ∃ u, Turns0 P its o s u ∧ K (u.on s) := by
  obtain ⟨s', h1, h2⟩ := h
  rw [hstep] at h1
  obtain ⟨tv, h3, rfl⟩ := Option.map_eq_some_iff.1 h1
  refine ⟨put1 o.dst tv, ⟨put1_tm, (fun _ _ h => by simp [put1] at h), (fun h => by simp [put1] at h), ?_⟩, by rw [put1_on]; exact h2⟩
  intro s2 ho hr hb ht K' hK
  rw [hex]
  rw [put1_on] at hK
  exact ⟨_, by rw [hstep, ← valA_congr ho hr hb, h3]; rfl, hK⟩

theorem turns_call {o : AO} {s : St} {K : St → Prop} {c : Call} (hv : its = none ∨ via o.op = false) (ho : o.op = .call c) (hb : ∀ b, c.callee ≠ .builtin b) (h : callA P its s o.dst c K) : ∃ u, Turns0 P its o s u ∧ K (u.on s) := by
  have hex : ∀ s K, execB P its s o K = callA P its s o.dst c K := fun s K => by
    unfold execB
    rw [ho]
    simp only
  have key : ∀ r : PV, (∀ s2, (∀ x ∈ opds o.op, ev s x = ev s2 x) → ∀ K' : St → Prop, K' (putT s2 o.dst (.v r)) → callA P its s2 o.dst c K') → K (putT s o.dst (.v r)) → ∃ u, Turns0 P its o s u ∧ K (u.on s) := by
    intro r hr hK
    refine ⟨put1 o.dst (.v r), ⟨put1_tm, (fun _ _ h => by simp [put1] at h), (fun h => by simp [put1] at h), ?_⟩, by rw [put1_on]; exact hK⟩
    intro s2 h2 _ _ _ K' hK'
    rw [hex]
    rw [put1_on] at hK'
    exact hr s2 h2 K' hK'
  unfold callA at h
  split at h
  · exact h.elim
  · rename_i f hf
    have hops : ∀ s2, (∀ x ∈ opds o.op, ev s x = ev s2 x) → ev s f = ev s2 f ∧ pvs s c.args.toList = pvs s2 c.args.toList := fun s2 h2 => by
      rw [ho] at h2
      simp only [opds, hf] at h2
      exact ⟨h2 f (by simp), pvs_congr fun x hx => h2 x (by simp [hx])⟩
    split at h
    · rename_i k caps ps h1 h2
      obtain ⟨r, hOk, hK⟩ := h
      refine key r (fun s2 ha K' hK' => ?_) hK
      obtain ⟨e1, e2⟩ := hops s2 ha
      unfold callA
      rw [hf]
      simp only [← e1, ← e2, h1, h2]
      exact ⟨r, hOk, hK'⟩
    · rename_i l' ps h1 h2
      rcases hv with rfl | hv
      · exact h.elim
      · exfalso
        rw [ho] at hv
        simp only [via, hf] at hv
        cases f <;> simp [ev] at hv h1
    · exact h.elim
  · rename_i rr name hf
    have hops : ∀ s2, (∀ x ∈ opds o.op, ev s x = ev s2 x) → ev s rr = ev s2 rr ∧ pvs s c.args.toList = pvs s2 c.args.toList := fun s2 h2 => by
      rw [ho] at h2
      simp only [opds, hf] at h2
      exact ⟨h2 rr (by simp), pvs_congr fun x hx => h2 x (by simp [hx])⟩
    split at h
    · rename_i t x ps h1 h2
      obtain ⟨f, r, hM, hOk, hK⟩ := h
      refine key r (fun s2 ha K' hK' => ?_) hK
      obtain ⟨e1, e2⟩ := hops s2 ha
      unfold callA
      rw [hf]
      simp only [← e1, ← e2, h1, h2]
      exact ⟨f, r, hM, hOk, hK'⟩
    · exact h.elim

theorem turns_exec {v : Bool} {o : AO} {s : St} {K : St → Prop} (hv : its = none ∨ via o.op = false) (hc : calm v o = true) (h : execB P its s o K) : ∃ u, Turns0 P its o s u ∧ K (u.on s) := by
  obtain ⟨dst, op, guard, pre, inf⟩ := o
  cases op
  case alloc => simp [calm] at hc
  case box => simp [calm] at hc
  case makeSlice t l c =>
    have hagg : inf.agg = true := by simp only [calm, Bool.and_eq_true] at hc; exact hc.2.1
    simp only [execB] at h
    obtain ⟨s', h1, h2⟩ := h
    simp only [stepA] at h1
    split at h1
    · rename_i d k n k' m hl hc'
      rw [if_pos hagg] at h1
      split at h1
      · rename_i hcond
        cases h1
        refine ⟨put1 (some d) (.v (.sl true (List.replicate n.toNat (.s (inf.zero.headD .nilFunc))))), ⟨put1_tm (o := ⟨some d, .makeSlice t l c, guard, pre, inf⟩), (fun _ _ e => by cases e), (fun e => by cases e), ?_⟩, by rw [put1_on]; exact h2⟩
        intro s2 ho _ _ _ K' hK'
        rw [put1_on] at hK'
        simp only [execB]
        refine ⟨_, ?_, hK'⟩
        simp only [opds, List.mem_cons, List.not_mem_nil, or_false, forall_eq_or_imp, forall_eq] at ho
        simp only [stepA, ← ho.1, ← ho.2, hl, hc']
        rw [if_pos hagg, if_pos hcond]
      · cases h1
    · cases h1
  case call c =>
    by_cases hb : ∃ b, c.callee = .builtin b
    · obtain ⟨b, hb⟩ := hb
      obtain ⟨callee, args, ats⟩ := c
      simp only at hb
      subst hb
      by_cases ha : b = .append
      · subst ha
        simp only [execB] at h
        obtain ⟨s', h1, h2⟩ := h
        simp only [stepA] at h1
        split at h1
        · rename_i x y d _ hargs
          split at h1
          · rename_i p ys hx hy
            have hne : inf.acc.isEmpty = true := by simp only [calm, Bool.and_eq_true] at hc; exact hc.2
            have hops : ∀ s2, (∀ z ∈ opds (.call ⟨.builtin .append, args, ats⟩), ev s z = ev s2 z) → ev s2 x = some p ∧ (pv s2 y).bind rowOf = some ys := fun s2 ha => by
              simp only [opds, List.nil_append] at ha
              have e1 := ha x (by rw [hargs]; simp)
              have e2 := ha y (by rw [hargs]; simp)
              refine ⟨by rw [← e1]; exact hx, ?_⟩
              unfold pv at hy ⊢
              rw [← e2]; exact hy
            unfold appA at h1
            split at h1
            · rename_i t els
              split at h1
              · rename_i hfit
                cases h1
                refine ⟨⟨some (d, .acc t (els ++ ys)), none, some (t, els.length + ys.length)⟩, ⟨(fun d' x' e => by cases e; rfl), (fun _ _ e => by cases e), (fun _ => rfl), ?_⟩, h2⟩
                intro s2 ho _ _ ht K' hK'
                obtain ⟨e1, e2⟩ := hops s2 ho
                have ht := ht rfl
                simp only [execB]
                refine ⟨_, ?_, hK'⟩
                simp only [stepA, hargs, e1, e2, appA]
                rw [if_pos (by rw [← ht]; exact hfit)]
                rfl
              · cases h1
            · rw [hne] at h1; simp at h1
            · split at h1
              · rename_i hfit
                cases h1
                rename_i els
                refine ⟨put1 (some d) (.v (.sl false (els ++ ys))), ⟨put1_tm (o := ⟨some d, .call ⟨.builtin .append, args, ats⟩, guard, pre, inf⟩), (fun _ _ e => by cases e), (fun e => by cases e), ?_⟩, by rw [put1_on]; exact h2⟩
                intro s2 ho _ _ _ K' hK'
                obtain ⟨e1, e2⟩ := hops s2 ho
                rw [put1_on] at hK'
                simp only [execB]
                refine ⟨_, ?_, hK'⟩
                simp only [stepA, hargs, e1, e2, appA]
                rw [if_pos hfit, if_pos hne]
              · cases h1
            · cases h1
          · cases h1
        · obtain ⟨tv, hv, _⟩ := Option.map_eq_some_iff.1 h1
          simp [valA] at hv
      · refine turns_val (fun s => ?_) (fun s K => ?_) h
        · simp only [stepA]
          split <;> simp_all
        · simp only [execB]
    · have hb' : ∀ b, c.callee ≠ .builtin b := fun b e => hb ⟨b, e⟩
      refine turns_call (c := c) hv rfl hb' ?_
      simp only [execB] at h
      exact h
  case store t x y =>
    simp only [execB] at h
    obtain ⟨s', h1, h2⟩ := h
    simp only [stepA] at h1
    split at h1
    · rename_i p q hp hq
      obtain ⟨s1, h3, rfl⟩ := Option.map_eq_some_iff.1 h1
      unfold storeA at h3
      split at h3
      · rename_i b off
        split at h3
        · rename_i cs xs hlk hxs
          split at h3
          · rename_i hle
            cases h3
            refine ⟨⟨dst.map (·, .v .junk), some (b, cs.take off ++ xs ++ cs.drop (off + xs.length)), none⟩, ⟨put1_tm (o := ⟨dst, .store t x y, guard, pre, inf⟩) (x := .v .junk), (fun _ _ e => by cases e; exact ⟨t, x, y, off, rfl, hp⟩), (fun e => by cases e), ?_⟩, ?_⟩
            · intro s2 ho _ hb _ K' hK'
              simp only [opds, List.mem_cons, List.not_mem_nil, or_false, forall_eq_or_imp, forall_eq] at ho
              simp only [execB]
              refine ⟨_, ?_, hK'⟩
              rw [hb rfl x (by simp [opds]) _ _ hp] at hlk
              simp only [stepA, ← ho.1, ← ho.2, hp, hq, storeA, hlk, hxs]
              rw [if_pos hle]
              cases dst <;> rfl
            · revert h2
              cases dst <;> exact fun h => h
          · cases h3
        · cases h3
      · cases h3
    · cases h1
  case buildSlice t len parts =>
    simp only [execB] at h
    obtain ⟨s', h1, h2⟩ := h
    simp only [stepA] at h1
    split at h1
    · rename_i ps hps
      split at h1
      · rename_i hcond
        cases h1
        refine ⟨put1 dst (.v (.sl true ps)), ⟨put1_tm (o := ⟨dst, .buildSlice t len parts, guard, pre, inf⟩), (fun _ _ e => by cases e), (fun e => by cases e), ?_⟩, by rw [put1_on]; exact h2⟩
        intro s2 ho _ _ _ K' hK'
        rw [put1_on] at hK'
        simp only [execB]
        refine ⟨_, ?_, hK'⟩
        simp only [opds] at ho
        simp only [stepA, ← pvs_congr ho, hps]
        rw [if_pos hcond]
      · cases h1
    · cases h1
  case assign x =>
    have hne : inf.acc = [] := by simp only [calm, Bool.and_eq_true] at hc; exact List.isEmpty_iff.1 hc.2
    refine turns_val (fun s => ?_) (fun s K => by simp only [execB]) h
    simp only [stepA, hne]
    split <;> simp_all
  all_goals exact turns_val (fun s => rfl) (fun s K => rfl) h

theorem execA_calm {v : Bool} {o : AO} {s : St} {K : St → Prop} (hc : calm v o = true) : execA P its s o K = execB P its s o K := by
  unfold calm at hc
  simp only [Bool.and_eq_true, Option.isNone_iff_eq_none] at hc
  unfold execA
  rw [hc.1.1]

theorem turns_op {v : Bool} {all : List AO} {o : AO} {s : St} {K : St → Prop} (hv : v = true ∨ its = none) (hc : calm v o = true) (h : wpOp P its all o s K) : ∃ u, Turns P its all o s u ∧ K (u.on s) := by
  have hv' : its = none ∨ via o.op = false := by
    rcases hv with rfl | hv
    · simp only [calm, Bool.true_and, Bool.and_eq_true, Bool.not_eq_true'] at hc
      exact .inr hc.1.2
    · exact .inl hv
  unfold wpOp at h
  split at h
  · rename_i hg
    rw [execA_calm hc] at h
    obtain ⟨u, ⟨h1, h2, h3, h4⟩, hK⟩ := turns_exec hv' hc h
    refine ⟨u, ⟨h1, h2, h3, fun s2 ha K' hK' => ?_⟩, hK⟩
    unfold wpOp
    rw [hg]
    simp only [execA_calm hc]
    exact h4 s2 ha.ops ha.ro ha.bx ha.tk K' hK'
  · rename_i j want hg
    have hgs : ∀ s2, Alike all o s s2 → ((all[j]?).bind (·.dst)).bind (s2.tm[·]?) = ((all[j]?).bind (·.dst)).bind (s.tm[·]?) := fun s2 ha => by
      have hgd := ha.gd
      simp only [gslot, hg] at hgd
      cases hd : (all[j]?).bind (·.dst) with
      | none => rfl
      | some d => exact (hgd d hd).symm
    split at h
    · rename_i b hb
      split at h
      · rename_i hbw
        rw [execA_calm hc] at h
        obtain ⟨u, ⟨h1, h2, h3, h4⟩, hK⟩ := turns_exec hv' hc h
        refine ⟨u, ⟨h1, h2, h3, fun s2 ha K' hK' => ?_⟩, hK⟩
        unfold wpOp
        rw [hg]
        simp only [hgs s2 ha, hb]
        rw [if_pos hbw, execA_calm hc]
        exact h4 s2 ha.ops ha.ro ha.bx ha.tk K' hK'
      · rename_i hbw
        refine ⟨put1 o.dst (.v (.tup [])), ⟨put1_tm, (fun _ _ e => by cases e), (fun e => by cases e), fun s2 ha K' hK' => ?_⟩, by rw [put1_on]; exact h⟩
        rw [put1_on] at hK'
        unfold wpOp
        rw [hg]
        simp only [hgs s2 ha, hb]
        rw [if_neg hbw]
        exact hK'
    · rename_i hb
      refine ⟨put1 o.dst (.v (.tup [])), ⟨put1_tm, (fun _ _ e => by cases e), (fun e => by cases e), fun s2 ha K' hK' => ?_⟩, by rw [put1_on]; exact h⟩
      rw [put1_on] at hK'
      unfold wpOp
      rw [hg]
      simp only [hgs s2 ha, hb]
      exact hK'
    · exact h.elim

end
end Go.Proofs.YtipchjfcjbghnaaGreat.A

/- Regions that draw their order, second part. -/
set_option linter.unusedVariables false
set_option linter.unusedSimpArgs false
namespace Go.Proofs.YtipchjfcjbghnaaGreat.A
open Go Go.RowKit Go.Shelf

section
variable {P : Program}

theorem ev_on {all : List AO} {x : AO} {u : Up} {s : St} {z : Operand} (hu : ∀ d y, u.tm = some (d, y) → x.dst = some d) (hz : ∀ n, z = .tmp n → x.dst ≠ some n) : ev (u.on s) z = ev s z := by
  cases z with
  | tmp n =>
    show (u.on s).tm[n]? = s.tm[n]?
    simp only [Up.on]
    split
    · rename_i d y hd
      have := hu d y hd
      have hne : d ≠ n := fun e => hz n rfl (e ▸ this)
      rw [List.getElem?_set_ne hne]
    · rfl
  | _ => rfl

theorem mem_slots_of {all : List AO} {o : AO} {n : Nat} (h : Operand.tmp n ∈ opds o.op) : n ∈ slots all o := by
  simp only [slots, List.mem_append, List.mem_filterMap]
  exact .inl ⟨_, h, rfl⟩

theorem apart_spec {all : List AO} {x y : AO} (h : apart all x y = true) : (∀ n ∈ slots all y, x.dst ≠ some n) ∧ (∀ d, x.dst = some d → y.dst ≠ some d) := by
  unfold apart at h
  split at h
  · rename_i d hd
    simp only [Bool.and_eq_true, Bool.not_eq_true', List.contains_eq_mem, decide_eq_false_iff_not, bne_iff_ne, ne_eq] at h
    rw [hd]
    exact ⟨fun n hn e => by cases e; exact h.1 hn, fun d' e => by cases e; exact h.2⟩
  · rename_i hd
    rw [hd]
    exact ⟨(fun n _ e => by cases e), (fun d e => by cases e)⟩

variable {its : Option (Nat × List (List PV))}

theorem alike_of {all : List AO} {x y : AO} {s : St} {u : Up} (hu : Turns P its all x s u) (hap : apart all x y = true) (hB : ¬ (turnsB x.op = true ∧ looksB y.op = true)) (hT : ¬ (usesT x.op = true ∧ usesT y.op = true)) : Alike all y (u.on s) s := by
  have h2 := hu.bxB
  obtain ⟨h1, _, h3, _⟩ := hu
  obtain ⟨a1, _⟩ := apart_spec hap
  refine ⟨fun z hz => ev_on (all := all) h1 fun n e => a1 n (mem_slots_of (e ▸ hz)), fun d hd => ?_, rfl, fun hl z hz b off he => ?_, fun ht => ?_⟩
  · have : d ∈ slots all y := by simp only [slots, hd, Option.toList_some, List.mem_append]; exact .inr (by simp)
    exact ev_on (all := all) (z := .tmp d) h1 fun n e => by cases e; exact a1 d this
  · simp only [Up.on]
    split
    · rename_i b c hb
      exact absurd ⟨h2 (by rw [hb]; rfl), hl⟩ hB
    · rfl
  · simp only [Up.on]
    split
    · rename_i b c hb
      exact absurd ⟨h3 (by rw [hb]; rfl), ht⟩ hT
    · rfl

theorem Alike.symm {all : List AO} {o : AO} {s s2 : St} (h : Alike all o s s2) : Alike all o s2 s :=
  ⟨fun x hx => (h.ops x hx).symm, fun d hd => (h.gd d hd).symm, h.ro.symm, fun hl z hz b off he => (h.bx hl z hz b off ((h.ops z hz).trans he)).symm, fun ht => (h.tk ht).symm⟩

theorem turnsB_looksB {op : Op} (h : turnsB op = true) : looksB op = true := by cases op <;> simp_all [turnsB, looksB]

theorem on_comm {u v : Up} {s : St} (ht : ∀ d x d' x', u.tm = some (d, x) → v.tm = some (d', x') → d' ≠ d) (hb : u.bx.isSome = true → v.bx.isSome = true → False) (hk : u.tk.isSome = true → v.tk.isSome = true → False) : u.on (v.on s) = v.on (u.on s) := by
  obtain ⟨ut, ub, uk⟩ := u
  obtain ⟨vt, vb, vk⟩ := v
  simp only at ht hb hk
  simp only [Up.on]
  congr 1
  · cases ut with
    | none => cases vt <;> rfl
    | some p =>
      cases vt with
      | none => rfl
      | some q =>
        obtain ⟨d, x⟩ := p
        obtain ⟨d', x'⟩ := q
        exact List.set_comm _ _ (ht d x d' x' rfl rfl)
  · cases ub <;> cases vb <;> first | rfl | exact (hb rfl rfl).elim
  · cases uk <;> cases vk <;> first | rfl | exact (hk rfl rfl).elim

/-- Two operations that do not look at each other change places. -/
theorem swap_ops {v : Bool} {all : List AO} {x y : AO} {s : St} {K : St → Prop} (hv' : v = true ∨ its = none) (hi : indep v all x y = true) (h : wpOp P its all x s fun s1 => wpOp P its all y s1 K) : wpOp P its all y s fun s1 => wpOp P its all x s1 K := by
  simp only [indep, Bool.and_eq_true, Bool.not_eq_true', Bool.and_eq_false_iff] at hi
  obtain ⟨⟨⟨⟨⟨⟨c1, c2⟩, a1⟩, a2⟩, b1⟩, b2⟩, b3⟩ := hi
  have b1' : ¬ (turnsB x.op = true ∧ looksB y.op = true) := fun ⟨p, q⟩ => by rcases b1 with b | b <;> simp_all
  have b2' : ¬ (turnsB y.op = true ∧ looksB x.op = true) := fun ⟨p, q⟩ => by rcases b2 with b | b <;> simp_all
  have b3' : ¬ (usesT x.op = true ∧ usesT y.op = true) := fun ⟨p, q⟩ => by rcases b3 with b | b <;> simp_all
  obtain ⟨u, hu, hy⟩ := turns_op hv' c1 h
  obtain ⟨v, hv, hK⟩ := turns_op hv' c2 hy
  have e1 := alike_of hu a1 b1' b3'
  have hvs : Turns P its all y s v := ⟨hv.1, (fun b c hbc => by
      obtain ⟨t, z, q, off, ho, he⟩ := hv.2.1 b c hbc
      exact ⟨t, z, q, off, ho, (e1.ops z (by rw [ho]; simp [opds])).symm.trans he⟩), hv.2.2.1, fun s2 ha => hv.2.2.2 s2
    ⟨fun z hz => (e1.ops z hz).trans (ha.ops z hz), fun d hd => (e1.gd d hd).trans (ha.gd d hd), e1.ro.trans ha.ro, fun hl z hz b off he => (e1.bx hl z hz b off he).trans (ha.bx hl z hz b off ((e1.ops z hz).symm.trans he)), fun ht => (e1.tk ht).trans (ha.tk ht)⟩⟩
  have e2 := alike_of hvs a2 b2' fun ⟨p, q⟩ => b3' ⟨q, p⟩
  refine hv.2.2.2 s e1 _ ?_
  refine hu.2.2.2 _ e2.symm _ ?_
  have e : u.on (v.on s) = v.on (u.on s) := on_comm
    (fun d x d' x' p q => fun e => (apart_spec a1).2 d (hu.1 d x p) (e ▸ hv.1 d' x' q))
    (fun p q => b1' ⟨hu.bxB p, turnsB_looksB (hv.bxB q)⟩) (fun p q => b3' ⟨hu.2.2.1 p, hv.2.2.1 q⟩)
  rw [e]
  exact hK

theorem callA_mono {its' : Option (Nat × List (List PV))} (he : its' = none ∨ its' = its) {s : St} {d : Option Nat} {c : Call} {K K' : St → Prop} (hK : ∀ s, K s → K' s) (h : callA P its' s d c K) : callA P its s d c K' := by
  unfold callA at h ⊢
  split at h
  · exact h.elim
  · split at h
    · obtain ⟨r, h1, h2⟩ := h; exact ⟨r, h1, hK _ h2⟩
    · rcases he with rfl | rfl
      · exact h.elim
      · split at h
        · exact ⟨h.1, h.2.1, h.2.2.1, h.2.2.2.1, hK _ h.2.2.2.2.1, hK _ h.2.2.2.2.2⟩
        · exact h.elim
    · exact h.elim
  · split at h
    · obtain ⟨f, r, h1, h2, h3⟩ := h; exact ⟨f, r, h1, h2, hK _ h3⟩
    · exact h.elim

theorem execB_mono {its' : Option (Nat × List (List PV))} (he : its' = none ∨ its' = its) {s : St} {o : AO} {K K' : St → Prop} (hK : ∀ s, K s → K' s) (h : execB P its' s o K) : execB P its s o K' := by
  unfold execB at h ⊢
  split at h
  · split at h
    · obtain ⟨s', h1, h2⟩ := h; exact ⟨s', h1, hK _ h2⟩
    · exact callA_mono he hK h
  · obtain ⟨s', h1, h2⟩ := h
    exact ⟨s', h1, hK _ h2⟩

theorem execA_mono {its' : Option (Nat × List (List PV))} (he : its' = none ∨ its' = its) {s : St} {o : AO} {K K' : St → Prop} (hK : ∀ s, K s → K' s) (h : execA P its' s o K) : execA P its s o K' := by
  unfold execA at h ⊢
  split at h
  · unfold nilA at h ⊢
    split at h
    · exact fun b hb => hK _ (h b hb)
    · exact hK _ h
    · exact h.elim
  · exact execB_mono he hK h

theorem wpOp_mono' {its' : Option (Nat × List (List PV))} (he : its' = none ∨ its' = its) {all : List AO} {s : St} {o : AO} {K K' : St → Prop} (hK : ∀ s, K s → K' s) (h : wpOp P its' all o s K) : wpOp P its all o s K' := by
  unfold wpOp at h ⊢
  split at h
  · exact execA_mono he hK h
  · split at h
    · split at h
      · rw [if_pos ‹_›]; exact execA_mono he hK h
      · rw [if_neg ‹_›]; exact hK _ h
    · exact hK _ h
    · exact h.elim

/-- The operations of these numbers, one behind the other. -/
def wpL (P : Program) (its : Option (Nat × List (List PV))) (all : List AO) : List Nat → St → (St → Prop) → Prop
  | [], s, K => K s
  | i :: l, s, K => match all[i]? with
    | some o => wpOp P its all o s fun s' => wpL P its all l s' K
    | none => False

theorem wpL_cons {all : List AO} {i : Nat} {l : List Nat} {s : St} {K : St → Prop} : wpL P its all (i :: l) s K ↔ ∃ o, all[i]? = some o ∧ wpOp P its all o s fun s' => wpL P its all l s' K := by
  simp only [wpL]
  cases all[i]? with
  | none => simp
  | some o => simp

theorem wpL_range {all : List AO} {K : St → Prop} : ∀ (n k : Nat), k + n = all.length → ∀ {s : St}, wpOpsA P its all (all.drop k) s K → wpL P its all (List.range' k n) s K
  | 0, k, hk, s, h => by rw [List.drop_eq_nil_of_le (by omega)] at h; exact h
  | n + 1, k, hk, s, h => by
    have hlt : k < all.length := by omega
    rw [List.drop_eq_getElem_cons hlt] at h
    rw [List.range'_succ, wpL_cons]
    exact ⟨_, List.getElem?_eq_getElem hlt, wpOp_mono' (.inr rfl) (fun s' => wpL_range n (k + 1) (by omega)) h⟩

/-- What may come first, comes first. -/
theorem wpL_first {v : Bool} {all : List AO} (hv : v = true ∨ its = none) {i : Nat} {oi : AO} (hoi : all[i]? = some oi) {K : St → Prop} {l2 : List Nat} : ∀ (l1 : List Nat), (∀ x ∈ l1, ∃ ox, all[x]? = some ox ∧ indep v all ox oi = true) → ∀ {s : St}, wpL P its all (l1 ++ i :: l2) s K → wpL P its all (i :: (l1 ++ l2)) s K
  | [], _, _, h => h
  | x :: l1, hx, s, h => by
    obtain ⟨ox, h1, h2⟩ := hx x (by simp)
    rw [List.cons_append, wpL_cons] at h
    obtain ⟨ox', h3, h4⟩ := h
    rw [h1] at h3
    cases h3
    have h5 : wpOp P its all ox s fun s' => wpOp P its all oi s' fun s'' => wpL P its all (l1 ++ l2) s'' K := wpOp_mono' (.inr rfl) (fun s' hs' => by
      have := wpL_first hv hoi l1 (fun y hy => hx y (by simp [hy])) hs'
      rw [wpL_cons] at this
      obtain ⟨o', k1, k2⟩ := this
      rw [hoi] at k1
      cases k1
      exact k2) h4
    rw [wpL_cons]
    refine ⟨oi, hoi, wpOp_mono' (.inr rfl) (fun s' hs' => ?_) (swap_ops hv h2 h5)⟩
    rw [List.cons_append, wpL_cons]
    exact ⟨ox, h1, hs'⟩

theorem reach_succ (ao : List AO) (x : Nat) : ∀ (d : Nat) (l : List Nat), reach ao x d l = true → reach ao x (d + 1) l = true
  | 0, l, h => by simp [reach] at h
  | d + 1, l, h => by
    rw [reach] at h ⊢
    simp only [Bool.or_eq_true, List.any_eq_true] at h ⊢
    rcases h with h | ⟨j, hj, h⟩
    · exact .inl h
    · refine .inr ⟨j, hj, ?_⟩
      split at h
      · exact reach_succ ao x d _ h
      · cases h

theorem drawOk_spec {v : Bool} {ao : List AO} (h : drawOk v ao = true) {i : Nat} {oi : AO} (hi : ao[i]? = some oi) : (∀ j ∈ oi.pre, j < i) ∧ ∀ x, x < i → reach ao x 7 oi.pre = false → ∃ ox, ao[x]? = some ox ∧ indep v ao ox oi = true := by
  have hlt := (List.getElem?_eq_some_iff.1 hi).1
  have := List.all_eq_true.1 h i (List.mem_range.2 hlt)
  rw [hi] at this
  simp only [Bool.and_eq_true, List.all_eq_true, decide_eq_true_eq, List.mem_range] at this
  refine ⟨this.1, fun x hx hn => ?_⟩
  have := this.2 x hx
  split at this
  · cases this
  · rename_i ox hox
    refine ⟨ox, hox, ?_⟩
    have e : oi.pre.contains x = false := by
      simp only [reach, Bool.or_eq_false_iff] at hn
      exact hn.1
    have e2 : reach ao x 6 oi.pre = false := by
      cases hr : reach ao x 6 oi.pre with
      | false => rfl
      | true => rw [reach_succ ao x 6 _ hr] at hn; cases hn
    rw [e, e2] at this
    simpa using this

/-- What is before a listed one is listed. -/
theorem reach_listed {ao : List AO} {listed : Array Bool} (hdc : ∀ i oi, ao[i]? = some oi → listed.getD i false = true → ∀ j ∈ oi.pre, listed.getD j false = true) {x : Nat} : ∀ (d : Nat) (l : List Nat), (∀ j ∈ l, listed.getD j false = true) → reach ao x d l = true → listed.getD x false = true
  | 0, l, _, h => by simp [reach] at h
  | d + 1, l, hl, h => by
    simp only [reach, Bool.or_eq_true, List.contains_eq_mem, decide_eq_true_eq, List.any_eq_true] at h
    rcases h with h | ⟨j, hj, h⟩
    · exact hl x h
    · split at h
      · rename_i o ho
        exact reach_listed hdc d o.pre (hdc j o ho (hl j hj)) h
      · cases h

theorem sound_go {v : Bool} {ao : List AO} {ops : Array Oper} (hok : drawOk v ao = true) (hag : OpsAgree P ao ops) {its' : Option (Nat × List (List PV))} (he : its' = none ∨ its' = its) (hv : v = true ∨ its' = none) {w00 : World} {I00 : Imm} {Jt : Nat → Imm → World → Prop} {ro : Option Nat} (hctx : Ctx P its Jt) {Q : XA → St → Prop} {sav : List (Array Value)}
    (Iz : Imm) (wz : World) : ∀ (fuel t : Nat) (listed : Array Bool), listed.size = ops.size → (∀ i oi, ao[i]? = some oi → listed.getD i false = true → ∀ j ∈ oi.pre, listed.getD j false = true) → ((List.range ops.size).filter fun i => !listed.getD i true).length = fuel →
    ∀ {I : Imm} {w : World} {s : St} {a : Act} {w0 : World} {I0 : Imm} {β : Nat → Nat} {κ : Nat → Nat × Nat × Nat}, Iz.le I → (its = none → KeepsOthers wz w) → (its.isSome = true → a.defers = []) → Base its w00 I00 Jt s.it w0 I0 → Sim w0 I0 I β κ s sav a w →
      wpL P its' ao ((List.range ops.size).filter fun i => !listed.getD i true) s (Q .normal) →
      wpOpsIn (wideR ro) 0 P ops (PostA its (Base its w00 I00 Jt) Iz sav wz Q) (Region.linearise.go .any ops fuel t listed []) a w
  | 0, t, listed, hsz, hdc, hlen, I, w, s, a, w0, I0, β, κ, hle, hk, hdf, hB, h, hs => by
    rw [List.length_eq_zero_iff.1 hlen] at hs
    exact ⟨s, I, hs, hle, hk, hdf, w0, I0, β, κ, hB, h⟩
  | fuel + 1, t, listed, hsz, hdc, hlen, I, w, s, a, w0, I0, β, κ, hle, hk, hdf, hB, h, hs => by
    have hsort : ((List.range ops.size).filter fun i => !listed.getD i true).Pairwise (· < ·) := List.Pairwise.filter _ List.pairwise_lt_range
    have hlisted : ∀ j, j < ops.size → listed.getD j false = listed.getD j true := fun j hj => by
      have : j < listed.size := by omega
      simp [Array.getD, this]
    -- who is ready
    have hready : ∀ i, i ∈ Region.ready .any ops listed ↔ i < ops.size ∧ listed.getD i true = false ∧ ∀ oi, ao[i]? = some oi → ∀ j ∈ oi.pre, listed.getD j false = true := by
      intro i
      simp only [Region.ready, List.mem_filter, List.mem_range, Bool.and_eq_true, Bool.not_eq_true']
      refine and_congr_right fun hi => and_congr_right fun _ => ?_
      obtain ⟨oi, h1, _, _, _, h5, _⟩ := hag.get (Array.getElem?_eq_getElem hi)
      rw [Array.getElem?_eq_getElem hi]
      simp only [Option.map_some, Option.getD_some, h1, Option.some.injEq, forall_eq']
      rw [h5]
      rw [Array.all_eq_true']
      constructor
      · intro hx j hj
        obtain ⟨e, he, rfl⟩ := List.mem_map.1 hj
        obtain ⟨he1, hb⟩ := List.mem_filter.1 he
        have := hx e (by simpa using he1)
        rw [hb] at this
        simpa using this
      · intro hx e he
        cases hb : Region.binds .any e with
        | false => rfl
        | true =>
          have := hx e.on (List.mem_map.2 ⟨e, List.mem_filter.2 ⟨by simpa using he, hb⟩, rfl⟩)
          simpa using this
    have hne : Region.ready .any ops listed ≠ [] := by
      obtain ⟨x, L', hL⟩ : ∃ x L', ((List.range ops.size).filter fun i => !listed.getD i true) = x :: L' := by
        cases hL : ((List.range ops.size).filter fun i => !listed.getD i true) with
        | nil => rw [hL] at hlen; cases hlen
        | cons x L' => exact ⟨x, L', rfl⟩
      have hx : x ∈ ((List.range ops.size).filter fun i => !listed.getD i true) := by rw [hL]; simp
      simp only [List.mem_filter, List.mem_range, Bool.not_eq_true'] at hx
      refine List.ne_nil_of_mem ((hready x).2 ⟨hx.1, hx.2, fun oi hoi j hj => ?_⟩)
      have hjx := (drawOk_spec hok hoi).1 j hj
      rw [hlisted j (by omega)]
      cases hl : listed.getD j true with
      | true => rfl
      | false =>
        have hm : j ∈ ((List.range ops.size).filter fun i => !listed.getD i true) := by simp only [List.mem_filter, List.mem_range, Bool.not_eq_true']; exact ⟨by omega, hl⟩
        rw [hL] at hm hsort
        rcases List.mem_cons.1 hm with hm | hm
        · omega
        · have := (List.pairwise_cons.1 hsort).1 j hm
          omega
    have hlt : t % (Region.ready .any ops listed).length < (Region.ready .any ops listed).length := Nat.mod_lt _ (List.length_pos_iff.2 hne)
    obtain ⟨i, hi⟩ : ∃ i, (Region.ready .any ops listed)[t % (Region.ready .any ops listed).length]? = some i := ⟨_, List.getElem?_eq_getElem hlt⟩
    have hgo : Region.linearise.go .any ops (fuel + 1) t listed [] = i :: Region.linearise.go .any ops fuel (t / (Region.ready .any ops listed).length) (listed.setIfInBounds i true) [] := by
      simp only [Region.linearise.go]
      change (match (Region.ready .any ops listed)[t % (Region.ready .any ops listed).length]? with
        | some i => Region.linearise.go .any ops fuel (t / (Region.ready .any ops listed).length) (listed.setIfInBounds i true) [i]
        | none => [].reverse) = _
      rw [hi]
      simp only []
      rw [linearise_go_acc]
      rfl
    rw [hgo]
    obtain ⟨hi1, hi2, hi3⟩ := (hready i).1 (List.mem_of_getElem? hi)
    have him : i ∈ ((List.range ops.size).filter fun i => !listed.getD i true) := by simp only [List.mem_filter, List.mem_range, Bool.not_eq_true']; exact ⟨hi1, hi2⟩
    obtain ⟨L1, L2, hL⟩ := List.append_of_mem him
    have hilt : i < ao.length := by rw [hag.length]; exact hi1
    have hoi : ao[i]? = some ao[i] := List.getElem?_eq_getElem hilt
    have hL1 : ∀ x ∈ L1, ∃ ox, ao[x]? = some ox ∧ indep v ao ox ao[i] = true := by
      intro x hx
      have hxm : x ∈ ((List.range ops.size).filter fun i => !listed.getD i true) := by rw [hL]; simp [hx]
      simp only [List.mem_filter, List.mem_range, Bool.not_eq_true'] at hxm
      rw [hL] at hsort
      have hxi : x < i := (List.pairwise_append.1 hsort).2.2 x hx i (by simp)
      refine (drawOk_spec hok hoi).2 x hxi (Bool.eq_false_iff.2 fun hp => ?_)
      have := reach_listed hdc 7 _ (hi3 _ hoi) hp
      rw [hlisted x hxm.1, hxm.2] at this
      cases this
    have hL' : ((List.range ops.size).filter fun j => !(listed.setIfInBounds i true).getD j true) = L1 ++ L2 := by
      have e1 : ((List.range ops.size).filter fun j => !(listed.setIfInBounds i true).getD j true) = ((List.range ops.size).filter fun i => !listed.getD i true).filter (· != i) := by
        rw [List.filter_filter]
        refine List.filter_congr fun j hj => ?_
        have hj' := List.mem_range.1 hj
        by_cases e : j = i
        · subst e
          have : j < listed.size := by omega
          simp [Array.getD, this]
        · have e' : i ≠ j := fun h => e h.symm
          simp [getD_set_ne true e', e]
      rw [e1, hL]
      rw [hL] at hsort
      have hs2 := List.pairwise_append.1 hsort
      rw [List.filter_append, List.filter_cons]
      have f1 : L1.filter (· != i) = L1 := List.filter_eq_self.2 fun x hx => by
        have := hs2.2.2 x hx i (by simp)
        simp only [bne_iff_ne, ne_eq]
        omega
      have f2 : L2.filter (· != i) = L2 := List.filter_eq_self.2 fun x hx => by
        have := (List.pairwise_cons.1 hs2.2.1).1 x hx
        simp only [bne_iff_ne, ne_eq]
        omega
      rw [f1, f2]
      simp
    rw [hL] at hs
    have hs1 := wpL_first hv hoi L1 hL1 hs
    rw [wpL_cons] at hs1
    obtain ⟨oi, k1, k2⟩ := hs1
    rw [hoi] at k1
    cases k1
    refine sound_op hag hctx hoi hdf hB h (wpOp_mono' he (fun _ hk => hk) k2) ?_
    intro s' a' w' J hle' hkeep' hsat hK
    obtain ⟨hdf1, w1, I1, β1, κ1, hB1, h1⟩ := hsat
    refine sound_go hok hag he hv hctx Iz wz fuel _ _ (by simpa using hsz) ?_ ?_ (Imm.le_trans hle hle') (fun e => (hk e).trans (hkeep' e)) hdf1 hB1 h1 (by rw [hL']; exact hK)
    · intro k ok hk' hkl j hj
      by_cases e : k = i
      · subst e
        exact getD_set_true (hi3 ok hk' j hj)
      · have e' : i ≠ k := fun h => e h.symm
        rw [getD_set_ne false e'] at hkl
        exact getD_set_true (hdc k ok hk' hkl j hj)
    rw [hL']
    rw [hL] at hlen
    simp only [List.length_append, List.length_cons] at hlen ⊢
    omega

theorem draw_sound {v : Bool} {ao : List AO} (hok : drawOk v ao = true) : DrawSound P v ao := by
  intro ops hag hmix its w00 I00 Jt ro Q I w s sav a w0 I0 β κ t hctx hdf hB h hs
  unfold Region.linearise
  have hall : ((List.range ops.size).filter fun i => !(Array.replicate ops.size false).getD i true) = List.range ops.size := List.filter_eq_self.2 fun i hi => by
    have := List.mem_range.1 hi
    simp [Array.getD, this]
  have hv : (v = true ∨ (if v = true then its else none) = none) := by cases v <;> simp
  have he : (if v = true then its else none) = none ∨ (if v = true then its else none) = its := by cases v <;> simp
  refine sound_go hok hag he hv hctx I w ops.size t _ (by simp) (fun i oi _ h => by simp [Array.getD] at h) (by rw [hall]; simp) (Imm.le_refl _) (fun _ => KeepsOthers.drew w) hdf hB h.drew ?_
  rw [hall, List.range_eq_range']
  have hl := hag.length
  exact wpL_range ops.size 0 (by omega) (by rw [List.drop_zero]; exact hs)

end
end Go.Proofs.YtipchjfcjbghnaaGreat.A

/- Regions that draw their order, and make variables. -/
set_option linter.unusedVariables false
set_option linter.unusedSimpArgs false
namespace Go.Proofs.YtipchjfcjbghnaaGreat.A
open Go Go.RowKit Go.Shelf

def tkAll : List (Nat × Nat) → List (Nat × Nat) → List (Nat × Nat)
  | [], l => l
  | p :: ps, l => tkAll ps (upd p.2 0 l)

theorem tkAll_upd {t n : Nat} : ∀ (ps : List (Nat × Nat)) (l : List (Nat × Nat)), (∀ p ∈ ps, p.2 ≠ t) → tkAll ps (upd t n l) = upd t n (tkAll ps l)
  | [], _, _ => rfl
  | p :: ps, l, h => by
    simp only [tkAll]
    rw [upd_comm (h p (by simp)), tkAll_upd ps _ fun q hq => h q (by simp [hq])]

theorem tkAll_comm : ∀ (ps qs l : List (Nat × Nat)), (∀ p ∈ ps, ∀ q ∈ qs, p.2 ≠ q.2) → tkAll ps (tkAll qs l) = tkAll qs (tkAll ps l)
  | [], _, _, _ => rfl
  | p :: ps, qs, l, h => by
    simp only [tkAll]
    rw [← tkAll_upd qs l fun q hq e => h p (by simp) q hq e.symm, tkAll_comm ps qs _ fun p' hp' => h p' (by simp [hp'])]

theorem killPtr_free {d : Nat} {ts : List Nat} {t : TV} (h : t.freeB d ts = true) : t.killPtr d = t := by
  cases t <;> simp_all [TV.freeB, TV.killPtr]
theorem killTok_free {d k : Nat} {ts : List Nat} (hk : k ∈ ts) {t : TV} (h : t.freeB d ts = true) : t.killTok k = t := by
  cases t with
  | acc t els =>
    simp only [TV.freeB, Bool.not_eq_true', List.contains_eq_mem, decide_eq_false_iff_not] at h
    have : t ≠ k := fun e => h (e ▸ hk)
    simp [TV.killTok, this]
  | _ => rfl

theorem map_same {f : TV → TV} {l : List TV} (h : ∀ t ∈ l, f t = t) : l.map f = l := by
  rw [List.map_congr_left h, List.map_id']

theorem mapTV_same {f : TV → TV} {s : St} (h1 : ∀ t ∈ s.tm, f t = t) (h2 : ∀ q ∈ s.bx, ∀ t ∈ q.2, f t = t) (h3 : ∀ l ∈ s.sv, ∀ t ∈ l, f t = t) : s.mapTV f = s := by
  obtain ⟨tm, bx, ro, tk, sv, it⟩ := s
  have e1 : tm.map f = tm := map_same h1
  have e2 : (bx.map fun p => (p.1, p.2.map f)) = bx := by
    have : ∀ p ∈ bx, (p.1, p.2.map f) = p := fun p hp => by rw [map_same (h2 p hp)]
    rw [List.map_congr_left this, List.map_id']
  have e3 : (sv.map fun l => l.map f) = sv := by
    have : ∀ l ∈ sv, l.map f = l := fun l hl => map_same (h3 l hl)
    rw [List.map_congr_left this, List.map_id']
  simp only [St.mapTV, e1, e2, e3]

theorem freeB_iff {p : Nat × List Nat} {s : St} : s.freeB p = true ↔ lk p.1 s.bx = none ∧ (∀ t ∈ s.tm, t.freeB p.1 p.2 = true) ∧ (∀ q ∈ s.bx, ∀ t ∈ q.2, t.freeB p.1 p.2 = true) ∧ ∀ l ∈ s.sv, ∀ t ∈ l, t.freeB p.1 p.2 = true := by
  simp only [St.freeB, Bool.and_eq_true, Option.isNone_iff_eq_none, List.all_eq_true, and_assoc]

theorem freeAll_iff {ps : List (Nat × List Nat)} {s : St} : freeAll ps s = true ↔ ∀ p ∈ ps, s.freeB p = true := by
  induction ps with
  | nil => simp [freeAll]
  | cons p ps ih => simp [freeAll, ih]

/-- What making a variable does, where nothing names it. -/
def aOn (d : Nat) (i : Inf) (s : St) : St := { s with tm := s.tm.set d (.ptr d 0), bx := upd d (zeroT i) s.bx, tk := tkAll i.acc s.tk }

theorem newToks_free {d : Nat} {ts : List Nat} : ∀ (l : List (Nat × Nat)) (s : St), (∀ p ∈ l, p.2 ∈ ts) → s.freeB (d, ts) = true → newToks l s = { s with tk := tkAll l s.tk }
  | [], s, _, _ => rfl
  | p :: l, s, h, hf => by
    obtain ⟨_, f2, f3, f4⟩ := freeB_iff.1 hf
    have hk := h p (by simp)
    have e : s.newTok p.2 = { s with tk := upd p.2 0 s.tk } := by
      unfold St.newTok
      rw [mapTV_same (fun t ht => killTok_free hk (f2 t ht)) (fun q hq t ht => killTok_free hk (f3 q hq t ht)) (fun l hl t ht => killTok_free hk (f4 l hl t ht))]
    simp only [newToks]
    rw [e, newToks_free l _ (fun q hq => h q (by simp [hq])) (by rw [← hf]; rfl)]
    rfl

theorem zeroT_mem (i : Inf) : ∀ t ∈ zeroT i, (∃ v, t = .v (.s v)) ∨ ∃ p ∈ i.acc, t = .acc p.2 [] := by
  have key : ∀ (acc : List (Nat × Nat)) (l : List TV) (hl : ∀ t ∈ l, (∃ v, t = .v (.s v)) ∨ ∃ p ∈ i.acc, t = .acc p.2 []) (ha : ∀ p ∈ acc, p ∈ i.acc), ∀ t ∈ acc.foldl (fun l p => l.set p.1 (.acc p.2 [])) l, (∃ v, t = .v (.s v)) ∨ ∃ p ∈ i.acc, t = .acc p.2 [] := by
    intro acc
    induction acc with
    | nil => exact fun l hl _ => hl
    | cons p acc ih =>
      intro l hl ha
      refine ih _ (fun t ht => ?_) fun q hq => ha q (by simp [hq])
      rcases List.mem_or_eq_of_mem_set ht with ht | ht
      · exact hl t ht
      · exact .inr ⟨p, ha p (by simp), ht⟩
  refine key i.acc _ (fun t ht => ?_) fun p hp => hp
  obtain ⟨v, _, rfl⟩ := List.mem_map.1 ht
  exact .inl ⟨v, rfl⟩

theorem zeroT_kill (i : Inf) (d : Nat) : (zeroT i).map (TV.killPtr d) = zeroT i := map_same fun t ht => by
  rcases zeroT_mem i t ht with ⟨v, rfl⟩ | ⟨p, _, rfl⟩ <;> rfl

section
variable {P : Program}

theorem allocD_spec {o : AO} {d : Nat} {ts : List Nat} (h : allocD o = some (d, ts)) : (∃ t, o.op = .alloc t) ∧ o.dst = some d ∧ o.guard = none ∧ ts = o.inf.acc.map (·.2) := by
  unfold allocD at h
  split at h
  · rename_i t d' h1 h2 h3
    cases h
    exact ⟨⟨t, h1⟩, h2, h3, rfl⟩
  · cases h

theorem alloc_wp {its : Option (Nat × List (List PV))} {all : List AO} {o : AO} {d : Nat} {ts : List Nat} {s : St} {K : St → Prop} (ho : allocD o = some (d, ts)) (hf : s.freeB (d, ts) = true) :
    wpOp P its all o s K ↔ (lk d s.ro).isNone = true ∧ K (aOn d o.inf s) := by
  obtain ⟨⟨t, h1⟩, h2, h3, rfl⟩ := allocD_spec ho
  obtain ⟨f1, f2, f3, f4⟩ := freeB_iff.1 hf
  have e : stepA s o.dst o.op o.inf = if (lk d s.ro).isNone = true then some (aOn d o.inf s) else none := by
    rw [h1, h2]
    simp only [stepA]
    have e1 := newToks_free o.inf.acc s (d := d) (ts := o.inf.acc.map (·.2)) (fun p hp => List.mem_map_of_mem hp) hf
    rw [e1]
    unfold St.newBox
    rw [mapTV_same (f := TV.killPtr d) (s := { s with tk := tkAll o.inf.acc s.tk }) (fun t ht => killPtr_free (f2 t ht)) (fun q hq t ht => killPtr_free (f3 q hq t ht)) (fun l hl t ht => killPtr_free (f4 l hl t ht)), zeroT_kill]
    rfl
  have hn : nilTest o = none := by
    unfold nilTest
    rw [h1]
  have hB : execB P its s o K ↔ ∃ s', stepA s o.dst o.op o.inf = some s' ∧ K s' := by
    unfold execB
    rw [h1]
  unfold wpOp
  rw [h3]
  simp only [execA, hn]
  rw [hB, e]
  by_cases h : (lk d s.ro).isNone = true
  · simp [h]
  · simp [h]

/-- Two new variables have nothing in common. -/
def apartD (p q : Nat × List Nat) : Prop := p.1 ≠ q.1 ∧ (∀ t ∈ p.2, t ∉ q.2) ∧ ∀ t ∈ q.2, t ∉ p.2

theorem mem_upd {β : Type} {k : Nat} {x : β} : ∀ {l : List (Nat × β)} {q : Nat × β}, q ∈ upd k x l → q = (k, x) ∨ q ∈ l
  | [], q, h => by simp only [upd, List.mem_singleton] at h; exact .inl h
  | (j, y) :: l, q, h => by
    simp only [upd] at h
    split at h
    · rcases List.mem_cons.1 h with h | h
      · exact .inl h
      · exact .inr (by simp [h])
    · split at h
      · rcases List.mem_cons.1 h with h | h
        · exact .inl h
        · exact .inr h
      · rcases List.mem_cons.1 h with h | h
        · exact .inr (by simp [h])
        · rcases mem_upd h with h | h
          · exact .inl h
          · exact .inr (by simp [h])
theorem upd_mem {β : Type} {k : Nat} {x : β} : ∀ (l : List (Nat × β)), (k, x) ∈ upd k x l
  | [] => by simp [upd]
  | (j, y) :: l => by
    simp only [upd]
    split
    · simp
    · split
      · simp
      · exact List.mem_cons_of_mem _ (upd_mem l)

theorem freeB_aOn {p : Nat × List Nat} {d : Nat} {i : Inf} {s : St} (h : s.freeB p = true) (hap : apartD (d, i.acc.map (·.2)) p) : (aOn d i s).freeB p = true := by
  obtain ⟨f1, f2, f3, f4⟩ := freeB_iff.1 h
  obtain ⟨h1, h2, _⟩ := hap
  have hne : ¬ p.1 = d := fun e => h1 e.symm
  refine freeB_iff.2 ⟨?_, fun t ht => ?_, fun q hq t ht => ?_, f4⟩
  · show lk p.1 (upd d (zeroT i) s.bx) = none
    rw [lk_upd, if_neg hne, f1]
  · rcases List.mem_or_eq_of_mem_set ht with ht | rfl
    · exact f2 t ht
    · simp only [TV.freeB, bne_iff_ne, ne_eq]
      exact fun e => hne e.symm
  · rcases mem_upd hq with rfl | hq
    · rcases zeroT_mem i t ht with ⟨v, rfl⟩ | ⟨p', hp', rfl⟩
      · rfl
      · have := h2 p'.2 (List.mem_map_of_mem hp')
        simp [TV.freeB, this]
    · exact f3 q hq t ht

theorem freeB_on {p : Nat × List Nat} {u v : Up} {s : St} (h : s.freeB p = true) (h2 : (v.on (u.on s)).freeB p = true) : (v.on s).freeB p = true := by
  obtain ⟨f1, f2, f3, f4⟩ := freeB_iff.1 h
  obtain ⟨g1, g2, g3, g4⟩ := freeB_iff.1 h2
  obtain ⟨vt, vb, vk⟩ := v
  have hlen : (u.on s).tm.length = s.tm.length := by
    unfold Up.on
    cases u.tm <;> simp
  refine freeB_iff.2 ⟨?_, fun t ht => ?_, fun q hq t ht => ?_, f4⟩
  · cases vb with
    | none => exact f1
    | some bc =>
      obtain ⟨b, c⟩ := bc
      simp only [Up.on] at g1 ⊢
      rw [lk_upd] at g1 ⊢
      split at g1
      · cases g1
      · rename_i hne
        rw [if_neg hne, f1]
  · cases vt with
    | none => exact f2 t ht
    | some dx =>
      obtain ⟨d, x⟩ := dx
      simp only [Up.on] at ht g2
      rcases List.mem_or_eq_of_mem_set ht with ht' | rfl
      · exact f2 t ht'
      · by_cases hd : d < s.tm.length
        · refine g2 t ?_
          refine List.mem_iff_getElem.2 ⟨d, ?_, ?_⟩
          · rw [List.length_set]
            have := hlen
            unfold Up.on at this
            simp only at this
            omega
          · simp
        · rw [List.set_eq_of_length_le (by omega)] at ht
          exact f2 t ht
  · cases vb with
    | none => exact f3 q hq t ht
    | some bc =>
      obtain ⟨b, c⟩ := bc
      simp only [Up.on] at hq g3
      rcases mem_upd hq with rfl | hq
      · exact g3 _ (upd_mem _) t ht
      · exact f3 q hq t ht

/-- x reads through a slot, y writes through another one: of these it is known that they point to two variables. -/
def indepP (pa : List (Nat × Nat)) (all : List AO) (x y : AO) : Bool :=
  calm false x && calm false y && apart all x y && apart all y x && !(usesT x.op && usesT y.op) && match x.op, y.op with
    | .load _ (.tmp n), .store _ (.tmp m) _ => pa.contains (n, m)
    | _, _ => false

/-- May y, that stands behind x, go first? -/
def indepC (pa : List (Nat × Nat)) (all : List AO) (x y : AO) : Bool := match allocD x, allocD y with
  | none, none => indep false all x y || indepP pa all x y
  | none, some _ => calm false x && !turnsB x.op && !usesT x.op && apart all x y && apart all y x
  | some _, some _ => true
  | some _, none => false

theorem paOk_iff {pa : List (Nat × Nat)} {s : St} : paOk pa s = true ↔ ∀ p ∈ pa, ∀ b o b' o', s.tm[p.1]? = some (.ptr b o) → s.tm[p.2]? = some (.ptr b' o') → b ≠ b' := by
  induction pa with
  | nil => simp [paOk]
  | cons p ps ih =>
    simp only [paOk, Bool.and_eq_true, ih, List.mem_cons, forall_eq_or_imp]
    refine and_congr_left fun _ => ?_
    constructor
    · intro h b o b' o' h1 h2
      rw [h1, h2] at h
      simpa using h
    · intro h
      split
      · rename_i b o b' o' h1 h2
        simpa using h _ _ _ _ h1 h2
      · rfl
theorem inPa_iff {d : Nat} {pa : List (Nat × Nat)} : inPa d pa = true ↔ ∃ p ∈ pa, p.1 = d ∨ p.2 = d := by
  induction pa with
  | nil => simp [inPa]
  | cons p ps ih => simp [inPa, ih]
theorem nonPs_iff {l : List Nat} {s : St} : nonPs l s = true ↔ ∀ d ∈ l, nptr s d = true := by
  induction l with
  | nil => simp [nonPs]
  | cons d l ih => simp [nonPs, ih]
def nsO (pa : List (Nat × Nat)) (o : AO) : List Nat := nsC pa o.dst []
theorem nsC_eq (pa : List (Nat × Nat)) (d : Option Nat) (l : List Nat) : nsC pa d l = nsC pa d [] ++ l := by
  unfold nsC
  cases d with
  | none => rfl
  | some d => simp only; split <;> simp
theorem mem_nsO {pa : List (Nat × Nat)} {o : AO} {d : Nat} : d ∈ nsO pa o ↔ o.dst = some d ∧ inPa d pa = true := by
  unfold nsO nsC
  cases o.dst with
  | none => simp
  | some e =>
    simp only
    split
    · rename_i h
      simp only [List.mem_singleton, Option.some.injEq]
      constructor
      · rintro rfl; exact ⟨rfl, h⟩
      · exact fun h => h.1.symm
    · rename_i h
      simp only [List.not_mem_nil, Option.some.injEq, false_iff]
      rintro ⟨rfl, h'⟩
      exact h h'
/-- What is not known yet does not point anywhere; what is known will not turn. -/
theorem paMid {pa : List (Nat × Nat)} {s1 s2 : St} {x : AO} (h2 : ∀ n, x.dst ≠ some n → s2.tm[n]? = s1.tm[n]?) (hpb : paOk pa s2 = true) (hx : ∀ d ∈ nsO pa x, nptr s1 d = true) : paOk pa s1 = true := by
  rw [paOk_iff] at hpb ⊢
  intro p hp b o b' o' e1 e2
  have key : ∀ n, (p.1 = n ∨ p.2 = n) → ∀ b o, s1.tm[n]? = some (.ptr b o) → s2.tm[n]? = some (.ptr b o) := fun n hn b o e => by
    by_cases hd : x.dst = some n
    · have := hx n (mem_nsO.2 ⟨hd, inPa_iff.2 ⟨p, hp, hn⟩⟩)
      unfold nptr at this
      rw [e] at this
      cases this
    · rw [h2 n hd]; exact e
  exact hpb p hp b o b' o' (key _ (.inl rfl) _ _ e1) (key _ (.inr rfl) _ _ e2)
theorem tm_on {u : Up} {s : St} {dst : Option Nat} (hu : ∀ d x, u.tm = some (d, x) → dst = some d) {n : Nat} (hn : dst ≠ some n) : (u.on s).tm[n]? = s.tm[n]? := by
  unfold Up.on
  cases ht : u.tm with
  | none => rfl
  | some q =>
    obtain ⟨d, x⟩ := q
    exact List.getElem?_set_ne (fun e => hn (by rw [← e]; exact hu d x ht))
theorem nptr_same {s s' : St} {d : Nat} (h : s'.tm[d]? = s.tm[d]?) : nptr s' d = nptr s d := by unfold nptr; rw [h]
theorem tm_aOn {d n : Nat} {i : Inf} {s : St} (h : d ≠ n) : (aOn d i s).tm[n]? = s.tm[n]? := List.getElem?_set_ne h

def dsO (o : AO) : List (Nat × List Nat) := (allocD o).toList

theorem swapC {pa : List (Nat × Nat)} {all : List AO} {x y : AO} {D : List (Nat × List Nat)} {E : List Nat} {s : St} {K : St → Prop} (hpa : paOk pa s = true) (hN : ∀ d ∈ nsO pa x ++ E, nptr s d = true) (hdN : ∀ d ∈ nsO pa x ++ E, y.dst ≠ some d) (hF : ∀ p ∈ dsO x ++ (dsO y ++ D), s.freeB p = true) (hi : indepC pa all x y = true)
    (hd : ∀ p ∈ dsO y, ∀ q ∈ dsO x ++ D, apartD p q) (hK : ∀ s, K s → ∀ p ∈ D, s.freeB p = true) (hKp : ∀ s, K s → paOk pa s = true)
    (h : wpOp P none all x s fun s1 => (∀ p ∈ dsO y ++ D, s1.freeB p = true) ∧ wpOp P none all y s1 K) :
    wpOp P none all y s fun s1 => ((∀ p ∈ dsO x ++ D, s1.freeB p = true) ∧ paOk pa s1 = true ∧ ∀ d ∈ nsO pa x ++ E, nptr s1 d = true) ∧ wpOp P none all x s1 K := by
  have hv' : false = true ∨ (none : Option (Nat × List (List PV))) = none := .inr rfl
  have mid : ∀ {s1 s2 : St}, (∀ n, y.dst ≠ some n → s1.tm[n]? = s.tm[n]?) → (∀ n, x.dst ≠ some n → s2.tm[n]? = s1.tm[n]?) → K s2 → paOk pa s1 = true ∧ ∀ d ∈ nsO pa x ++ E, nptr s1 d = true := fun {s1 s2} h1 h2 h3 => by
    have hn : ∀ d ∈ nsO pa x ++ E, nptr s1 d = true := fun d hd => by
      rw [nptr_same (h1 d (hdN d hd))]
      exact hN d hd
    exact ⟨paMid h2 (hKp _ h3) fun d hd => hn d (List.mem_append_left _ hd), hn⟩
  unfold indepC at hi
  split at hi
  · rename_i hax hay
    have ex : dsO x = [] := by simp [dsO, hax]
    have ey : dsO y = [] := by simp [dsO, hay]
    rw [ex, ey] at hF
    simp only [List.nil_append] at hF
    obtain ⟨c1, c2, a1, a2, b3', hbox⟩ : calm false x = true ∧ calm false y = true ∧ apart all x y = true ∧ apart all y x = true ∧ ¬ (usesT x.op = true ∧ usesT y.op = true) ∧
        (¬ (turnsB x.op = true ∧ looksB y.op = true) ∧ (¬ (turnsB y.op = true ∧ looksB x.op = true) ∨ ∃ t n t' m z, x.op = .load t (.tmp n) ∧ y.op = .store t' (.tmp m) z ∧ (n, m) ∈ pa)) := by
      rcases Bool.or_eq_true _ _ ▸ hi with hi | hi
      · simp only [indep, Bool.and_eq_true, Bool.not_eq_true', Bool.and_eq_false_iff] at hi
        obtain ⟨⟨⟨⟨⟨⟨c1, c2⟩, a1⟩, a2⟩, b1⟩, b2⟩, b3⟩ := hi
        exact ⟨c1, c2, a1, a2, (fun ⟨p, q⟩ => by rcases b3 with b | b <;> simp_all), (fun ⟨p, q⟩ => by rcases b1 with b | b <;> simp_all), .inl fun ⟨p, q⟩ => by rcases b2 with b | b <;> simp_all⟩
      · simp only [indepP, Bool.and_eq_true, Bool.not_eq_true', Bool.and_eq_false_iff] at hi
        obtain ⟨⟨⟨⟨⟨c1, c2⟩, a1⟩, a2⟩, b3⟩, b4⟩ := hi
        split at b4
        · rename_i t n t' m z ex' ey'
          exact ⟨c1, c2, a1, a2, (fun ⟨p, q⟩ => by rcases b3 with b | b <;> simp_all), (fun ⟨p, q⟩ => by rw [ex'] at p; cases p), .inr ⟨t, n, t', m, z, ex', ey', by simpa using b4⟩⟩
        · cases b4
    obtain ⟨b1', hbox⟩ := hbox
    obtain ⟨u, hu, hfu, hy⟩ := turns_op hv' c1 h
    obtain ⟨v, hv, hKv⟩ := turns_op hv' c2 hy
    have e1 := alike_of hu a1 b1' b3'
    have hvs : Turns P none all y s v := ⟨hv.1, (fun b c hbc => by
      obtain ⟨t, z, q, off, ho, he⟩ := hv.2.1 b c hbc
      exact ⟨t, z, q, off, ho, (e1.ops z (by rw [ho]; simp [opds])).symm.trans he⟩), hv.2.2.1, fun s2 ha => hv.2.2.2 s2
      ⟨fun z hz => (e1.ops z hz).trans (ha.ops z hz), fun d hd => (e1.gd d hd).trans (ha.gd d hd), e1.ro.trans ha.ro, fun hl z hz b off he => (e1.bx hl z hz b off he).trans (ha.bx hl z hz b off ((e1.ops z hz).symm.trans he)), fun ht => (e1.tk ht).trans (ha.tk ht)⟩⟩
    -- the variable that y writes is not the one that x reads
    have hlk : looksB x.op = true → ∀ z ∈ opds x.op, ∀ b off, ev s z = some (.ptr b off) → lk b (v.on s).bx = lk b s.bx := fun hl z hz b off he => by
      cases hb : v.bx with
      | none => simp only [Up.on, hb]
      | some bc =>
        obtain ⟨b', c⟩ := bc
        simp only [Up.on, hb]
        obtain ⟨t, zz, q, off', ho, he'⟩ := hvs.2.1 b' c hb
        have hne : ¬ b = b' := by
          rcases hbox with h2 | ⟨t1, n, t2, m, z', ex', ey', hm⟩
          · exact absurd ⟨by rw [ho]; rfl, hl⟩ h2
          · rw [ey'] at ho
            cases ho
            rw [ex'] at hz
            simp only [opds, List.mem_singleton] at hz
            subst hz
            have q1 : s.tm[n]? = some (.ptr b off) := he
            have q2 : s.tm[m]? = some (.ptr b' off') := he'
            exact paOk_iff.1 hpa _ hm _ _ _ _ q1 q2
        rw [lk_upd, if_neg hne]
    obtain ⟨k1, k2⟩ := apart_spec a2
    have e2 : Alike all x s (v.on s) := ⟨fun z hz => (ev_on (all := all) hvs.1 fun n e => k1 n (mem_slots_of (e ▸ hz))).symm, fun d hd => by
        have : d ∈ slots all x := by simp only [slots, hd, Option.toList_some, List.mem_append]; exact .inr (by simp)
        exact (ev_on (all := all) (z := .tmp d) hvs.1 fun n e => by cases e; exact k1 d this).symm, rfl, fun hl z hz b off he => (hlk hl z hz b off he).symm, fun ht => by
        cases hk : v.tk with
        | none => simp only [Up.on, hk]
        | some _ => exact absurd ⟨ht, hvs.2.2.1 (by rw [hk]; rfl)⟩ b3'⟩
    have ecomm : u.on (v.on s) = v.on (u.on s) := on_comm
        (fun d x d' x' p q => fun e => (apart_spec a1).2 d (hu.1 d x p) (e ▸ hv.1 d' x' q))
        (fun p q => b1' ⟨hu.bxB p, turnsB_looksB (hv.bxB q)⟩) (fun p q => b3' ⟨hu.2.2.1 p, hv.2.2.1 q⟩)
    refine hv.2.2.2 s e1 _ ⟨⟨fun p hp => ?_, mid (s2 := v.on (u.on s)) (fun n hn => tm_on hv.1 hn) (fun n hn => by rw [← ecomm]; exact tm_on hu.1 hn) hKv⟩, hu.2.2.2 _ e2 _ ?_⟩
    · rw [ex, List.nil_append] at hp
      exact freeB_on (hF p hp) (hK _ hKv p hp)
    · have e : u.on (v.on s) = v.on (u.on s) := on_comm
        (fun d x d' x' p q => fun e => (apart_spec a1).2 d (hu.1 d x p) (e ▸ hv.1 d' x' q))
        (fun p q => b1' ⟨hu.bxB p, turnsB_looksB (hv.bxB q)⟩) (fun p q => b3' ⟨hu.2.2.1 p, hv.2.2.1 q⟩)
      rw [e]
      exact hKv
  · rename_i dt hax hay
    obtain ⟨dy, ty⟩ := dt
    have ex : dsO x = [] := by simp [dsO, hax]
    have ey : dsO y = [(dy, ty)] := by simp [dsO, hay]
    rw [ex, ey] at hF
    rw [ey] at hd h
    rw [ex] at hd ⊢
    simp only [List.nil_append] at hF hd ⊢
    simp only [Bool.and_eq_true, Bool.not_eq_true'] at hi
    obtain ⟨⟨⟨⟨c1, b1⟩, b2⟩, a1⟩, a2⟩ := hi
    obtain ⟨hop, hdst, _, hts⟩ := allocD_spec hay
    subst hts
    obtain ⟨u, hu, hfu, hy⟩ := turns_op hv' c1 h
    have fy : s.freeB (dy, y.inf.acc.map (·.2)) = true := hF _ (by simp)
    obtain ⟨r1, r2⟩ := (alloc_wp hay (hfu _ (by simp))).1 hy
    obtain ⟨g1, g2, g3, g4⟩ := freeB_iff.1 fy
    obtain ⟨a1', a1''⟩ := apart_spec a1
    obtain ⟨a2', a2''⟩ := apart_spec a2
    have ub : u.bx = none := by
      cases hb : u.bx with
      | none => rfl
      | some _ => have := hu.bxB (by rw [hb]; rfl); rw [b1] at this; cases this
    have uk : u.tk = none := by
      cases hb : u.tk with
      | none => rfl
      | some _ => have := hu.2.2.1 (by rw [hb]; rfl); rw [b2] at this; cases this
    have ecomm : u.on (aOn dy y.inf s) = aOn dy y.inf (u.on s) := by
        simp only [Up.on, aOn, ub, uk]
        congr 1
        cases ht : u.tm with
        | none => rfl
        | some q =>
          obtain ⟨d, z⟩ := q
          have hdx := hu.1 d z ht
          have : dy ≠ d := fun e => a1'' d hdx (e ▸ hdst)
          exact List.set_comm _ _ this
    refine (alloc_wp hay fy).2 ⟨r1, ⟨fun p hp => freeB_aOn (hF p (by simp [hp])) (hd _ (by simp) p hp), mid (s2 := aOn dy y.inf (u.on s)) (fun n hn => tm_aOn fun e => hn (by rw [hdst, e])) (fun n hn => by rw [← ecomm]; exact tm_on hu.1 hn) r2⟩, ?_⟩
    have hne : ∀ n, n ∈ slots all x → dy ≠ n := fun n hn e => a2' n hn (e ▸ hdst)
    refine hu.2.2.2 (aOn dy y.inf s) ⟨fun z hz => ?_, fun d hd' => ?_, rfl, fun hl z hz b off he => ?_, fun ht => by rw [b2] at ht; cases ht⟩ _ ?_
    · cases z with
      | tmp n =>
        show s.tm[n]? = (s.tm.set dy _)[n]?
        rw [List.getElem?_set_ne (hne n (mem_slots_of hz))]
      | _ => rfl
    · have : d ∈ slots all x := by simp only [slots, hd', Option.toList_some, List.mem_append]; exact .inr (by simp)
      show s.tm[d]? = (s.tm.set dy _)[d]?
      rw [List.getElem?_set_ne (hne d this)]
    · show lk b s.bx = lk b (upd dy _ s.bx)
      have hbd : ¬ b = dy := by
        cases z with
        | tmp n =>
          have hm : TV.ptr b off ∈ s.tm := List.mem_of_getElem? he
          have := g2 _ hm
          simpa [TV.freeB] using this
        | const w => simp [ev] at he
        | func w => simp [ev] at he
        | _ => cases he
      rw [lk_upd, if_neg hbd]
    · have e : u.on (aOn dy y.inf s) = aOn dy y.inf (u.on s) := by
        simp only [Up.on, aOn, ub, uk]
        congr 1
        cases ht : u.tm with
        | none => rfl
        | some q =>
          obtain ⟨d, z⟩ := q
          have hdx := hu.1 d z ht
          have : dy ≠ d := fun e => a1'' d hdx (e ▸ hdst)
          exact List.set_comm _ _ this
      rw [e]
      exact r2
  · rename_i dtx dty hax hay
    obtain ⟨dx, tx⟩ := dtx
    obtain ⟨dy, ty⟩ := dty
    have ex : dsO x = [(dx, tx)] := by simp [dsO, hax]
    have ey : dsO y = [(dy, ty)] := by simp [dsO, hay]
    rw [ex, ey] at hF
    rw [ey] at hd h
    rw [ex] at hd ⊢
    obtain ⟨_, hdstx, _, htx⟩ := allocD_spec hax
    obtain ⟨_, hdsty, _, hty⟩ := allocD_spec hay
    subst htx
    subst hty
    have fx : s.freeB (dx, x.inf.acc.map (·.2)) = true := hF _ (by simp)
    have fy : s.freeB (dy, y.inf.acc.map (·.2)) = true := hF _ (by simp)
    have hap : apartD (dy, y.inf.acc.map (·.2)) (dx, x.inf.acc.map (·.2)) := hd _ (by simp) _ (by simp)
    obtain ⟨r1, r2, r3⟩ := (alloc_wp hax fx).1 h
    obtain ⟨q1, q2⟩ := (alloc_wp hay (r2 _ (by simp))).1 r3
    have ecomm : aOn dx x.inf (aOn dy y.inf s) = aOn dy y.inf (aOn dx x.inf s) := by
        simp only [aOn]
        congr 1
        · exact List.set_comm _ _ hap.1
        · exact upd_comm (fun e => hap.1 e.symm) _
        · exact tkAll_comm _ _ _ fun p hp q hq e => hap.2.1 q.2 (List.mem_map_of_mem hq) (e ▸ List.mem_map_of_mem hp)
    refine (alloc_wp hay fy).2 ⟨q1, ⟨fun p hp => ?_, mid (s2 := aOn dy y.inf (aOn dx x.inf s)) (fun n hn => tm_aOn fun e => hn (by rw [hdsty, e])) (fun n hn => by rw [← ecomm]; exact tm_aOn fun e => hn (by rw [hdstx, e])) q2⟩, (alloc_wp hax (freeB_aOn fx hap)).2 ⟨r1, ?_⟩⟩
    · refine freeB_aOn (hF p ?_) (hd _ (by simp) p hp)
      rcases List.mem_append.1 hp with hp | hp
      · simp at hp; simp [hp]
      · simp [hp]
    · have e : aOn dx x.inf (aOn dy y.inf s) = aOn dy y.inf (aOn dx x.inf s) := by
        simp only [aOn]
        congr 1
        · exact List.set_comm _ _ hap.1
        · exact upd_comm (fun e => hap.1 e.symm) _
        · exact tkAll_comm _ _ _ fun p hp q hq e => hap.2.1 q.2 (List.mem_map_of_mem hq) (e ▸ List.mem_map_of_mem hp)
      rw [e]
      exact q2
  · cases hi

/-- The new variables of these operations. -/
def dsI (all : List AO) : List Nat → List (Nat × List Nat)
  | [] => []
  | i :: l => (match all[i]? with | some o => dsO o | none => []) ++ dsI all l

/-- The slots that are spoken of, and that the operations of these numbers write. -/
def nsI (pa : List (Nat × Nat)) (all : List AO) : List Nat → List Nat
  | [] => []
  | i :: l => (match all[i]? with | some o => nsO pa o | none => []) ++ nsI pa all l
/-- Nothing names what is to be made; slots do not point to one variable, and do not point anywhere before they are written. -/
def InvC (pa : List (Nat × Nat)) (all : List AO) (l : List Nat) (s : St) : Prop := (∀ p ∈ dsI all l, s.freeB p = true) ∧ paOk pa s = true ∧ ∀ d ∈ nsI pa all l, nptr s d = true

/-- The operations of these numbers, one behind the other; nothing names what is to be made. -/
def wpLC (P : Program) (pa : List (Nat × Nat)) (all : List AO) : List Nat → St → (St → Prop) → Prop
  | [], s, K => K s
  | i :: l, s, K => match all[i]? with
    | some o => wpOp P none all o s fun s' => InvC pa all l s' ∧ wpLC P pa all l s' K
    | none => False

theorem wpLC_cons {pa : List (Nat × Nat)} {all : List AO} {i : Nat} {l : List Nat} {s : St} {K : St → Prop} : wpLC P pa all (i :: l) s K ↔ ∃ o, all[i]? = some o ∧ wpOp P none all o s fun s' => InvC pa all l s' ∧ wpLC P pa all l s' K := by
  simp only [wpLC]
  cases all[i]? with
  | none => simp
  | some o => simp

theorem dsI_range {all : List AO} : ∀ (n k : Nat), k + n = all.length → dsI all (List.range' k n) = dsL (all.drop k)
  | 0, k, hk => by rw [List.drop_eq_nil_of_le (by omega)]; rfl
  | n + 1, k, hk => by
    have hlt : k < all.length := by omega
    have ih := dsI_range (all := all) n (k + 1) (by omega)
    rw [List.drop_eq_getElem_cons hlt, List.range'_succ]
    simp only [dsI, List.getElem?_eq_getElem hlt, dsL, dsO]
    rw [ih]
    cases allocD all[k] <;> rfl

theorem nsI_range {pa : List (Nat × Nat)} {all : List AO} : ∀ (n k : Nat), k + n = all.length → nsI pa all (List.range' k n) = nsL pa (all.drop k)
  | 0, k, hk => by rw [List.drop_eq_nil_of_le (by omega)]; rfl
  | n + 1, k, hk => by
    have hlt : k < all.length := by omega
    have ih := nsI_range (pa := pa) (all := all) n (k + 1) (by omega)
    rw [List.drop_eq_getElem_cons hlt, List.range'_succ]
    simp only [nsI, List.getElem?_eq_getElem hlt, nsL]
    rw [ih, nsC_eq]
    rfl

theorem wpLC_range {pa : List (Nat × Nat)} {all : List AO} {K : St → Prop} : ∀ (n k : Nat), k + n = all.length → ∀ {s : St}, wpOpsC P pa all (all.drop k) s K → wpLC P pa all (List.range' k n) s K
  | 0, k, hk, s, h => by rw [List.drop_eq_nil_of_le (by omega)] at h; exact h
  | n + 1, k, hk, s, h => by
    have hlt : k < all.length := by omega
    rw [List.drop_eq_getElem_cons hlt] at h
    rw [List.range'_succ, wpLC_cons]
    refine ⟨_, List.getElem?_eq_getElem hlt, wpOp_mono' (.inr rfl) (fun s' hs' => ⟨?_, wpLC_range n (k + 1) (by omega) hs'.2⟩) h⟩
    unfold InvC
    rw [dsI_range n (k + 1) (by omega), nsI_range n (k + 1) (by omega)]
    have := hs'.1
    simp only [Bool.and_eq_true] at this
    exact ⟨freeAll_iff.1 this.1, this.2.1, nonPs_iff.1 this.2.2⟩

theorem dsI_append {all : List AO} : ∀ (l m : List Nat), dsI all (l ++ m) = dsI all l ++ dsI all m
  | [], m => rfl
  | i :: l, m => by simp only [List.cons_append, dsI, dsI_append l m, List.append_assoc]

theorem nsI_append {pa : List (Nat × Nat)} {all : List AO} : ∀ (l m : List Nat), nsI pa all (l ++ m) = nsI pa all l ++ nsI pa all m
  | [], m => rfl
  | i :: l, m => by simp only [List.cons_append, nsI, nsI_append l m, List.append_assoc]
theorem mem_nsI {pa : List (Nat × Nat)} {all : List AO} {d : Nat} : ∀ {l : List Nat}, d ∈ nsI pa all l → ∃ i ∈ l, ∃ o, all[i]? = some o ∧ d ∈ nsO pa o
  | [], h => by simp [nsI] at h
  | i :: l, h => by
    simp only [nsI, List.mem_append] at h
    rcases h with h | h
    · cases ho : all[i]? with
      | none => rw [ho] at h; simp at h
      | some o => rw [ho] at h; exact ⟨i, by simp, o, ho, h⟩
    · obtain ⟨j, hj, o, ho, hp⟩ := mem_nsI h
      exact ⟨j, by simp [hj], o, ho, hp⟩
/-- No slot that is spoken of is written twice. -/
def nsDist (pa : List (Nat × Nat)) (all : List AO) : Bool :=
  (List.range all.length).all fun i => (List.range all.length).all fun j => i == j || match all[i]?, all[j]? with
    | some p, some q => (nsO pa p).all fun d => q.dst != some d
    | _, _ => true
theorem nsDist_spec {pa : List (Nat × Nat)} {all : List AO} (h : nsDist pa all = true) {i j : Nat} {oi oj : AO} (hi : all[i]? = some oi) (hj : all[j]? = some oj) (hne : i ≠ j) {d : Nat} (hd : d ∈ nsO pa oi) : oj.dst ≠ some d := by
  have li := (List.getElem?_eq_some_iff.1 hi).1
  have lj := (List.getElem?_eq_some_iff.1 hj).1
  have := List.all_eq_true.1 (List.all_eq_true.1 h i (List.mem_range.2 li)) j (List.mem_range.2 lj)
  rw [hi, hj] at this
  simp only [Bool.or_eq_true, beq_iff_eq, hne, false_or, List.all_eq_true, bne_iff_ne, ne_eq] at this
  exact this d hd

theorem mem_dsI {all : List AO} {p : Nat × List Nat} : ∀ {l : List Nat}, p ∈ dsI all l → ∃ i ∈ l, ∃ o, all[i]? = some o ∧ p ∈ dsO o
  | [], h => by simp [dsI] at h
  | i :: l, h => by
    simp only [dsI, List.mem_append] at h
    rcases h with h | h
    · cases ho : all[i]? with
      | none => rw [ho] at h; simp at h
      | some o => rw [ho] at h; exact ⟨i, by simp, o, ho, h⟩
    · obtain ⟨j, hj, o, ho, hp⟩ := mem_dsI h
      exact ⟨j, by simp [hj], o, ho, hp⟩

/-- All that is made is apart. -/
def distinctA (all : List AO) : Bool :=
  (List.range all.length).all fun i => (List.range all.length).all fun j => i == j || match (all[i]?).bind allocD, (all[j]?).bind allocD with
    | some p, some q => p.1 != q.1 && p.2.all (fun t => !q.2.contains t) && q.2.all (fun t => !p.2.contains t)
    | _, _ => true

theorem distinctA_spec {all : List AO} (h : distinctA all = true) {i j : Nat} {oi oj : AO} (hi : all[i]? = some oi) (hj : all[j]? = some oj) (hne : i ≠ j) {p q : Nat × List Nat} (hp : p ∈ dsO oi) (hq : q ∈ dsO oj) : apartD p q := by
  have li := (List.getElem?_eq_some_iff.1 hi).1
  have lj := (List.getElem?_eq_some_iff.1 hj).1
  have := List.all_eq_true.1 (List.all_eq_true.1 h i (List.mem_range.2 li)) j (List.mem_range.2 lj)
  have hp' : allocD oi = some p := by simpa [dsO] using hp
  have hq' : allocD oj = some q := by simpa [dsO] using hq
  rw [hi, hj] at this
  simp only [Option.bind_some, hp', hq', Bool.or_eq_true, beq_iff_eq, hne, false_or, Bool.and_eq_true, bne_iff_ne, ne_eq, List.all_eq_true, Bool.not_eq_true', List.contains_eq_mem, decide_eq_false_iff_not] at this
  exact ⟨this.1.1, this.1.2, this.2⟩

/-- What may come first, comes first. -/
theorem wpLC_first {pa : List (Nat × Nat)} {all : List AO} (hdis : distinctA all = true) (hpf : nsDist pa all = true) {i : Nat} {oi : AO} (hoi : all[i]? = some oi) {K : St → Prop} {l2 : List Nat} : ∀ (l1 : List Nat), (l1 ++ i :: l2).Nodup → (∀ x ∈ l1, ∃ ox, all[x]? = some ox ∧ indepC pa all ox oi = true) → ∀ {s : St},
    InvC pa all (l1 ++ i :: l2) s → wpLC P pa all (l1 ++ i :: l2) s K → wpOp P none all oi s fun s' => InvC pa all (l1 ++ l2) s' ∧ wpLC P pa all (l1 ++ l2) s' K
  | [], _, _, s, hF, h => by
    rw [List.nil_append, wpLC_cons] at h
    obtain ⟨o, h1, h2⟩ := h
    rw [hoi] at h1
    cases h1
    exact h2
  | x :: l1, hnd, hx, s, hF, h => by
    obtain ⟨ox, h1, h2⟩ := hx x (by simp)
    rw [List.cons_append, wpLC_cons] at h
    obtain ⟨ox', h3, h4⟩ := h
    rw [h1] at h3
    cases h3
    rw [List.cons_append] at hnd hF
    have hnd' := List.nodup_cons.1 hnd
    have e0 : dsI all (x :: (l1 ++ i :: l2)) = dsO ox ++ dsI all (l1 ++ i :: l2) := by simp only [dsI, h1]
    have ei : dsI all (i :: l2) = dsO oi ++ dsI all l2 := by simp only [dsI, hoi]
    have hsub : ∀ p, p ∈ dsO oi ++ dsI all (l1 ++ l2) ↔ p ∈ dsI all (l1 ++ i :: l2) := fun p => by
      rw [dsI_append, dsI_append, ei]
      simp only [List.mem_append]
      constructor <;> (rintro (h | h | h) <;> simp [h])
    have h5 : wpOp P none all ox s fun s1 => (∀ p ∈ dsO oi ++ dsI all (l1 ++ l2), s1.freeB p = true) ∧ wpOp P none all oi s1 fun s2 => InvC pa all (l1 ++ l2) s2 ∧ wpLC P pa all (l1 ++ l2) s2 K :=
      wpOp_mono' (.inr rfl) (fun s' hs' => ⟨fun p hp => hs'.1.1 p ((hsub p).1 hp), wpLC_first hdis hpf hoi l1 hnd'.2 (fun y hy => hx y (by simp [hy])) hs'.1 hs'.2⟩) h4
    have en : nsI pa all (x :: (l1 ++ i :: l2)) = nsO pa ox ++ nsI pa all (l1 ++ i :: l2) := by simp only [nsI, h1]
    have hsubN : ∀ d, d ∈ nsI pa all (l1 ++ l2) → d ∈ nsI pa all (l1 ++ i :: l2) := fun d => by
      rw [nsI_append, nsI_append]
      simp only [nsI, List.mem_append]
      rintro (h | h) <;> simp [h]
    have h6 := swapC (x := ox) (y := oi) (D := dsI all (l1 ++ l2)) (E := nsI pa all (l1 ++ l2)) (K := fun s2 => InvC pa all (l1 ++ l2) s2 ∧ wpLC P pa all (l1 ++ l2) s2 K)
      hF.2.1
      (fun d hd => by
        refine hF.2.2 d ?_
        rw [en]
        rcases List.mem_append.1 hd with hd | hd
        · simp [hd]
        · exact List.mem_append_right _ (hsubN d hd))
      (fun d hd => by
        rcases List.mem_append.1 hd with hd | hd
        · refine nsDist_spec hpf h1 hoi (fun e => ?_) hd
          subst e
          exact hnd'.1 (by simp)
        · obtain ⟨j, hj, oj, hoj, hqj⟩ := mem_nsI hd
          refine nsDist_spec hpf hoj hoi (fun e => ?_) hqj
          subst e
          have hn := hnd'.2
          rw [List.nodup_append] at hn
          rcases List.mem_append.1 hj with hj | hj
          · exact hn.2.2 j hj j (by simp) rfl
          · exact (List.nodup_cons.1 hn.2.1).1 hj)
      (fun p hp => by
        refine hF.1 p ?_
        rw [e0]
        rcases List.mem_append.1 hp with hp | hp
        · simp [hp]
        · exact List.mem_append_right _ ((hsub p).1 hp)) h2
      (fun p hp q hq => by
        rcases List.mem_append.1 hq with hq | hq
        · refine distinctA_spec hdis hoi h1 (fun e => ?_) hp hq
          subst e
          exact hnd'.1 (by simp)
        · obtain ⟨j, hj, oj, hoj, hqj⟩ := mem_dsI hq
          refine distinctA_spec hdis hoi hoj (fun e => ?_) hp hqj
          subst e
          have hn := hnd'.2
          rw [List.nodup_append] at hn
          rcases List.mem_append.1 hj with hj | hj
          · exact hn.2.2 i hj i (by simp) rfl
          · exact (List.nodup_cons.1 hn.2.1).1 hj)
      (fun s hs p hp => hs.1.1 p hp) (fun s hs => hs.1.2.1) h5
    refine wpOp_mono' (.inr rfl) (fun s' hs' => ?_) h6
    refine ⟨⟨fun p hp => ?_, hs'.1.2.1, fun d hd => ?_⟩, ?_⟩
    · refine hs'.1.1 p ?_
      rw [List.cons_append] at hp
      have : dsI all (x :: (l1 ++ l2)) = dsO ox ++ dsI all (l1 ++ l2) := by simp only [dsI, h1]
      rwa [this] at hp
    · refine hs'.1.2.2 d ?_
      rw [List.cons_append] at hd
      have : nsI pa all (x :: (l1 ++ l2)) = nsO pa ox ++ nsI pa all (l1 ++ l2) := by simp only [nsI, h1]
      rwa [this] at hd
    · rw [List.cons_append, wpLC_cons]
      exact ⟨ox, h1, hs'.2⟩
/-- Does what the region's edges leave open not matter? -/
def drawOkC (pa : List (Nat × Nat)) (ao : List AO) : Bool :=
  (List.range ao.length).all fun i => match ao[i]? with
    | none => false
    | some oi => oi.pre.all (fun j => decide (j < i)) && (List.range i).all fun x => match ao[x]? with
      | none => false
      | some ox => oi.pre.contains x || indepC pa ao ox oi || reach ao x 6 oi.pre

theorem drawOkC_spec {pa : List (Nat × Nat)} {ao : List AO} (h : drawOkC pa ao = true) {i : Nat} {oi : AO} (hi : ao[i]? = some oi) : (∀ j ∈ oi.pre, j < i) ∧ ∀ x, x < i → reach ao x 7 oi.pre = false → ∃ ox, ao[x]? = some ox ∧ indepC pa ao ox oi = true := by
  have hlt := (List.getElem?_eq_some_iff.1 hi).1
  have := List.all_eq_true.1 h i (List.mem_range.2 hlt)
  rw [hi] at this
  simp only [Bool.and_eq_true, List.all_eq_true, decide_eq_true_eq, List.mem_range] at this
  refine ⟨this.1, fun x hx hn => ?_⟩
  have := this.2 x hx
  split at this
  · cases this
  · rename_i ox hox
    refine ⟨ox, hox, ?_⟩
    have e : oi.pre.contains x = false := by
      simp only [reach, Bool.or_eq_false_iff] at hn
      exact hn.1
    have e2 : reach ao x 6 oi.pre = false := by
      cases hr : reach ao x 6 oi.pre with
      | false => rfl
      | true => rw [reach_succ ao x 6 _ hr] at hn; cases hn
    rw [e, e2] at this
    simpa using this

theorem sound_goC {pa : List (Nat × Nat)} {ao : List AO} {ops : Array Oper} (hok : drawOkC pa ao = true) (hdis : distinctA ao = true) (hpf : nsDist pa ao = true) (hag : OpsAgree P ao ops) {its : Option (Nat × List (List PV))} {w00 : World} {I00 : Imm} {Jt : Nat → Imm → World → Prop} {ro : Option Nat} (hctx : Ctx P its Jt) {Q : XA → St → Prop} {sav : List (Array Value)}
    (Iz : Imm) (wz : World) : ∀ (fuel t : Nat) (listed : Array Bool), listed.size = ops.size → (∀ i oi, ao[i]? = some oi → listed.getD i false = true → ∀ j ∈ oi.pre, listed.getD j false = true) → ((List.range ops.size).filter fun i => !listed.getD i true).length = fuel →
    ∀ {I : Imm} {w : World} {s : St} {a : Act} {w0 : World} {I0 : Imm} {β : Nat → Nat} {κ : Nat → Nat × Nat × Nat}, Iz.le I → (its = none → KeepsOthers wz w) → (its.isSome = true → a.defers = []) → Base its w00 I00 Jt s.it w0 I0 → Sim w0 I0 I β κ s sav a w →
      InvC pa ao ((List.range ops.size).filter fun i => !listed.getD i true) s → wpLC P pa ao ((List.range ops.size).filter fun i => !listed.getD i true) s (Q .normal) →
      wpOpsIn (wideR ro) 0 P ops (PostA its (Base its w00 I00 Jt) Iz sav wz Q) (Region.linearise.go .any ops fuel t listed []) a w
  | 0, t, listed, hsz, hdc, hlen, I, w, s, a, w0, I0, β, κ, hle, hk, hdf, hB, h, hF, hs => by
    rw [List.length_eq_zero_iff.1 hlen] at hs
    exact ⟨s, I, hs, hle, hk, hdf, w0, I0, β, κ, hB, h⟩
  | fuel + 1, t, listed, hsz, hdc, hlen, I, w, s, a, w0, I0, β, κ, hle, hk, hdf, hB, h, hF, hs => by
    have hsort : ((List.range ops.size).filter fun i => !listed.getD i true).Pairwise (· < ·) := List.Pairwise.filter _ List.pairwise_lt_range
    have hlisted : ∀ j, j < ops.size → listed.getD j false = listed.getD j true := fun j hj => by
      have : j < listed.size := by omega
      simp [Array.getD, this]
    -- who is ready
    have hready : ∀ i, i ∈ Region.ready .any ops listed ↔ i < ops.size ∧ listed.getD i true = false ∧ ∀ oi, ao[i]? = some oi → ∀ j ∈ oi.pre, listed.getD j false = true := by
      intro i
      simp only [Region.ready, List.mem_filter, List.mem_range, Bool.and_eq_true, Bool.not_eq_true']
      refine and_congr_right fun hi => and_congr_right fun _ => ?_
      obtain ⟨oi, h1, _, _, _, h5, _⟩ := hag.get (Array.getElem?_eq_getElem hi)
      rw [Array.getElem?_eq_getElem hi]
      simp only [Option.map_some, Option.getD_some, h1, Option.some.injEq, forall_eq']
      rw [h5]
      rw [Array.all_eq_true']
      constructor
      · intro hx j hj
        obtain ⟨e, he, rfl⟩ := List.mem_map.1 hj
        obtain ⟨he1, hb⟩ := List.mem_filter.1 he
        have := hx e (by simpa using he1)
        rw [hb] at this
        simpa using this
      · intro hx e he
        cases hb : Region.binds .any e with
        | false => rfl
        | true =>
          have := hx e.on (List.mem_map.2 ⟨e, List.mem_filter.2 ⟨by simpa using he, hb⟩, rfl⟩)
          simpa using this
    have hne : Region.ready .any ops listed ≠ [] := by
      obtain ⟨x, L', hL⟩ : ∃ x L', ((List.range ops.size).filter fun i => !listed.getD i true) = x :: L' := by
        cases hL : ((List.range ops.size).filter fun i => !listed.getD i true) with
        | nil => rw [hL] at hlen; cases hlen
        | cons x L' => exact ⟨x, L', rfl⟩
      have hx : x ∈ ((List.range ops.size).filter fun i => !listed.getD i true) := by rw [hL]; simp
      simp only [List.mem_filter, List.mem_range, Bool.not_eq_true'] at hx
      refine List.ne_nil_of_mem ((hready x).2 ⟨hx.1, hx.2, fun oi hoi j hj => ?_⟩)
      have hjx := (drawOkC_spec hok hoi).1 j hj
      rw [hlisted j (by omega)]
      cases hl : listed.getD j true with
      | true => rfl
      | false =>
        have hm : j ∈ ((List.range ops.size).filter fun i => !listed.getD i true) := by simp only [List.mem_filter, List.mem_range, Bool.not_eq_true']; exact ⟨by omega, hl⟩
        rw [hL] at hm hsort
        rcases List.mem_cons.1 hm with hm | hm
        · omega
        · have := (List.pairwise_cons.1 hsort).1 j hm
          omega
    have hlt : t % (Region.ready .any ops listed).length < (Region.ready .any ops listed).length := Nat.mod_lt _ (List.length_pos_iff.2 hne)
    obtain ⟨i, hi⟩ : ∃ i, (Region.ready .any ops listed)[t % (Region.ready .any ops listed).length]? = some i := ⟨_, List.getElem?_eq_getElem hlt⟩
    have hgo : Region.linearise.go .any ops (fuel + 1) t listed [] = i :: Region.linearise.go .any ops fuel (t / (Region.ready .any ops listed).length) (listed.setIfInBounds i true) [] := by
      simp only [Region.linearise.go]
      change (match (Region.ready .any ops listed)[t % (Region.ready .any ops listed).length]? with
        | some i => Region.linearise.go .any ops fuel (t / (Region.ready .any ops listed).length) (listed.setIfInBounds i true) [i]
        | none => [].reverse) = _
      rw [hi]
      simp only []
      rw [linearise_go_acc]
      rfl
    rw [hgo]
    obtain ⟨hi1, hi2, hi3⟩ := (hready i).1 (List.mem_of_getElem? hi)
    have him : i ∈ ((List.range ops.size).filter fun i => !listed.getD i true) := by simp only [List.mem_filter, List.mem_range, Bool.not_eq_true']; exact ⟨hi1, hi2⟩
    obtain ⟨L1, L2, hL⟩ := List.append_of_mem him
    have hilt : i < ao.length := by rw [hag.length]; exact hi1
    have hoi : ao[i]? = some ao[i] := List.getElem?_eq_getElem hilt
    have hL1 : ∀ x ∈ L1, ∃ ox, ao[x]? = some ox ∧ indepC pa ao ox ao[i] = true := by
      intro x hx
      have hxm : x ∈ ((List.range ops.size).filter fun i => !listed.getD i true) := by rw [hL]; simp [hx]
      simp only [List.mem_filter, List.mem_range, Bool.not_eq_true'] at hxm
      rw [hL] at hsort
      have hxi : x < i := (List.pairwise_append.1 hsort).2.2 x hx i (by simp)
      refine (drawOkC_spec hok hoi).2 x hxi (Bool.eq_false_iff.2 fun hp => ?_)
      have := reach_listed hdc 7 _ (hi3 _ hoi) hp
      rw [hlisted x hxm.1, hxm.2] at this
      cases this
    have hL' : ((List.range ops.size).filter fun j => !(listed.setIfInBounds i true).getD j true) = L1 ++ L2 := by
      have e1 : ((List.range ops.size).filter fun j => !(listed.setIfInBounds i true).getD j true) = ((List.range ops.size).filter fun i => !listed.getD i true).filter (· != i) := by
        rw [List.filter_filter]
        refine List.filter_congr fun j hj => ?_
        have hj' := List.mem_range.1 hj
        by_cases e : j = i
        · subst e
          have : j < listed.size := by omega
          simp [Array.getD, this]
        · have e' : i ≠ j := fun h => e h.symm
          simp [getD_set_ne true e', e]
      rw [e1, hL]
      rw [hL] at hsort
      have hs2 := List.pairwise_append.1 hsort
      rw [List.filter_append, List.filter_cons]
      have f1 : L1.filter (· != i) = L1 := List.filter_eq_self.2 fun x hx => by
        have := hs2.2.2 x hx i (by simp)
        simp only [bne_iff_ne, ne_eq]
        omega
      have f2 : L2.filter (· != i) = L2 := List.filter_eq_self.2 fun x hx => by
        have := (List.pairwise_cons.1 hs2.2.1).1 x hx
        simp only [bne_iff_ne, ne_eq]
        omega
      rw [f1, f2]
      simp
    have hnd : ((List.range ops.size).filter fun i => !listed.getD i true).Nodup := hsort.imp fun h => Nat.ne_of_lt h
    rw [hL] at hs hF hnd
    have k2 := wpLC_first hdis hpf hoi L1 hnd hL1 hF hs
    refine sound_op hag hctx hoi hdf hB h (wpOp_mono' (.inl rfl) (fun _ hk => hk) k2) ?_
    intro s' a' w' J hle' hkeep' hsat hK
    obtain ⟨hdf1, w1, I1, β1, κ1, hB1, h1⟩ := hsat
    refine sound_goC hok hdis hpf hag hctx Iz wz fuel _ _ (by simpa using hsz) ?_ ?_ (Imm.le_trans hle hle') (fun e => (hk e).trans (hkeep' e)) hdf1 hB1 h1 (by rw [hL']; exact hK.1) (by rw [hL']; exact hK.2)
    · intro k ok hk' hkl j hj
      by_cases e : k = i
      · subst e
        exact getD_set_true (hi3 ok hk' j hj)
      · have e' : i ≠ k := fun h => e h.symm
        rw [getD_set_ne false e'] at hkl
        exact getD_set_true (hdc k ok hk' hkl j hj)
    rw [hL']
    rw [hL] at hlen
    simp only [List.length_append, List.length_cons] at hlen ⊢
    omega

theorem draw_soundC {pa : List (Nat × Nat)} {ao : List AO} (hok : drawOkC pa ao = true) (hdis : distinctA ao = true) (hpf : nsDist pa ao = true) : DrawSoundC P pa ao := by
  intro ops hag hmix its w00 I00 Jt ro Q I w s sav a w0 I0 β κ t hctx hdf hB h hF hs
  unfold Region.linearise
  have hall : ((List.range ops.size).filter fun i => !(Array.replicate ops.size false).getD i true) = List.range ops.size := List.filter_eq_self.2 fun i hi => by
    have := List.mem_range.1 hi
    simp [Array.getD, this]
  have hl := hag.length
  refine sound_goC hok hdis hpf hag hctx I w ops.size t _ (by simp) (fun i oi _ h => by simp [Array.getD] at h) (by rw [hall]; simp) (Imm.le_refl _) (fun _ => KeepsOthers.drew w) hdf hB h.drew ?_ ?_
  · unfold InvC
    rw [hall, List.range_eq_range', dsI_range ops.size 0 (by omega), nsI_range ops.size 0 (by omega), List.drop_zero]
    simp only [Bool.and_eq_true] at hF
    exact ⟨freeAll_iff.1 hF.1, hF.2.1, nonPs_iff.1 hF.2.2⟩
  · rw [hall, List.range_eq_range']
    exact wpLC_range ops.size 0 (by omega) (by rw [List.drop_zero]; exact hs)

end
end Go.Proofs.YtipchjfcjbghnaaGreat.A

/- Code with what is known of it, put together from the code and from hints; a check of the hints; contracts. -/
set_option linter.unusedVariables false
set_option linter.unusedSimpArgs false
namespace Go.Proofs.YtipchjfcjbghnaaGreat.A
open Go Go.RowKit Go.Shelf

/-- What is known beside the code: of operations (by their number in the region), of loops. -/
inductive Hint where
  | o
  | r (l : List (Nat × Inf))
  | y (l : List (Nat × Inf))
  | s (x y : Hint)
  | b (x : Hint)
  | l (g : List Gh) (x : Hint)
  | f (g : List Gh) (x y : Hint)
  | g (g : List Gh) (x : Hint)
  | no
  | d (pa : List (Nat × Nat)) (l : List (Nat × Inf))

def ao (o : Oper) (i : Inf) : AO := ⟨o.dst, o.op, o.guard, (o.after.toList.filter fun e => Region.binds .any e).map (·.on), i⟩

def aoL : Nat → List Oper → List (Nat × Inf) → List AO
  | _, [], _ => []
  | k, o :: os, l => ao o ((lk k l).getD {}) :: aoL (k + 1) os l

def acOf : Hint → Code → AC
  | .no, _ => .dead
  | .d pa l, .region _ ops _ => .regd pa (aoL 0 ops.toList l)
  | .g g h, c => .gh g (acOf h c)
  | .o, .skip => .skip
  | .o, .label _ => .skip
  | .o, .region _ ops d => .reg d false (aoL 0 ops.toList [])
  | .r l, .region _ ops d => .reg d false (aoL 0 ops.toList l)
  | .y l, .region _ ops d => .reg d true (aoL 0 ops.toList l)
  | .s a b, .seq x y => .seq (acOf a x) (acOf b y)
  | .s a b, .cond c x y => .cond c (acOf a x) (acOf b y)
  | .b a, .block id x => .block id (acOf a x)
  | .l g a, .loop x => .loop g (acOf a x)
  | .f g a b, .rangeFunc f ps x y => .rf f ps.toList g (acOf a x) (acOf b y)
  | .o, .exit id => .exit id
  | .o, .ret => .ret
  | _, _ => .skip

/-- Do the hints fit the code, and the types? -/
def okC (P : Program) : Hint → Code → Bool
  | .no, _ => true
  | .d pa l, .region _ ops d => (aoL 0 ops.toList l).all (fun a => infOk' P a.op a.inf) && (d && (drawOkC pa (aoL 0 ops.toList l) && (distinctA (aoL 0 ops.toList l) && nsDist pa (aoL 0 ops.toList l))))
  | .g _ h, c => okC P h c
  | .o, .skip => true
  | .o, .label _ => true
  | .o, .region _ ops d => (aoL 0 ops.toList []).all (fun a => infOk' P a.op a.inf) && (!d || drawOk false (aoL 0 ops.toList []))
  | .r l, .region _ ops d => (aoL 0 ops.toList l).all (fun a => infOk' P a.op a.inf) && (!d || drawOk false (aoL 0 ops.toList l))
  | .y l, .region _ ops d => (aoL 0 ops.toList l).all (fun a => infOk' P a.op a.inf) && (!d || drawOk true (aoL 0 ops.toList l))
  | .s a b, .seq x y => okC P a x && okC P b y
  | .s a b, .cond _ x y => okC P a x && okC P b y
  | .b a, .block _ x => okC P a x
  | .l _ a, .loop x => okC P a x
  | .f _ a b, .rangeFunc _ _ x y => okC P a x && okC P b y
  | .o, .exit _ => true
  | .o, .ret => true
  | _, _ => false

theorem aoL_keys : ∀ (os : List Oper) (k : Nat) (l : List (Nat × Inf)), os.map opKey = (aoL k os l).map AO.key
  | [], _, _ => rfl
  | o :: os, k, l => by
    simp only [aoL, List.map_cons]
    rw [aoL_keys os (k + 1) l]
    rfl

theorem ag_reg {P : Program} (hm : P.follows .mixedOrders = true) {id : Nat} {ops : Array Oper} {d y : Bool} {l : List (Nat × Inf)} (h : ((aoL 0 ops.toList l).all (fun a => infOk' P a.op a.inf) && (!d || drawOk y (aoL 0 ops.toList l))) = true) :
    Ag P (.reg d y (aoL 0 ops.toList l)) (.region id ops d) := by
  simp only [Bool.and_eq_true, Bool.or_eq_true, Bool.not_eq_true'] at h
  obtain ⟨h3, h4⟩ := h
  refine ⟨rfl, ⟨aoL_keys _ _ _, h3⟩, fun hd => ⟨hm, draw_sound ?_⟩⟩
  rcases h4 with h4 | h4
  · rw [h4] at hd; cases hd
  · exact h4

theorem ag_of {P : Program} (hm : P.follows .mixedOrders = true) : ∀ (h : Hint) (code : Code), okC P h code = true → Ag P (acOf h code) code := by
  intro h
  induction h with
  | g g x ih => intro code h1; exact ih code h1
  | no => intro code h1; exact (by cases code <;> trivial)
  | d pa l =>
    intro code h1
    cases code <;> simp only [okC, Bool.false_eq_true] at h1
    simp only [Bool.and_eq_true] at h1
    obtain ⟨h3, rfl, h4, h5, h6⟩ := h1
    exact ⟨rfl, ⟨aoL_keys _ _ _, h3⟩, hm, draw_soundC h4 h5 h6⟩
  | o =>
    intro code h1
    cases code <;> simp only [okC, Bool.false_eq_true] at h1 <;> simp only [acOf] <;> first | exact ag_reg hm h1 | trivial | exact (rfl : _ = _)
  | r l =>
    intro code h1
    cases code <;> simp only [okC, Bool.false_eq_true] at h1
    exact ag_reg hm h1
  | y l =>
    intro code h1
    cases code <;> simp only [okC, Bool.false_eq_true] at h1
    exact ag_reg hm h1
  | s a b iha ihb =>
    intro code h1
    cases code <;> simp only [okC, Bool.false_eq_true, Bool.and_eq_true] at h1
    · exact ⟨iha _ h1.1, ihb _ h1.2⟩
    · exact ⟨rfl, iha _ h1.1, ihb _ h1.2⟩
  | b a ih =>
    intro code h1
    cases code <;> simp only [okC, Bool.false_eq_true] at h1
    exact ⟨rfl, ih _ h1⟩
  | l g a ih =>
    intro code h1
    cases code <;> simp only [okC, Bool.false_eq_true] at h1
    exact ih _ h1
  | f g a b iha ihb =>
    intro code h1
    cases code <;> simp only [okC, Bool.false_eq_true, Bool.and_eq_true] at h1
    exact ⟨rfl, rfl, iha _ h1.1, ihb _ h1.2⟩

/-- The hints fit the function. -/
def okF (P : Program) (fn : Func) (h : Hint) (qs : List (Bool × Nat)) : Bool :=
  !(fn.name == "runtime.NumGoroutine") && rinfOk P fn.results.toList qs && (match fn.body with | some c => okC P h c | none => false)

theorem okF_spec {P : Program} {fn : Func} {code : Code} {h : Hint} {qs : List (Bool × Nat)} (hb : fn.body = some code) (hk : okF P fn h qs = true) :
    (fn.name == "runtime.NumGoroutine") = false ∧ rinfOk P fn.results.toList qs = true ∧ okC P h code = true := by
  simp only [okF, hb, Bool.and_eq_true, Bool.not_eq_true'] at hk
  exact ⟨hk.1.1, hk.1.2, hk.2⟩

theorem ok_fn {P : Program} (hm : P.follows .mixedOrders = true) {f : FuncId} {fn : Func} {code : Code} {h : Hint} {qs : List (Bool × Nat)} {args : List PV} {r : PV} (hf : P.funcs[f]? = some fn) (hb : fn.body = some code) (hk : okF P fn h qs = true)
    (hwp : wpA P none (acOf h code) (RetQ fn.results.toList qs r) (initS args fn.ntmps)) : Ok P f args r := by
  obtain ⟨h1, h2, h3⟩ := okF_spec hb hk
  exact ok_of hf h1 hb (ag_of hm h code h3) h2 hwp

theorem iter_fn {P : Program} (hm : P.follows .mixedOrders = true) {f : FuncId} {fn : Func} {code : Code} {h : Hint} {caps : List PV} {items : List (List PV)} (hf : P.funcs[f]? = some fn) (hb : fn.body = some code) (hk : okF P fn h [] = true)
    (hq : fn.results.toList = [])
    (hwp : ∀ l, wpA P (some (l, items)) (acOf h code) (fun e s => match e with | .exit _ => False | _ => s.it = items.length ∨ s.it = items.length + 1) (initS (.fn (.yield l) [] :: caps) fn.ntmps)) : IterOk P (.fn (.func f) caps) items := by
  obtain ⟨h1, h2, h3⟩ := okF_spec hb hk
  exact iter_of hf h1 hb (ag_of hm h code h3) hq hwp

end Go.Proofs.YtipchjfcjbghnaaGreat.A

/- Rules for reckoning what code tells, step by step. -/
set_option linter.unusedVariables false
set_option linter.unusedSimpArgs false
namespace Go.Proofs.YtipchjfcjbghnaaGreat.A
open Go Go.RowKit Go.Shelf

/-- A step that tells a state, and what is asked of it. -/
def opt (o : Option St) (K : St → Prop) : Prop := match o with | some s => K s | none => False
theorem opt_some (s : St) (K : St → Prop) : opt (some s) K = K s := rfl
theorem ex_opt (o : Option St) (K : St → Prop) : (∃ s', o = some s' ∧ K s') = opt o K := by
  cases o <;> simp [opt]
@[congr] theorem opt_congr {o o' : Option St} {K : St → Prop} (h : o = o') : opt o K = opt o' K := by rw [h]

/-- A truth value that a guard or a condition looks at. -/
def gB (o : Option TV) (s : St) (x y : St → Prop) : Prop := match o with | some (.v (.s (.bool b))) => if b = true then x s else y s | _ => False
theorem gB_true (s : St) (x y : St → Prop) : gB (some (.v (.s (.bool true)))) s x y = x s := rfl
theorem gB_false (s : St) (x y : St → Prop) : gB (some (.v (.s (.bool false)))) s x y = y s := rfl
theorem gB_dec {p : Prop} [Decidable p] {s : St} {x y : St → Prop} (h1 : p → x s) (h2 : ¬ p → y s) : gB (some (.v (.s (.bool (decide p))))) s x y := by
  unfold gB; by_cases h : p
  · simpa [h] using h1 h
  · simpa [h] using h2 h
theorem gB_bool {b : Bool} {s : St} {x y : St → Prop} (h1 : b = true → x s) (h2 : b = false → y s) : gB (some (.v (.s (.bool b)))) s x y := by
  cases b
  · exact h2 rfl
  · exact h1 rfl

@[congr] theorem wpA_congr {P : Program} {its : Option (Nat × List (List PV))} {ac : AC} {Q : XA → St → Prop} {s s' : St} (h : s = s') : wpA P its ac Q s = wpA P its ac Q s' := by rw [h]
@[congr] theorem wpOpsA_congr {P : Program} {its : Option (Nat × List (List PV))} {all l : List AO} {K : St → Prop} {s s' : St} (h : s = s') : wpOpsA P its all l s K = wpOpsA P its all l s' K := by rw [h]
@[congr] theorem wpOpsC_congr {P : Program} {pa : List (Nat × Nat)} {all l : List AO} {K : St → Prop} {s s' : St} (h : s = s') : wpOpsC P pa all l s K = wpOpsC P pa all l s' K := by rw [h]
@[congr] theorem wpOp_congr {P : Program} {its : Option (Nat × List (List PV))} {all : List AO} {o : AO} {K : St → Prop} {s s' : St} (h : s = s') : wpOp P its all o s K = wpOp P its all o s' K := by rw [h]
@[congr] theorem execA_congr {P : Program} {its : Option (Nat × List (List PV))} {o : AO} {K : St → Prop} {s s' : St} (h : s = s') : execA P its s o K = execA P its s' o K := by rw [h]
@[congr] theorem callA_congr {P : Program} {its : Option (Nat × List (List PV))} {d : Option Nat} {c : Call} {K : St → Prop} {s s' : St} (h : s = s') : callA P its s d c K = callA P its s' d c K := by rw [h]

/-! ### Code -/
def seqK (P : Program) (its : Option (Nat × List (List PV))) (y : AC) (Q : XA → St → Prop) : XA → St → Prop := fun e s' => match e with | .normal => wpA P its y Q s' | .ret => Q .ret s' | .exit id => Q (.exit id) s'
def blockK (id : Nat) (Q : XA → St → Prop) : XA → St → Prop := fun e s' => match e with | .exit j => if j = id then Q .normal s' else Q (.exit j) s' | .normal => Q .normal s' | .ret => Q .ret s'
def wpK (P : Program) (its : Option (Nat × List (List PV))) (a : Hint) (x : Code) (Q : XA → St → Prop) : St → Prop := fun s => wpA P its (acOf a x) Q s
def execK (P : Program) (its : Option (Nat × List (List PV))) (d : Option Nat) (op : Op) (i : Inf) (K : St → Prop) : St → Prop := fun s => execA P its s ⟨d, op, none, [], i⟩ K
def junkK (d : Option Nat) (K : St → Prop) : St → Prop := fun s => K (putT s d (.v (.tup [])))
def opsK (P : Program) (its : Option (Nat × List (List PV))) (all l : List AO) (K : St → Prop) : St → Prop := fun s' => wpOpsA P its all l s' K
def loopK (g : List Gh) (Inv : Nat → St → Prop) (m : Nat) (Q : XA → St → Prop) : XA → St → Prop := fun e s' => match e with | .normal => ∃ s1 m', ghs g s' = some s1 ∧ m' < m ∧ Inv m' s1 | .ret => Q .ret s' | .exit id => Q (.exit id) s'

section
variable {P : Program} {its : Option (Nat × List (List PV))} {Q : XA → St → Prop} {s : St} {K : St → Prop}

theorem wpK_at (a : Hint) (x : Code) : wpK P its a x Q s = wpA P its (acOf a x) Q s := rfl
theorem execK_at (d : Option Nat) (op : Op) (i : Inf) : execK P its d op i K s = execA P its s ⟨d, op, none, [], i⟩ K := rfl
theorem junkK_at (d : Option Nat) : junkK d K s = K (putT s d (.v (.tup []))) := rfl
theorem seqK_normal (y : AC) : seqK P its y Q .normal s = wpA P its y Q s := rfl
theorem seqK_ret (y : AC) : seqK P its y Q .ret s = Q .ret s := rfl
theorem seqK_exit (y : AC) (id : Nat) : seqK P its y Q (.exit id) s = Q (.exit id) s := rfl
theorem blockK_normal (id : Nat) : blockK id Q .normal s = Q .normal s := rfl
theorem blockK_ret (id : Nat) : blockK id Q .ret s = Q .ret s := rfl
theorem blockK_exit (id j : Nat) : blockK id Q (.exit j) s = if j = id then Q .normal s else Q (.exit j) s := rfl
theorem loopK_normal (g : List Gh) (Inv : Nat → St → Prop) (m : Nat) : loopK g Inv m Q .normal s = ∃ s1 m', ghs g s = some s1 ∧ m' < m ∧ Inv m' s1 := rfl
theorem loopK_ret (g : List Gh) (Inv : Nat → St → Prop) (m : Nat) : loopK g Inv m Q .ret s = Q .ret s := rfl
theorem loopK_exit (g : List Gh) (Inv : Nat → St → Prop) (m id : Nat) : loopK g Inv m Q (.exit id) s = Q (.exit id) s := rfl
theorem opsK_at (all l : List AO) : opsK P its all l K s = wpOpsA P its all l s K := rfl

theorem wp_skip : wpA P its (acOf .o .skip) Q s = Q .normal s := rfl
theorem wp_label (n : Nat) : wpA P its (acOf .o (.label n)) Q s = Q .normal s := rfl
theorem wp_reg0 (id : Nat) (ops : List Oper) : wpA P its (acOf .o (.region id ⟨ops⟩ false)) Q s = wpOpsA P its (aoL 0 ops []) (aoL 0 ops []) s (Q .normal) := rfl
theorem wp_reg (id : Nat) (ops : List Oper) (l : List (Nat × Inf)) : wpA P its (acOf (.r l) (.region id ⟨ops⟩ false)) Q s = wpOpsA P its (aoL 0 ops l) (aoL 0 ops l) s (Q .normal) := rfl
theorem wp_draw0 (id : Nat) (ops : List Oper) : wpA P its (acOf .o (.region id ⟨ops⟩ true)) Q s = wpOpsA P none (aoL 0 ops []) (aoL 0 ops []) s (Q .normal) := rfl
theorem wp_draw (id : Nat) (ops : List Oper) (l : List (Nat × Inf)) : wpA P its (acOf (.r l) (.region id ⟨ops⟩ true)) Q s = wpOpsA P none (aoL 0 ops l) (aoL 0 ops l) s (Q .normal) := rfl
theorem wp_regy (id : Nat) (ops : List Oper) (l : List (Nat × Inf)) : wpA P its (acOf (.y l) (.region id ⟨ops⟩ false)) Q s = wpOpsA P its (aoL 0 ops l) (aoL 0 ops l) s (Q .normal) := rfl
theorem wp_drawy (id : Nat) (ops : List Oper) (l : List (Nat × Inf)) : wpA P its (acOf (.y l) (.region id ⟨ops⟩ true)) Q s = wpOpsA P its (aoL 0 ops l) (aoL 0 ops l) s (Q .normal) := rfl
theorem wp_seq (x y : Code) (a b : Hint) : wpA P its (acOf (.s a b) (.seq x y)) Q s = wpA P its (acOf a x) (seqK P its (acOf b y) Q) s := rfl
theorem wp_cond (c : Operand) (x y : Code) (a b : Hint) : wpA P its (acOf (.s a b) (.cond c x y)) Q s = gB (ev s c) s (wpK P its a x Q) (wpK P its b y Q) := by
  simp only [acOf, wpA, gB]
  rfl
theorem wp_block (id : Nat) (x : Code) (a : Hint) : wpA P its (acOf (.b a) (.block id x)) Q s = wpA P its (acOf a x) (blockK id Q) s := rfl
theorem wp_exit (id : Nat) : wpA P its (acOf .o (.exit id)) Q s = Q (.exit id) s := rfl
theorem wp_ret : wpA P its (acOf .o .ret) Q s = Q .ret s := rfl
theorem wp_gh (g : List Gh) (x : Code) (a : Hint) : wpA P its (acOf (.g g a) x) Q s = opt (ghs g s) (wpK P its a x Q) := by
  have e : acOf (.g g a) x = .gh g (acOf a x) := by cases x <;> rfl
  simp only [e, wpA, ex_opt]
  rfl
/-- A loop: what holds at its head, and a measure that falls. -/
theorem wp_loop {g : List Gh} {x : Code} {a : Hint} (Inv : Nat → St → Prop) (m : Nat) (h0 : opt (ghs g s) (Inv m)) (h : ∀ m s, Inv m s → wpA P its (acOf a x) (loopK g Inv m Q) s) : wpA P its (acOf (.l g a) (.loop x)) Q s := by
  cases hg : ghs g s with
  | none => rw [hg] at h0; exact h0.elim
  | some s0 => rw [hg] at h0; exact ⟨Inv, m, s0, hg, h0, h⟩
theorem loopK_of {g : List Gh} {Inv : Nat → St → Prop} {m m' : Nat} (hm : m' < m) (h : opt (ghs g s) (Inv m')) : loopK g Inv m Q .normal s := by
  cases hg : ghs g s with
  | none => rw [hg] at h; exact h.elim
  | some s0 => rw [hg] at h; exact ⟨s0, m', hg, hm, h⟩

theorem RetQ_ret (vs : List ResultVar) (qs : List (Bool × Nat)) (r : PV) : RetQ vs qs r .ret s = ((resAll s vs qs).map packR = some r) := rfl
theorem RetQ_normal (vs : List ResultVar) (qs : List (Bool × Nat)) (r : PV) : RetQ vs qs r .normal s = ((resAll s vs qs).map packR = some r) := rfl

/-! ### Regions that draw their order, and make variables -/
def opsCK (P : Program) (pa : List (Nat × Nat)) (all l : List AO) (K : St → Prop) : St → Prop := fun s' => (freeAll (dsL l) s' && (paOk pa s' && nonPs (nsL pa l) s')) = true ∧ wpOpsC P pa all l s' K
theorem opsCK_at (pa : List (Nat × Nat)) (all l : List AO) : opsCK P pa all l K s = ((freeAll (dsL l) s && (paOk pa s && nonPs (nsL pa l) s)) = true ∧ wpOpsC P pa all l s K) := rfl
theorem wp_regd (id : Nat) (ops : List Oper) (pa : List (Nat × Nat)) (l : List (Nat × Inf)) (d : Bool) : wpA P its (acOf (.d pa l) (.region id ⟨ops⟩ d)) Q s = ((freeAll (dsL (aoL 0 ops l)) s && (paOk pa s && nonPs (nsL pa (aoL 0 ops l)) s)) = true ∧ wpOpsC P pa (aoL 0 ops l) (aoL 0 ops l) s (Q .normal)) := rfl
theorem opsC_nil (pa : List (Nat × Nat)) (all : List AO) (k : Nat) (l : List (Nat × Inf)) : wpOpsC P pa all (aoL k [] l) s K = K s := rfl
theorem opsC_cons (pa : List (Nat × Nat)) (all : List AO) (k : Nat) (l : List (Nat × Inf)) (os : List Oper) (o : Oper) : wpOpsC P pa all (aoL k (o :: os) l) s K = wpOp P none all (ao o ((lk k l).getD {})) s (opsCK P pa all (aoL (k + 1) os l) K) := rfl
def allocX (d : Option Nat) (op : Op) (g : Option (Nat × Bool)) (i : Inf) : Option (Nat × List Nat) := match op, d, g with
  | .alloc _, some d, none => some (d, i.acc.map (·.2))
  | _, _, _ => none
def dsC : Option (Nat × List Nat) → List (Nat × List Nat) → List (Nat × List Nat)
  | some p, l => p :: l
  | none, l => l
theorem nsL_nil (pa : List (Nat × Nat)) (k : Nat) (l : List (Nat × Inf)) : nsL pa (aoL k [] l) = [] := rfl
theorem nsL_cons (pa : List (Nat × Nat)) (k : Nat) (l : List (Nat × Inf)) (os : List Oper) (d : Option Nat) (op : Op) (t : TypeId) (p : String) (af : Array Edge) (g : Option (Nat × Bool)) :
    nsL pa (aoL k (⟨d, op, t, p, af, g⟩ :: os) l) = nsC pa d (nsL pa (aoL (k + 1) os l)) := rfl
theorem nsL_no (l : List AO) : nsL [] l = [] := by
  induction l with
  | nil => rfl
  | cons o l ih =>
    rw [nsL, ih]
    unfold nsC inPa
    split <;> simp
theorem dsL_nil (k : Nat) (l : List (Nat × Inf)) : dsL (aoL k [] l) = [] := rfl
theorem dsL_cons (k : Nat) (l : List (Nat × Inf)) (os : List Oper) (d : Option Nat) (op : Op) (t : TypeId) (p : String) (af : Array Edge) (g : Option (Nat × Bool)) :
    dsL (aoL k (⟨d, op, t, p, af, g⟩ :: os) l) = dsC (allocX d op g ((lk k l).getD {})) (dsL (aoL (k + 1) os l)) := by
  show (match allocD (ao ⟨d, op, t, p, af, g⟩ ((lk k l).getD {})) with | some p => p :: _ | none => _) = _
  have e : allocD (ao ⟨d, op, t, p, af, g⟩ ((lk k l).getD {})) = allocX d op g ((lk k l).getD {}) := rfl
  rw [e]
  cases allocX d op g ((lk k l).getD {}) <;> rfl

/-! ### Operations -/
theorem ops_nil (all : List AO) (k : Nat) (l : List (Nat × Inf)) : wpOpsA P its all (aoL k [] l) s K = K s := rfl
theorem ops_cons (all : List AO) (k : Nat) (l : List (Nat × Inf)) (os : List Oper) (o : Oper) : wpOpsA P its all (aoL k (o :: os) l) s K = wpOp P its all (ao o ((lk k l).getD {})) s (opsK P its all (aoL (k + 1) os l) K) := rfl
theorem op_plain (all : List AO) (d : Option Nat) (op : Op) (t : TypeId) (p : String) (af : Array Edge) (i : Inf) : wpOp P its all (ao ⟨d, op, t, p, af, none⟩ i) s K = execA P its s ⟨d, op, none, [], i⟩ K := by
  rfl
/-- Was what a guard looks at passed by? -/
def gU : Option TV → Prop → Prop → Prop
  | some (.v (.tup [])), _, y => y
  | _, x, _ => x
theorem gU_s (v : Value) (x y : Prop) : gU (some (.v (.s v))) x y = x := rfl
theorem gU_skip (x y : Prop) : gU (some (.v (.tup []))) x y = y := rfl
/-- Where the operation that a guard looks at lays its value. -/
def slotAt (all : List AO) (j : Nat) : Option Nat := (all[j]?).bind (·.dst)
theorem slotAt_zero (o : Oper) (os : List Oper) (k : Nat) (l : List (Nat × Inf)) : slotAt (aoL k (o :: os) l) 0 = o.dst := rfl
theorem slotAt_succ (o : Oper) (os : List Oper) (k j : Nat) (l : List (Nat × Inf)) : slotAt (aoL k (o :: os) l) (j + 1) = slotAt (aoL (k + 1) os l) j := rfl
@[congr] theorem slotAt_congr {all : List AO} {j : Nat} : slotAt all j = slotAt all j := rfl
theorem op_guard (all : List AO) (d : Option Nat) (op : Op) (t : TypeId) (p : String) (af : Array Edge) (j : Nat) (i : Inf) :
    wpOp P its all (ao ⟨d, op, t, p, af, some (j, true)⟩ i) s K = gU ((slotAt all j).bind (s.tm[·]?)) (gB ((slotAt all j).bind (s.tm[·]?)) s (execK P its d op i K) (junkK d K)) (junkK d K s) := by
  have key : ∀ (o : Option TV) (x y : St → Prop), (match o with | some (.v (.s (.bool b))) => if b = true then x s else y s | some (.v (.tup [])) => y s | _ => False) = gU o (gB o s x y) (y s) := by
    intro o x y
    rcases o with _ | (z | _ | _ | _)
    · rfl
    · cases z with
      | s v => cases v <;> rfl
      | tup l => cases l <;> rfl
      | _ => rfl
    all_goals rfl
  exact key ((slotAt all j).bind (s.tm[·]?)) (execK P its d op i K) (junkK d K)
theorem op_guardn (all : List AO) (d : Option Nat) (op : Op) (t : TypeId) (p : String) (af : Array Edge) (j : Nat) (i : Inf) :
    wpOp P its all (ao ⟨d, op, t, p, af, some (j, false)⟩ i) s K = gU ((slotAt all j).bind (s.tm[·]?)) (gB ((slotAt all j).bind (s.tm[·]?)) s (junkK d K) (execK P its d op i K)) (junkK d K s) := by
  have key : ∀ (o : Option TV) (x y : St → Prop), (match o with | some (.v (.s (.bool b))) => if b = false then x s else y s | some (.v (.tup [])) => y s | _ => False) = gU o (gB o s y x) (y s) := by
    intro o x y
    rcases o with _ | (z | _ | _ | _)
    · rfl
    · cases z with
      | s v =>
        cases v with
        | bool b => cases b <;> rfl
        | _ => rfl
      | tup l => cases l <;> rfl
      | _ => rfl
    all_goals rfl
  exact key ((slotAt all j).bind (s.tm[·]?)) (execK P its d op i K) (junkK d K)

/-- A row of the code's operations, looked up. -/
theorem step_call (d : Option Nat) (f : Operand) (xs : Array Operand) (ts : Array TypeId) (g : Option (Nat × Bool)) (pre : List Nat) (i : Inf) : execA P its s ⟨d, .call ⟨.value f, xs, ts⟩, g, pre, i⟩ K = callA P its s d ⟨.value f, xs, ts⟩ K := rfl
theorem step_invoke (d : Option Nat) (f : Operand) (n : String) (xs : Array Operand) (ts : Array TypeId) (g : Option (Nat × Bool)) (pre : List Nat) (i : Inf) : execA P its s ⟨d, .call ⟨.invoke f n, xs, ts⟩, g, pre, i⟩ K = callA P its s d ⟨.invoke f n, xs, ts⟩ K := rfl
theorem step_builtin (d : Option Nat) (b : Builtin) (xs : Array Operand) (ts : Array TypeId) (g : Option (Nat × Bool)) (pre : List Nat) (i : Inf) : execA P its s ⟨d, .call ⟨.builtin b, xs, ts⟩, g, pre, i⟩ K = opt (stepA s d (.call ⟨.builtin b, xs, ts⟩) i) K := ex_opt _ _
theorem step_move (d : Option Nat) (x : Operand) (g : Option (Nat × Bool)) (pre : List Nat) (i : Inf) : execA P its s ⟨d, .move x, g, pre, i⟩ K = opt ((ev s x).map (putT s d)) K := ex_opt _ _
theorem step_assign (d : Option Nat) (x : Operand) (g : Option (Nat × Bool)) (pre : List Nat) (i : Inf) : execA P its s ⟨d, .assign x, g, pre, i⟩ K = opt (stepA s d (.assign x) i) K := ex_opt _ _
theorem step_pick (d : Option Nat) (c x y : Operand) (g : Option (Nat × Bool)) (pre : List Nat) (i : Inf) : execA P its s ⟨d, .pick c x y, g, pre, i⟩ K = opt ((valA s (.pick c x y) i).map (putT s d)) K := ex_opt _ _
theorem step_load (d : Option Nat) (t : TypeId) (x : Operand) (g : Option (Nat × Bool)) (pre : List Nat) (i : Inf) : execA P its s ⟨d, .load t x, g, pre, i⟩ K = opt (((ev s x).bind (ldA s i.agg i.n)).map (putT s d)) K := ex_opt _ _
theorem step_fieldAddr (d : Option Nat) (t : TypeId) (x : Operand) (f : Nat) (g : Option (Nat × Bool)) (pre : List Nat) (i : Inf) : execA P its s ⟨d, .fieldAddr t x f, g, pre, i⟩ K = opt (((ev s x).bind (fieldAddrA i.off)).map (putT s d)) K := ex_opt _ _
theorem step_field (d : Option Nat) (t : TypeId) (x : Operand) (f : Nat) (g : Option (Nat × Bool)) (pre : List Nat) (i : Inf) : execA P its s ⟨d, .field t x f, g, pre, i⟩ K = opt (((pv s x).bind (fieldA i.agg i.n i.off)).map (putT s d)) K := ex_opt _ _
theorem step_indexAddr (d : Option Nat) (t : TypeId) (x k : Operand) (g : Option (Nat × Bool)) (pre : List Nat) (i : Inf) : execA P its s ⟨d, .indexAddr t x k, g, pre, i⟩ K = opt ((valA s (.indexAddr t x k) i).map (putT s d)) K := ex_opt _ _
theorem step_index (d : Option Nat) (t : TypeId) (x k : Operand) (g : Option (Nat × Bool)) (pre : List Nat) (i : Inf) : execA P its s ⟨d, .index t x k, g, pre, i⟩ K = opt ((valA s (.index t x k) i).map (putT s d)) K := ex_opt _ _
theorem step_binOp (d : Option Nat) (op : BinOp) (t u : TypeId) (x y : Operand) (g : Option (Nat × Bool)) (pre : List Nat) (i : Inf) (h : (i.t == 1) = false) : execA P its s ⟨d, .binOp op t x y u, g, pre, i⟩ K = opt ((valA s (.binOp op t x y u) i).map (putT s d)) K := by
  have hn : nilTest ⟨d, .binOp op t x y u, g, pre, i⟩ = none := by
    have h' : i.t ≠ 1 := by simpa using h
    unfold nilTest
    split
    · rw [if_neg (fun e => h' e.1)]
    · rfl
  unfold execA
  rw [hn]
  exact ex_opt _ _
theorem step_nil (d : Option Nat) (t u : TypeId) (x : Operand) (g : Option (Nat × Bool)) (pre : List Nat) (i : Inf) (h : (i.t == 1) = true) (h3 : (i.n == 3) = true) : execA P its s ⟨d, .binOp .eql t x (.const (.slice none 0 0)) u, g, pre, i⟩ K = nilA s d x K := by
  have hn : nilTest ⟨d, .binOp .eql t x (.const (.slice none 0 0)) u, g, pre, i⟩ = some x := by
    unfold nilTest
    exact if_pos ⟨by simpa using h, by simpa using h3⟩
  unfold execA
  rw [hn]
theorem nilA_nil (d : Option Nat) (x : Operand) (h : ev s x = some (.v (.s (.slice none 0 0)))) : nilA s d x K = K (putT s d (bl true)) := by
  unfold nilA; rw [h]
  rfl
theorem nilA_sl {ex : Bool} {els : List PV} (d : Option Nat) (x : Operand) (h : ev s x = some (.v (.sl ex els))) (hK : ∀ b : Bool, (els.isEmpty = false → b = false) → K (putT s d (bl b))) : nilA s d x K := by
  unfold nilA; rw [h]; exact hK
theorem step_unOp (d : Option Nat) (op : UnOp) (t : TypeId) (x : Operand) (g : Option (Nat × Bool)) (pre : List Nat) (i : Inf) : execA P its s ⟨d, .unOp op t x, g, pre, i⟩ K = opt (((pv s x).bind (unA op)).map (putT s d)) K := ex_opt _ _
theorem step_iface (d : Option Nat) (t : TypeId) (x : Operand) (g : Option (Nat × Bool)) (pre : List Nat) (i : Inf) : execA P its s ⟨d, .makeInterface t x, g, pre, i⟩ K = opt ((valA s (.makeInterface t x) i).map (putT s d)) K := ex_opt _ _
theorem step_extract (d : Option Nat) (x : Operand) (k : Nat) (g : Option (Nat × Bool)) (pre : List Nat) (i : Inf) : execA P its s ⟨d, .extract x k, g, pre, i⟩ K = opt ((valA s (.extract x k) i).map (putT s d)) K := ex_opt _ _
theorem step_func (d : Option Nat) (f : Fn) (fs xs : Array Operand) (g : Option (Nat × Bool)) (pre : List Nat) (i : Inf) : execA P its s ⟨d, .makeFunc f fs xs, g, pre, i⟩ K = opt ((valA s (.makeFunc f fs xs) i).map (putT s d)) K := ex_opt _ _
theorem step_build (d : Option Nat) (t : TypeId) (parts : Array (Nat × Operand)) (g : Option (Nat × Bool)) (pre : List Nat) (i : Inf) : execA P its s ⟨d, .build t parts, g, pre, i⟩ K = opt ((valA s (.build t parts) i).map (putT s d)) K := ex_opt _ _
theorem step_slice (d : Option Nat) (t : TypeId) (x : Operand) (lo hi mx : Option Operand) (g : Option (Nat × Bool)) (pre : List Nat) (i : Inf) : execA P its s ⟨d, .slice t x lo hi mx, g, pre, i⟩ K = opt ((valA s (.slice t x lo hi mx) i).map (putT s d)) K := ex_opt _ _
theorem step_convert (d : Option Nat) (t u : TypeId) (x : Operand) (g : Option (Nat × Bool)) (pre : List Nat) (i : Inf) : execA P its s ⟨d, .convert t u x, g, pre, i⟩ K = opt ((valA s (.convert t u x) i).map (putT s d)) K := ex_opt _ _
theorem step_alloc (d : Option Nat) (t : TypeId) (g : Option (Nat × Bool)) (pre : List Nat) (i : Inf) : execA P its s ⟨d, .alloc t, g, pre, i⟩ K = opt (stepA s d (.alloc t) i) K := ex_opt _ _
theorem step_box (d : Option Nat) (t : TypeId) (x : Operand) (g : Option (Nat × Bool)) (pre : List Nat) (i : Inf) : execA P its s ⟨d, .box t x, g, pre, i⟩ K = opt (stepA s d (.box t x) i) K := ex_opt _ _
theorem step_makeSlice (d : Option Nat) (t : TypeId) (l c : Operand) (g : Option (Nat × Bool)) (pre : List Nat) (i : Inf) : execA P its s ⟨d, .makeSlice t l c, g, pre, i⟩ K = opt (stepA s d (.makeSlice t l c) i) K := ex_opt _ _
theorem step_store (d : Option Nat) (t : TypeId) (x y : Operand) (g : Option (Nat × Bool)) (pre : List Nat) (i : Inf) : execA P its s ⟨d, .store t x y, g, pre, i⟩ K = opt (stepA s d (.store t x y) i) K := ex_opt _ _
theorem step_buildSlice (d : Option Nat) (t : TypeId) (n : Nat) (parts : Array (Nat × Operand)) (g : Option (Nat × Bool)) (pre : List Nat) (i : Inf) : execA P its s ⟨d, .buildSlice t n parts, g, pre, i⟩ K = opt (stepA s d (.buildSlice t n parts) i) K := ex_opt _ _

/-- A call of a function of the program's, whose contract is known. -/
theorem call_fn {d : Option Nat} {f : Operand} {xs : Array Operand} {ts : Array TypeId} {k : Nat} {caps ps ys : List PV} {r : PV} (hf : ev s f = some (.v (.fn (.func k) caps))) (hp : pvs s xs.toList = some ps) (ha : ps ++ caps = ys) (hOk : Ok P k ys r)
    (hK : K (putT s d (.v r))) : callA P its s d ⟨.value f, xs, ts⟩ K := by
  unfold callA
  subst ha
  simp only [hf, hp]
  exact ⟨r, hOk, hK⟩
theorem call_meth {d : Option Nat} {f : Operand} {n : String} {xs : Array Operand} {ts : Array TypeId} {t k : Nat} {x : PV} {ps : List PV} {r : PV} (hf : ev s f = some (.v (.ifc t x))) (hp : pvs s xs.toList = some ps) (hM : Meth P t n k) (hOk : Ok P k (x :: ps) r)
    (hK : K (putT s d (.v r))) : callA P its s d ⟨.invoke f n, xs, ts⟩ K := by
  unfold callA
  simp only [hf, hp]
  exact ⟨k, r, hM, hOk, hK⟩

theorem range0 : List.range 0 = [] := rfl
theorem range1 : List.range 1 = [0] := rfl
theorem range2 : List.range 2 = [0, 1] := rfl
theorem range3 : List.range 3 = [0, 1, 2] := rfl
theorem range4 : List.range 4 = [0, 1, 2, 3] := rfl
theorem one_int (k : IntKind) (n : Int) : (Value.int k n).oneCell' = true := rfl
theorem one_bool (b : Bool) : (Value.bool b).oneCell' = true := rfl
theorem one_slice (b : Option Addr) (n c : Nat) : (Value.slice b n c).oneCell' = true := rfl

theorem call_yield {d : Option Nat} {f : Operand} {xs : Array Operand} {ts : Array TypeId} {l : Nat} {items : List (List PV)} {ps : List PV} (hf : ev s f = some (.v (.fn (.yield l) []))) (hp : pvs s xs.toList = some ps) (hb : s.bx = []) (ht : s.tk = [])
    (hx : items[s.it]? = some ps) (h1 : K { putT s d (bl true) with it := s.it + 1 }) (h2 : K { putT s d (bl false) with it := items.length + 1 }) : callA P (some (l, items)) s d ⟨.value f, xs, ts⟩ K := by
  unfold callA
  simp only [hf, hp]
  exact ⟨trivial, hb, ht, hx, h1, h2⟩

/-! ### A loop over an iterator -/
/-- Behind the operations that lay a round's values. -/
def rfK (P : Program) (y : AC) (Q' : XA → St → Prop) : XA → St → Prop := fun e s2 => match e with | .normal => wpA P none y Q' s2 | _ => False
/-- Behind a round. -/
def roundK (g : List Gh) (R : St → Prop) (Q : XA → St → Prop) : XA → St → Prop := fun e s' => match e with
  | .normal => ∃ s1, ghs g (betw s') = some s1 ∧ R s1
  | .ret => Q .ret (leaveR s')
  | .exit id => Q (.exit id) (leaveR s')
theorem rfK_normal (y : AC) : rfK P y Q .normal s = wpA P none y Q s := rfl
theorem roundK_normal (g : List Gh) (R : St → Prop) : roundK g R Q .normal s = opt (ghs g (betw s)) R := ex_opt _ _
theorem roundK_ret (g : List Gh) (R : St → Prop) : roundK g R Q .ret s = Q .ret (leaveR s) := rfl
theorem roundK_exit (g : List Gh) (R : St → Prop) (id : Nat) : roundK g R Q (.exit id) s = Q (.exit id) (leaveR s) := rfl
theorem rounds_of {g : List Gh} {ps : List Nat} {a b : AC} (Inv : Nat → St → Prop) {items : List (List PV)}
    (hr : ∀ (i : Nat) (x : List PV) (s' : St) (R : St → Prop), items[i]? = some x → Inv i s' → (∀ s1, Inv (i + 1) s1 → R s1) → x.length = ps.length ∧ wpA P none a (rfK P b (roundK g R Q)) (enterR ps x s'))
    (hq : ∀ s', Inv items.length s' → Q .normal (leaveR s')) :
    ∀ (rest : List (List PV)) (i : Nat) (s' : St), items.drop i = rest → i + rest.length = items.length → Inv i s' →
      Rounds g ps (fun Q' s' => wpA P none a (fun e s2 => match e with | .normal => wpA P none b Q' s2 | _ => False) s') Q rest s' := by
  intro rest
  induction rest with
  | nil =>
    intro i s' hd hl hi
    have : i = items.length := by simpa using hl
    subst this
    exact hq _ hi
  | cons x xs ih =>
    intro i s' hd hl hi
    have hx : items[i]? = some x := by
      have := congrArg (·[0]?) hd
      simpa using this
    have hd' : items.drop (i + 1) = xs := by
      have := congrArg List.tail hd
      simpa using this
    obtain ⟨h1, h2⟩ := hr i x s' (Rounds g ps (fun Q' s' => wpA P none a (fun e s2 => match e with | .normal => wpA P none b Q' s2 | _ => False) s') Q xs) hx hi
      (fun s1 h => ih (i + 1) s1 hd' (by simp only [List.length_cons] at hl; omega) h)
    exact ⟨h1, h2⟩
theorem wp_rf {f : Operand} {ps : Array Nat} {g : List Gh} {a b : Hint} {x y : Code} {p : PV} {items : List (List PV)} (hf : ev s f = some (.v p)) (hI : IterOk P p items) (Inv : Nat → St → Prop)
    (h0 : opt (ghs g (betw { s with sv := s.tm :: s.sv })) (Inv 0))
    (hr : ∀ (i : Nat) (x' : List PV) (s' : St) (R : St → Prop), items[i]? = some x' → Inv i s' → (∀ s1, Inv (i + 1) s1 → R s1) → x'.length = ps.toList.length ∧ wpA P none (acOf a x) (rfK P (acOf b y) (roundK g R Q)) (enterR ps.toList x' s'))
    (hq : ∀ s', Inv items.length s' → Q .normal (leaveR s')) :
    wpA P none (acOf (.f g a b) (.rangeFunc f ps x y)) Q s := by
  cases hg : ghs g (betw { s with sv := s.tm :: s.sv }) with
  | none => rw [hg] at h0; exact h0.elim
  | some s1 =>
    rw [hg] at h0
    exact ⟨items, p, s1, rfl, hf, hI, hg, rounds_of Inv hr hq items 0 s1 (by simp) (by simp) h0⟩
/-- The same; what is told may name the slots as the loop began. -/
theorem wp_rf' {tm : List TV} {bx : List (Nat × List TV)} {ro : List (Nat × List PV)} {tk : List (Nat × Nat)} {sv : List (List TV)} {it : Nat} {f : Operand} {ps : Array Nat} {g : List Gh} {a b : Hint} {x y : Code} {p : PV} {items : List (List PV)} (hf : ev ⟨tm, bx, ro, tk, sv, it⟩ f = some (.v p)) (hI : IterOk P p items)
    (Inv : List (List TV) → Nat → St → Prop) (h0 : opt (ghs g ⟨[], bx, ro, tk, tm :: sv, it⟩) (Inv (tm :: sv) 0))
    (hr : ∀ (i : Nat) (x' : List PV) (s' : St) (R : St → Prop), items[i]? = some x' → Inv (tm :: sv) i s' → (∀ s1, Inv (tm :: sv) (i + 1) s1 → R s1) → x'.length = ps.toList.length ∧ wpA P none (acOf a x) (rfK P (acOf b y) (roundK g R Q)) (enterR ps.toList x' s'))
    (hq : ∀ s', Inv (tm :: sv) items.length s' → Q .normal (leaveR s')) :
    wpA P none (acOf (.f g a b) (.rangeFunc f ps x y)) Q ⟨tm, bx, ro, tk, sv, it⟩ := wp_rf hf hI (Inv (tm :: sv)) h0 hr hq
theorem enterR_mk {tm : List TV} {bx : List (Nat × List TV)} {ro : List (Nat × List PV)} {tk : List (Nat × Nat)} {v : List TV} {sv : List (List TV)} {it : Nat} (ps : List Nat) (x : List PV) : enterR ps x ⟨tm, bx, ro, tk, v :: sv, it⟩ = ⟨setPs ps x v, bx, ro, tk, v :: sv, it⟩ := rfl
theorem leaveR_mk {tm : List TV} {bx : List (Nat × List TV)} {ro : List (Nat × List PV)} {tk : List (Nat × Nat)} {v : List TV} {sv : List (List TV)} {it : Nat} : leaveR ⟨tm, bx, ro, tk, v :: sv, it⟩ = ⟨v, bx, ro, tk, sv, it⟩ := rfl
theorem betw_mk {tm : List TV} {bx : List (Nat × List TV)} {ro : List (Nat × List PV)} {tk : List (Nat × Nat)} {sv : List (List TV)} {it : Nat} : betw ⟨tm, bx, ro, tk, sv, it⟩ = ⟨[], bx, ro, tk, sv, it⟩ := rfl

/-! ### States, by their parts -/
variable {tm : List TV} {bx : List (Nat × List TV)} {ro : List (Nat × List PV)} {tk : List (Nat × Nat)} {sv : List (List TV)} {it : Nat}
theorem ev_tmp (n : Nat) : ev ⟨tm, bx, ro, tk, sv, it⟩ (.tmp n) = tm[n]? := rfl
theorem ev_const (v : Value) : ev s (.const v) = some (.v (.s v)) := rfl
theorem ev_func (f : FuncId) : ev s (.func f) = some (.v (.fn (.func f) [])) := rfl
theorem putT_some (d : Nat) (t : TV) : putT ⟨tm, bx, ro, tk, sv, it⟩ (some d) t = ⟨tm.set d t, bx, ro, tk, sv, it⟩ := rfl
theorem putT_none (t : TV) : putT s none t = s := rfl
theorem pv_eq (x : Operand) : pv s x = (ev s x).bind tov := rfl
theorem st_tm : (St.mk tm bx ro tk sv it).tm = tm := rfl
end
end Go.Proofs.YtipchjfcjbghnaaGreat.A

/- From a law's arguments, as the row tells them, to what is known of them; from a contract to the row's end. -/
set_option linter.unusedVariables false
set_option linter.unusedSimpArgs false
namespace Go.Proofs.YtipchjfcjbghnaaGreat.A
open Go Go.RowKit Go.Shelf Go.ChangeShapes Go.WideShapes Go.ChangeAt

/-- All that lies there, is known. -/
def allI (w : World) : Imm := fun b => match w.heap[b]? with | some (.cells cs _ _) => some cs.toList | _ => none
theorem good_all (w : World) : Good (allI w) w := fun b arr h => by
  unfold allI at h
  split at h
  · rename_i cs ty fz hw
    cases h
    exact ⟨cs, ty, fz, [], hw, by simp⟩
  · cases h

theorem flat_ints (k : IntKind) (zs : List Int) : flat (zs.map fun n => PV.s (.int k n)) = zs.map fun n => PV.s (.int k n) := by
  induction zs with
  | nil => rfl
  | cons z zs ih =>
    simp only [flat, List.map_cons, List.flatMap_cons] at ih ⊢
    rw [ih]
    rfl
theorem cs_ints (I : Imm) (k : IntKind) (zs : List Int) : Cs I (zs.map fun n => PV.s (.int k n)) (zs.map (Value.int k)) := by
  induction zs with
  | nil => exact .nil
  | cons z zs ih => exact .cons (.s _) ih

theorem row_C {W : World} {x : Addr} {len cap : Nat} {k : IntKind} {zs : List Int} (hl : len ≤ cap) (hz : zs.length = cap) (hcell : ∀ i, i < zs.length → W.cell? (x.add i) = some (.int k (zs.getD i 0))) :
    C (allI W) (.sl false ((zs.take len).map fun n => .s (.int k n))) (.slice (some x) len cap) := by
  by_cases h0 : cap = 0
  · subst h0
    have : len = 0 := by omega
    subst this
    simpa using (C.sle (I := allI W) (a := x))
  · obtain ⟨b, off, rfl, hat⟩ := ints_at hcell (by omega)
    have hb := hat 0 (by omega)
    unfold World.cell? at hb
    cases hw : W.heap[b]? with
    | none => rw [hw] at hb; cases hb
    | some o =>
      cases o with
      | cells cs ty fz =>
        have hI : allI W b = some cs.toList := by simp [allI, hw]
        have hget : ∀ j, j < zs.length → cs.toList[off + j]? = some (.int k (zs.getD j 0)) := fun j hj => by
          have := hat j hj
          simp only [World.cell?, hw] at this
          simpa using this
        have hlen : off + cap ≤ cs.toList.length := by
          have := hget (cap - 1) (by omega)
          have := (List.getElem?_eq_some_iff.1 this).1
          omega
        have htake : (cs.toList.drop off).take len = (zs.take len).map (Value.int k) := by
          apply List.ext_getElem?
          intro j
          by_cases hj : j < len
          · rw [List.getElem?_take_of_lt hj, List.getElem?_drop, hget j (by omega), List.getElem?_map, List.getElem?_take_of_lt hj, List.getElem?_eq_getElem (show j < zs.length by omega)]
            simp [List.getElem?_eq_getElem (show j < zs.length by omega)]
          · rw [List.getElem?_eq_none (by simp; omega), List.getElem?_eq_none (by simp; omega)]
        have hfl : (flat ((zs.take len).map fun n => PV.s (.int k n))).length = len := by
          rw [flat_ints]; simp; omega
        refine C.sl (sz := 1) hI (fun e he => ?_) (by simp; omega) ?_ (by rw [hfl]; omega) hl (fun h => by cases h)
        · obtain ⟨n, _, rfl⟩ := List.mem_map.1 he
          rfl
        · rw [hfl, flat_ints, htake]
          exact cs_ints _ _ _
      | _ => rw [hw] at hb; cases hb

/-- A slice of whole numbers that comes in. -/
theorem row_ints {H : Type} {enc : TypeId × Value → H} {P : Program} {W : World} {base : Nat} {held : Bool} {t e : TypeId} {k : IntKind} {a : Option Addr} {len cap : Nat} {d : DataW H} {ps : List MemPlace}
    (ht : P.underlying t = some (.slice e)) (he : P.underlying e = some (.int k)) (hc : P.cellsOf e = 1) (h : DataW.Trod enc P W base (fun _ => true) held t (.slice a len cap) d ps) :
    ∃ zs : List Int, zs.length = len ∧ (∀ n ∈ zs, (Lit.int k n).wf = true) ∧ C (allI W) (.sl false (zs.map fun n => .s (.int k n))) (.slice a len cap) := by
  obtain ⟨fuel, hf⟩ := h
  rcases open_ints ht he hc hf with ⟨hcs, _⟩ | ⟨x, l, c, zs, hcs, _, hl, hm, hz, _, hcell, hwz⟩
  · simp [Value.cells] at hcs
    obtain ⟨rfl, rfl, rfl⟩ := hcs
    exact ⟨[], rfl, by simp, .sl0⟩
  · simp [Value.cells] at hcs
    obtain ⟨rfl, rfl, rfl⟩ := hcs
    have hz' : zs.length = cap := by simpa using hz
    exact ⟨zs.take len, by simp; omega, fun n hn => hwz n (List.mem_of_mem_take hn), row_C hl hz' hcell⟩

theorem cs_junk (I : Imm) : ∀ (vs : List Value), Cs I (List.replicate vs.length .junk) vs
  | [] => .nil
  | v :: vs => .cons (.junk v) (cs_junk I vs)
theorem flat_junk (n sz : Nat) : flat (List.replicate n (.agg (List.replicate sz .junk))) = List.replicate (n * sz) .junk := by
  induction n with
  | zero => simp [flat]
  | succ n ih =>
    have : flat (List.replicate (n + 1) (PV.agg (List.replicate sz .junk))) = List.replicate sz .junk ++ flat (List.replicate n (PV.agg (List.replicate sz .junk))) := by
      simp [List.replicate_succ, flat, PV.cells]
    rw [this, ih, List.replicate_append_replicate, Nat.add_mul, Nat.one_mul, Nat.add_comm]

/-- A slice of structs that comes in, of which nothing is asked but how many there are. -/
theorem row_any {H : Type} {enc : TypeId × Value → H} {P : Program} {W : World} {base : Nat} {held : Bool} {t e : TypeId} {sz : Nat} {a : Option Addr} {len cap : Nat} {d : DataW H} {ps : List MemPlace}
    (ht : P.underlying t = some (.slice e)) (hc : P.cellsOf e = sz) (hpos : 0 < sz) (h : DataW.Trod enc P W base (fun _ => true) held t (.slice a len cap) d ps) :
    C (allI W) (.sl false (List.replicate len (.agg (List.replicate sz .junk)))) (.slice a len cap) := by
  obtain ⟨fuel, hf⟩ := h
  rcases DataW.trod_slice ht hf with ⟨hcs, _⟩ | ⟨x, l, c, elems, rest, n, _, hcs, _, hb, hl, hm, hlen, hel, hsp, _⟩
  · simp [Value.cells] at hcs
    obtain ⟨rfl, rfl, rfl⟩ := hcs
    exact .sl0
  · simp [Value.cells] at hcs
    obtain ⟨rfl, rfl, rfl⟩ := hcs
    subst hc
    obtain ⟨hr1, hr2⟩ := hsp rfl
    have key : ∀ k, k < cap → ∃ cs, W.cells? base (x.add (k * P.cellsOf e)) (P.cellsOf e) = some cs := fun k hk => by
      by_cases h1 : k < len
      · have := hel k h1
        rw [List.getElem?_eq_getElem (by omega)] at this
        obtain ⟨cs, hcs, _⟩ := Option.bind_eq_some_iff.1 this
        exact ⟨cs, hcs⟩
      · have := hr2 (k - len) (by omega)
        rw [List.getElem?_eq_getElem (by omega), show len + (k - len) = k by omega] at this
        obtain ⟨cs, hcs, _⟩ := Option.bind_eq_some_iff.1 this
        exact ⟨cs, hcs⟩
    by_cases h0 : cap = 0
    · subst h0
      have : len = 0 := by omega
      subst this
      exact C.sle (I := allI W) (a := x)
    · have at_ : ∀ k, k < cap → ∀ j, j < P.cellsOf e → ∃ v, W.cell? (x.add (k * P.cellsOf e + j)) = some v := fun k hk j hj => by
        obtain ⟨cs, hcs⟩ := key k hk
        obtain ⟨_, h1, h2⟩ := World.cells?_some hcs
        have := h2 j hj
        rw [Addr.add_add, List.getElem?_eq_getElem (by omega)] at this
        exact ⟨_, this⟩
      obtain ⟨v0, hv0⟩ := at_ 0 (by omega) 0 hpos
      obtain ⟨b, off, spot⟩ := x
      have hspot : spot = none := by
        have : (⟨b, off, spot⟩ : Addr).add (0 * P.cellsOf e + 0) = ⟨b, off, spot⟩ := by simp [Addr.add]
        rw [this] at hv0
        exact World.cell?_spot hv0
      subst hspot
      have hcell : ∀ k, k < cap → ∀ j, j < P.cellsOf e → ∃ v, W.cell? ⟨b, off + (k * P.cellsOf e + j), none⟩ = some v := fun k hk j hj => by
        obtain ⟨v, hv⟩ := at_ k hk j hj
        rw [Go.WideShapes.add_plain] at hv
        exact ⟨v, hv⟩
      obtain ⟨v1, hv1⟩ := hcell 0 (by omega) 0 hpos
      unfold World.cell? at hv1
      cases hw : W.heap[b]? with
      | none => rw [hw] at hv1; cases hv1
      | some o =>
        cases o with
        | cells cs ty fz =>
          have hI : allI W b = some cs.toList := by simp [allI, hw]
          have hbig : off + cap * P.cellsOf e ≤ cs.toList.length := by
            obtain ⟨v, hv⟩ := hcell (cap - 1) (by omega) (P.cellsOf e - 1) (by omega)
            simp only [World.cell?, hw] at hv
            have := (Array.getElem?_eq_some_iff.1 (by simpa using hv)).1
            have e1 : cap * P.cellsOf e = (cap - 1) * P.cellsOf e + P.cellsOf e := by
              rw [← Nat.succ_mul]
              congr 1
              omega
            rw [Array.length_toList]
            omega
          have hfl : (flat (List.replicate len (PV.agg (List.replicate (P.cellsOf e) .junk)))).length = len * P.cellsOf e := by rw [flat_junk, List.length_replicate]
          have hle : len * P.cellsOf e ≤ cap * P.cellsOf e := Nat.mul_le_mul_right _ hl
          refine C.sl (sz := P.cellsOf e) hI (fun y hy => ?_) (by simp) ?_ (by rw [hfl]; omega) hl (fun h => by cases h)
          · rw [List.eq_of_mem_replicate hy]
            simp [PV.cells]
          · rw [hfl, flat_junk]
            have hlen2 : ((cs.toList.drop off).take (len * P.cellsOf e)).length = len * P.cellsOf e := by
              rw [List.length_take, List.length_drop]
              omega
            have := cs_junk (allI W) ((cs.toList.drop off).take (len * P.cellsOf e))
            rw [hlen2] at this
            exact this
        | _ => rw [hw] at hv1; cases hv1

theorem u8_of {n : Int} (h : (Lit.int .u8 n).wf = true) : 0 ≤ n ∧ n ≤ 255 := by
  simp only [Lit.wf, Bool.and_eq_true, decide_eq_true_eq] at h
  have h1 : IntKind.min .u8 = 0 := by decide
  have h2 : IntKind.max .u8 = 255 := by decide
  rw [h1, h2] at h
  exact h

/-- The row's end: the law says true, and nothing that was there has turned. -/
theorem ok_end {P : Program} {f : FuncId} {args : List PV} {W : World} {vs : List Value} (h : Ok P f args (.s (.bool true))) (hc : Cs (allI W) args vs) :
    Calls P f vs.toArray W fun e w' => e = .returned (.bool true) ∧ Below W.heap.size W w' :=
  (h.2 (allI W) W vs (good_all W) hc).mono fun e w' ⟨v, J, he, hb, _, _, _, hv⟩ => by
    cases hv
    exact ⟨he, hb⟩
end Go.Proofs.YtipchjfcjbghnaaGreat.A

/- Arguments of any shape (numbers, truths, slices and structs of these), read: 'shape' of a type, 'FitL' of what is told. -/
set_option linter.unusedVariables false
set_option linter.unusedSimpArgs false
namespace Go.Proofs.YtipchjfcjbghnaaGreat.A
open Go Go.RowKit Go.Shelf Go.ChangeShapes Go.WideShapes Go.ChangeAt

/-- What a cell is. -/
inductive CSh where
  | int (k : IntKind)
  | bool
  | str
  | sl (ag : Bool) (els : List CSh)

def offsOk (P : Program) : Nat → List Field → Option Nat
  | o, [] => some o
  | o, f :: fs => if f.offset = o then offsOk P (o + P.cellsOf f.type) fs else none

/-- The cells of a type. -/
def shape (P : Program) : Nat → TypeId → Option (List CSh)
  | 0, _ => none
  | m + 1, t => match P.underlying t with
    | some .bool => some [.bool]
    | some .string => some [.str]
    | some (.int k) => some [.int k]
    | some (.slice e) => (shape P m e).bind fun l => if l.length = P.cellsOf e ∧ 0 < l.length then some [.sl (match P.underlying e with | some (.struct _) => true | some (.array _ _) => true | _ => false) l] else none
    | some (.struct fs) => if offsOk P 0 fs.toList = some (P.cellsOf t) then (fs.toList.mapM fun f => (shape P m f.type).bind fun l => if l.length = P.cellsOf f.type then some l else none).map List.flatten else none
    | _ => none

def packE (ag : Bool) (cs : List PV) : PV := if ag then .agg cs else cs.headD .junk

mutual
def FitC : CSh → PV → Prop
  | .int k, x => ∃ n, x = .s (.int k n) ∧ (Lit.int k n).wf = true
  | .bool, x => ∃ b, x = .s (.bool b)
  | .str, x => ∃ s, x = .s (.string s)
  | .sl ag l, x => ∃ els, x = .sl false els ∧ ∀ e ∈ els, ∃ cs, e = packE ag cs ∧ FitL l cs
def FitL : List CSh → List PV → Prop
  | [], xs => xs = []
  | c :: l, xs => ∃ y ys, xs = y :: ys ∧ FitC c y ∧ FitL l ys
end

theorem FitC.one {c : CSh} {x : PV} (h : FitC c x) : x.one = true := by
  cases c with
  | int k => simp only [FitC] at h; obtain ⟨n, rfl, _⟩ := h; rfl
  | bool => simp only [FitC] at h; obtain ⟨n, rfl⟩ := h; rfl
  | str => simp only [FitC] at h; obtain ⟨n, rfl⟩ := h; rfl
  | sl ag l => simp only [FitC] at h; obtain ⟨n, rfl, _⟩ := h; rfl
theorem FitL.length : ∀ {l : List CSh} {xs : List PV}, FitL l xs → xs.length = l.length
  | [], xs, h => by simp only [FitL] at h; subst h; rfl
  | c :: l, xs, h => by
    simp only [FitL] at h
    obtain ⟨y, ys, rfl, _, h2⟩ := h
    simp [FitL.length h2]
theorem FitL.append : ∀ {l m : List CSh} {xs ys : List PV}, FitL l xs → FitL m ys → FitL (l ++ m) (xs ++ ys)
  | [], m, xs, ys, h, k => by simp only [FitL] at h; subst h; exact k
  | c :: l, m, xs, ys, h, k => by
    simp only [FitL] at h
    obtain ⟨z, zs, rfl, h1, h2⟩ := h
    simp only [List.cons_append, FitL]
    exact ⟨z, _, rfl, h1, FitL.append h2 k⟩
theorem packE_cells {ag : Bool} {l : List CSh} {cs : List PV} (hag : ag = false → l.length = 1) (h : FitL l cs) : (packE ag cs).cells = cs := by
  cases ag with
  | true => rfl
  | false =>
    have h1 := hag rfl
    match l, h1 with
    | [c], _ =>
      simp only [FitL] at h
      obtain ⟨y, ys, rfl, h2, rfl⟩ := h
      have := h2.one
      cases y <;> simp_all [packE, PV.cells, PV.one]

section
variable {H : Type} {enc : TypeId × Value → H} {P : Program} {W : World} {base : Nat} {held : Bool}

theorem struct_fit {n : Nat} {cs : List Value} (m : Nat)
    (ih : ∀ t sh, shape P m t = some sh → ∀ fuel cs y, DataW.trod enc P W base (fun _ => true) held fuel t cs = some y → ∃ xs, FitL sh xs ∧ Cs (allI W) xs cs) :
    ∀ (fs : List Field) (o : Nat) (ls : List (List CSh)) (ys : List (DataW H × List MemPlace)), offsOk P o fs = some cs.length → (fs.mapM fun f => (shape P m f.type).bind fun l => if l.length = P.cellsOf f.type then some l else none) = some ls →
      (∀ (i : Nat) (f : Field), fs[i]? = some f → DataW.trod enc P W base (fun _ => true) held n f.type ((cs.drop f.offset).take (P.cellsOf f.type)) = ys[i]?) → ys.length = fs.length → o ≤ cs.length → ∃ xs, FitL ls.flatten xs ∧ Cs (allI W) xs (cs.drop o)
  | [], o, ls, ys, ho, hl, hf, _, hoc => by
    simp only [offsOk, Option.some.injEq] at ho
    subst ho
    simp at hl
    subst hl
    exact ⟨[], rfl, by rw [List.drop_length]; exact .nil⟩
  | f :: fs, o, ls, ys, ho, hl, hf, hlen, hoc => by
    simp only [offsOk] at ho
    split at ho
    · rename_i hoff
      subst hoff
      simp only [List.mapM_cons, Option.bind_eq_bind, Option.pure_def] at hl
      obtain ⟨l1, h1, h2⟩ := Option.bind_eq_some_iff.1 hl
      obtain ⟨l2, h3, h4⟩ := Option.bind_eq_some_iff.1 h2
      cases h4
      obtain ⟨l1', k1, k2⟩ := Option.bind_eq_some_iff.1 h1
      split at k2
      · rename_i hlen1
        cases k2
        have h0 := hf 0 f rfl
        match ys, hlen with
        | y :: ys, hlen =>
          obtain ⟨xs, g1, g2⟩ := ih _ _ k1 _ _ _ h0
          have hx := g1.length
          have hc := g2.length
          have hmono : ∀ (fs : List Field) (o : Nat) (k : Nat), offsOk P o fs = some k → o ≤ k := by
            intro fs
            induction fs with
            | nil => intro o k h; simp only [offsOk, Option.some.injEq] at h; omega
            | cons f fs ih =>
              intro o k h
              simp only [offsOk] at h
              split at h
              · have := ih _ _ h; omega
              · cases h
          have hle := hmono _ _ _ ho
          obtain ⟨xs2, g3, g4⟩ := struct_fit m ih fs (f.offset + P.cellsOf f.type) l2 ys ho h3 (fun i f' hi => by simpa using hf (i + 1) f' (by simpa using hi)) (by simpa using hlen) hle
          refine ⟨xs ++ xs2, by rw [List.flatten_cons]; exact g1.append g3, ?_⟩
          have e : cs.drop f.offset = (cs.drop f.offset).take (P.cellsOf f.type) ++ cs.drop (f.offset + P.cellsOf f.type) := by
            rw [← List.drop_drop, List.take_append_drop]
          rw [e]
          exact g2.append g4
      · cases k2
    · cases ho

theorem flat_snoc (els : List PV) (e : PV) : flat (els ++ [e]) = flat els ++ e.cells := by simp [flat]

theorem trod_fit : ∀ (m : Nat) (t : TypeId) (sh : List CSh), shape P m t = some sh → ∀ (fuel : Nat) (cs : List Value) (y : DataW H × List MemPlace), DataW.trod enc P W base (fun _ => true) held fuel t cs = some y → ∃ xs, FitL sh xs ∧ Cs (allI W) xs cs
  | 0, t, sh, h, _, _, _, _ => by simp [shape] at h
  | m + 1, t, sh, h, fuel, cs, y, hy => by
    unfold shape at h
    split at h
    · rename_i ht
      cases h
      obtain ⟨b, rfl, _⟩ := DataW.trod_bool ht hy
      exact ⟨[.s (.bool b)], ⟨_, _, rfl, ⟨_, rfl⟩, rfl⟩, .cons (.s _) .nil⟩
    · rename_i ht
      cases h
      obtain ⟨s, rfl, _⟩ := DataW.trod_string ht hy
      exact ⟨[.s (.string s)], ⟨_, _, rfl, ⟨_, rfl⟩, rfl⟩, .cons (.s _) .nil⟩
    · rename_i k ht
      cases h
      obtain ⟨n, rfl, _, hw⟩ := DataW.trod_int ht hy
      exact ⟨[.s (.int k n)], ⟨_, _, rfl, ⟨_, rfl, hw⟩, rfl⟩, .cons (.s _) .nil⟩
    · rename_i e ht
      obtain ⟨l, hl, h2⟩ := Option.bind_eq_some_iff.1 h
      split at h2
      · rename_i hsz
        obtain ⟨hsz, hpos⟩ := hsz
        simp only [Option.some.injEq] at h2
        generalize hag : (match P.underlying e with | some (.struct _) => true | some (.array _ _) => true | _ => false) = ag at h2
        subst h2
        have hone : ag = false → l.length = 1 := by
          intro e1
          subst e1
          cases m with
          | zero => simp [shape] at hl
          | succ m =>
            unfold shape at hl
            split at hl <;> rename_i hu
            · cases hl; rfl
            · cases hl; rfl
            · cases hl; rfl
            · obtain ⟨l', _, h3⟩ := Option.bind_eq_some_iff.1 hl
              split at h3
              · cases h3; rfl
              · cases h3
            · rw [hu] at hag; cases hag
            · cases hl
        rcases DataW.trod_slice ht hy with ⟨rfl, _⟩ | ⟨x, len, cap, elems, rest, n, _, rfl, _, hb, hlc, hm, hlen, hel, hsp, _⟩
        · exact ⟨[.sl false []], ⟨_, _, rfl, ⟨[], rfl, by simp⟩, rfl⟩, .cons .sl0 .nil⟩
        · obtain ⟨hr1, hr2⟩ := hsp rfl
          have key : ∀ k, k < cap → ∃ cs y, W.cells? base (x.add (k * P.cellsOf e)) (P.cellsOf e) = some cs ∧ DataW.trod enc P W base (fun _ => true) held n e cs = some y := fun k hk => by
            by_cases h1 : k < len
            · have := hel k h1
              rw [List.getElem?_eq_getElem (by omega)] at this
              obtain ⟨cs, hcs, h3⟩ := Option.bind_eq_some_iff.1 this
              exact ⟨cs, _, hcs, h3⟩
            · have := hr2 (k - len) (by omega)
              rw [List.getElem?_eq_getElem (by omega), show len + (k - len) = k by omega] at this
              obtain ⟨cs, hcs, h3⟩ := Option.bind_eq_some_iff.1 this
              exact ⟨cs, _, hcs, h3⟩
          by_cases h0 : cap = 0
          · subst h0
            have : len = 0 := by omega
            subst this
            exact ⟨[.sl false []], ⟨_, _, rfl, ⟨[], rfl, by simp⟩, rfl⟩, .cons .sle .nil⟩
          · rw [hsz] at hpos
            have at_ : ∀ k, k < cap → ∀ j, j < P.cellsOf e → ∃ v, W.cell? (x.add (k * P.cellsOf e + j)) = some v := fun k hk j hj => by
              obtain ⟨cs, y, hcs, _⟩ := key k hk
              obtain ⟨_, h1, h2⟩ := World.cells?_some hcs
              have := h2 j hj
              rw [Addr.add_add, List.getElem?_eq_getElem (by omega)] at this
              exact ⟨_, this⟩
            obtain ⟨v0, hv0⟩ := at_ 0 (by omega) 0 hpos
            obtain ⟨b, off, spot⟩ := x
            have hspot : spot = none := by
              have : (⟨b, off, spot⟩ : Addr).add (0 * P.cellsOf e + 0) = ⟨b, off, spot⟩ := by simp [Addr.add]
              rw [this] at hv0
              exact World.cell?_spot hv0
            subst hspot
            have hcell : ∀ k, k < cap → ∃ cs y, DataW.trod enc P W base (fun _ => true) held n e cs = some y ∧ cs.length = P.cellsOf e ∧ ∀ j, j < P.cellsOf e → W.cell? ⟨b, off + (k * P.cellsOf e + j), none⟩ = cs[j]? := fun k hk => by
              obtain ⟨cs, y, hcs, hy⟩ := key k hk
              obtain ⟨_, h1, h2⟩ := World.cells?_some hcs
              refine ⟨cs, y, hy, h1, fun j hj => ?_⟩
              have := h2 j hj
              rw [Addr.add_add, Go.WideShapes.add_plain] at this
              exact this
            have hv1 := hv0
            have e0 : (⟨b, off, none⟩ : Addr).add (0 * P.cellsOf e + 0) = ⟨b, off, none⟩ := by simp [Addr.add]
            rw [e0] at hv1
            unfold World.cell? at hv1
            cases hw : W.heap[b]? with
            | none => rw [hw] at hv1; cases hv1
            | some o =>
              cases o with
              | cells arr ty fz =>
                have hI : allI W b = some arr.toList := by simp [allI, hw]
                have hget : ∀ k, k < cap → ∃ cs y, DataW.trod enc P W base (fun _ => true) held n e cs = some y ∧ cs.length = P.cellsOf e ∧ off + (k + 1) * P.cellsOf e ≤ arr.toList.length ∧ (arr.toList.drop (off + k * P.cellsOf e)).take (P.cellsOf e) = cs := fun k hk => by
                  obtain ⟨cs, y, h1, h2, h3⟩ := hcell k hk
                  have hin : ∀ j, j < P.cellsOf e → arr.toList[off + k * P.cellsOf e + j]? = cs[j]? := fun j hj => by
                    have := h3 j hj
                    simp only [World.cell?, hw] at this
                    rw [Nat.add_assoc]
                    simpa using this
                  have hlast := hin (P.cellsOf e - 1) (by omega)
                  rw [List.getElem?_eq_getElem (show P.cellsOf e - 1 < cs.length by omega)] at hlast
                  have hlt := (List.getElem?_eq_some_iff.1 hlast).1
                  refine ⟨cs, y, h1, h2, by rw [Nat.add_mul]; omega, ?_⟩
                  apply List.ext_getElem?
                  intro j
                  by_cases hj : j < P.cellsOf e
                  · rw [List.getElem?_take_of_lt hj, List.getElem?_drop]
                    exact hin j hj
                  · rw [List.getElem?_eq_none (by simp; omega), List.getElem?_eq_none (by omega)]
                have rows : ∀ k, k ≤ len → ∃ els : List PV, els.length = k ∧ (∀ q ∈ els, ∃ cs, q = packE ag cs ∧ FitL l cs) ∧ (∀ q ∈ els, q.cells.length = P.cellsOf e) ∧ (flat els).length = k * P.cellsOf e ∧ Cs (allI W) (flat els) ((arr.toList.drop off).take (k * P.cellsOf e)) := by
                  intro k
                  induction k with
                  | zero => exact fun _ => ⟨[], rfl, by simp, by simp, by simp [flat], by simp [flat]; exact .nil⟩
                  | succ k ihk =>
                    intro hk
                    obtain ⟨els, q1, q2, q3, q4, q5⟩ := ihk (by omega)
                    obtain ⟨cs, y, h1, h2, h3, h4⟩ := hget k (by omega)
                    obtain ⟨xs, g1, g2⟩ := trod_fit m e l hl n cs y h1
                    have hcx := packE_cells hone g1
                    have hxl := g1.length
                    refine ⟨els ++ [packE ag xs], by simp [q1], ?_, ?_, ?_, ?_⟩
                    · intro q hq
                      rcases List.mem_append.1 hq with hq | hq
                      · exact q2 q hq
                      · rw [List.mem_singleton.1 hq]; exact ⟨xs, rfl, g1⟩
                    · intro q hq
                      rcases List.mem_append.1 hq with hq | hq
                      · exact q3 q hq
                      · rw [List.mem_singleton.1 hq, hcx, hxl, hsz]
                    · rw [flat_snoc, List.length_append, q4, hcx, hxl, hsz, Nat.add_mul, Nat.one_mul]
                    · rw [flat_snoc, hcx, Nat.add_mul, Nat.one_mul, List.take_add, List.drop_drop, h4]
                      exact q5.append g2
                obtain ⟨els, q1, q2, q3, q4, q5⟩ := rows len (Nat.le_refl _)
                refine ⟨[.sl false els], ⟨_, _, rfl, ⟨els, rfl, q2⟩, rfl⟩, .cons (.sl hI q3 q1.symm (by rw [q4]; exact q5) ?_ hlc (fun h => by cases h)) .nil⟩
                rw [q4]
                obtain ⟨_, _, _, _, h3, _⟩ := hget (cap - 1) (by omega)
                have e1 : (cap - 1 + 1) * P.cellsOf e = cap * P.cellsOf e := by rw [Nat.sub_add_cancel (by omega)]
                rw [e1] at h3
                have := Nat.mul_le_mul_right (P.cellsOf e) hlc
                omega
              | _ => rw [hw] at hv1; cases hv1
      · cases h2
    · rename_i fs ht
      split at h
      · rename_i hoffs
        obtain ⟨ls, h1, rfl⟩ := Option.map_eq_some_iff.1 h
        obtain ⟨xs, n, _, _, hl, hlen, hf⟩ := DataW.trod_struct ht hy
        obtain ⟨zs, k1, k2⟩ := struct_fit (n := n) (cs := cs) m (trod_fit m) fs.toList 0 ls xs (by rw [hl]; exact hoffs) h1 (fun i f hi => hf i f (by simpa using hi)) (by simpa using hlen) (Nat.zero_le _)
        exact ⟨zs, k1, by simpa using k2⟩
      · cases h
    · cases h

/-- A struct that comes in. -/
theorem row_agg {t : TypeId} {fs : Array Field} {sh : List CSh} {v : Value} {d : DataW H} {ps : List MemPlace} {r : Reach} {b0 : Nat}
    (m : Nat) (ht : P.underlying t = some (.struct fs)) (hs : shape P m t = some sh) (hv : Value.okWide P W r b0 t v) (h : DataW.Trod enc P W base (fun _ => true) held t v d ps) :
    ∃ xs, FitL sh xs ∧ C (allI W) (.agg xs) v := by
  obtain ⟨fuel, hf⟩ := h
  obtain ⟨xs, h1, h2⟩ := trod_fit m t sh hs _ _ _ hf
  obtain ⟨cs, rfl, _⟩ := okWide_struct ht hv
  exact ⟨xs, h1, .agg (by simpa [Value.cells] using h2)⟩
/-- A slice that comes in. -/
theorem row_slice {t e : TypeId} {c : CSh} {v : Value} {d : DataW H} {ps : List MemPlace} {r : Reach} {b0 : Nat}
    (m : Nat) (ht : P.underlying t = some (.slice e)) (hs : shape P m t = some [c]) (hv : Value.okWide P W r b0 t v) (h : DataW.Trod enc P W base (fun _ => true) held t v d ps) :
    ∃ x, FitC c x ∧ C (allI W) x v := by
  obtain ⟨fuel, hf⟩ := h
  obtain ⟨xs, h1, h2⟩ := trod_fit m t _ hs _ _ _ hf
  obtain ⟨a, len, cap, rfl⟩ := okWide_slice ht hv
  simp only [FitL] at h1
  obtain ⟨y, ys, rfl, h3, rfl⟩ := h1
  simp only [Value.cells] at h2
  cases h2 with
  | cons h4 h5 => exact ⟨y, h3, h4⟩

/-- A list of things that are all of one form. -/
theorem map_of_all {α : Type} {f : α → PV} {p : α → Prop} : ∀ {l : List PV}, (∀ e ∈ l, ∃ a, e = f a ∧ p a) → ∃ us : List α, l = us.map f ∧ ∀ a ∈ us, p a
  | [], _ => ⟨[], rfl, by simp⟩
  | x :: l, h => by
    obtain ⟨a, rfl, ha⟩ := h x (by simp)
    obtain ⟨us, rfl, has⟩ := map_of_all fun e he => h e (List.mem_cons_of_mem _ he)
    refine ⟨a :: us, rfl, ?_⟩
    intro b hb
    rcases List.mem_cons.1 hb with rfl | hb
    · exact ha
    · exact has b hb
theorem FitC.ints {k : IntKind} {x : PV} (h : FitC (.sl false [.int k]) x) : ∃ zs : List Int, x = .sl false (zs.map fun n => .s (.int k n)) ∧ ∀ n ∈ zs, (Lit.int k n).wf = true := by
  simp only [FitC, FitL] at h
  obtain ⟨els, rfl, h⟩ := h
  obtain ⟨zs, rfl, h2⟩ := map_of_all (f := fun n => PV.s (.int k n)) (p := fun n => (Lit.int k n).wf = true) (l := els) (fun e he => by
    obtain ⟨cs, rfl, y, ys, rfl, ⟨n, rfl, hn⟩, rfl⟩ := h e he
    exact ⟨n, rfl, hn⟩)
  exact ⟨zs, rfl, h2⟩
end
end Go.Proofs.YtipchjfcjbghnaaGreat.A

