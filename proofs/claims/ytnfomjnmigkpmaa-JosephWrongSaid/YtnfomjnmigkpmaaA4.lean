/- Rows that the call appends to: a new one, one that moves, one that grows where it lies. -/
import Derived.Test.YtnfomjnmigkpmaaA3
set_option linter.unusedVariables false
set_option linter.unusedSimpArgs false
namespace Go.Proofs.Ytnfomjnmigkpmaa.A
open Go Go.RowKit

theorem flat_length {els : List PV} {sz : Nat} (h : ∀ e ∈ els, e.cells.length = sz) : (flat els).length = els.length * sz := by
  induction els with
  | nil => simp [flat]
  | cons e es ih =>
    have h1 := h e (by simp)
    have h2 := ih (fun x hx => h x (by simp [hx]))
    simp only [flat, List.flatMap_cons, List.length_append, List.length_cons] at h2 ⊢
    rw [h1, h2, Nat.succ_mul]
    omega

theorem flat_append (xs ys : List PV) : flat (xs ++ ys) = flat xs ++ flat ys := by simp [flat]

def St.newTok (t : Nat) (s : St) : St := { s.mapTV (TV.killTok t) with tk := upd t 0 s.tk }

section
variable {w0 w w' : World} {I0 I J : Imm} {β : Nat → Nat} {κ : Nat → Nat × Nat × Nat} {s : St} {sav : List (Array Value)} {a : Act}

theorem R.killTok {tk : List (Nat × Nat)} (t : Nat) (x : TV) (u : Value) (h : R I β κ (tkOf tk) x u) : R I β κ (tkOf (upd t 0 tk)) (x.killTok t) u := by
  cases x with
  | v x => cases h with | v hx => exact .v hx
  | ptr b off => cases h; exact .ptr
  | own b n => cases h; exact .own
  | acc t' els =>
    simp only [TV.killTok]
    by_cases e : t' = t
    · rw [if_pos e]; exact .v h.toC
    · rw [if_neg e]
      cases h with
      | acc0 => exact .acc0
      | acc h1 h2 h3 h4 h5 h6 => exact .acc h1 h2 h3 h4 (by rw [tkOf_upd, if_neg e]; exact h5) (by rw [tkOf_upd, if_neg e]; exact h6)

theorem Sim.newTok (h : Sim w0 I0 I β κ s sav a w) (t : Nat) : Sim w0 I0 I β κ (s.newTok t) sav a w where
  below := h.below
  good := h.good
  ext := h.ext
  old := h.old
  tm := h.tm.map fun x u k => k.killTok t
  sv := h.sv.map fun x u k => k.killTok t
  box := fun b cells hc => by
    simp only [St.newTok, St.mapTV, lk_map, Option.map_eq_some_iff] at hc
    obtain ⟨c, hc, rfl⟩ := hc
    obtain ⟨h1, h2, cs, ty, h3, h4⟩ := h.box b c hc
    exact ⟨h1, h2, cs, ty, h3, h4.1.map fun x u k => k.killTok t, h4.2⟩
  rob := h.rob
  inj := fun b b' c c' hc hc' hβ => by
    simp only [St.newTok, St.mapTV, lk_map, Option.map_eq_some_iff] at hc hc'
    obtain ⟨c1, hc, _⟩ := hc
    obtain ⟨c2, hc', _⟩ := hc'
    exact h.inj _ _ _ _ hc hc' hβ
  tok := fun t' ht => by
    simp only [St.newTok, tkOf_upd] at ht ⊢
    by_cases e : t' = t
    · simp [e] at ht
    · simp only [e, if_false] at ht ⊢
      exact h.tok t' ht
  tinj := fun t1 t2 h1 h2 hκ => by
    simp only [St.newTok, tkOf_upd] at h1 h2
    by_cases e1 : t1 = t
    · simp [e1] at h1
    · by_cases e2 : t2 = t
      · simp [e2] at h2
      · simp only [e1, e2, if_false] at h1 h2
        exact h.tinj _ _ h1 h2 hκ
  dfr := h.dfr

/-- What held of slots holds when row t has become longer. -/
theorem R.longer {tk : List (Nat × Nat)} {t n : Nat} {p : Nat × Nat × Nat} (hIJ : I.le J) (hn : tkOf tk t < n) (x : TV) (u : Value) (h : R I β κ (tkOf tk) x u) :
    R J β (fun j => if j = t then p else κ j) (tkOf (upd t n tk)) x u := by
  cases h with
  | v hx => exact .v (hx.mono hIJ)
  | ptr => exact .ptr
  | own => exact .own
  | acc0 => exact .acc0
  | @acc t' els c m cap sz h1 h2 h3 h4 h5 h6 =>
    by_cases e : t' = t
    · subst e
      exact .acc h1 h2 h3 (h4.mono hIJ) (by rw [tkOf_upd, if_pos rfl]; omega) (fun e => by rw [tkOf_upd, if_pos rfl] at e; omega)
    · exact .acc h1 h2 h3 (h4.mono hIJ) (by rw [tkOf_upd, if_neg e]; exact h5) (fun e' => by rw [tkOf_upd, if_neg e] at e'; simpa [e] using h6 e')

theorem id_map (l : List (List TV)) : (l.map fun x => x.map id) = l := by simp

/-- A row in a new block. -/
theorem Sim.ownNew (h : Sim w0 I0 I β κ s sav a w) (t n cap sz : Nat) (els : List PV) (cs : Array Value) (ty : TypeId) (hn : n = els.length) (ht : tkOf s.tk t < n) (hcs : cs.size = cap * sz) (hcap : n ≤ cap)
    (hu : ∀ e ∈ els, e.cells.length = sz) (hc : Cs I (flat els) (cs.toList.take (flat els).length)) (hone : ∀ v ∈ cs.toList.take (n * sz), v.oneCell' = true) :
    ∃ J κ', I.le J ∧ Sim w0 I0 J β κ' { s with tk := upd t n s.tk } sav a (w.alloc (.cells cs ty)) ∧
      R J β κ' (tkOf (upd t n s.tk)) (.acc t els) (.slice (some ⟨w.heap.size, 0, none⟩) n cap) := by
  have hfl := flat_length hu
  have hnone : I w.heap.size = none := Imm.none_new h.good (Nat.le_refl _)
  have hle : n * sz ≤ cs.toList.length := by rw [Array.length_toList, hcs]; exact Nat.mul_le_mul_right _ hcap
  have hIJ : I.le (fun k => if k = w.heap.size then some (cs.toList.take (n * sz)) else I k) := fun k arr hk => by
    by_cases e : k = w.heap.size
    · rw [e, hnone] at hk; cases hk
    · exact ⟨[], by simp [e, hk]⟩
  have hnew : (w.alloc (.cells cs ty)).heap[w.heap.size]? = some (.cells cs ty (0, 0)) := World.alloc_heap_new w _
  have hg : Good (fun k => if k = w.heap.size then some (cs.toList.take (n * sz)) else I k) (w.alloc (.cells cs ty)) := fun k arr hk => by
    by_cases e : k = w.heap.size
    · simp only [e, if_true, Option.some.injEq] at hk
      subst hk
      exact ⟨cs, ty, (0, 0), cs.toList.drop (n * sz), by rw [e]; exact hnew, (List.take_append_drop _ _).symm⟩
    · simp only [e, if_false] at hk
      exact (h.good.below ((Below.refl _ w).alloc (Nat.le_refl _) _)) k arr hk
  have h0 := h.grow (J := fun k => if k = w.heap.size then some (cs.toList.take (n * sz)) else I k) ((Below.refl _ w).alloc (Nat.le_refl _) (.cells cs ty)) hIJ
    (fun b hb => by have : b ≠ w.heap.size := by omega
                    simp [this]) hg
  have hrow : RowAt (fun k => if k = w.heap.size then some (cs.toList.take (n * sz)) else I k) w.heap.size sz els :=
    ⟨cs.toList.take (n * sz), by simp, hu, by rw [hfl, ← hn, List.take_take, Nat.min_self]; rw [hfl, ← hn] at hc; exact hc.mono hIJ, by rw [hfl, ← hn, List.length_take]; omega⟩
  have hmap : ∀ x u, R I β κ (tkOf s.tk) x u → R (fun k => if k = w.heap.size then some (cs.toList.take (n * sz)) else I k) β (fun j => if j = t then (w.heap.size, cap, sz) else κ j) (tkOf (upd t n s.tk)) (id x) u :=
    fun x u k => k.longer hIJ ht
  refine ⟨_, fun j => if j = t then (w.heap.size, cap, sz) else κ j, hIJ, ?_, .acc (by intro e; subst e; simp at hn; omega) hn hcap hrow (by rw [tkOf_upd, if_pos rfl]; exact Nat.le_refl _) (fun _ => by simp)⟩
  exact
    { below := h0.below
      good := h0.good
      ext := h0.ext
      old := h0.old
      tm := by have := h.tm.map hmap; rwa [List.map_id] at this
      sv := by have := h.sv.map hmap; rwa [id_map] at this
      box := fun b cells hb => by
        obtain ⟨h1, h2, cs', ty', h3, h4⟩ := h0.box b cells hb
        obtain ⟨_, _, cs2, ty2, k3, k4⟩ := h.box b cells hb
        have hlt := (Array.getElem?_eq_some_iff.1 k3).1
        have e : cs2 = cs' ∧ ty2 = ty' := by
          have := (Below.heap_alloc w (.cells cs ty) _ hlt).trans k3
          rw [h3] at this
          cases this
          exact ⟨rfl, rfl⟩
        obtain ⟨rfl, rfl⟩ := e
        refine ⟨h1, h2, cs2, ty2, h3, ?_, k4.2⟩
        have := k4.1.map hmap
        rwa [List.map_id] at this
      rob := h0.rob
      inj := h0.inj
      tok := fun t' ht' => by
        simp only [tkOf_upd] at ht' ⊢
        by_cases e : t' = t
        · simp only [e, if_true]
          exact ⟨h.size, cs, ty, cs.toList.take (n * sz), hnew, hcs, rfl, by rw [List.length_take]; omega, hcap⟩
        · simp only [e, if_false] at ht' ⊢
          exact h0.tok t' ht'
      tinj := fun t1 t2 h1 h2 hκ => by
        simp only [tkOf_upd] at h1 h2
        have lt_tok : ∀ t', 0 < tkOf s.tk t' → (κ t').1 < w.heap.size := fun t' ht' => by
          obtain ⟨_, cs', ty', arr, k2, _⟩ := h.tok t' ht'
          exact (Array.getElem?_eq_some_iff.1 k2).1
        by_cases e1 : t1 = t <;> by_cases e2 : t2 = t
        · rw [e1, e2]
        · simp only [e1, e2, if_true, if_false] at h1 h2 hκ
          have := lt_tok _ h2; omega
        · simp only [e1, e2, if_true, if_false] at h1 h2 hκ
          have := lt_tok _ h1; omega
        · simp only [e1, e2, if_false] at h1 h2 hκ
          exact h.tinj _ _ h1 h2 hκ
      dfr := h0.dfr }

/-- A row that grows where it lies. -/
theorem Sim.ownGrow (h : Sim w0 I0 I β κ s sav a w) {t n c cap sz : Nat} {els ys : List PV} {new : List Value} {cs cs' : Array Value} {ty : TypeId} (hm : tkOf s.tk t = els.length) (hm0 : els ≠ []) (hy0 : ys ≠ [])
    (hn : n = els.length + ys.length) (hκ : κ t = (c, cap, sz)) (hcap : n ≤ cap) (hrow : RowAt I c sz els) (hu : ∀ e ∈ ys, e.cells.length = sz) (hc : Cs I (flat ys) new)
    (hw : w.heap[c]? = some (.cells cs ty (0, 0))) (ho : OnlyAt c w w') (hw' : w'.heap[c]? = some (.cells cs' ty (0, 0))) (hsz : cs'.size = cs.size)
    (hcs' : ∃ rest, cs'.toList = cs.toList.take (els.length * sz) ++ new ++ rest) (hone : ∀ v ∈ new, v.oneCell' = true) :
    ∃ J κ', I.le J ∧ Sim w0 I0 J β κ' { s with tk := upd t n s.tk } sav a w' ∧ R J β κ' (tkOf (upd t n s.tk)) (.acc t (els ++ ys)) (.slice (some ⟨c, 0, none⟩) n cap) := by
  have hlen0 : 0 < els.length := List.length_pos_iff.2 hm0
  have hylen : 0 < ys.length := List.length_pos_iff.2 hy0
  obtain ⟨h1, cs1, ty1, arr, h2, h3, h4, h5, h6⟩ := h.tok t (by omega)
  rw [hκ] at h1 h2 h3 h4 h5 h6
  simp only at h1 h2 h3 h4 h5 h6
  rw [hw] at h2
  cases h2
  obtain ⟨arr', hr1, hu1, hr2, hr3⟩ := hrow
  rw [h4] at hr1
  cases hr1
  have hfl := flat_length hu1
  have hfy := flat_length hu
  have hnl : new.length = ys.length * sz := by rw [← hc.length, hfy]
  obtain ⟨cs0, ty0, fz0, more, hg1, hg2⟩ := h.good c arr h4
  rw [hw] at hg1
  cases hg1
  have h5' : arr.length = els.length * sz := by rw [h5, hm]
  have harr : cs.toList.take (els.length * sz) = arr := by
    rw [hg2, List.take_append_of_le_length (by omega), List.take_of_length_le (by omega)]
  obtain ⟨rest, hcs'⟩ := hcs'
  rw [harr] at hcs'
  have hIJ : I.le (fun k => if k = c then some (arr ++ new) else I k) := fun k ar hk => by
    by_cases e : k = c
    · rw [e, h4] at hk; cases hk; exact ⟨new, by simp [e]⟩
    · exact ⟨[], by simp [e, hk]⟩
  have hbc : ∀ b cells, lk b s.bx = some cells → β b ≠ c := fun b cells hb e => by
    obtain ⟨_, k2, _⟩ := h.box b cells hb
    rw [e, h4] at k2; cases k2
  have hmap : ∀ x u, R I β κ (tkOf s.tk) x u → R (fun k => if k = c then some (arr ++ new) else I k) β (fun j => if j = t then (c, cap, sz) else κ j) (tkOf (upd t n s.tk)) (id x) u :=
    fun x u k => k.longer hIJ (by omega)
  have hrow' : RowAt (fun k => if k = c then some (arr ++ new) else I k) c sz (els ++ ys) := by
    refine ⟨arr ++ new, by simp, fun e he => ?_, ?_, ?_⟩
    · rcases List.mem_append.1 he with he | he
      · exact hu1 e he
      · exact hu e he
    · rw [flat_append]
      have e1 : (flat els ++ flat ys).length = (arr ++ new).length := by simp only [List.length_append]; rw [hfl, hfy, h5, hnl, hm]
      rw [e1, List.take_length]
      have e2 : arr.take (flat els).length = arr := List.take_of_length_le (by omega)
      rw [e2] at hr2
      exact (hr2.mono hIJ).append (hc.mono hIJ)
    · rw [flat_append]
      simp only [List.length_append]
      omega
  refine ⟨_, fun j => if j = t then (c, cap, sz) else κ j, hIJ, ?_, .acc (by simp [hm0]) (by simp [hn]) hcap hrow' (by rw [tkOf_upd, if_pos rfl]; exact Nat.le_refl _) (fun _ => by simp)⟩
  exact
    { below := h.below.trans (ho.below h1)
      good := fun k ar hk => by
        by_cases e : k = c
        · simp only [e, if_true, Option.some.injEq] at hk
          subst hk
          exact ⟨cs', _, (0, 0), rest, by rw [e]; exact hw', hcs'⟩
        · simp only [e, if_false] at hk
          obtain ⟨cs3, ty3, fz, more3, k1, k2⟩ := h.good k ar hk
          exact ⟨cs3, ty3, fz, more3, (ho.block k e).trans k1, k2⟩
      ext := Imm.le_trans h.ext hIJ
      old := fun k hk => by
        have e : k ≠ c := by omega
        simpa [e] using h.old k hk
      tm := by have := h.tm.map hmap; rwa [List.map_id] at this
      sv := by have := h.sv.map hmap; rwa [id_map] at this
      box := fun b cells hb => by
        obtain ⟨k1, k2, cs2, ty2, k3, k4⟩ := h.box b cells hb
        have hne := hbc b cells hb
        refine ⟨k1, by simp [hne, k2], cs2, ty2, (ho.block _ hne).trans k3, ?_, k4.2⟩
        have := k4.1.map hmap
        rwa [List.map_id] at this
      rob := fun b cells hb => by
        obtain ⟨ar, k1, k2, k3⟩ := h.rob b cells hb
        obtain ⟨m, hm'⟩ := hIJ _ _ k1
        refine ⟨_, hm', ?_, by simp; omega⟩
        rw [List.take_append_of_le_length k3]
        exact k2.mono hIJ
      inj := h.inj
      tok := fun t' ht' => by
        simp only [tkOf_upd] at ht' ⊢
        by_cases e : t' = t
        · simp only [e, if_true]
          refine ⟨h1, cs', _, arr ++ new, hw', by rw [hsz, h3], rfl, ?_, hcap⟩
          rw [List.length_append, h5, hnl, hm, hn, Nat.add_mul]
        · simp only [e, if_false] at ht' ⊢
          obtain ⟨k1, cs2, ty2, ar, k2, k3, k4, k5⟩ := h.tok t' ht'
          have hne : (κ t').1 ≠ c := fun e' => e (h.tinj t' t ht' (by omega) (by rw [e', hκ]))
          exact ⟨k1, cs2, ty2, ar, (ho.block _ hne).trans k2, k3, by simp [hne, k4], k5⟩
      tinj := fun t1 t2 k1 k2 hκ' => by
        simp only [tkOf_upd] at k1 k2
        by_cases e1 : t1 = t <;> by_cases e2 : t2 = t
        · rw [e1, e2]
        · simp only [e1, e2, if_true, if_false] at k1 k2 hκ'
          have := h.tinj t t2 (by omega) k2 (by rw [hκ]; exact hκ')
          rw [e1, this]
        · simp only [e1, e2, if_true, if_false] at k1 k2 hκ'
          have := h.tinj t1 t k1 (by omega) (by rw [hκ]; exact hκ')
          rw [e2, this]
        · simp only [e1, e2, if_false] at k1 k2 hκ'
          exact h.tinj _ _ k1 k2 hκ'
      dfr := by
        obtain ⟨Ds, k1, k2, k3⟩ := h.dfr
        refine ⟨Ds, k1, k2, fun D hD => ⟨(k3 D hD).1, (ho.block D (fun e => ?_)).trans (k3 D hD).2⟩⟩
        have k4 := (k3 D hD).2
        rw [e, hw] at k4
        cases k4 }

end
end Go.Proofs.Ytnfomjnmigkpmaa.A
