/- Regions that draw their order, second part. -/
import Derived.Test.YtnfomjnmigkpmaaA22
import Derived.Orders
set_option linter.unusedVariables false
set_option linter.unusedSimpArgs false
namespace Go.Proofs.Ytnfomjnmigkpmaa.A
open Go Go.RowKit Go.Shelf

section
variable {P : Program}

theorem ev_on {all : List AO} {x : AO} {u : Up} {s : St} {z : Operand} (hu : ∀ d y, u.tm = some (d, y) → x.dst = some d) (hz : ∀ n, z = .tmp n → x.dst ≠ some n) : ev (u.on s) z = ev s z := by
  cases z with
  | tmp n =>
    show (u.on s).tm[n]? = s.tm[n]?
    simp only [Up.on]
    split
    · rename_i d y hd
      have := hu d y hd
      have hne : d ≠ n := fun e => hz n rfl (e ▸ this)
      rw [List.getElem?_set_ne hne]
    · rfl
  | _ => rfl

theorem mem_slots_of {all : List AO} {o : AO} {n : Nat} (h : Operand.tmp n ∈ opds o.op) : n ∈ slots all o := by
  simp only [slots, List.mem_append, List.mem_filterMap]
  exact .inl ⟨_, h, rfl⟩

theorem apart_spec {all : List AO} {x y : AO} (h : apart all x y = true) : (∀ n ∈ slots all y, x.dst ≠ some n) ∧ (∀ d, x.dst = some d → y.dst ≠ some d) := by
  unfold apart at h
  split at h
  · rename_i d hd
    simp only [Bool.and_eq_true, Bool.not_eq_true', List.contains_eq_mem, decide_eq_false_iff_not, bne_iff_ne, ne_eq] at h
    rw [hd]
    exact ⟨fun n hn e => by cases e; exact h.1 hn, fun d' e => by cases e; exact h.2⟩
  · rename_i hd
    rw [hd]
    exact ⟨(fun n _ e => by cases e), (fun d e => by cases e)⟩

variable {its : Option (Nat × List (List PV))}

theorem alike_of {all : List AO} {x y : AO} {s : St} {u : Up} (hu : Turns P its all x s u) (hap : apart all x y = true) (hB : ¬ (turnsB x.op = true ∧ looksB y.op = true)) (hT : ¬ (usesT x.op = true ∧ usesT y.op = true)) : Alike all y (u.on s) s := by
  have h2 := hu.bxB
  obtain ⟨h1, _, h3, _⟩ := hu
  obtain ⟨a1, _⟩ := apart_spec hap
  refine ⟨fun z hz => ev_on (all := all) h1 fun n e => a1 n (mem_slots_of (e ▸ hz)), fun d hd => ?_, rfl, fun hl z hz b off he => ?_, fun ht => ?_⟩
  · have : d ∈ slots all y := by simp only [slots, hd, Option.toList_some, List.mem_append]; exact .inr (by simp)
    exact ev_on (all := all) (z := .tmp d) h1 fun n e => by cases e; exact a1 d this
  · simp only [Up.on]
    split
    · rename_i b c hb
      exact absurd ⟨h2 (by rw [hb]; rfl), hl⟩ hB
    · rfl
  · simp only [Up.on]
    split
    · rename_i b c hb
      exact absurd ⟨h3 (by rw [hb]; rfl), ht⟩ hT
    · rfl

theorem Alike.symm {all : List AO} {o : AO} {s s2 : St} (h : Alike all o s s2) : Alike all o s2 s :=
  ⟨fun x hx => (h.ops x hx).symm, fun d hd => (h.gd d hd).symm, h.ro.symm, fun hl z hz b off he => (h.bx hl z hz b off ((h.ops z hz).trans he)).symm, fun ht => (h.tk ht).symm⟩

theorem turnsB_looksB {op : Op} (h : turnsB op = true) : looksB op = true := by cases op <;> simp_all [turnsB, looksB]

theorem on_comm {u v : Up} {s : St} (ht : ∀ d x d' x', u.tm = some (d, x) → v.tm = some (d', x') → d' ≠ d) (hb : u.bx.isSome = true → v.bx.isSome = true → False) (hk : u.tk.isSome = true → v.tk.isSome = true → False) : u.on (v.on s) = v.on (u.on s) := by
  obtain ⟨ut, ub, uk⟩ := u
  obtain ⟨vt, vb, vk⟩ := v
  simp only at ht hb hk
  simp only [Up.on]
  congr 1
  · cases ut with
    | none => cases vt <;> rfl
    | some p =>
      cases vt with
      | none => rfl
      | some q =>
        obtain ⟨d, x⟩ := p
        obtain ⟨d', x'⟩ := q
        exact List.set_comm _ _ (ht d x d' x' rfl rfl)
  · cases ub <;> cases vb <;> first | rfl | exact (hb rfl rfl).elim
  · cases uk <;> cases vk <;> first | rfl | exact (hk rfl rfl).elim

/-- Two operations that do not look at each other change places. -/
theorem swap_ops {v : Bool} {all : List AO} {x y : AO} {s : St} {K : St → Prop} (hv' : v = true ∨ its = none) (hi : indep v all x y = true) (h : wpOp P its all x s fun s1 => wpOp P its all y s1 K) : wpOp P its all y s fun s1 => wpOp P its all x s1 K := by
  simp only [indep, Bool.and_eq_true, Bool.not_eq_true', Bool.and_eq_false_iff] at hi
  obtain ⟨⟨⟨⟨⟨⟨c1, c2⟩, a1⟩, a2⟩, b1⟩, b2⟩, b3⟩ := hi
  have b1' : ¬ (turnsB x.op = true ∧ looksB y.op = true) := fun ⟨p, q⟩ => by rcases b1 with b | b <;> simp_all
  have b2' : ¬ (turnsB y.op = true ∧ looksB x.op = true) := fun ⟨p, q⟩ => by rcases b2 with b | b <;> simp_all
  have b3' : ¬ (usesT x.op = true ∧ usesT y.op = true) := fun ⟨p, q⟩ => by rcases b3 with b | b <;> simp_all
  obtain ⟨u, hu, hy⟩ := turns_op hv' c1 h
  obtain ⟨v, hv, hK⟩ := turns_op hv' c2 hy
  have e1 := alike_of hu a1 b1' b3'
  have hvs : Turns P its all y s v := ⟨hv.1, (fun b c hbc => by
      obtain ⟨t, z, q, off, ho, he⟩ := hv.2.1 b c hbc
      exact ⟨t, z, q, off, ho, (e1.ops z (by rw [ho]; simp [opds])).symm.trans he⟩), hv.2.2.1, fun s2 ha => hv.2.2.2 s2
    ⟨fun z hz => (e1.ops z hz).trans (ha.ops z hz), fun d hd => (e1.gd d hd).trans (ha.gd d hd), e1.ro.trans ha.ro, fun hl z hz b off he => (e1.bx hl z hz b off he).trans (ha.bx hl z hz b off ((e1.ops z hz).symm.trans he)), fun ht => (e1.tk ht).trans (ha.tk ht)⟩⟩
  have e2 := alike_of hvs a2 b2' fun ⟨p, q⟩ => b3' ⟨q, p⟩
  refine hv.2.2.2 s e1 _ ?_
  refine hu.2.2.2 _ e2.symm _ ?_
  have e : u.on (v.on s) = v.on (u.on s) := on_comm
    (fun d x d' x' p q => fun e => (apart_spec a1).2 d (hu.1 d x p) (e ▸ hv.1 d' x' q))
    (fun p q => b1' ⟨hu.bxB p, turnsB_looksB (hv.bxB q)⟩) (fun p q => b3' ⟨hu.2.2.1 p, hv.2.2.1 q⟩)
  rw [e]
  exact hK

theorem callA_mono {its' : Option (Nat × List (List PV))} (he : its' = none ∨ its' = its) {s : St} {d : Option Nat} {c : Call} {K K' : St → Prop} (hK : ∀ s, K s → K' s) (h : callA P its' s d c K) : callA P its s d c K' := by
  unfold callA at h ⊢
  split at h
  · exact h.elim
  · split at h
    · obtain ⟨r, h1, h2⟩ := h; exact ⟨r, h1, hK _ h2⟩
    · rcases he with rfl | rfl
      · exact h.elim
      · split at h
        · exact ⟨h.1, h.2.1, h.2.2.1, h.2.2.2.1, hK _ h.2.2.2.2.1, hK _ h.2.2.2.2.2⟩
        · exact h.elim
    · exact h.elim
  · split at h
    · obtain ⟨f, r, h1, h2, h3⟩ := h; exact ⟨f, r, h1, h2, hK _ h3⟩
    · exact h.elim

theorem execB_mono {its' : Option (Nat × List (List PV))} (he : its' = none ∨ its' = its) {s : St} {o : AO} {K K' : St → Prop} (hK : ∀ s, K s → K' s) (h : execB P its' s o K) : execB P its s o K' := by
  unfold execB at h ⊢
  split at h
  · split at h
    · obtain ⟨s', h1, h2⟩ := h; exact ⟨s', h1, hK _ h2⟩
    · exact callA_mono he hK h
  · obtain ⟨s', h1, h2⟩ := h
    exact ⟨s', h1, hK _ h2⟩

theorem execA_mono {its' : Option (Nat × List (List PV))} (he : its' = none ∨ its' = its) {s : St} {o : AO} {K K' : St → Prop} (hK : ∀ s, K s → K' s) (h : execA P its' s o K) : execA P its s o K' := by
  unfold execA at h ⊢
  split at h
  · unfold nilA at h ⊢
    split at h
    · exact fun b hb => hK _ (h b hb)
    · exact hK _ h
    · exact h.elim
  · exact execB_mono he hK h

theorem wpOp_mono' {its' : Option (Nat × List (List PV))} (he : its' = none ∨ its' = its) {all : List AO} {s : St} {o : AO} {K K' : St → Prop} (hK : ∀ s, K s → K' s) (h : wpOp P its' all o s K) : wpOp P its all o s K' := by
  unfold wpOp at h ⊢
  split at h
  · exact execA_mono he hK h
  · split at h
    · split at h
      · rw [if_pos ‹_›]; exact execA_mono he hK h
      · rw [if_neg ‹_›]; exact hK _ h
    · exact h.elim

/-- The operations of these numbers, one behind the other. -/
def wpL (P : Program) (its : Option (Nat × List (List PV))) (all : List AO) : List Nat → St → (St → Prop) → Prop
  | [], s, K => K s
  | i :: l, s, K => match all[i]? with
    | some o => wpOp P its all o s fun s' => wpL P its all l s' K
    | none => False

theorem wpL_cons {all : List AO} {i : Nat} {l : List Nat} {s : St} {K : St → Prop} : wpL P its all (i :: l) s K ↔ ∃ o, all[i]? = some o ∧ wpOp P its all o s fun s' => wpL P its all l s' K := by
  simp only [wpL]
  cases all[i]? with
  | none => simp
  | some o => simp

theorem wpL_range {all : List AO} {K : St → Prop} : ∀ (n k : Nat), k + n = all.length → ∀ {s : St}, wpOpsA P its all (all.drop k) s K → wpL P its all (List.range' k n) s K
  | 0, k, hk, s, h => by rw [List.drop_eq_nil_of_le (by omega)] at h; exact h
  | n + 1, k, hk, s, h => by
    have hlt : k < all.length := by omega
    rw [List.drop_eq_getElem_cons hlt] at h
    rw [List.range'_succ, wpL_cons]
    exact ⟨_, List.getElem?_eq_getElem hlt, wpOp_mono' (.inr rfl) (fun s' => wpL_range n (k + 1) (by omega)) h⟩

/-- What may come first, comes first. -/
theorem wpL_first {v : Bool} {all : List AO} (hv : v = true ∨ its = none) {i : Nat} {oi : AO} (hoi : all[i]? = some oi) {K : St → Prop} {l2 : List Nat} : ∀ (l1 : List Nat), (∀ x ∈ l1, ∃ ox, all[x]? = some ox ∧ indep v all ox oi = true) → ∀ {s : St}, wpL P its all (l1 ++ i :: l2) s K → wpL P its all (i :: (l1 ++ l2)) s K
  | [], _, _, h => h
  | x :: l1, hx, s, h => by
    obtain ⟨ox, h1, h2⟩ := hx x (by simp)
    rw [List.cons_append, wpL_cons] at h
    obtain ⟨ox', h3, h4⟩ := h
    rw [h1] at h3
    cases h3
    have h5 : wpOp P its all ox s fun s' => wpOp P its all oi s' fun s'' => wpL P its all (l1 ++ l2) s'' K := wpOp_mono' (.inr rfl) (fun s' hs' => by
      have := wpL_first hv hoi l1 (fun y hy => hx y (by simp [hy])) hs'
      rw [wpL_cons] at this
      obtain ⟨o', k1, k2⟩ := this
      rw [hoi] at k1
      cases k1
      exact k2) h4
    rw [wpL_cons]
    refine ⟨oi, hoi, wpOp_mono' (.inr rfl) (fun s' hs' => ?_) (swap_ops hv h2 h5)⟩
    rw [List.cons_append, wpL_cons]
    exact ⟨ox, h1, hs'⟩

theorem reach_succ (ao : List AO) (x : Nat) : ∀ (d : Nat) (l : List Nat), reach ao x d l = true → reach ao x (d + 1) l = true
  | 0, l, h => by simp [reach] at h
  | d + 1, l, h => by
    rw [reach] at h ⊢
    simp only [Bool.or_eq_true, List.any_eq_true] at h ⊢
    rcases h with h | ⟨j, hj, h⟩
    · exact .inl h
    · refine .inr ⟨j, hj, ?_⟩
      split at h
      · exact reach_succ ao x d _ h
      · cases h

theorem drawOk_spec {v : Bool} {ao : List AO} (h : drawOk v ao = true) {i : Nat} {oi : AO} (hi : ao[i]? = some oi) : (∀ j ∈ oi.pre, j < i) ∧ ∀ x, x < i → reach ao x 7 oi.pre = false → ∃ ox, ao[x]? = some ox ∧ indep v ao ox oi = true := by
  have hlt := (List.getElem?_eq_some_iff.1 hi).1
  have := List.all_eq_true.1 h i (List.mem_range.2 hlt)
  rw [hi] at this
  simp only [Bool.and_eq_true, List.all_eq_true, decide_eq_true_eq, List.mem_range] at this
  refine ⟨this.1, fun x hx hn => ?_⟩
  have := this.2 x hx
  split at this
  · cases this
  · rename_i ox hox
    refine ⟨ox, hox, ?_⟩
    have e : oi.pre.contains x = false := by
      simp only [reach, Bool.or_eq_false_iff] at hn
      exact hn.1
    have e2 : reach ao x 6 oi.pre = false := by
      cases hr : reach ao x 6 oi.pre with
      | false => rfl
      | true => rw [reach_succ ao x 6 _ hr] at hn; cases hn
    rw [e, e2] at this
    simpa using this

/-- What is before a listed one is listed. -/
theorem reach_listed {ao : List AO} {listed : Array Bool} (hdc : ∀ i oi, ao[i]? = some oi → listed.getD i false = true → ∀ j ∈ oi.pre, listed.getD j false = true) {x : Nat} : ∀ (d : Nat) (l : List Nat), (∀ j ∈ l, listed.getD j false = true) → reach ao x d l = true → listed.getD x false = true
  | 0, l, _, h => by simp [reach] at h
  | d + 1, l, hl, h => by
    simp only [reach, Bool.or_eq_true, List.contains_eq_mem, decide_eq_true_eq, List.any_eq_true] at h
    rcases h with h | ⟨j, hj, h⟩
    · exact hl x h
    · split at h
      · rename_i o ho
        exact reach_listed hdc d o.pre (hdc j o ho (hl j hj)) h
      · cases h

theorem sound_go {v : Bool} {ao : List AO} {ops : Array Oper} (hok : drawOk v ao = true) (hag : OpsAgree P ao ops) {its' : Option (Nat × List (List PV))} (he : its' = none ∨ its' = its) (hv : v = true ∨ its' = none) {w00 : World} {I00 : Imm} {Jt : Nat → Imm → World → Prop} {ro : Option Nat} (hctx : Ctx P its Jt) {Q : XA → St → Prop} {sav : List (Array Value)}
    (Iz : Imm) (wz : World) : ∀ (fuel t : Nat) (listed : Array Bool), listed.size = ops.size → (∀ i oi, ao[i]? = some oi → listed.getD i false = true → ∀ j ∈ oi.pre, listed.getD j false = true) → ((List.range ops.size).filter fun i => !listed.getD i true).length = fuel →
    ∀ {I : Imm} {w : World} {s : St} {a : Act} {w0 : World} {I0 : Imm} {β : Nat → Nat} {κ : Nat → Nat × Nat × Nat}, Iz.le I → (its = none → KeepsOthers wz w) → (its.isSome = true → a.defers = []) → Base its w00 I00 Jt s.it w0 I0 → Sim w0 I0 I β κ s sav a w →
      wpL P its' ao ((List.range ops.size).filter fun i => !listed.getD i true) s (Q .normal) →
      wpOpsIn (wideR ro) 0 P ops (PostA its (Base its w00 I00 Jt) Iz sav wz Q) (Region.linearise.go .any ops fuel t listed []) a w
  | 0, t, listed, hsz, hdc, hlen, I, w, s, a, w0, I0, β, κ, hle, hk, hdf, hB, h, hs => by
    rw [List.length_eq_zero_iff.1 hlen] at hs
    exact ⟨s, I, hs, hle, hk, hdf, w0, I0, β, κ, hB, h⟩
  | fuel + 1, t, listed, hsz, hdc, hlen, I, w, s, a, w0, I0, β, κ, hle, hk, hdf, hB, h, hs => by
    have hsort : ((List.range ops.size).filter fun i => !listed.getD i true).Pairwise (· < ·) := List.Pairwise.filter _ List.pairwise_lt_range
    have hlisted : ∀ j, j < ops.size → listed.getD j false = listed.getD j true := fun j hj => by
      have : j < listed.size := by omega
      simp [Array.getD, this]
    -- who is ready
    have hready : ∀ i, i ∈ Region.ready .any ops listed ↔ i < ops.size ∧ listed.getD i true = false ∧ ∀ oi, ao[i]? = some oi → ∀ j ∈ oi.pre, listed.getD j false = true := by
      intro i
      simp only [Region.ready, List.mem_filter, List.mem_range, Bool.and_eq_true, Bool.not_eq_true']
      refine and_congr_right fun hi => and_congr_right fun _ => ?_
      obtain ⟨oi, h1, _, _, _, h5, _⟩ := hag.get (Array.getElem?_eq_getElem hi)
      rw [Array.getElem?_eq_getElem hi]
      simp only [Option.map_some, Option.getD_some, h1, Option.some.injEq, forall_eq']
      rw [h5]
      rw [Array.all_eq_true']
      constructor
      · intro hx j hj
        obtain ⟨e, he, rfl⟩ := List.mem_map.1 hj
        obtain ⟨he1, hb⟩ := List.mem_filter.1 he
        have := hx e (by simpa using he1)
        rw [hb] at this
        simpa using this
      · intro hx e he
        cases hb : Region.binds .any e with
        | false => rfl
        | true =>
          have := hx e.on (List.mem_map.2 ⟨e, List.mem_filter.2 ⟨by simpa using he, hb⟩, rfl⟩)
          simpa using this
    have hne : Region.ready .any ops listed ≠ [] := by
      obtain ⟨x, L', hL⟩ : ∃ x L', ((List.range ops.size).filter fun i => !listed.getD i true) = x :: L' := by
        cases hL : ((List.range ops.size).filter fun i => !listed.getD i true) with
        | nil => rw [hL] at hlen; cases hlen
        | cons x L' => exact ⟨x, L', rfl⟩
      have hx : x ∈ ((List.range ops.size).filter fun i => !listed.getD i true) := by rw [hL]; simp
      simp only [List.mem_filter, List.mem_range, Bool.not_eq_true'] at hx
      refine List.ne_nil_of_mem ((hready x).2 ⟨hx.1, hx.2, fun oi hoi j hj => ?_⟩)
      have hjx := (drawOk_spec hok hoi).1 j hj
      rw [hlisted j (by omega)]
      cases hl : listed.getD j true with
      | true => rfl
      | false =>
        have hm : j ∈ ((List.range ops.size).filter fun i => !listed.getD i true) := by simp only [List.mem_filter, List.mem_range, Bool.not_eq_true']; exact ⟨by omega, hl⟩
        rw [hL] at hm hsort
        rcases List.mem_cons.1 hm with hm | hm
        · omega
        · have := (List.pairwise_cons.1 hsort).1 j hm
          omega
    have hlt : t % (Region.ready .any ops listed).length < (Region.ready .any ops listed).length := Nat.mod_lt _ (List.length_pos_iff.2 hne)
    obtain ⟨i, hi⟩ : ∃ i, (Region.ready .any ops listed)[t % (Region.ready .any ops listed).length]? = some i := ⟨_, List.getElem?_eq_getElem hlt⟩
    have hgo : Region.linearise.go .any ops (fuel + 1) t listed [] = i :: Region.linearise.go .any ops fuel (t / (Region.ready .any ops listed).length) (listed.setIfInBounds i true) [] := by
      simp only [Region.linearise.go]
      change (match (Region.ready .any ops listed)[t % (Region.ready .any ops listed).length]? with
        | some i => Region.linearise.go .any ops fuel (t / (Region.ready .any ops listed).length) (listed.setIfInBounds i true) [i]
        | none => [].reverse) = _
      rw [hi]
      simp only []
      rw [linearise_go_acc]
      rfl
    rw [hgo]
    obtain ⟨hi1, hi2, hi3⟩ := (hready i).1 (List.mem_of_getElem? hi)
    have him : i ∈ ((List.range ops.size).filter fun i => !listed.getD i true) := by simp only [List.mem_filter, List.mem_range, Bool.not_eq_true']; exact ⟨hi1, hi2⟩
    obtain ⟨L1, L2, hL⟩ := List.append_of_mem him
    have hilt : i < ao.length := by rw [hag.length]; exact hi1
    have hoi : ao[i]? = some ao[i] := List.getElem?_eq_getElem hilt
    have hL1 : ∀ x ∈ L1, ∃ ox, ao[x]? = some ox ∧ indep v ao ox ao[i] = true := by
      intro x hx
      have hxm : x ∈ ((List.range ops.size).filter fun i => !listed.getD i true) := by rw [hL]; simp [hx]
      simp only [List.mem_filter, List.mem_range, Bool.not_eq_true'] at hxm
      rw [hL] at hsort
      have hxi : x < i := (List.pairwise_append.1 hsort).2.2 x hx i (by simp)
      refine (drawOk_spec hok hoi).2 x hxi (Bool.eq_false_iff.2 fun hp => ?_)
      have := reach_listed hdc 7 _ (hi3 _ hoi) hp
      rw [hlisted x hxm.1, hxm.2] at this
      cases this
    have hL' : ((List.range ops.size).filter fun j => !(listed.setIfInBounds i true).getD j true) = L1 ++ L2 := by
      have e1 : ((List.range ops.size).filter fun j => !(listed.setIfInBounds i true).getD j true) = ((List.range ops.size).filter fun i => !listed.getD i true).filter (· != i) := by
        rw [List.filter_filter]
        refine List.filter_congr fun j hj => ?_
        have hj' := List.mem_range.1 hj
        by_cases e : j = i
        · subst e
          have : j < listed.size := by omega
          simp [Array.getD, this]
        · have e' : i ≠ j := fun h => e h.symm
          simp [getD_set_ne true e', e]
      rw [e1, hL]
      rw [hL] at hsort
      have hs2 := List.pairwise_append.1 hsort
      rw [List.filter_append, List.filter_cons]
      have f1 : L1.filter (· != i) = L1 := List.filter_eq_self.2 fun x hx => by
        have := hs2.2.2 x hx i (by simp)
        simp only [bne_iff_ne, ne_eq]
        omega
      have f2 : L2.filter (· != i) = L2 := List.filter_eq_self.2 fun x hx => by
        have := (List.pairwise_cons.1 hs2.2.1).1 x hx
        simp only [bne_iff_ne, ne_eq]
        omega
      rw [f1, f2]
      simp
    rw [hL] at hs
    have hs1 := wpL_first hv hoi L1 hL1 hs
    rw [wpL_cons] at hs1
    obtain ⟨oi, k1, k2⟩ := hs1
    rw [hoi] at k1
    cases k1
    refine sound_op hag hctx hoi hdf hB h (wpOp_mono' he (fun _ hk => hk) k2) ?_
    intro s' a' w' J hle' hkeep' hsat hK
    obtain ⟨hdf1, w1, I1, β1, κ1, hB1, h1⟩ := hsat
    refine sound_go hok hag he hv hctx Iz wz fuel _ _ (by simpa using hsz) ?_ ?_ (Imm.le_trans hle hle') (fun e => (hk e).trans (hkeep' e)) hdf1 hB1 h1 (by rw [hL']; exact hK)
    · intro k ok hk' hkl j hj
      by_cases e : k = i
      · subst e
        exact getD_set_true (hi3 ok hk' j hj)
      · have e' : i ≠ k := fun h => e h.symm
        rw [getD_set_ne false e'] at hkl
        exact getD_set_true (hdc k ok hk' hkl j hj)
    rw [hL']
    rw [hL] at hlen
    simp only [List.length_append, List.length_cons] at hlen ⊢
    omega

theorem draw_sound {v : Bool} {ao : List AO} (hok : drawOk v ao = true) : DrawSound P v ao := by
  intro ops hag hmix its w00 I00 Jt ro Q I w s sav a w0 I0 β κ t hctx hdf hB h hs
  unfold Region.linearise
  have hall : ((List.range ops.size).filter fun i => !(Array.replicate ops.size false).getD i true) = List.range ops.size := List.filter_eq_self.2 fun i hi => by
    have := List.mem_range.1 hi
    simp [Array.getD, this]
  have hv : (v = true ∨ (if v = true then its else none) = none) := by cases v <;> simp
  have he : (if v = true then its else none) = none ∨ (if v = true then its else none) = its := by cases v <;> simp
  refine sound_go hok hag he hv hctx I w ops.size t _ (by simp) (fun i oi _ h => by simp [Array.getD] at h) (by rw [hall]; simp) (Imm.le_refl _) (fun _ => KeepsOthers.drew w) hdf hB h.drew ?_
  rw [hall, List.range_eq_range']
  have hl := hag.length
  exact wpL_range ops.size 0 (by omega) (by rw [List.drop_zero]; exact hs)

end
end Go.Proofs.Ytnfomjnmigkpmaa.A
