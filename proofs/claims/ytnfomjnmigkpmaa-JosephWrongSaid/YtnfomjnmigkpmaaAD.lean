/- Regions that draw their order, and make variables. -/
import Derived.Test.YtnfomjnmigkpmaaA23
import Derived.Orders
set_option linter.unusedVariables false
set_option linter.unusedSimpArgs false
namespace Go.Proofs.Ytnfomjnmigkpmaa.A
open Go Go.RowKit Go.Shelf

def tkAll : List (Nat × Nat) → List (Nat × Nat) → List (Nat × Nat)
  | [], l => l
  | p :: ps, l => tkAll ps (upd p.2 0 l)

theorem tkAll_upd {t n : Nat} : ∀ (ps : List (Nat × Nat)) (l : List (Nat × Nat)), (∀ p ∈ ps, p.2 ≠ t) → tkAll ps (upd t n l) = upd t n (tkAll ps l)
  | [], _, _ => rfl
  | p :: ps, l, h => by
    simp only [tkAll]
    rw [upd_comm (h p (by simp)), tkAll_upd ps _ fun q hq => h q (by simp [hq])]

theorem tkAll_comm : ∀ (ps qs l : List (Nat × Nat)), (∀ p ∈ ps, ∀ q ∈ qs, p.2 ≠ q.2) → tkAll ps (tkAll qs l) = tkAll qs (tkAll ps l)
  | [], _, _, _ => rfl
  | p :: ps, qs, l, h => by
    simp only [tkAll]
    rw [← tkAll_upd qs l fun q hq e => h p (by simp) q hq e.symm, tkAll_comm ps qs _ fun p' hp' => h p' (by simp [hp'])]

theorem killPtr_free {d : Nat} {ts : List Nat} {t : TV} (h : t.freeB d ts = true) : t.killPtr d = t := by
  cases t <;> simp_all [TV.freeB, TV.killPtr]
theorem killTok_free {d k : Nat} {ts : List Nat} (hk : k ∈ ts) {t : TV} (h : t.freeB d ts = true) : t.killTok k = t := by
  cases t with
  | acc t els =>
    simp only [TV.freeB, Bool.not_eq_true', List.contains_eq_mem, decide_eq_false_iff_not] at h
    have : t ≠ k := fun e => h (e ▸ hk)
    simp [TV.killTok, this]
  | _ => rfl

theorem map_same {f : TV → TV} {l : List TV} (h : ∀ t ∈ l, f t = t) : l.map f = l := by
  rw [List.map_congr_left h, List.map_id']

theorem mapTV_same {f : TV → TV} {s : St} (h1 : ∀ t ∈ s.tm, f t = t) (h2 : ∀ q ∈ s.bx, ∀ t ∈ q.2, f t = t) (h3 : ∀ l ∈ s.sv, ∀ t ∈ l, f t = t) : s.mapTV f = s := by
  obtain ⟨tm, bx, ro, tk, sv, it⟩ := s
  have e1 : tm.map f = tm := map_same h1
  have e2 : (bx.map fun p => (p.1, p.2.map f)) = bx := by
    have : ∀ p ∈ bx, (p.1, p.2.map f) = p := fun p hp => by rw [map_same (h2 p hp)]
    rw [List.map_congr_left this, List.map_id']
  have e3 : (sv.map fun l => l.map f) = sv := by
    have : ∀ l ∈ sv, l.map f = l := fun l hl => map_same (h3 l hl)
    rw [List.map_congr_left this, List.map_id']
  simp only [St.mapTV, e1, e2, e3]

theorem freeB_iff {p : Nat × List Nat} {s : St} : s.freeB p = true ↔ lk p.1 s.bx = none ∧ (∀ t ∈ s.tm, t.freeB p.1 p.2 = true) ∧ (∀ q ∈ s.bx, ∀ t ∈ q.2, t.freeB p.1 p.2 = true) ∧ ∀ l ∈ s.sv, ∀ t ∈ l, t.freeB p.1 p.2 = true := by
  simp only [St.freeB, Bool.and_eq_true, Option.isNone_iff_eq_none, List.all_eq_true, and_assoc]

theorem freeAll_iff {ps : List (Nat × List Nat)} {s : St} : freeAll ps s = true ↔ ∀ p ∈ ps, s.freeB p = true := by
  induction ps with
  | nil => simp [freeAll]
  | cons p ps ih => simp [freeAll, ih]

/-- What making a variable does, where nothing names it. -/
def aOn (d : Nat) (i : Inf) (s : St) : St := { s with tm := s.tm.set d (.ptr d 0), bx := upd d (zeroT i) s.bx, tk := tkAll i.acc s.tk }

theorem newToks_free {d : Nat} {ts : List Nat} : ∀ (l : List (Nat × Nat)) (s : St), (∀ p ∈ l, p.2 ∈ ts) → s.freeB (d, ts) = true → newToks l s = { s with tk := tkAll l s.tk }
  | [], s, _, _ => rfl
  | p :: l, s, h, hf => by
    obtain ⟨_, f2, f3, f4⟩ := freeB_iff.1 hf
    have hk := h p (by simp)
    have e : s.newTok p.2 = { s with tk := upd p.2 0 s.tk } := by
      unfold St.newTok
      rw [mapTV_same (fun t ht => killTok_free hk (f2 t ht)) (fun q hq t ht => killTok_free hk (f3 q hq t ht)) (fun l hl t ht => killTok_free hk (f4 l hl t ht))]
    simp only [newToks]
    rw [e, newToks_free l _ (fun q hq => h q (by simp [hq])) (by rw [← hf]; rfl)]
    rfl

theorem zeroT_mem (i : Inf) : ∀ t ∈ zeroT i, (∃ v, t = .v (.s v)) ∨ ∃ p ∈ i.acc, t = .acc p.2 [] := by
  have key : ∀ (acc : List (Nat × Nat)) (l : List TV) (hl : ∀ t ∈ l, (∃ v, t = .v (.s v)) ∨ ∃ p ∈ i.acc, t = .acc p.2 []) (ha : ∀ p ∈ acc, p ∈ i.acc), ∀ t ∈ acc.foldl (fun l p => l.set p.1 (.acc p.2 [])) l, (∃ v, t = .v (.s v)) ∨ ∃ p ∈ i.acc, t = .acc p.2 [] := by
    intro acc
    induction acc with
    | nil => exact fun l hl _ => hl
    | cons p acc ih =>
      intro l hl ha
      refine ih _ (fun t ht => ?_) fun q hq => ha q (by simp [hq])
      rcases List.mem_or_eq_of_mem_set ht with ht | ht
      · exact hl t ht
      · exact .inr ⟨p, ha p (by simp), ht⟩
  refine key i.acc _ (fun t ht => ?_) fun p hp => hp
  obtain ⟨v, _, rfl⟩ := List.mem_map.1 ht
  exact .inl ⟨v, rfl⟩

theorem zeroT_kill (i : Inf) (d : Nat) : (zeroT i).map (TV.killPtr d) = zeroT i := map_same fun t ht => by
  rcases zeroT_mem i t ht with ⟨v, rfl⟩ | ⟨p, _, rfl⟩ <;> rfl

section
variable {P : Program}

theorem allocD_spec {o : AO} {d : Nat} {ts : List Nat} (h : allocD o = some (d, ts)) : (∃ t, o.op = .alloc t) ∧ o.dst = some d ∧ o.guard = none ∧ ts = o.inf.acc.map (·.2) := by
  unfold allocD at h
  split at h
  · rename_i t d' h1 h2 h3
    cases h
    exact ⟨⟨t, h1⟩, h2, h3, rfl⟩
  · cases h

theorem alloc_wp {its : Option (Nat × List (List PV))} {all : List AO} {o : AO} {d : Nat} {ts : List Nat} {s : St} {K : St → Prop} (ho : allocD o = some (d, ts)) (hf : s.freeB (d, ts) = true) :
    wpOp P its all o s K ↔ (lk d s.ro).isNone = true ∧ K (aOn d o.inf s) := by
  obtain ⟨⟨t, h1⟩, h2, h3, rfl⟩ := allocD_spec ho
  obtain ⟨f1, f2, f3, f4⟩ := freeB_iff.1 hf
  have e : stepA s o.dst o.op o.inf = if (lk d s.ro).isNone = true then some (aOn d o.inf s) else none := by
    rw [h1, h2]
    simp only [stepA]
    have e1 := newToks_free o.inf.acc s (d := d) (ts := o.inf.acc.map (·.2)) (fun p hp => List.mem_map_of_mem hp) hf
    rw [e1]
    unfold St.newBox
    rw [mapTV_same (f := TV.killPtr d) (s := { s with tk := tkAll o.inf.acc s.tk }) (fun t ht => killPtr_free (f2 t ht)) (fun q hq t ht => killPtr_free (f3 q hq t ht)) (fun l hl t ht => killPtr_free (f4 l hl t ht)), zeroT_kill]
    rfl
  have hn : nilTest o = none := by
    unfold nilTest
    rw [h1]
  have hB : execB P its s o K ↔ ∃ s', stepA s o.dst o.op o.inf = some s' ∧ K s' := by
    unfold execB
    rw [h1]
  unfold wpOp
  rw [h3]
  simp only [execA, hn]
  rw [hB, e]
  by_cases h : (lk d s.ro).isNone = true
  · simp [h]
  · simp [h]

/-- Two new variables have nothing in common. -/
def apartD (p q : Nat × List Nat) : Prop := p.1 ≠ q.1 ∧ (∀ t ∈ p.2, t ∉ q.2) ∧ ∀ t ∈ q.2, t ∉ p.2

theorem mem_upd {β : Type} {k : Nat} {x : β} : ∀ {l : List (Nat × β)} {q : Nat × β}, q ∈ upd k x l → q = (k, x) ∨ q ∈ l
  | [], q, h => by simp only [upd, List.mem_singleton] at h; exact .inl h
  | (j, y) :: l, q, h => by
    simp only [upd] at h
    split at h
    · rcases List.mem_cons.1 h with h | h
      · exact .inl h
      · exact .inr (by simp [h])
    · split at h
      · rcases List.mem_cons.1 h with h | h
        · exact .inl h
        · exact .inr h
      · rcases List.mem_cons.1 h with h | h
        · exact .inr (by simp [h])
        · rcases mem_upd h with h | h
          · exact .inl h
          · exact .inr (by simp [h])
theorem upd_mem {β : Type} {k : Nat} {x : β} : ∀ (l : List (Nat × β)), (k, x) ∈ upd k x l
  | [] => by simp [upd]
  | (j, y) :: l => by
    simp only [upd]
    split
    · simp
    · split
      · simp
      · exact List.mem_cons_of_mem _ (upd_mem l)

theorem freeB_aOn {p : Nat × List Nat} {d : Nat} {i : Inf} {s : St} (h : s.freeB p = true) (hap : apartD (d, i.acc.map (·.2)) p) : (aOn d i s).freeB p = true := by
  obtain ⟨f1, f2, f3, f4⟩ := freeB_iff.1 h
  obtain ⟨h1, h2, _⟩ := hap
  have hne : ¬ p.1 = d := fun e => h1 e.symm
  refine freeB_iff.2 ⟨?_, fun t ht => ?_, fun q hq t ht => ?_, f4⟩
  · show lk p.1 (upd d (zeroT i) s.bx) = none
    rw [lk_upd, if_neg hne, f1]
  · rcases List.mem_or_eq_of_mem_set ht with ht | rfl
    · exact f2 t ht
    · simp only [TV.freeB, bne_iff_ne, ne_eq]
      exact fun e => hne e.symm
  · rcases mem_upd hq with rfl | hq
    · rcases zeroT_mem i t ht with ⟨v, rfl⟩ | ⟨p', hp', rfl⟩
      · rfl
      · have := h2 p'.2 (List.mem_map_of_mem hp')
        simp [TV.freeB, this]
    · exact f3 q hq t ht

theorem freeB_on {p : Nat × List Nat} {u v : Up} {s : St} (h : s.freeB p = true) (h2 : (v.on (u.on s)).freeB p = true) : (v.on s).freeB p = true := by
  obtain ⟨f1, f2, f3, f4⟩ := freeB_iff.1 h
  obtain ⟨g1, g2, g3, g4⟩ := freeB_iff.1 h2
  obtain ⟨vt, vb, vk⟩ := v
  have hlen : (u.on s).tm.length = s.tm.length := by
    unfold Up.on
    cases u.tm <;> simp
  refine freeB_iff.2 ⟨?_, fun t ht => ?_, fun q hq t ht => ?_, f4⟩
  · cases vb with
    | none => exact f1
    | some bc =>
      obtain ⟨b, c⟩ := bc
      simp only [Up.on] at g1 ⊢
      rw [lk_upd] at g1 ⊢
      split at g1
      · cases g1
      · rename_i hne
        rw [if_neg hne, f1]
  · cases vt with
    | none => exact f2 t ht
    | some dx =>
      obtain ⟨d, x⟩ := dx
      simp only [Up.on] at ht g2
      rcases List.mem_or_eq_of_mem_set ht with ht' | rfl
      · exact f2 t ht'
      · by_cases hd : d < s.tm.length
        · refine g2 t ?_
          refine List.mem_iff_getElem.2 ⟨d, ?_, ?_⟩
          · rw [List.length_set]
            have := hlen
            unfold Up.on at this
            simp only at this
            omega
          · simp
        · rw [List.set_eq_of_length_le (by omega)] at ht
          exact f2 t ht
  · cases vb with
    | none => exact f3 q hq t ht
    | some bc =>
      obtain ⟨b, c⟩ := bc
      simp only [Up.on] at hq g3
      rcases mem_upd hq with rfl | hq
      · exact g3 _ (upd_mem _) t ht
      · exact f3 q hq t ht

/-- x reads through a slot, y writes through another one: of these it is known that they point to two variables. -/
def indepP (pa : List (Nat × Nat)) (all : List AO) (x y : AO) : Bool :=
  calm false x && calm false y && apart all x y && apart all y x && !(usesT x.op && usesT y.op) && match x.op, y.op with
    | .load _ (.tmp n), .store _ (.tmp m) _ => pa.contains (n, m)
    | _, _ => false

/-- May y, that stands behind x, go first? -/
def indepC (pa : List (Nat × Nat)) (all : List AO) (x y : AO) : Bool := match allocD x, allocD y with
  | none, none => indep false all x y || indepP pa all x y
  | none, some _ => calm false x && !turnsB x.op && !usesT x.op && apart all x y && apart all y x
  | some _, some _ => true
  | some _, none => false

theorem paOk_iff {pa : List (Nat × Nat)} {s : St} : paOk pa s = true ↔ ∀ p ∈ pa, ∃ b o b' o', s.tm[p.1]? = some (.ptr b o) ∧ s.tm[p.2]? = some (.ptr b' o') ∧ b ≠ b' := by
  induction pa with
  | nil => simp [paOk]
  | cons p ps ih =>
    simp only [paOk, Bool.and_eq_true, ih, List.mem_cons, forall_eq_or_imp]
    refine and_congr_left fun _ => ?_
    constructor
    · intro h
      split at h
      · rename_i b o b' o' h1 h2
        exact ⟨b, o, b', o', h1, h2, by simpa using h⟩
      · cases h
    · rintro ⟨b, o, b', o', h1, h2, h3⟩
      rw [h1, h2]
      simpa using h3

/-- Does no operation write the slots that are spoken of? -/
def paFree (pa : List (Nat × Nat)) (o : AO) : Bool := pa.all fun p => o.dst != some p.1 && o.dst != some p.2
theorem paOk_same {pa : List (Nat × Nat)} {s s' : St} (h : paOk pa s = true) (hs : ∀ p ∈ pa, s'.tm[p.1]? = s.tm[p.1]? ∧ s'.tm[p.2]? = s.tm[p.2]?) : paOk pa s' = true := by
  rw [paOk_iff] at h ⊢
  intro p hp
  obtain ⟨h1, h2⟩ := hs p hp
  rw [h1, h2]
  exact h p hp
theorem paFree_spec {pa : List (Nat × Nat)} {o : AO} (h : paFree pa o = true) {p : Nat × Nat} (hp : p ∈ pa) : o.dst ≠ some p.1 ∧ o.dst ≠ some p.2 := by
  have := List.all_eq_true.1 h p hp
  simpa using this
theorem paOk_on {pa : List (Nat × Nat)} {o : AO} {u : Up} {s : St} (hf : paFree pa o = true) (hu : ∀ d x, u.tm = some (d, x) → o.dst = some d) (h : paOk pa s = true) : paOk pa (u.on s) = true :=
  paOk_same h fun p hp => by
    obtain ⟨h1, h2⟩ := paFree_spec hf hp
    have key : ∀ n, o.dst ≠ some n → (u.on s).tm[n]? = s.tm[n]? := fun n hn => by
      unfold Up.on
      cases ht : u.tm with
      | none => rfl
      | some q =>
        obtain ⟨d, x⟩ := q
        exact List.getElem?_set_ne (fun e => hn (by rw [← e]; exact hu d x ht))
    exact ⟨key _ h1, key _ h2⟩
theorem paOk_aOn {pa : List (Nat × Nat)} {o : AO} {d : Nat} {i : Inf} {s : St} (hf : paFree pa o = true) (hd : o.dst = some d) (h : paOk pa s = true) : paOk pa (aOn d i s) = true :=
  paOk_same h fun p hp => by
    obtain ⟨h1, h2⟩ := paFree_spec hf hp
    exact ⟨List.getElem?_set_ne (fun e => h1 (by rw [← e]; exact hd)), List.getElem?_set_ne (fun e => h2 (by rw [← e]; exact hd))⟩

def dsO (o : AO) : List (Nat × List Nat) := (allocD o).toList

theorem swapC {pa : List (Nat × Nat)} {all : List AO} {x y : AO} {D : List (Nat × List Nat)} {s : St} {K : St → Prop} (hfx : paFree pa x = true) (hfy : paFree pa y = true) (hpa : paOk pa s = true) (hF : ∀ p ∈ dsO x ++ (dsO y ++ D), s.freeB p = true) (hi : indepC pa all x y = true)
    (hd : ∀ p ∈ dsO y, ∀ q ∈ dsO x ++ D, apartD p q) (hK : ∀ s, K s → ∀ p ∈ D, s.freeB p = true)
    (h : wpOp P none all x s fun s1 => (∀ p ∈ dsO y ++ D, s1.freeB p = true) ∧ wpOp P none all y s1 K) :
    wpOp P none all y s fun s1 => ((∀ p ∈ dsO x ++ D, s1.freeB p = true) ∧ paOk pa s1 = true) ∧ wpOp P none all x s1 K := by
  have hv' : false = true ∨ (none : Option (Nat × List (List PV))) = none := .inr rfl
  unfold indepC at hi
  split at hi
  · rename_i hax hay
    have ex : dsO x = [] := by simp [dsO, hax]
    have ey : dsO y = [] := by simp [dsO, hay]
    rw [ex, ey] at hF
    simp only [List.nil_append] at hF
    obtain ⟨c1, c2, a1, a2, b3', hbox⟩ : calm false x = true ∧ calm false y = true ∧ apart all x y = true ∧ apart all y x = true ∧ ¬ (usesT x.op = true ∧ usesT y.op = true) ∧
        (¬ (turnsB x.op = true ∧ looksB y.op = true) ∧ (¬ (turnsB y.op = true ∧ looksB x.op = true) ∨ ∃ t n t' m z, x.op = .load t (.tmp n) ∧ y.op = .store t' (.tmp m) z ∧ (n, m) ∈ pa)) := by
      rcases Bool.or_eq_true _ _ ▸ hi with hi | hi
      · simp only [indep, Bool.and_eq_true, Bool.not_eq_true', Bool.and_eq_false_iff] at hi
        obtain ⟨⟨⟨⟨⟨⟨c1, c2⟩, a1⟩, a2⟩, b1⟩, b2⟩, b3⟩ := hi
        exact ⟨c1, c2, a1, a2, (fun ⟨p, q⟩ => by rcases b3 with b | b <;> simp_all), (fun ⟨p, q⟩ => by rcases b1 with b | b <;> simp_all), .inl fun ⟨p, q⟩ => by rcases b2 with b | b <;> simp_all⟩
      · simp only [indepP, Bool.and_eq_true, Bool.not_eq_true', Bool.and_eq_false_iff] at hi
        obtain ⟨⟨⟨⟨⟨c1, c2⟩, a1⟩, a2⟩, b3⟩, b4⟩ := hi
        split at b4
        · rename_i t n t' m z ex' ey'
          exact ⟨c1, c2, a1, a2, (fun ⟨p, q⟩ => by rcases b3 with b | b <;> simp_all), (fun ⟨p, q⟩ => by rw [ex'] at p; cases p), .inr ⟨t, n, t', m, z, ex', ey', by simpa using b4⟩⟩
        · cases b4
    obtain ⟨b1', hbox⟩ := hbox
    obtain ⟨u, hu, hfu, hy⟩ := turns_op hv' c1 h
    obtain ⟨v, hv, hKv⟩ := turns_op hv' c2 hy
    have e1 := alike_of hu a1 b1' b3'
    have hvs : Turns P none all y s v := ⟨hv.1, (fun b c hbc => by
      obtain ⟨t, z, q, off, ho, he⟩ := hv.2.1 b c hbc
      exact ⟨t, z, q, off, ho, (e1.ops z (by rw [ho]; simp [opds])).symm.trans he⟩), hv.2.2.1, fun s2 ha => hv.2.2.2 s2
      ⟨fun z hz => (e1.ops z hz).trans (ha.ops z hz), fun d hd => (e1.gd d hd).trans (ha.gd d hd), e1.ro.trans ha.ro, fun hl z hz b off he => (e1.bx hl z hz b off he).trans (ha.bx hl z hz b off ((e1.ops z hz).symm.trans he)), fun ht => (e1.tk ht).trans (ha.tk ht)⟩⟩
    -- the variable that y writes is not the one that x reads
    have hlk : looksB x.op = true → ∀ z ∈ opds x.op, ∀ b off, ev s z = some (.ptr b off) → lk b (v.on s).bx = lk b s.bx := fun hl z hz b off he => by
      cases hb : v.bx with
      | none => simp only [Up.on, hb]
      | some bc =>
        obtain ⟨b', c⟩ := bc
        simp only [Up.on, hb]
        obtain ⟨t, zz, q, off', ho, he'⟩ := hvs.2.1 b' c hb
        have hne : ¬ b = b' := by
          rcases hbox with h2 | ⟨t1, n, t2, m, z', ex', ey', hm⟩
          · exact absurd ⟨by rw [ho]; rfl, hl⟩ h2
          · rw [ey'] at ho
            cases ho
            rw [ex'] at hz
            simp only [opds, List.mem_singleton] at hz
            subst hz
            obtain ⟨b1, o1, b2, o2, p1, p2, p3⟩ := paOk_iff.1 hpa _ hm
            have q1 : s.tm[n]? = some (.ptr b off) := he
            have q2 : s.tm[m]? = some (.ptr b' off') := he'
            rw [q1] at p1
            rw [q2] at p2
            cases p1
            cases p2
            exact p3
        rw [lk_upd, if_neg hne]
    obtain ⟨k1, k2⟩ := apart_spec a2
    have e2 : Alike all x s (v.on s) := ⟨fun z hz => (ev_on (all := all) hvs.1 fun n e => k1 n (mem_slots_of (e ▸ hz))).symm, fun d hd => by
        have : d ∈ slots all x := by simp only [slots, hd, Option.toList_some, List.mem_append]; exact .inr (by simp)
        exact (ev_on (all := all) (z := .tmp d) hvs.1 fun n e => by cases e; exact k1 d this).symm, rfl, fun hl z hz b off he => (hlk hl z hz b off he).symm, fun ht => by
        cases hk : v.tk with
        | none => simp only [Up.on, hk]
        | some _ => exact absurd ⟨ht, hvs.2.2.1 (by rw [hk]; rfl)⟩ b3'⟩
    refine hv.2.2.2 s e1 _ ⟨⟨fun p hp => ?_, paOk_on hfy hvs.1 hpa⟩, hu.2.2.2 _ e2 _ ?_⟩
    · rw [ex, List.nil_append] at hp
      exact freeB_on (hF p hp) (hK _ hKv p hp)
    · have e : u.on (v.on s) = v.on (u.on s) := on_comm
        (fun d x d' x' p q => fun e => (apart_spec a1).2 d (hu.1 d x p) (e ▸ hv.1 d' x' q))
        (fun p q => b1' ⟨hu.bxB p, turnsB_looksB (hv.bxB q)⟩) (fun p q => b3' ⟨hu.2.2.1 p, hv.2.2.1 q⟩)
      rw [e]
      exact hKv
  · rename_i dt hax hay
    obtain ⟨dy, ty⟩ := dt
    have ex : dsO x = [] := by simp [dsO, hax]
    have ey : dsO y = [(dy, ty)] := by simp [dsO, hay]
    rw [ex, ey] at hF
    rw [ey] at hd h
    rw [ex] at hd ⊢
    simp only [List.nil_append] at hF hd ⊢
    simp only [Bool.and_eq_true, Bool.not_eq_true'] at hi
    obtain ⟨⟨⟨⟨c1, b1⟩, b2⟩, a1⟩, a2⟩ := hi
    obtain ⟨hop, hdst, _, hts⟩ := allocD_spec hay
    subst hts
    obtain ⟨u, hu, hfu, hy⟩ := turns_op hv' c1 h
    have fy : s.freeB (dy, y.inf.acc.map (·.2)) = true := hF _ (by simp)
    obtain ⟨r1, r2⟩ := (alloc_wp hay (hfu _ (by simp))).1 hy
    obtain ⟨g1, g2, g3, g4⟩ := freeB_iff.1 fy
    obtain ⟨a1', a1''⟩ := apart_spec a1
    obtain ⟨a2', a2''⟩ := apart_spec a2
    have ub : u.bx = none := by
      cases hb : u.bx with
      | none => rfl
      | some _ => have := hu.bxB (by rw [hb]; rfl); rw [b1] at this; cases this
    have uk : u.tk = none := by
      cases hb : u.tk with
      | none => rfl
      | some _ => have := hu.2.2.1 (by rw [hb]; rfl); rw [b2] at this; cases this
    refine (alloc_wp hay fy).2 ⟨r1, ⟨fun p hp => freeB_aOn (hF p (by simp [hp])) (hd _ (by simp) p hp), paOk_aOn hfy hdst hpa⟩, ?_⟩
    have hne : ∀ n, n ∈ slots all x → dy ≠ n := fun n hn e => a2' n hn (e ▸ hdst)
    refine hu.2.2.2 (aOn dy y.inf s) ⟨fun z hz => ?_, fun d hd' => ?_, rfl, fun hl z hz b off he => ?_, fun ht => by rw [b2] at ht; cases ht⟩ _ ?_
    · cases z with
      | tmp n =>
        show s.tm[n]? = (s.tm.set dy _)[n]?
        rw [List.getElem?_set_ne (hne n (mem_slots_of hz))]
      | _ => rfl
    · have : d ∈ slots all x := by simp only [slots, hd', Option.toList_some, List.mem_append]; exact .inr (by simp)
      show s.tm[d]? = (s.tm.set dy _)[d]?
      rw [List.getElem?_set_ne (hne d this)]
    · show lk b s.bx = lk b (upd dy _ s.bx)
      have hbd : ¬ b = dy := by
        cases z with
        | tmp n =>
          have hm : TV.ptr b off ∈ s.tm := List.mem_of_getElem? he
          have := g2 _ hm
          simpa [TV.freeB] using this
        | const w => simp [ev] at he
        | func w => simp [ev] at he
        | _ => cases he
      rw [lk_upd, if_neg hbd]
    · have e : u.on (aOn dy y.inf s) = aOn dy y.inf (u.on s) := by
        simp only [Up.on, aOn, ub, uk]
        congr 1
        cases ht : u.tm with
        | none => rfl
        | some q =>
          obtain ⟨d, z⟩ := q
          have hdx := hu.1 d z ht
          have : dy ≠ d := fun e => a1'' d hdx (e ▸ hdst)
          exact List.set_comm _ _ this
      rw [e]
      exact r2
  · rename_i dtx dty hax hay
    obtain ⟨dx, tx⟩ := dtx
    obtain ⟨dy, ty⟩ := dty
    have ex : dsO x = [(dx, tx)] := by simp [dsO, hax]
    have ey : dsO y = [(dy, ty)] := by simp [dsO, hay]
    rw [ex, ey] at hF
    rw [ey] at hd h
    rw [ex] at hd ⊢
    obtain ⟨_, hdstx, _, htx⟩ := allocD_spec hax
    obtain ⟨_, hdsty, _, hty⟩ := allocD_spec hay
    subst htx
    subst hty
    have fx : s.freeB (dx, x.inf.acc.map (·.2)) = true := hF _ (by simp)
    have fy : s.freeB (dy, y.inf.acc.map (·.2)) = true := hF _ (by simp)
    have hap : apartD (dy, y.inf.acc.map (·.2)) (dx, x.inf.acc.map (·.2)) := hd _ (by simp) _ (by simp)
    obtain ⟨r1, r2, r3⟩ := (alloc_wp hax fx).1 h
    obtain ⟨q1, q2⟩ := (alloc_wp hay (r2 _ (by simp))).1 r3
    refine (alloc_wp hay fy).2 ⟨q1, ⟨fun p hp => ?_, paOk_aOn hfy hdsty hpa⟩, (alloc_wp hax (freeB_aOn fx hap)).2 ⟨r1, ?_⟩⟩
    · refine freeB_aOn (hF p ?_) (hd _ (by simp) p hp)
      rcases List.mem_append.1 hp with hp | hp
      · simp at hp; simp [hp]
      · simp [hp]
    · have e : aOn dx x.inf (aOn dy y.inf s) = aOn dy y.inf (aOn dx x.inf s) := by
        simp only [aOn]
        congr 1
        · exact List.set_comm _ _ hap.1
        · exact upd_comm (fun e => hap.1 e.symm) _
        · exact tkAll_comm _ _ _ fun p hp q hq e => hap.2.1 q.2 (List.mem_map_of_mem hq) (e ▸ List.mem_map_of_mem hp)
      rw [e]
      exact q2
  · cases hi

/-- The new variables of these operations. -/
def dsI (all : List AO) : List Nat → List (Nat × List Nat)
  | [] => []
  | i :: l => (match all[i]? with | some o => dsO o | none => []) ++ dsI all l

/-- The operations of these numbers, one behind the other; nothing names what is to be made. -/
def wpLC (P : Program) (pa : List (Nat × Nat)) (all : List AO) : List Nat → St → (St → Prop) → Prop
  | [], s, K => K s
  | i :: l, s, K => match all[i]? with
    | some o => wpOp P none all o s fun s' => ((∀ p ∈ dsI all l, s'.freeB p = true) ∧ paOk pa s' = true) ∧ wpLC P pa all l s' K
    | none => False

theorem wpLC_cons {pa : List (Nat × Nat)} {all : List AO} {i : Nat} {l : List Nat} {s : St} {K : St → Prop} : wpLC P pa all (i :: l) s K ↔ ∃ o, all[i]? = some o ∧ wpOp P none all o s fun s' => ((∀ p ∈ dsI all l, s'.freeB p = true) ∧ paOk pa s' = true) ∧ wpLC P pa all l s' K := by
  simp only [wpLC]
  cases all[i]? with
  | none => simp
  | some o => simp

theorem dsI_range {all : List AO} : ∀ (n k : Nat), k + n = all.length → dsI all (List.range' k n) = dsL (all.drop k)
  | 0, k, hk => by rw [List.drop_eq_nil_of_le (by omega)]; rfl
  | n + 1, k, hk => by
    have hlt : k < all.length := by omega
    have ih := dsI_range (all := all) n (k + 1) (by omega)
    rw [List.drop_eq_getElem_cons hlt, List.range'_succ]
    simp only [dsI, List.getElem?_eq_getElem hlt, dsL, dsO]
    rw [ih]
    cases allocD all[k] <;> rfl

theorem wpLC_range {pa : List (Nat × Nat)} {all : List AO} {K : St → Prop} : ∀ (n k : Nat), k + n = all.length → ∀ {s : St}, wpOpsC P pa all (all.drop k) s K → wpLC P pa all (List.range' k n) s K
  | 0, k, hk, s, h => by rw [List.drop_eq_nil_of_le (by omega)] at h; exact h
  | n + 1, k, hk, s, h => by
    have hlt : k < all.length := by omega
    rw [List.drop_eq_getElem_cons hlt] at h
    rw [List.range'_succ, wpLC_cons]
    refine ⟨_, List.getElem?_eq_getElem hlt, wpOp_mono' (.inr rfl) (fun s' hs' => ⟨?_, wpLC_range n (k + 1) (by omega) hs'.2⟩) h⟩
    rw [dsI_range n (k + 1) (by omega)]
    have := hs'.1
    rw [Bool.and_eq_true] at this
    exact ⟨freeAll_iff.1 this.1, this.2⟩

theorem dsI_append {all : List AO} : ∀ (l m : List Nat), dsI all (l ++ m) = dsI all l ++ dsI all m
  | [], m => rfl
  | i :: l, m => by simp only [List.cons_append, dsI, dsI_append l m, List.append_assoc]

theorem mem_dsI {all : List AO} {p : Nat × List Nat} : ∀ {l : List Nat}, p ∈ dsI all l → ∃ i ∈ l, ∃ o, all[i]? = some o ∧ p ∈ dsO o
  | [], h => by simp [dsI] at h
  | i :: l, h => by
    simp only [dsI, List.mem_append] at h
    rcases h with h | h
    · cases ho : all[i]? with
      | none => rw [ho] at h; simp at h
      | some o => rw [ho] at h; exact ⟨i, by simp, o, ho, h⟩
    · obtain ⟨j, hj, o, ho, hp⟩ := mem_dsI h
      exact ⟨j, by simp [hj], o, ho, hp⟩

/-- All that is made is apart. -/
def distinctA (all : List AO) : Bool :=
  (List.range all.length).all fun i => (List.range all.length).all fun j => i == j || match (all[i]?).bind allocD, (all[j]?).bind allocD with
    | some p, some q => p.1 != q.1 && p.2.all (fun t => !q.2.contains t) && q.2.all (fun t => !p.2.contains t)
    | _, _ => true

theorem distinctA_spec {all : List AO} (h : distinctA all = true) {i j : Nat} {oi oj : AO} (hi : all[i]? = some oi) (hj : all[j]? = some oj) (hne : i ≠ j) {p q : Nat × List Nat} (hp : p ∈ dsO oi) (hq : q ∈ dsO oj) : apartD p q := by
  have li := (List.getElem?_eq_some_iff.1 hi).1
  have lj := (List.getElem?_eq_some_iff.1 hj).1
  have := List.all_eq_true.1 (List.all_eq_true.1 h i (List.mem_range.2 li)) j (List.mem_range.2 lj)
  have hp' : allocD oi = some p := by simpa [dsO] using hp
  have hq' : allocD oj = some q := by simpa [dsO] using hq
  rw [hi, hj] at this
  simp only [Option.bind_some, hp', hq', Bool.or_eq_true, beq_iff_eq, hne, false_or, Bool.and_eq_true, bne_iff_ne, ne_eq, List.all_eq_true, Bool.not_eq_true', List.contains_eq_mem, decide_eq_false_iff_not] at this
  exact ⟨this.1.1, this.1.2, this.2⟩

/-- What may come first, comes first. -/
theorem wpLC_first {pa : List (Nat × Nat)} {all : List AO} (hdis : distinctA all = true) (hpf : ∀ o ∈ all, paFree pa o = true) {i : Nat} {oi : AO} (hoi : all[i]? = some oi) {K : St → Prop} {l2 : List Nat} : ∀ (l1 : List Nat), (l1 ++ i :: l2).Nodup → (∀ x ∈ l1, ∃ ox, all[x]? = some ox ∧ indepC pa all ox oi = true) → ∀ {s : St},
    ((∀ p ∈ dsI all (l1 ++ i :: l2), s.freeB p = true) ∧ paOk pa s = true) → wpLC P pa all (l1 ++ i :: l2) s K → wpOp P none all oi s fun s' => ((∀ p ∈ dsI all (l1 ++ l2), s'.freeB p = true) ∧ paOk pa s' = true) ∧ wpLC P pa all (l1 ++ l2) s' K
  | [], _, _, s, hF, h => by
    rw [List.nil_append, wpLC_cons] at h
    obtain ⟨o, h1, h2⟩ := h
    rw [hoi] at h1
    cases h1
    exact h2
  | x :: l1, hnd, hx, s, hF, h => by
    obtain ⟨ox, h1, h2⟩ := hx x (by simp)
    rw [List.cons_append, wpLC_cons] at h
    obtain ⟨ox', h3, h4⟩ := h
    rw [h1] at h3
    cases h3
    rw [List.cons_append] at hnd hF
    have hnd' := List.nodup_cons.1 hnd
    have e0 : dsI all (x :: (l1 ++ i :: l2)) = dsO ox ++ dsI all (l1 ++ i :: l2) := by simp only [dsI, h1]
    have ei : dsI all (i :: l2) = dsO oi ++ dsI all l2 := by simp only [dsI, hoi]
    have hsub : ∀ p, p ∈ dsO oi ++ dsI all (l1 ++ l2) ↔ p ∈ dsI all (l1 ++ i :: l2) := fun p => by
      rw [dsI_append, dsI_append, ei]
      simp only [List.mem_append]
      constructor <;> (rintro (h | h | h) <;> simp [h])
    have h5 : wpOp P none all ox s fun s1 => (∀ p ∈ dsO oi ++ dsI all (l1 ++ l2), s1.freeB p = true) ∧ wpOp P none all oi s1 fun s2 => ((∀ p ∈ dsI all (l1 ++ l2), s2.freeB p = true) ∧ paOk pa s2 = true) ∧ wpLC P pa all (l1 ++ l2) s2 K :=
      wpOp_mono' (.inr rfl) (fun s' hs' => ⟨fun p hp => hs'.1.1 p ((hsub p).1 hp), wpLC_first hdis hpf hoi l1 hnd'.2 (fun y hy => hx y (by simp [hy])) hs'.1 hs'.2⟩) h4
    have h6 := swapC (x := ox) (y := oi) (D := dsI all (l1 ++ l2)) (K := fun s2 => ((∀ p ∈ dsI all (l1 ++ l2), s2.freeB p = true) ∧ paOk pa s2 = true) ∧ wpLC P pa all (l1 ++ l2) s2 K)
      (hpf _ (List.mem_of_getElem? h1)) (hpf _ (List.mem_of_getElem? hoi)) hF.2
      (fun p hp => by
        refine hF.1 p ?_
        rw [e0]
        rcases List.mem_append.1 hp with hp | hp
        · simp [hp]
        · exact List.mem_append_right _ ((hsub p).1 hp)) h2
      (fun p hp q hq => by
        rcases List.mem_append.1 hq with hq | hq
        · refine distinctA_spec hdis hoi h1 (fun e => ?_) hp hq
          subst e
          exact hnd'.1 (by simp)
        · obtain ⟨j, hj, oj, hoj, hqj⟩ := mem_dsI hq
          refine distinctA_spec hdis hoi hoj (fun e => ?_) hp hqj
          subst e
          have hn := hnd'.2
          rw [List.nodup_append] at hn
          rcases List.mem_append.1 hj with hj | hj
          · exact hn.2.2 i hj i (by simp) rfl
          · exact (List.nodup_cons.1 hn.2.1).1 hj)
      (fun s hs p hp => hs.1.1 p hp) h5
    refine wpOp_mono' (.inr rfl) (fun s' hs' => ?_) h6
    refine ⟨⟨fun p hp => ?_, hs'.1.2⟩, ?_⟩
    · refine hs'.1.1 p ?_
      rw [List.cons_append] at hp
      have : dsI all (x :: (l1 ++ l2)) = dsO ox ++ dsI all (l1 ++ l2) := by simp only [dsI, h1]
      rwa [this] at hp
    · rw [List.cons_append, wpLC_cons]
      exact ⟨ox, h1, hs'.2⟩
/-- Does what the region's edges leave open not matter? -/
def drawOkC (pa : List (Nat × Nat)) (ao : List AO) : Bool :=
  (List.range ao.length).all fun i => match ao[i]? with
    | none => false
    | some oi => oi.pre.all (fun j => decide (j < i)) && (List.range i).all fun x => match ao[x]? with
      | none => false
      | some ox => oi.pre.contains x || indepC pa ao ox oi || reach ao x 6 oi.pre

theorem drawOkC_spec {pa : List (Nat × Nat)} {ao : List AO} (h : drawOkC pa ao = true) {i : Nat} {oi : AO} (hi : ao[i]? = some oi) : (∀ j ∈ oi.pre, j < i) ∧ ∀ x, x < i → reach ao x 7 oi.pre = false → ∃ ox, ao[x]? = some ox ∧ indepC pa ao ox oi = true := by
  have hlt := (List.getElem?_eq_some_iff.1 hi).1
  have := List.all_eq_true.1 h i (List.mem_range.2 hlt)
  rw [hi] at this
  simp only [Bool.and_eq_true, List.all_eq_true, decide_eq_true_eq, List.mem_range] at this
  refine ⟨this.1, fun x hx hn => ?_⟩
  have := this.2 x hx
  split at this
  · cases this
  · rename_i ox hox
    refine ⟨ox, hox, ?_⟩
    have e : oi.pre.contains x = false := by
      simp only [reach, Bool.or_eq_false_iff] at hn
      exact hn.1
    have e2 : reach ao x 6 oi.pre = false := by
      cases hr : reach ao x 6 oi.pre with
      | false => rfl
      | true => rw [reach_succ ao x 6 _ hr] at hn; cases hn
    rw [e, e2] at this
    simpa using this

theorem sound_goC {pa : List (Nat × Nat)} {ao : List AO} {ops : Array Oper} (hok : drawOkC pa ao = true) (hdis : distinctA ao = true) (hpf : ∀ o ∈ ao, paFree pa o = true) (hag : OpsAgree P ao ops) {its : Option (Nat × List (List PV))} {w00 : World} {I00 : Imm} {Jt : Nat → Imm → World → Prop} {ro : Option Nat} (hctx : Ctx P its Jt) {Q : XA → St → Prop} {sav : List (Array Value)}
    (Iz : Imm) (wz : World) : ∀ (fuel t : Nat) (listed : Array Bool), listed.size = ops.size → (∀ i oi, ao[i]? = some oi → listed.getD i false = true → ∀ j ∈ oi.pre, listed.getD j false = true) → ((List.range ops.size).filter fun i => !listed.getD i true).length = fuel →
    ∀ {I : Imm} {w : World} {s : St} {a : Act} {w0 : World} {I0 : Imm} {β : Nat → Nat} {κ : Nat → Nat × Nat × Nat}, Iz.le I → (its = none → KeepsOthers wz w) → (its.isSome = true → a.defers = []) → Base its w00 I00 Jt s.it w0 I0 → Sim w0 I0 I β κ s sav a w →
      ((∀ p ∈ dsI ao ((List.range ops.size).filter fun i => !listed.getD i true), s.freeB p = true) ∧ paOk pa s = true) → wpLC P pa ao ((List.range ops.size).filter fun i => !listed.getD i true) s (Q .normal) →
      wpOpsIn (wideR ro) 0 P ops (PostA its (Base its w00 I00 Jt) Iz sav wz Q) (Region.linearise.go .any ops fuel t listed []) a w
  | 0, t, listed, hsz, hdc, hlen, I, w, s, a, w0, I0, β, κ, hle, hk, hdf, hB, h, hF, hs => by
    rw [List.length_eq_zero_iff.1 hlen] at hs
    exact ⟨s, I, hs, hle, hk, hdf, w0, I0, β, κ, hB, h⟩
  | fuel + 1, t, listed, hsz, hdc, hlen, I, w, s, a, w0, I0, β, κ, hle, hk, hdf, hB, h, hF, hs => by
    have hsort : ((List.range ops.size).filter fun i => !listed.getD i true).Pairwise (· < ·) := List.Pairwise.filter _ List.pairwise_lt_range
    have hlisted : ∀ j, j < ops.size → listed.getD j false = listed.getD j true := fun j hj => by
      have : j < listed.size := by omega
      simp [Array.getD, this]
    -- who is ready
    have hready : ∀ i, i ∈ Region.ready .any ops listed ↔ i < ops.size ∧ listed.getD i true = false ∧ ∀ oi, ao[i]? = some oi → ∀ j ∈ oi.pre, listed.getD j false = true := by
      intro i
      simp only [Region.ready, List.mem_filter, List.mem_range, Bool.and_eq_true, Bool.not_eq_true']
      refine and_congr_right fun hi => and_congr_right fun _ => ?_
      obtain ⟨oi, h1, _, _, _, h5, _⟩ := hag.get (Array.getElem?_eq_getElem hi)
      rw [Array.getElem?_eq_getElem hi]
      simp only [Option.map_some, Option.getD_some, h1, Option.some.injEq, forall_eq']
      rw [h5]
      rw [Array.all_eq_true']
      constructor
      · intro hx j hj
        obtain ⟨e, he, rfl⟩ := List.mem_map.1 hj
        obtain ⟨he1, hb⟩ := List.mem_filter.1 he
        have := hx e (by simpa using he1)
        rw [hb] at this
        simpa using this
      · intro hx e he
        cases hb : Region.binds .any e with
        | false => rfl
        | true =>
          have := hx e.on (List.mem_map.2 ⟨e, List.mem_filter.2 ⟨by simpa using he, hb⟩, rfl⟩)
          simpa using this
    have hne : Region.ready .any ops listed ≠ [] := by
      obtain ⟨x, L', hL⟩ : ∃ x L', ((List.range ops.size).filter fun i => !listed.getD i true) = x :: L' := by
        cases hL : ((List.range ops.size).filter fun i => !listed.getD i true) with
        | nil => rw [hL] at hlen; cases hlen
        | cons x L' => exact ⟨x, L', rfl⟩
      have hx : x ∈ ((List.range ops.size).filter fun i => !listed.getD i true) := by rw [hL]; simp
      simp only [List.mem_filter, List.mem_range, Bool.not_eq_true'] at hx
      refine List.ne_nil_of_mem ((hready x).2 ⟨hx.1, hx.2, fun oi hoi j hj => ?_⟩)
      have hjx := (drawOkC_spec hok hoi).1 j hj
      rw [hlisted j (by omega)]
      cases hl : listed.getD j true with
      | true => rfl
      | false =>
        have hm : j ∈ ((List.range ops.size).filter fun i => !listed.getD i true) := by simp only [List.mem_filter, List.mem_range, Bool.not_eq_true']; exact ⟨by omega, hl⟩
        rw [hL] at hm hsort
        rcases List.mem_cons.1 hm with hm | hm
        · omega
        · have := (List.pairwise_cons.1 hsort).1 j hm
          omega
    have hlt : t % (Region.ready .any ops listed).length < (Region.ready .any ops listed).length := Nat.mod_lt _ (List.length_pos_iff.2 hne)
    obtain ⟨i, hi⟩ : ∃ i, (Region.ready .any ops listed)[t % (Region.ready .any ops listed).length]? = some i := ⟨_, List.getElem?_eq_getElem hlt⟩
    have hgo : Region.linearise.go .any ops (fuel + 1) t listed [] = i :: Region.linearise.go .any ops fuel (t / (Region.ready .any ops listed).length) (listed.setIfInBounds i true) [] := by
      simp only [Region.linearise.go]
      change (match (Region.ready .any ops listed)[t % (Region.ready .any ops listed).length]? with
        | some i => Region.linearise.go .any ops fuel (t / (Region.ready .any ops listed).length) (listed.setIfInBounds i true) [i]
        | none => [].reverse) = _
      rw [hi]
      simp only []
      rw [linearise_go_acc]
      rfl
    rw [hgo]
    obtain ⟨hi1, hi2, hi3⟩ := (hready i).1 (List.mem_of_getElem? hi)
    have him : i ∈ ((List.range ops.size).filter fun i => !listed.getD i true) := by simp only [List.mem_filter, List.mem_range, Bool.not_eq_true']; exact ⟨hi1, hi2⟩
    obtain ⟨L1, L2, hL⟩ := List.append_of_mem him
    have hilt : i < ao.length := by rw [hag.length]; exact hi1
    have hoi : ao[i]? = some ao[i] := List.getElem?_eq_getElem hilt
    have hL1 : ∀ x ∈ L1, ∃ ox, ao[x]? = some ox ∧ indepC pa ao ox ao[i] = true := by
      intro x hx
      have hxm : x ∈ ((List.range ops.size).filter fun i => !listed.getD i true) := by rw [hL]; simp [hx]
      simp only [List.mem_filter, List.mem_range, Bool.not_eq_true'] at hxm
      rw [hL] at hsort
      have hxi : x < i := (List.pairwise_append.1 hsort).2.2 x hx i (by simp)
      refine (drawOkC_spec hok hoi).2 x hxi (Bool.eq_false_iff.2 fun hp => ?_)
      have := reach_listed hdc 7 _ (hi3 _ hoi) hp
      rw [hlisted x hxm.1, hxm.2] at this
      cases this
    have hL' : ((List.range ops.size).filter fun j => !(listed.setIfInBounds i true).getD j true) = L1 ++ L2 := by
      have e1 : ((List.range ops.size).filter fun j => !(listed.setIfInBounds i true).getD j true) = ((List.range ops.size).filter fun i => !listed.getD i true).filter (· != i) := by
        rw [List.filter_filter]
        refine List.filter_congr fun j hj => ?_
        have hj' := List.mem_range.1 hj
        by_cases e : j = i
        · subst e
          have : j < listed.size := by omega
          simp [Array.getD, this]
        · have e' : i ≠ j := fun h => e h.symm
          simp [getD_set_ne true e', e]
      rw [e1, hL]
      rw [hL] at hsort
      have hs2 := List.pairwise_append.1 hsort
      rw [List.filter_append, List.filter_cons]
      have f1 : L1.filter (· != i) = L1 := List.filter_eq_self.2 fun x hx => by
        have := hs2.2.2 x hx i (by simp)
        simp only [bne_iff_ne, ne_eq]
        omega
      have f2 : L2.filter (· != i) = L2 := List.filter_eq_self.2 fun x hx => by
        have := (List.pairwise_cons.1 hs2.2.1).1 x hx
        simp only [bne_iff_ne, ne_eq]
        omega
      rw [f1, f2]
      simp
    have hnd : ((List.range ops.size).filter fun i => !listed.getD i true).Nodup := hsort.imp fun h => Nat.ne_of_lt h
    rw [hL] at hs hF hnd
    have k2 := wpLC_first hdis hpf hoi L1 hnd hL1 hF hs
    refine sound_op hag hctx hoi hdf hB h (wpOp_mono' (.inl rfl) (fun _ hk => hk) k2) ?_
    intro s' a' w' J hle' hkeep' hsat hK
    obtain ⟨hdf1, w1, I1, β1, κ1, hB1, h1⟩ := hsat
    refine sound_goC hok hdis hpf hag hctx Iz wz fuel _ _ (by simpa using hsz) ?_ ?_ (Imm.le_trans hle hle') (fun e => (hk e).trans (hkeep' e)) hdf1 hB1 h1 (by rw [hL']; exact hK.1) (by rw [hL']; exact hK.2)
    · intro k ok hk' hkl j hj
      by_cases e : k = i
      · subst e
        exact getD_set_true (hi3 ok hk' j hj)
      · have e' : i ≠ k := fun h => e h.symm
        rw [getD_set_ne false e'] at hkl
        exact getD_set_true (hdc k ok hk' hkl j hj)
    rw [hL']
    rw [hL] at hlen
    simp only [List.length_append, List.length_cons] at hlen ⊢
    omega

theorem draw_soundC {pa : List (Nat × Nat)} {ao : List AO} (hok : drawOkC pa ao = true) (hdis : distinctA ao = true) (hpf' : ao.all (paFree pa) = true) : DrawSoundC P pa ao := by
  have hpf := List.all_eq_true.1 hpf'
  intro ops hag hmix its w00 I00 Jt ro Q I w s sav a w0 I0 β κ t hctx hdf hB h hF hs
  unfold Region.linearise
  have hall : ((List.range ops.size).filter fun i => !(Array.replicate ops.size false).getD i true) = List.range ops.size := List.filter_eq_self.2 fun i hi => by
    have := List.mem_range.1 hi
    simp [Array.getD, this]
  have hl := hag.length
  refine sound_goC hok hdis hpf hag hctx I w ops.size t _ (by simp) (fun i oi _ h => by simp [Array.getD] at h) (by rw [hall]; simp) (Imm.le_refl _) (fun _ => KeepsOthers.drew w) hdf hB h.drew ?_ ?_
  · rw [hall, List.range_eq_range', dsI_range ops.size 0 (by omega), List.drop_zero]
    rw [Bool.and_eq_true] at hF
    exact ⟨freeAll_iff.1 hF.1, hF.2⟩
  · rw [hall, List.range_eq_range']
    exact wpLC_range ops.size 0 (by omega) (by rw [List.drop_zero]; exact hs)

end
end Go.Proofs.Ytnfomjnmigkpmaa.A
