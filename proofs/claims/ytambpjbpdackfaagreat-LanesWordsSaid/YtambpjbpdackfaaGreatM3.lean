/- Regions that draw their order, and make variables. -/
import Derived.Test.YtambpjbpdackfaaGreatM2
import Derived.Orders
import Derived.WalkKit
import Derived.ProofKit
import Derived.OpenShut
import Derived.ChangeOld
import Derived.SizedLaws
import Derived.MapFrom
set_option linter.unusedVariables false
set_option linter.unusedSimpArgs false
namespace Go.Proofs.YtambpjbpdackfaaGreat.A
open Go Go.RowKit Go.Shelf

def tkAll : List (Nat × Nat) → List (Nat × Nat) → List (Nat × Nat)
  | [], l => l
  | p :: ps, l => tkAll ps (upd p.2 0 l)

theorem tkAll_upd {t n : Nat} : ∀ (ps : List (Nat × Nat)) (l : List (Nat × Nat)), (∀ p ∈ ps, p.2 ≠ t) → tkAll ps (upd t n l) = upd t n (tkAll ps l)
  | [], _, _ => rfl
  | p :: ps, l, h => by
    simp only [tkAll]
    rw [upd_comm (h p (by simp)), tkAll_upd ps _ fun q hq => h q (by simp [hq])]

theorem tkAll_comm : ∀ (ps qs l : List (Nat × Nat)), (∀ p ∈ ps, ∀ q ∈ qs, p.2 ≠ q.2) → tkAll ps (tkAll qs l) = tkAll qs (tkAll ps l)
  | [], _, _, _ => rfl
  | p :: ps, qs, l, h => by
    simp only [tkAll]
    rw [← tkAll_upd qs l fun q hq e => h p (by simp) q hq e.symm, tkAll_comm ps qs _ fun p' hp' => h p' (by simp [hp'])]

theorem killPtr_free {d : Nat} {ts : List Nat} {t : TV} (h : t.freeB d ts = true) : t.killPtr d = t := by
  cases t <;> simp_all [TV.freeB, TV.killPtr]
theorem killTok_free {d k : Nat} {ts : List Nat} (hk : k ∈ ts) {t : TV} (h : t.freeB d ts = true) : t.killTok k = t := by
  cases t with
  | acc t els =>
    simp only [TV.freeB, Bool.not_eq_true', List.contains_eq_mem, decide_eq_false_iff_not] at h
    have : t ≠ k := fun e => h (e ▸ hk)
    simp [TV.killTok, this]
  | _ => rfl

theorem map_same {f : TV → TV} {l : List TV} (h : ∀ t ∈ l, f t = t) : l.map f = l := by
  rw [List.map_congr_left h, List.map_id']

theorem mapTV_same {f : TV → TV} {s : St} (h1 : ∀ t ∈ s.tm, f t = t) (h2 : ∀ q ∈ s.bx, ∀ t ∈ q.2, f t = t) (h3 : ∀ l ∈ s.sv, ∀ t ∈ l, f t = t) : s.mapTV f = s := by
  obtain ⟨tm, bx, ro, tk, sv, it⟩ := s
  have e1 : tm.map f = tm := map_same h1
  have e2 : (bx.map fun p => (p.1, p.2.map f)) = bx := by
    have : ∀ p ∈ bx, (p.1, p.2.map f) = p := fun p hp => by rw [map_same (h2 p hp)]
    rw [List.map_congr_left this, List.map_id']
  have e3 : (sv.map fun l => l.map f) = sv := by
    have : ∀ l ∈ sv, l.map f = l := fun l hl => map_same (h3 l hl)
    rw [List.map_congr_left this, List.map_id']
  simp only [St.mapTV, e1, e2, e3]

theorem freeB_iff {p : Nat × List Nat} {s : St} : s.freeB p = true ↔ lk p.1 s.bx = none ∧ (∀ t ∈ s.tm, t.freeB p.1 p.2 = true) ∧ (∀ q ∈ s.bx, ∀ t ∈ q.2, t.freeB p.1 p.2 = true) ∧ ∀ l ∈ s.sv, ∀ t ∈ l, t.freeB p.1 p.2 = true := by
  simp only [St.freeB, Bool.and_eq_true, Option.isNone_iff_eq_none, List.all_eq_true, and_assoc]

theorem freeAll_iff {ps : List (Nat × List Nat)} {s : St} : freeAll ps s = true ↔ ∀ p ∈ ps, s.freeB p = true := by
  induction ps with
  | nil => simp [freeAll]
  | cons p ps ih => simp [freeAll, ih]

/-- What making a variable does, where nothing names it. -/
def aOn (d : Nat) (i : Inf) (s : St) : St := { s with tm := s.tm.set d (.ptr d 0), bx := upd d (zeroT i) s.bx, tk := tkAll i.acc s.tk }

theorem newToks_free {d : Nat} {ts : List Nat} : ∀ (l : List (Nat × Nat)) (s : St), (∀ p ∈ l, p.2 ∈ ts) → s.freeB (d, ts) = true → newToks l s = { s with tk := tkAll l s.tk }
  | [], s, _, _ => rfl
  | p :: l, s, h, hf => by
    obtain ⟨_, f2, f3, f4⟩ := freeB_iff.1 hf
    have hk := h p (by simp)
    have e : s.newTok p.2 = { s with tk := upd p.2 0 s.tk } := by
      unfold St.newTok
      rw [mapTV_same (fun t ht => killTok_free hk (f2 t ht)) (fun q hq t ht => killTok_free hk (f3 q hq t ht)) (fun l hl t ht => killTok_free hk (f4 l hl t ht))]
    simp only [newToks]
    rw [e, newToks_free l _ (fun q hq => h q (by simp [hq])) (by rw [← hf]; rfl)]
    rfl

theorem zeroT_mem (i : Inf) : ∀ t ∈ zeroT i, (∃ v, t = .v (.s v)) ∨ ∃ p ∈ i.acc, t = .acc p.2 [] := by
  have key : ∀ (acc : List (Nat × Nat)) (l : List TV) (hl : ∀ t ∈ l, (∃ v, t = .v (.s v)) ∨ ∃ p ∈ i.acc, t = .acc p.2 []) (ha : ∀ p ∈ acc, p ∈ i.acc), ∀ t ∈ acc.foldl (fun l p => l.set p.1 (.acc p.2 [])) l, (∃ v, t = .v (.s v)) ∨ ∃ p ∈ i.acc, t = .acc p.2 [] := by
    intro acc
    induction acc with
    | nil => exact fun l hl _ => hl
    | cons p acc ih =>
      intro l hl ha
      refine ih _ (fun t ht => ?_) fun q hq => ha q (by simp [hq])
      rcases List.mem_or_eq_of_mem_set ht with ht | ht
      · exact hl t ht
      · exact .inr ⟨p, ha p (by simp), ht⟩
  refine key i.acc _ (fun t ht => ?_) fun p hp => hp
  obtain ⟨v, _, rfl⟩ := List.mem_map.1 ht
  exact .inl ⟨v, rfl⟩

theorem zeroT_kill (i : Inf) (d : Nat) : (zeroT i).map (TV.killPtr d) = zeroT i := map_same fun t ht => by
  rcases zeroT_mem i t ht with ⟨v, rfl⟩ | ⟨p, _, rfl⟩ <;> rfl

section
variable {P : Program}

theorem allocD_spec {o : AO} {d : Nat} {ts : List Nat} (h : allocD o = some (d, ts)) : (∃ t, o.op = .alloc t) ∧ o.dst = some d ∧ o.guard = none ∧ ts = o.inf.acc.map (·.2) := by
  unfold allocD at h
  split at h
  · rename_i t d' h1 h2 h3 h4
    cases h
    exact ⟨⟨t, h1⟩, h2, h3, rfl⟩
  · cases h
theorem allocD_mc {o : AO} {p : Nat × List Nat} (h : allocD o = some p) : o.inf.mc = 0 := by
  unfold allocD at h
  split at h
  · assumption
  · cases h

theorem alloc_wp {its : Option (Nat × List Item)} {all : List AO} {o : AO} {d : Nat} {ts : List Nat} {s : St} {K : St → Prop} (ho : allocD o = some (d, ts)) (hf : s.freeB (d, ts) = true) :
    wpOp P its all o s K ↔ (lk d s.ro).isNone = true ∧ K (aOn d o.inf s) := by
  obtain ⟨⟨t, h1⟩, h2, h3, rfl⟩ := allocD_spec ho
  obtain ⟨f1, f2, f3, f4⟩ := freeB_iff.1 hf
  have e : stepA s o.dst o.op o.inf = if (lk d s.ro).isNone = true then some (aOn d o.inf s) else none := by
    rw [h1, h2]
    simp only [stepA]
    have e1 := newToks_free o.inf.acc s (d := d) (ts := o.inf.acc.map (·.2)) (fun p hp => List.mem_map_of_mem hp) hf
    rw [e1]
    unfold St.newBox
    rw [mapTV_same (f := TV.killPtr d) (s := { s with tk := tkAll o.inf.acc s.tk }) (fun t ht => killPtr_free (f2 t ht)) (fun q hq t ht => killPtr_free (f3 q hq t ht)) (fun l hl t ht => killPtr_free (f4 l hl t ht)), zeroT_kill]
    rfl
  have hn : nilTest o = none := by
    unfold nilTest
    rw [h1]
  have hB : execB P its s o K ↔ ∃ s', stepA s o.dst o.op o.inf = some s' ∧ K s' := by
    unfold execB
    rw [h1]
  unfold wpOp
  rw [h3]
  simp only [execA, hn, allocD_mc ho]
  rw [hB, e]
  by_cases h : (lk d s.ro).isNone = true
  · simp [h]
  · simp [h]

/-- Two new variables have nothing in common. -/
def apartD (p q : Nat × List Nat) : Prop := p.1 ≠ q.1 ∧ (∀ t ∈ p.2, t ∉ q.2) ∧ ∀ t ∈ q.2, t ∉ p.2

theorem mem_upd {β : Type} {k : Nat} {x : β} : ∀ {l : List (Nat × β)} {q : Nat × β}, q ∈ upd k x l → q = (k, x) ∨ q ∈ l
  | [], q, h => by simp only [upd, List.mem_singleton] at h; exact .inl h
  | (j, y) :: l, q, h => by
    simp only [upd] at h
    split at h
    · rcases List.mem_cons.1 h with h | h
      · exact .inl h
      · exact .inr (by simp [h])
    · split at h
      · rcases List.mem_cons.1 h with h | h
        · exact .inl h
        · exact .inr h
      · rcases List.mem_cons.1 h with h | h
        · exact .inr (by simp [h])
        · rcases mem_upd h with h | h
          · exact .inl h
          · exact .inr (by simp [h])
theorem upd_mem {β : Type} {k : Nat} {x : β} : ∀ (l : List (Nat × β)), (k, x) ∈ upd k x l
  | [] => by simp [upd]
  | (j, y) :: l => by
    simp only [upd]
    split
    · simp
    · split
      · simp
      · exact List.mem_cons_of_mem _ (upd_mem l)

theorem freeB_aOn {p : Nat × List Nat} {d : Nat} {i : Inf} {s : St} (h : s.freeB p = true) (hap : apartD (d, i.acc.map (·.2)) p) : (aOn d i s).freeB p = true := by
  obtain ⟨f1, f2, f3, f4⟩ := freeB_iff.1 h
  obtain ⟨h1, h2, _⟩ := hap
  have hne : ¬ p.1 = d := fun e => h1 e.symm
  refine freeB_iff.2 ⟨?_, fun t ht => ?_, fun q hq t ht => ?_, f4⟩
  · show lk p.1 (upd d (zeroT i) s.bx) = none
    rw [lk_upd, if_neg hne, f1]
  · rcases List.mem_or_eq_of_mem_set ht with ht | rfl
    · exact f2 t ht
    · simp only [TV.freeB, bne_iff_ne, ne_eq]
      exact fun e => hne e.symm
  · rcases mem_upd hq with rfl | hq
    · rcases zeroT_mem i t ht with ⟨v, rfl⟩ | ⟨p', hp', rfl⟩
      · rfl
      · have := h2 p'.2 (List.mem_map_of_mem hp')
        simp [TV.freeB, this]
    · exact f3 q hq t ht

theorem freeB_on {p : Nat × List Nat} {u v : Up} {s : St} (h : s.freeB p = true) (h2 : (v.on (u.on s)).freeB p = true) : (v.on s).freeB p = true := by
  obtain ⟨f1, f2, f3, f4⟩ := freeB_iff.1 h
  obtain ⟨g1, g2, g3, g4⟩ := freeB_iff.1 h2
  obtain ⟨vt, vb, vk⟩ := v
  have hlen : (u.on s).tm.length = s.tm.length := by
    unfold Up.on
    cases u.tm <;> simp
  refine freeB_iff.2 ⟨?_, fun t ht => ?_, fun q hq t ht => ?_, f4⟩
  · cases vb with
    | none => exact f1
    | some bc =>
      obtain ⟨b, c⟩ := bc
      simp only [Up.on] at g1 ⊢
      rw [lk_upd] at g1 ⊢
      split at g1
      · cases g1
      · rename_i hne
        rw [if_neg hne, f1]
  · cases vt with
    | none => exact f2 t ht
    | some dx =>
      obtain ⟨d, x⟩ := dx
      simp only [Up.on] at ht g2
      rcases List.mem_or_eq_of_mem_set ht with ht' | rfl
      · exact f2 t ht'
      · by_cases hd : d < s.tm.length
        · refine g2 t ?_
          refine List.mem_iff_getElem.2 ⟨d, ?_, ?_⟩
          · rw [List.length_set]
            have := hlen
            unfold Up.on at this
            simp only at this
            omega
          · simp
        · rw [List.set_eq_of_length_le (by omega)] at ht
          exact f2 t ht
  · cases vb with
    | none => exact f3 q hq t ht
    | some bc =>
      obtain ⟨b, c⟩ := bc
      simp only [Up.on] at hq g3
      rcases mem_upd hq with rfl | hq
      · exact g3 _ (upd_mem _) t ht
      · exact f3 q hq t ht

/-- x reads through a slot, y writes through another one: of these it is known that they point to two variables. -/
def indepP (pa : List (Nat × Nat)) (all : List AO) (x y : AO) : Bool :=
  calm false x && calm false y && apart all x y && apart all y x && !(usesT x.op && usesT y.op) && match x.op, y.op with
    | .load _ (.tmp n), .store _ (.tmp m) _ => pa.contains (n, m)
    | _, _ => false

/-- May y, that stands behind x, go first? -/
def indepC (pa : List (Nat × Nat)) (all : List AO) (x y : AO) : Bool := match allocD x, allocD y with
  | none, none => indep false all x y || indepP pa all x y
  | none, some _ => calm false x && !turnsB x.op && !usesT x.op && apart all x y && apart all y x
  | some _, some _ => true
  | some _, none => false

theorem paOk_iff {pa : List (Nat × Nat)} {s : St} : paOk pa s = true ↔ ∀ p ∈ pa, (∀ b o b' o', s.tm[p.1]? = some (.ptr b o) → s.tm[p.2]? = some (.ptr b' o') → b ≠ b') ∧ ∀ a, s.tm[p.2]? ≠ some (.v (.s (.pointer a))) := by
  induction pa with
  | nil => simp [paOk]
  | cons p ps ih =>
    simp only [paOk, Bool.and_eq_true, ih, List.mem_cons, forall_eq_or_imp]
    refine and_congr_left fun _ => ?_
    constructor
    · intro h
      refine ⟨fun b o b' o' h1 h2 => ?_, fun a h1 => ?_⟩
      · rw [h1, h2] at h
        simpa using h
      · rw [h1] at h
        simp at h
    · intro h
      split
      · rename_i a h1
        exact absurd h1 (h.2 a)
      · rename_i b o b' o' h1 h2
        simpa using h.1 _ _ _ _ h1 h2
      · rfl
theorem inPa_iff {d : Nat} {pa : List (Nat × Nat)} : inPa d pa = true ↔ ∃ p ∈ pa, p.1 = d ∨ p.2 = d := by
  induction pa with
  | nil => simp [inPa]
  | cons p ps ih => simp [inPa, ih]
theorem nonPs_iff {l : List Nat} {s : St} : nonPs l s = true ↔ ∀ d ∈ l, nptr s d = true := by
  induction l with
  | nil => simp [nonPs]
  | cons d l ih => simp [nonPs, ih]
def nsO (pa : List (Nat × Nat)) (o : AO) : List Nat := nsC pa o.dst []
theorem nsC_eq (pa : List (Nat × Nat)) (d : Option Nat) (l : List Nat) : nsC pa d l = nsC pa d [] ++ l := by
  unfold nsC
  cases d with
  | none => rfl
  | some d => simp only; split <;> simp
theorem mem_nsO {pa : List (Nat × Nat)} {o : AO} {d : Nat} : d ∈ nsO pa o ↔ o.dst = some d ∧ inPa d pa = true := by
  unfold nsO nsC
  cases o.dst with
  | none => simp
  | some e =>
    simp only
    split
    · rename_i h
      simp only [List.mem_singleton, Option.some.injEq]
      constructor
      · rintro rfl; exact ⟨rfl, h⟩
      · exact fun h => h.1.symm
    · rename_i h
      simp only [List.not_mem_nil, Option.some.injEq, false_iff]
      rintro ⟨rfl, h'⟩
      exact h h'
/-- What is not known yet does not point anywhere; what is known will not turn. -/
theorem paMid {pa : List (Nat × Nat)} {s1 s2 : St} {x : AO} (h2 : ∀ n, x.dst ≠ some n → s2.tm[n]? = s1.tm[n]?) (hpb : paOk pa s2 = true) (hx : ∀ d ∈ nsO pa x, nptr s1 d = true) : paOk pa s1 = true := by
  rw [paOk_iff] at hpb ⊢
  intro p hp
  have key : ∀ n, (p.1 = n ∨ p.2 = n) → ∀ b o, s1.tm[n]? = some (.ptr b o) → s2.tm[n]? = some (.ptr b o) := fun n hn b o e => by
    by_cases hd : x.dst = some n
    · have := hx n (mem_nsO.2 ⟨hd, inPa_iff.2 ⟨p, hp, hn⟩⟩)
      unfold nptr at this
      rw [e] at this
      cases this
    · rw [h2 n hd]; exact e
  refine ⟨fun b o b' o' e1 e2 => (hpb p hp).1 b o b' o' (key _ (.inl rfl) _ _ e1) (key _ (.inr rfl) _ _ e2), fun a e => ?_⟩
  refine (hpb p hp).2 a ?_
  by_cases hd : x.dst = some p.2
  · have := hx p.2 (mem_nsO.2 ⟨hd, inPa_iff.2 ⟨p, hp, .inr rfl⟩⟩)
    unfold nptr at this
    rw [e] at this
    cases this
  · rw [h2 _ hd]; exact e
theorem tm_on {u : Up} {s : St} {dst : Option Nat} (hu : ∀ d x, u.tm = some (d, x) → dst = some d) {n : Nat} (hn : dst ≠ some n) : (u.on s).tm[n]? = s.tm[n]? := by
  unfold Up.on
  cases ht : u.tm with
  | none => rfl
  | some q =>
    obtain ⟨d, x⟩ := q
    exact List.getElem?_set_ne (fun e => hn (by rw [← e]; exact hu d x ht))
theorem nptr_same {s s' : St} {d : Nat} (h : s'.tm[d]? = s.tm[d]?) : nptr s' d = nptr s d := by unfold nptr; rw [h]
theorem tm_aOn {d n : Nat} {i : Inf} {s : St} (h : d ≠ n) : (aOn d i s).tm[n]? = s.tm[n]? := List.getElem?_set_ne h

def dsO (o : AO) : List (Nat × List Nat) := (allocD o).toList

theorem swapC {pa : List (Nat × Nat)} {all : List AO} {x y : AO} {D : List (Nat × List Nat)} {E : List Nat} {s : St} {K : St → Prop} (hpa : paOk pa s = true) (hN : ∀ d ∈ nsO pa x ++ E, nptr s d = true) (hdN : ∀ d ∈ nsO pa x ++ E, y.dst ≠ some d) (hF : ∀ p ∈ dsO x ++ (dsO y ++ D), s.freeB p = true) (hi : indepC pa all x y = true)
    (hd : ∀ p ∈ dsO y, ∀ q ∈ dsO x ++ D, apartD p q) (hK : ∀ s, K s → ∀ p ∈ D, s.freeB p = true) (hKp : ∀ s, K s → paOk pa s = true)
    (h : wpOp P none all x s fun s1 => (∀ p ∈ dsO y ++ D, s1.freeB p = true) ∧ wpOp P none all y s1 K) :
    wpOp P none all y s fun s1 => ((∀ p ∈ dsO x ++ D, s1.freeB p = true) ∧ paOk pa s1 = true ∧ ∀ d ∈ nsO pa x ++ E, nptr s1 d = true) ∧ wpOp P none all x s1 K := by
  have hv' : false = true ∨ (none : Option (Nat × List Item)) = none := .inr rfl
  have mid : ∀ {s1 s2 : St}, (∀ n, y.dst ≠ some n → s1.tm[n]? = s.tm[n]?) → (∀ n, x.dst ≠ some n → s2.tm[n]? = s1.tm[n]?) → K s2 → paOk pa s1 = true ∧ ∀ d ∈ nsO pa x ++ E, nptr s1 d = true := fun {s1 s2} h1 h2 h3 => by
    have hn : ∀ d ∈ nsO pa x ++ E, nptr s1 d = true := fun d hd => by
      rw [nptr_same (h1 d (hdN d hd))]
      exact hN d hd
    exact ⟨paMid h2 (hKp _ h3) fun d hd => hn d (List.mem_append_left _ hd), hn⟩
  unfold indepC at hi
  split at hi
  · rename_i hax hay
    have ex : dsO x = [] := by simp [dsO, hax]
    have ey : dsO y = [] := by simp [dsO, hay]
    rw [ex, ey] at hF
    simp only [List.nil_append] at hF
    obtain ⟨c1, c2, a1, a2, b3', hbox⟩ : calm false x = true ∧ calm false y = true ∧ apart all x y = true ∧ apart all y x = true ∧ ¬ (usesT x.op = true ∧ usesT y.op = true) ∧
        (¬ (turnsB x.op = true ∧ looksO y = true) ∧ (¬ (turnsB y.op = true ∧ looksO x = true) ∨ ∃ t n t' m z, x.op = .load t (.tmp n) ∧ y.op = .store t' (.tmp m) z ∧ (n, m) ∈ pa)) := by
      rcases Bool.or_eq_true _ _ ▸ hi with hi | hi
      · simp only [indep, Bool.and_eq_true, Bool.not_eq_true', Bool.and_eq_false_iff] at hi
        obtain ⟨⟨⟨⟨⟨⟨c1, c2⟩, a1⟩, a2⟩, b1⟩, b2⟩, b3⟩ := hi
        exact ⟨c1, c2, a1, a2, (fun ⟨p, q⟩ => by rcases b3 with b | b <;> simp_all), (fun ⟨p, q⟩ => by rcases b1 with b | b <;> simp_all), .inl fun ⟨p, q⟩ => by rcases b2 with b | b <;> simp_all⟩
      · simp only [indepP, Bool.and_eq_true, Bool.not_eq_true', Bool.and_eq_false_iff] at hi
        obtain ⟨⟨⟨⟨⟨c1, c2⟩, a1⟩, a2⟩, b3⟩, b4⟩ := hi
        split at b4
        · rename_i t n t' m z ex' ey'
          exact ⟨c1, c2, a1, a2, (fun ⟨p, q⟩ => by rcases b3 with b | b <;> simp_all), (fun ⟨p, q⟩ => by rw [ex'] at p; cases p), .inr ⟨t, n, t', m, z, ex', ey', by simpa using b4⟩⟩
        · cases b4
    obtain ⟨b1', hbox⟩ := hbox
    obtain ⟨u, hu, hfu, hy⟩ := turns_op hv' c1 h
    obtain ⟨v, hv, hKv⟩ := turns_op hv' c2 hy
    have e1 := alike_of hu a1 b1' b3'
    have hvs : Turns P none all y s v := ⟨hv.1, (fun b c hbc => by
      obtain ⟨t, z, q, off, ho, he⟩ := hv.2.1 b c hbc
      exact ⟨t, z, q, off, ho, (e1.ops z (by rw [ho]; simp [opds])).symm.trans he⟩), hv.2.2.1, (fun x hx => by
      obtain ⟨a, t, z, q, ho, he⟩ := hv.2.2.2.1 x hx
      exact ⟨a, t, z, q, ho, (e1.ops z (by rw [ho]; simp [opds])).symm.trans he⟩), fun s2 ha => hv.2.2.2.2 s2
      ⟨fun z hz => (e1.ops z hz).trans (ha.ops z hz), fun d hd => (e1.gd d hd).trans (ha.gd d hd), e1.ro.trans ha.ro, fun hl z hz b off he => (e1.bx hl z hz b off he).trans (ha.bx hl z hz b off ((e1.ops z hz).symm.trans he)), fun ht => (e1.tk ht).trans (ha.tk ht), fun hl c x h => ha.mm hl c x (e1.mm hl c x h)⟩⟩
    -- the variable that y writes is not the one that x reads
    have hlk : looksB x.op = true → ∀ z ∈ opds x.op, ∀ b off, ev s z = some (.ptr b off) → lk b (v.on s).bx = lk b s.bx := fun hl z hz b off he => by
      cases hb : v.bx with
      | none => simp only [Up.on, hb]
      | some bc =>
        obtain ⟨b', c⟩ := bc
        simp only [Up.on, hb]
        obtain ⟨t, zz, q, off', ho, he'⟩ := hvs.2.1 b' c hb
        have hne : ¬ b = b' := by
          rcases hbox with h2 | ⟨t1, n, t2, m, z', ex', ey', hm⟩
          · exact absurd ⟨by rw [ho]; rfl, by simp [looksO, hl]⟩ h2
          · rw [ey'] at ho
            cases ho
            rw [ex'] at hz
            simp only [opds, List.mem_singleton] at hz
            subst hz
            have q1 : s.tm[n]? = some (.ptr b off) := he
            have q2 : s.tm[m]? = some (.ptr b' off') := he'
            exact (paOk_iff.1 hpa _ hm).1 _ _ _ _ q1 q2
        rw [lk_upd, if_neg hne]
    obtain ⟨k1, k2⟩ := apart_spec a2
    have e2 : Alike all x s (v.on s) := ⟨fun z hz => (ev_on (all := all) hvs.1 fun n e => k1 n (mem_slots_of (e ▸ hz))).symm, fun d hd => by
        have : d ∈ slots all x := by simp only [slots, hd, Option.toList_some, List.mem_append]; exact .inr (by simp)
        exact (ev_on (all := all) (z := .tmp d) hvs.1 fun n e => by cases e; exact k1 d this).symm, rfl, fun hl z hz b off he => (hlk hl z hz b off he).symm, fun ht => by
        cases hk : v.tk with
        | none => simp only [Up.on, hk]
        | some _ => exact absurd ⟨ht, hvs.2.2.1 (by rw [hk]; rfl)⟩ b3', fun hl => by
        cases hk : v.mm with
        | none => simp only [Up.on, hk]; exact MemLe.refl _
        | some cx =>
          have hty := hvs.mmB (by rw [hk]; rfl)
          rcases hbox with h2 | ⟨t1, n, t2, m, z', ex', ey', hm⟩
          · exact absurd ⟨hty, hl⟩ h2
          · -- y writes memory through the slot m: that is not let
            exfalso
            obtain ⟨a, t, z, q, ho, hq⟩ := hvs.2.2.2.1 cx hk
            rw [ey'] at ho
            cases ho
            have h4 : s.tm[m]? = some (.v (.s (.pointer a))) := hq
            exact (paOk_iff.1 hpa _ hm).2 a h4⟩
    have ecomm : u.on (v.on s) = v.on (u.on s) := on_comm
        (fun d x d' x' p q => fun e => (apart_spec a1).2 d (hu.1 d x p) (e ▸ hv.1 d' x' q))
        (fun p q => b1' ⟨hu.bxB p, turnsB_looksO (hv.bxB q)⟩) (fun p q => b3' ⟨hu.2.2.1 p, hv.2.2.1 q⟩) (fun p q => b1' ⟨hu.mmB p, turnsB_looksO (hv.mmB q)⟩)
    refine hv.2.2.2.2 s e1 _ ⟨⟨fun p hp => ?_, mid (s2 := v.on (u.on s)) (fun n hn => tm_on hv.1 hn) (fun n hn => by rw [← ecomm]; exact tm_on hu.1 hn) hKv⟩, hu.2.2.2.2 _ e2 _ ?_⟩
    · rw [ex, List.nil_append] at hp
      exact freeB_on (hF p hp) (hK _ hKv p hp)
    · have e : u.on (v.on s) = v.on (u.on s) := on_comm
        (fun d x d' x' p q => fun e => (apart_spec a1).2 d (hu.1 d x p) (e ▸ hv.1 d' x' q))
        (fun p q => b1' ⟨hu.bxB p, turnsB_looksO (hv.bxB q)⟩) (fun p q => b3' ⟨hu.2.2.1 p, hv.2.2.1 q⟩) (fun p q => b1' ⟨hu.mmB p, turnsB_looksO (hv.mmB q)⟩)
      rw [e]
      exact hKv
  · rename_i dt hax hay
    obtain ⟨dy, ty⟩ := dt
    have ex : dsO x = [] := by simp [dsO, hax]
    have ey : dsO y = [(dy, ty)] := by simp [dsO, hay]
    rw [ex, ey] at hF
    rw [ey] at hd h
    rw [ex] at hd ⊢
    simp only [List.nil_append] at hF hd ⊢
    simp only [Bool.and_eq_true, Bool.not_eq_true'] at hi
    obtain ⟨⟨⟨⟨c1, b1⟩, b2⟩, a1⟩, a2⟩ := hi
    obtain ⟨hop, hdst, _, hts⟩ := allocD_spec hay
    subst hts
    obtain ⟨u, hu, hfu, hy⟩ := turns_op hv' c1 h
    have fy : s.freeB (dy, y.inf.acc.map (·.2)) = true := hF _ (by simp)
    obtain ⟨r1, r2⟩ := (alloc_wp hay (hfu _ (by simp))).1 hy
    obtain ⟨g1, g2, g3, g4⟩ := freeB_iff.1 fy
    obtain ⟨a1', a1''⟩ := apart_spec a1
    obtain ⟨a2', a2''⟩ := apart_spec a2
    have ub : u.bx = none := by
      cases hb : u.bx with
      | none => rfl
      | some _ => have := hu.bxB (by rw [hb]; rfl); rw [b1] at this; cases this
    have um : u.mm = none := by
      cases hb : u.mm with
      | none => rfl
      | some _ => have := hu.mmB (by rw [hb]; rfl); rw [b1] at this; cases this
    have uk : u.tk = none := by
      cases hb : u.tk with
      | none => rfl
      | some _ => have := hu.2.2.1 (by rw [hb]; rfl); rw [b2] at this; cases this
    have ecomm : u.on (aOn dy y.inf s) = aOn dy y.inf (u.on s) := by
        simp only [Up.on, aOn, ub, uk, um]
        congr 1
        cases ht : u.tm with
        | none => rfl
        | some q =>
          obtain ⟨d, z⟩ := q
          have hdx := hu.1 d z ht
          have : dy ≠ d := fun e => a1'' d hdx (e ▸ hdst)
          exact List.set_comm _ _ this
    refine (alloc_wp hay fy).2 ⟨r1, ⟨fun p hp => freeB_aOn (hF p (by simp [hp])) (hd _ (by simp) p hp), mid (s2 := aOn dy y.inf (u.on s)) (fun n hn => tm_aOn fun e => hn (by rw [hdst, e])) (fun n hn => by rw [← ecomm]; exact tm_on hu.1 hn) r2⟩, ?_⟩
    have hne : ∀ n, n ∈ slots all x → dy ≠ n := fun n hn e => a2' n hn (e ▸ hdst)
    refine hu.2.2.2.2 (aOn dy y.inf s) ⟨fun z hz => ?_, fun d hd' => ?_, rfl, fun hl z hz b off he => ?_, (fun ht => by rw [b2] at ht; cases ht), fun _ => MemLe.refl _⟩ _ ?_
    · cases z with
      | tmp n =>
        show s.tm[n]? = (s.tm.set dy _)[n]?
        rw [List.getElem?_set_ne (hne n (mem_slots_of hz))]
      | _ => rfl
    · have : d ∈ slots all x := by simp only [slots, hd', Option.toList_some, List.mem_append]; exact .inr (by simp)
      show s.tm[d]? = (s.tm.set dy _)[d]?
      rw [List.getElem?_set_ne (hne d this)]
    · show lk b s.bx = lk b (upd dy _ s.bx)
      have hbd : ¬ b = dy := by
        cases z with
        | tmp n =>
          have hm : TV.ptr b off ∈ s.tm := List.mem_of_getElem? he
          have := g2 _ hm
          simpa [TV.freeB] using this
        | const w => simp [ev] at he
        | func w => simp [ev] at he
        | _ => cases he
      rw [lk_upd, if_neg hbd]
    · have e : u.on (aOn dy y.inf s) = aOn dy y.inf (u.on s) := by
        simp only [Up.on, aOn, ub, uk, um]
        congr 1
        cases ht : u.tm with
        | none => rfl
        | some q =>
          obtain ⟨d, z⟩ := q
          have hdx := hu.1 d z ht
          have : dy ≠ d := fun e => a1'' d hdx (e ▸ hdst)
          exact List.set_comm _ _ this
      rw [e]
      exact r2
  · rename_i dtx dty hax hay
    obtain ⟨dx, tx⟩ := dtx
    obtain ⟨dy, ty⟩ := dty
    have ex : dsO x = [(dx, tx)] := by simp [dsO, hax]
    have ey : dsO y = [(dy, ty)] := by simp [dsO, hay]
    rw [ex, ey] at hF
    rw [ey] at hd h
    rw [ex] at hd ⊢
    obtain ⟨_, hdstx, _, htx⟩ := allocD_spec hax
    obtain ⟨_, hdsty, _, hty⟩ := allocD_spec hay
    subst htx
    subst hty
    have fx : s.freeB (dx, x.inf.acc.map (·.2)) = true := hF _ (by simp)
    have fy : s.freeB (dy, y.inf.acc.map (·.2)) = true := hF _ (by simp)
    have hap : apartD (dy, y.inf.acc.map (·.2)) (dx, x.inf.acc.map (·.2)) := hd _ (by simp) _ (by simp)
    obtain ⟨r1, r2, r3⟩ := (alloc_wp hax fx).1 h
    obtain ⟨q1, q2⟩ := (alloc_wp hay (r2 _ (by simp))).1 r3
    have ecomm : aOn dx x.inf (aOn dy y.inf s) = aOn dy y.inf (aOn dx x.inf s) := by
        simp only [aOn]
        congr 1
        · exact List.set_comm _ _ hap.1
        · exact upd_comm (fun e => hap.1 e.symm) _
        · exact tkAll_comm _ _ _ fun p hp q hq e => hap.2.1 q.2 (List.mem_map_of_mem hq) (e ▸ List.mem_map_of_mem hp)
    refine (alloc_wp hay fy).2 ⟨q1, ⟨fun p hp => ?_, mid (s2 := aOn dy y.inf (aOn dx x.inf s)) (fun n hn => tm_aOn fun e => hn (by rw [hdsty, e])) (fun n hn => by rw [← ecomm]; exact tm_aOn fun e => hn (by rw [hdstx, e])) q2⟩, (alloc_wp hax (freeB_aOn fx hap)).2 ⟨r1, ?_⟩⟩
    · refine freeB_aOn (hF p ?_) (hd _ (by simp) p hp)
      rcases List.mem_append.1 hp with hp | hp
      · simp at hp; simp [hp]
      · simp [hp]
    · have e : aOn dx x.inf (aOn dy y.inf s) = aOn dy y.inf (aOn dx x.inf s) := by
        simp only [aOn]
        congr 1
        · exact List.set_comm _ _ hap.1
        · exact upd_comm (fun e => hap.1 e.symm) _
        · exact tkAll_comm _ _ _ fun p hp q hq e => hap.2.1 q.2 (List.mem_map_of_mem hq) (e ▸ List.mem_map_of_mem hp)
      rw [e]
      exact q2
  · cases hi

/-- The new variables of these operations. -/
def dsI (all : List AO) : List Nat → List (Nat × List Nat)
  | [] => []
  | i :: l => (match all[i]? with | some o => dsO o | none => []) ++ dsI all l

/-- The slots that are spoken of, and that the operations of these numbers write. -/
def nsI (pa : List (Nat × Nat)) (all : List AO) : List Nat → List Nat
  | [] => []
  | i :: l => (match all[i]? with | some o => nsO pa o | none => []) ++ nsI pa all l
/-- Nothing names what is to be made; slots do not point to one variable, and do not point anywhere before they are written. -/
def InvC (pa : List (Nat × Nat)) (all : List AO) (l : List Nat) (s : St) : Prop := (∀ p ∈ dsI all l, s.freeB p = true) ∧ paOk pa s = true ∧ ∀ d ∈ nsI pa all l, nptr s d = true

/-- The operations of these numbers, one behind the other; nothing names what is to be made. -/
def wpLC (P : Program) (pa : List (Nat × Nat)) (all : List AO) : List Nat → St → (St → Prop) → Prop
  | [], s, K => K s
  | i :: l, s, K => match all[i]? with
    | some o => wpOp P none all o s fun s' => InvC pa all l s' ∧ wpLC P pa all l s' K
    | none => False

theorem wpLC_cons {pa : List (Nat × Nat)} {all : List AO} {i : Nat} {l : List Nat} {s : St} {K : St → Prop} : wpLC P pa all (i :: l) s K ↔ ∃ o, all[i]? = some o ∧ wpOp P none all o s fun s' => InvC pa all l s' ∧ wpLC P pa all l s' K := by
  simp only [wpLC]
  cases all[i]? with
  | none => simp
  | some o => simp

theorem dsI_range {all : List AO} : ∀ (n k : Nat), k + n = all.length → dsI all (List.range' k n) = dsL (all.drop k)
  | 0, k, hk => by rw [List.drop_eq_nil_of_le (by omega)]; rfl
  | n + 1, k, hk => by
    have hlt : k < all.length := by omega
    have ih := dsI_range (all := all) n (k + 1) (by omega)
    rw [List.drop_eq_getElem_cons hlt, List.range'_succ]
    simp only [dsI, List.getElem?_eq_getElem hlt, dsL, dsO]
    rw [ih]
    cases allocD all[k] <;> rfl

theorem nsI_range {pa : List (Nat × Nat)} {all : List AO} : ∀ (n k : Nat), k + n = all.length → nsI pa all (List.range' k n) = nsL pa (all.drop k)
  | 0, k, hk => by rw [List.drop_eq_nil_of_le (by omega)]; rfl
  | n + 1, k, hk => by
    have hlt : k < all.length := by omega
    have ih := nsI_range (pa := pa) (all := all) n (k + 1) (by omega)
    rw [List.drop_eq_getElem_cons hlt, List.range'_succ]
    simp only [nsI, List.getElem?_eq_getElem hlt, nsL]
    rw [ih, nsC_eq]
    rfl

theorem wpLC_range {pa : List (Nat × Nat)} {all : List AO} {K : St → Prop} : ∀ (n k : Nat), k + n = all.length → ∀ {s : St}, wpOpsC P pa all (all.drop k) s K → wpLC P pa all (List.range' k n) s K
  | 0, k, hk, s, h => by rw [List.drop_eq_nil_of_le (by omega)] at h; exact h
  | n + 1, k, hk, s, h => by
    have hlt : k < all.length := by omega
    rw [List.drop_eq_getElem_cons hlt] at h
    rw [List.range'_succ, wpLC_cons]
    refine ⟨_, List.getElem?_eq_getElem hlt, wpOp_mono' (.inr rfl) (fun s' hs' => ⟨?_, wpLC_range n (k + 1) (by omega) hs'.2⟩) h⟩
    unfold InvC
    rw [dsI_range n (k + 1) (by omega), nsI_range n (k + 1) (by omega)]
    have := hs'.1
    simp only [Bool.and_eq_true] at this
    exact ⟨freeAll_iff.1 this.1, this.2.1, nonPs_iff.1 this.2.2⟩

theorem dsI_append {all : List AO} : ∀ (l m : List Nat), dsI all (l ++ m) = dsI all l ++ dsI all m
  | [], m => rfl
  | i :: l, m => by simp only [List.cons_append, dsI, dsI_append l m, List.append_assoc]

theorem nsI_append {pa : List (Nat × Nat)} {all : List AO} : ∀ (l m : List Nat), nsI pa all (l ++ m) = nsI pa all l ++ nsI pa all m
  | [], m => rfl
  | i :: l, m => by simp only [List.cons_append, nsI, nsI_append l m, List.append_assoc]
theorem mem_nsI {pa : List (Nat × Nat)} {all : List AO} {d : Nat} : ∀ {l : List Nat}, d ∈ nsI pa all l → ∃ i ∈ l, ∃ o, all[i]? = some o ∧ d ∈ nsO pa o
  | [], h => by simp [nsI] at h
  | i :: l, h => by
    simp only [nsI, List.mem_append] at h
    rcases h with h | h
    · cases ho : all[i]? with
      | none => rw [ho] at h; simp at h
      | some o => rw [ho] at h; exact ⟨i, by simp, o, ho, h⟩
    · obtain ⟨j, hj, o, ho, hp⟩ := mem_nsI h
      exact ⟨j, by simp [hj], o, ho, hp⟩
/-- No slot that is spoken of is written twice. -/
def nsDist (pa : List (Nat × Nat)) (all : List AO) : Bool :=
  (List.range all.length).all fun i => (List.range all.length).all fun j => i == j || match all[i]?, all[j]? with
    | some p, some q => (nsO pa p).all fun d => q.dst != some d
    | _, _ => true
theorem nsDist_spec {pa : List (Nat × Nat)} {all : List AO} (h : nsDist pa all = true) {i j : Nat} {oi oj : AO} (hi : all[i]? = some oi) (hj : all[j]? = some oj) (hne : i ≠ j) {d : Nat} (hd : d ∈ nsO pa oi) : oj.dst ≠ some d := by
  have li := (List.getElem?_eq_some_iff.1 hi).1
  have lj := (List.getElem?_eq_some_iff.1 hj).1
  have := List.all_eq_true.1 (List.all_eq_true.1 h i (List.mem_range.2 li)) j (List.mem_range.2 lj)
  rw [hi, hj] at this
  simp only [Bool.or_eq_true, beq_iff_eq, hne, false_or, List.all_eq_true, bne_iff_ne, ne_eq] at this
  exact this d hd

theorem mem_dsI {all : List AO} {p : Nat × List Nat} : ∀ {l : List Nat}, p ∈ dsI all l → ∃ i ∈ l, ∃ o, all[i]? = some o ∧ p ∈ dsO o
  | [], h => by simp [dsI] at h
  | i :: l, h => by
    simp only [dsI, List.mem_append] at h
    rcases h with h | h
    · cases ho : all[i]? with
      | none => rw [ho] at h; simp at h
      | some o => rw [ho] at h; exact ⟨i, by simp, o, ho, h⟩
    · obtain ⟨j, hj, o, ho, hp⟩ := mem_dsI h
      exact ⟨j, by simp [hj], o, ho, hp⟩

/-- All that is made is apart. -/
def distinctA (all : List AO) : Bool :=
  (List.range all.length).all fun i => (List.range all.length).all fun j => i == j || match (all[i]?).bind allocD, (all[j]?).bind allocD with
    | some p, some q => p.1 != q.1 && p.2.all (fun t => !q.2.contains t) && q.2.all (fun t => !p.2.contains t)
    | _, _ => true

theorem distinctA_spec {all : List AO} (h : distinctA all = true) {i j : Nat} {oi oj : AO} (hi : all[i]? = some oi) (hj : all[j]? = some oj) (hne : i ≠ j) {p q : Nat × List Nat} (hp : p ∈ dsO oi) (hq : q ∈ dsO oj) : apartD p q := by
  have li := (List.getElem?_eq_some_iff.1 hi).1
  have lj := (List.getElem?_eq_some_iff.1 hj).1
  have := List.all_eq_true.1 (List.all_eq_true.1 h i (List.mem_range.2 li)) j (List.mem_range.2 lj)
  have hp' : allocD oi = some p := by simpa [dsO] using hp
  have hq' : allocD oj = some q := by simpa [dsO] using hq
  rw [hi, hj] at this
  simp only [Option.bind_some, hp', hq', Bool.or_eq_true, beq_iff_eq, hne, false_or, Bool.and_eq_true, bne_iff_ne, ne_eq, List.all_eq_true, Bool.not_eq_true', List.contains_eq_mem, decide_eq_false_iff_not] at this
  exact ⟨this.1.1, this.1.2, this.2⟩

/-- What may come first, comes first. -/
theorem wpLC_first {pa : List (Nat × Nat)} {all : List AO} (hdis : distinctA all = true) (hpf : nsDist pa all = true) {i : Nat} {oi : AO} (hoi : all[i]? = some oi) {K : St → Prop} {l2 : List Nat} : ∀ (l1 : List Nat), (l1 ++ i :: l2).Nodup → (∀ x ∈ l1, ∃ ox, all[x]? = some ox ∧ indepC pa all ox oi = true) → ∀ {s : St},
    InvC pa all (l1 ++ i :: l2) s → wpLC P pa all (l1 ++ i :: l2) s K → wpOp P none all oi s fun s' => InvC pa all (l1 ++ l2) s' ∧ wpLC P pa all (l1 ++ l2) s' K
  | [], _, _, s, hF, h => by
    rw [List.nil_append, wpLC_cons] at h
    obtain ⟨o, h1, h2⟩ := h
    rw [hoi] at h1
    cases h1
    exact h2
  | x :: l1, hnd, hx, s, hF, h => by
    obtain ⟨ox, h1, h2⟩ := hx x (by simp)
    rw [List.cons_append, wpLC_cons] at h
    obtain ⟨ox', h3, h4⟩ := h
    rw [h1] at h3
    cases h3
    rw [List.cons_append] at hnd hF
    have hnd' := List.nodup_cons.1 hnd
    have e0 : dsI all (x :: (l1 ++ i :: l2)) = dsO ox ++ dsI all (l1 ++ i :: l2) := by simp only [dsI, h1]
    have ei : dsI all (i :: l2) = dsO oi ++ dsI all l2 := by simp only [dsI, hoi]
    have hsub : ∀ p, p ∈ dsO oi ++ dsI all (l1 ++ l2) ↔ p ∈ dsI all (l1 ++ i :: l2) := fun p => by
      rw [dsI_append, dsI_append, ei]
      simp only [List.mem_append]
      constructor <;> (rintro (h | h | h) <;> simp [h])
    have h5 : wpOp P none all ox s fun s1 => (∀ p ∈ dsO oi ++ dsI all (l1 ++ l2), s1.freeB p = true) ∧ wpOp P none all oi s1 fun s2 => InvC pa all (l1 ++ l2) s2 ∧ wpLC P pa all (l1 ++ l2) s2 K :=
      wpOp_mono' (.inr rfl) (fun s' hs' => ⟨fun p hp => hs'.1.1 p ((hsub p).1 hp), wpLC_first hdis hpf hoi l1 hnd'.2 (fun y hy => hx y (by simp [hy])) hs'.1 hs'.2⟩) h4
    have en : nsI pa all (x :: (l1 ++ i :: l2)) = nsO pa ox ++ nsI pa all (l1 ++ i :: l2) := by simp only [nsI, h1]
    have hsubN : ∀ d, d ∈ nsI pa all (l1 ++ l2) → d ∈ nsI pa all (l1 ++ i :: l2) := fun d => by
      rw [nsI_append, nsI_append]
      simp only [nsI, List.mem_append]
      rintro (h | h) <;> simp [h]
    have h6 := swapC (x := ox) (y := oi) (D := dsI all (l1 ++ l2)) (E := nsI pa all (l1 ++ l2)) (K := fun s2 => InvC pa all (l1 ++ l2) s2 ∧ wpLC P pa all (l1 ++ l2) s2 K)
      hF.2.1
      (fun d hd => by
        refine hF.2.2 d ?_
        rw [en]
        rcases List.mem_append.1 hd with hd | hd
        · simp [hd]
        · exact List.mem_append_right _ (hsubN d hd))
      (fun d hd => by
        rcases List.mem_append.1 hd with hd | hd
        · refine nsDist_spec hpf h1 hoi (fun e => ?_) hd
          subst e
          exact hnd'.1 (by simp)
        · obtain ⟨j, hj, oj, hoj, hqj⟩ := mem_nsI hd
          refine nsDist_spec hpf hoj hoi (fun e => ?_) hqj
          subst e
          have hn := hnd'.2
          rw [List.nodup_append] at hn
          rcases List.mem_append.1 hj with hj | hj
          · exact hn.2.2 j hj j (by simp) rfl
          · exact (List.nodup_cons.1 hn.2.1).1 hj)
      (fun p hp => by
        refine hF.1 p ?_
        rw [e0]
        rcases List.mem_append.1 hp with hp | hp
        · simp [hp]
        · exact List.mem_append_right _ ((hsub p).1 hp)) h2
      (fun p hp q hq => by
        rcases List.mem_append.1 hq with hq | hq
        · refine distinctA_spec hdis hoi h1 (fun e => ?_) hp hq
          subst e
          exact hnd'.1 (by simp)
        · obtain ⟨j, hj, oj, hoj, hqj⟩ := mem_dsI hq
          refine distinctA_spec hdis hoi hoj (fun e => ?_) hp hqj
          subst e
          have hn := hnd'.2
          rw [List.nodup_append] at hn
          rcases List.mem_append.1 hj with hj | hj
          · exact hn.2.2 i hj i (by simp) rfl
          · exact (List.nodup_cons.1 hn.2.1).1 hj)
      (fun s hs p hp => hs.1.1 p hp) (fun s hs => hs.1.2.1) h5
    refine wpOp_mono' (.inr rfl) (fun s' hs' => ?_) h6
    refine ⟨⟨fun p hp => ?_, hs'.1.2.1, fun d hd => ?_⟩, ?_⟩
    · refine hs'.1.1 p ?_
      rw [List.cons_append] at hp
      have : dsI all (x :: (l1 ++ l2)) = dsO ox ++ dsI all (l1 ++ l2) := by simp only [dsI, h1]
      rwa [this] at hp
    · refine hs'.1.2.2 d ?_
      rw [List.cons_append] at hd
      have : nsI pa all (x :: (l1 ++ l2)) = nsO pa ox ++ nsI pa all (l1 ++ l2) := by simp only [nsI, h1]
      rwa [this] at hd
    · rw [List.cons_append, wpLC_cons]
      exact ⟨ox, h1, hs'.2⟩
/-- Does what the region's edges leave open not matter? -/
def drawOkC (pa : List (Nat × Nat)) (ao : List AO) : Bool :=
  (List.range ao.length).all fun i => match ao[i]? with
    | none => false
    | some oi => oi.pre.all (fun j => decide (j < i)) && (List.range i).all fun x => match ao[x]? with
      | none => false
      | some ox => oi.pre.contains x || indepC pa ao ox oi || reach ao x 6 oi.pre

theorem drawOkC_spec {pa : List (Nat × Nat)} {ao : List AO} (h : drawOkC pa ao = true) {i : Nat} {oi : AO} (hi : ao[i]? = some oi) : (∀ j ∈ oi.pre, j < i) ∧ ∀ x, x < i → reach ao x 7 oi.pre = false → ∃ ox, ao[x]? = some ox ∧ indepC pa ao ox oi = true := by
  have hlt := (List.getElem?_eq_some_iff.1 hi).1
  have := List.all_eq_true.1 h i (List.mem_range.2 hlt)
  rw [hi] at this
  simp only [Bool.and_eq_true, List.all_eq_true, decide_eq_true_eq, List.mem_range] at this
  refine ⟨this.1, fun x hx hn => ?_⟩
  have := this.2 x hx
  split at this
  · cases this
  · rename_i ox hox
    refine ⟨ox, hox, ?_⟩
    have e : oi.pre.contains x = false := by
      simp only [reach, Bool.or_eq_false_iff] at hn
      exact hn.1
    have e2 : reach ao x 6 oi.pre = false := by
      cases hr : reach ao x 6 oi.pre with
      | false => rfl
      | true => rw [reach_succ ao x 6 _ hr] at hn; cases hn
    rw [e, e2] at this
    simpa using this

theorem sound_goC {pa : List (Nat × Nat)} {ao : List AO} {ops : Array Oper} (hok : drawOkC pa ao = true) (hdis : distinctA ao = true) (hpf : nsDist pa ao = true) (hag : OpsAgree P ao ops) {its : Option (Nat × List Item)} {w00 : Bs} {I00 : Imm} {Jt : Nat → Imm → World → Prop} {ro : Option Nat} (hctx : Ctx P its Jt) {Q : XA → St → Prop} {sav : List (Array Value)}
    (Iz : Imm) (wz : World) : ∀ (fuel t : Nat) (listed : Array Bool), listed.size = ops.size → (∀ i oi, ao[i]? = some oi → listed.getD i false = true → ∀ j ∈ oi.pre, listed.getD j false = true) → ((List.range ops.size).filter fun i => !listed.getD i true).length = fuel →
    ∀ {I : Imm} {w : World} {s : St} {a : Act} {w0 : Bs} {I0 : Imm} {β : Nat → Nat} {κ : Nat → Nat × Nat × Nat}, Iz.le I → (its = none → KeepsOthers wz w) → (its.isSome = true → a.defers = []) → Base its w00 I00 Jt s.it w0 I0 → Sim w0 I0 I β κ s sav a w →
      InvC pa ao ((List.range ops.size).filter fun i => !listed.getD i true) s → wpLC P pa ao ((List.range ops.size).filter fun i => !listed.getD i true) s (Q .normal) →
      wpOpsIn (wideR ro) 0 P ops (PostA its (Base its w00 I00 Jt) Iz sav wz Q) (Region.linearise.go .any ops fuel t listed []) a w
  | 0, t, listed, hsz, hdc, hlen, I, w, s, a, w0, I0, β, κ, hle, hk, hdf, hB, h, hF, hs => by
    rw [List.length_eq_zero_iff.1 hlen] at hs
    exact ⟨s, I, hs, hle, hk, hdf, w0, I0, β, κ, hB, h⟩
  | fuel + 1, t, listed, hsz, hdc, hlen, I, w, s, a, w0, I0, β, κ, hle, hk, hdf, hB, h, hF, hs => by
    have hsort : ((List.range ops.size).filter fun i => !listed.getD i true).Pairwise (· < ·) := List.Pairwise.filter _ List.pairwise_lt_range
    have hlisted : ∀ j, j < ops.size → listed.getD j false = listed.getD j true := fun j hj => by
      have : j < listed.size := by omega
      simp [Array.getD, this]
    -- who is ready
    have hready : ∀ i, i ∈ Region.ready .any ops listed ↔ i < ops.size ∧ listed.getD i true = false ∧ ∀ oi, ao[i]? = some oi → ∀ j ∈ oi.pre, listed.getD j false = true := by
      intro i
      simp only [Region.ready, List.mem_filter, List.mem_range, Bool.and_eq_true, Bool.not_eq_true']
      refine and_congr_right fun hi => and_congr_right fun _ => ?_
      obtain ⟨oi, h1, _, _, _, h5, _⟩ := hag.get (Array.getElem?_eq_getElem hi)
      rw [Array.getElem?_eq_getElem hi]
      simp only [Option.map_some, Option.getD_some, h1, Option.some.injEq, forall_eq']
      rw [h5]
      rw [Array.all_eq_true']
      constructor
      · intro hx j hj
        obtain ⟨e, he, rfl⟩ := List.mem_map.1 hj
        obtain ⟨he1, hb⟩ := List.mem_filter.1 he
        have := hx e (by simpa using he1)
        rw [hb] at this
        simpa using this
      · intro hx e he
        cases hb : Region.binds .any e with
        | false => rfl
        | true =>
          have := hx e.on (List.mem_map.2 ⟨e, List.mem_filter.2 ⟨by simpa using he, hb⟩, rfl⟩)
          simpa using this
    have hne : Region.ready .any ops listed ≠ [] := by
      obtain ⟨x, L', hL⟩ : ∃ x L', ((List.range ops.size).filter fun i => !listed.getD i true) = x :: L' := by
        cases hL : ((List.range ops.size).filter fun i => !listed.getD i true) with
        | nil => rw [hL] at hlen; cases hlen
        | cons x L' => exact ⟨x, L', rfl⟩
      have hx : x ∈ ((List.range ops.size).filter fun i => !listed.getD i true) := by rw [hL]; simp
      simp only [List.mem_filter, List.mem_range, Bool.not_eq_true'] at hx
      refine List.ne_nil_of_mem ((hready x).2 ⟨hx.1, hx.2, fun oi hoi j hj => ?_⟩)
      have hjx := (drawOkC_spec hok hoi).1 j hj
      rw [hlisted j (by omega)]
      cases hl : listed.getD j true with
      | true => rfl
      | false =>
        have hm : j ∈ ((List.range ops.size).filter fun i => !listed.getD i true) := by simp only [List.mem_filter, List.mem_range, Bool.not_eq_true']; exact ⟨by omega, hl⟩
        rw [hL] at hm hsort
        rcases List.mem_cons.1 hm with hm | hm
        · omega
        · have := (List.pairwise_cons.1 hsort).1 j hm
          omega
    have hlt : t % (Region.ready .any ops listed).length < (Region.ready .any ops listed).length := Nat.mod_lt _ (List.length_pos_iff.2 hne)
    obtain ⟨i, hi⟩ : ∃ i, (Region.ready .any ops listed)[t % (Region.ready .any ops listed).length]? = some i := ⟨_, List.getElem?_eq_getElem hlt⟩
    have hgo : Region.linearise.go .any ops (fuel + 1) t listed [] = i :: Region.linearise.go .any ops fuel (t / (Region.ready .any ops listed).length) (listed.setIfInBounds i true) [] := by
      simp only [Region.linearise.go]
      change (match (Region.ready .any ops listed)[t % (Region.ready .any ops listed).length]? with
        | some i => Region.linearise.go .any ops fuel (t / (Region.ready .any ops listed).length) (listed.setIfInBounds i true) [i]
        | none => [].reverse) = _
      rw [hi]
      simp only []
      rw [linearise_go_acc]
      rfl
    rw [hgo]
    obtain ⟨hi1, hi2, hi3⟩ := (hready i).1 (List.mem_of_getElem? hi)
    have him : i ∈ ((List.range ops.size).filter fun i => !listed.getD i true) := by simp only [List.mem_filter, List.mem_range, Bool.not_eq_true']; exact ⟨hi1, hi2⟩
    obtain ⟨L1, L2, hL⟩ := List.append_of_mem him
    have hilt : i < ao.length := by rw [hag.length]; exact hi1
    have hoi : ao[i]? = some ao[i] := List.getElem?_eq_getElem hilt
    have hL1 : ∀ x ∈ L1, ∃ ox, ao[x]? = some ox ∧ indepC pa ao ox ao[i] = true := by
      intro x hx
      have hxm : x ∈ ((List.range ops.size).filter fun i => !listed.getD i true) := by rw [hL]; simp [hx]
      simp only [List.mem_filter, List.mem_range, Bool.not_eq_true'] at hxm
      rw [hL] at hsort
      have hxi : x < i := (List.pairwise_append.1 hsort).2.2 x hx i (by simp)
      refine (drawOkC_spec hok hoi).2 x hxi (Bool.eq_false_iff.2 fun hp => ?_)
      have := reach_listed hdc 7 _ (hi3 _ hoi) hp
      rw [hlisted x hxm.1, hxm.2] at this
      cases this
    have hL' : ((List.range ops.size).filter fun j => !(listed.setIfInBounds i true).getD j true) = L1 ++ L2 := by
      have e1 : ((List.range ops.size).filter fun j => !(listed.setIfInBounds i true).getD j true) = ((List.range ops.size).filter fun i => !listed.getD i true).filter (· != i) := by
        rw [List.filter_filter]
        refine List.filter_congr fun j hj => ?_
        have hj' := List.mem_range.1 hj
        by_cases e : j = i
        · subst e
          have : j < listed.size := by omega
          simp [Array.getD, this]
        · have e' : i ≠ j := fun h => e h.symm
          simp [getD_set_ne true e', e]
      rw [e1, hL]
      rw [hL] at hsort
      have hs2 := List.pairwise_append.1 hsort
      rw [List.filter_append, List.filter_cons]
      have f1 : L1.filter (· != i) = L1 := List.filter_eq_self.2 fun x hx => by
        have := hs2.2.2 x hx i (by simp)
        simp only [bne_iff_ne, ne_eq]
        omega
      have f2 : L2.filter (· != i) = L2 := List.filter_eq_self.2 fun x hx => by
        have := (List.pairwise_cons.1 hs2.2.1).1 x hx
        simp only [bne_iff_ne, ne_eq]
        omega
      rw [f1, f2]
      simp
    have hnd : ((List.range ops.size).filter fun i => !listed.getD i true).Nodup := hsort.imp fun h => Nat.ne_of_lt h
    rw [hL] at hs hF hnd
    have k2 := wpLC_first hdis hpf hoi L1 hnd hL1 hF hs
    refine sound_op hag hctx hoi hdf hB h (wpOp_mono' (.inl rfl) (fun _ hk => hk) k2) ?_
    intro s' a' w' J hle' hkeep' hsat hK
    obtain ⟨hdf1, w1, I1, β1, κ1, hB1, h1⟩ := hsat
    refine sound_goC hok hdis hpf hag hctx Iz wz fuel _ _ (by simpa using hsz) ?_ ?_ (Imm.le_trans hle hle') (fun e => (hk e).trans (hkeep' e)) hdf1 hB1 h1 (by rw [hL']; exact hK.1) (by rw [hL']; exact hK.2)
    · intro k ok hk' hkl j hj
      by_cases e : k = i
      · subst e
        exact getD_set_true (hi3 ok hk' j hj)
      · have e' : i ≠ k := fun h => e h.symm
        rw [getD_set_ne false e'] at hkl
        exact getD_set_true (hdc k ok hk' hkl j hj)
    rw [hL']
    rw [hL] at hlen
    simp only [List.length_append, List.length_cons] at hlen ⊢
    omega

theorem draw_soundC {pa : List (Nat × Nat)} {ao : List AO} (hok : drawOkC pa ao = true) (hdis : distinctA ao = true) (hpf : nsDist pa ao = true) : DrawSoundC P pa ao := by
  intro ops hag hmix its w00 I00 Jt ro Q I w s sav a w0 I0 β κ t hctx hdf hB h hF hs
  unfold Region.linearise
  have hall : ((List.range ops.size).filter fun i => !(Array.replicate ops.size false).getD i true) = List.range ops.size := List.filter_eq_self.2 fun i hi => by
    have := List.mem_range.1 hi
    simp [Array.getD, this]
  have hl := hag.length
  refine sound_goC hok hdis hpf hag hctx I w ops.size t _ (by simp) (fun i oi _ h => by simp [Array.getD] at h) (by rw [hall]; simp) (Imm.le_refl _) (fun _ => KeepsOthers.drew w) hdf hB h.drew ?_ ?_
  · unfold InvC
    rw [hall, List.range_eq_range', dsI_range ops.size 0 (by omega), nsI_range ops.size 0 (by omega), List.drop_zero]
    simp only [Bool.and_eq_true] at hF
    exact ⟨freeAll_iff.1 hF.1, hF.2.1, nonPs_iff.1 hF.2.2⟩
  · rw [hall, List.range_eq_range']
    exact wpLC_range ops.size 0 (by omega) (by rw [List.drop_zero]; exact hs)

end
end Go.Proofs.YtambpjbpdackfaaGreat.A


/- Regions that draw their order, told in another order than the text's: new memory as late as may be. -/
set_option linter.unusedVariables false
set_option linter.unusedSimpArgs false
namespace Go.Proofs.YtambpjbpdackfaaGreat.A
open Go Go.RowKit Go.Shelf

/-- Does it make new memory? -/
def newO (o : AO) : Bool := o.inf.mc == 3 && o.guard.isNone && (match o.op with | .alloc _ => true | .box _ _ => true | .makeSlice _ _ _ => true | _ => false)

/-- May y, that stands behind x, go first? -/
def indepN (all : List AO) (x y : AO) : Bool := indep false all x y || (calm false x && newO y && !turnsB x.op && apart all x y && apart all y x)

section
variable {P : Program}

theorem newA_spec {op : Op} {i : Inf} {s : St} {d : Option Nat} {K : St → Prop} (h : newA s d op i K) : ∃ (cells : List PV) (val : Nat → Value),
    (∀ s2, (∀ x ∈ opds op, ev s x = ev s2 x) → ∀ K' : St → Prop, (∀ c, s2.mm c = none → K' { putT s2 d (.v (.s (val c))) with mm := s2.mm.put c cells }) → newA s2 d op i K') ∧
    ∀ c, s.mm c = none → K { putT s d (.v (.s (val c))) with mm := s.mm.put c cells } := by
  unfold newA at h
  split at h
  · exact ⟨_, _, fun s2 _ K' h2 => h2, h⟩
  · rename_i t x
    split at h
    · rename_i p hp
      refine ⟨_, _, fun s2 hs K' h2 => ?_, h.2⟩
      have e : pv s2 x = some p := by unfold pv at hp ⊢; rw [← hs x (by simp [opds])]; exact hp
      unfold newA
      simp only [e]
      exact ⟨h.1, h2⟩
    · exact h.elim
  · rename_i t l c
    split at h
    · rename_i k n k' m hl hc
      obtain ⟨rfl, h0, h1, h2, h3⟩ := h
      refine ⟨_, _, fun s2 hs K' h4 => ?_, h3⟩
      have e1 := hs l (by simp [opds])
      have e2 := hs c (by simp [opds])
      unfold newA
      simp only [← e1, ← e2, hl, hc]
      exact ⟨trivial, h0, h1, h2, h4⟩
    · exact h.elim
  · exact h.elim

theorem new_wp {all : List AO} {y : AO} {s : St} {K : St → Prop} (hy : newO y = true) : wpOp P none all y s K = newA s y.dst y.op y.inf K := by
  simp only [newO, Bool.and_eq_true, beq_iff_eq, Option.isNone_iff_eq_none] at hy
  obtain ⟨⟨h1, h2⟩, h3⟩ := hy
  unfold wpOp
  rw [h2]
  show execA P none s y K = _
  unfold execA
  rw [h1]
  show execM P s y K = _
  unfold execM
  rw [h1]
  cases hop : y.op <;> simp_all

theorem swapN {all : List AO} {x y : AO} {s : St} {K : St → Prop} (hi : indepN all x y = true) (h : wpOp P none all x s fun s1 => wpOp P none all y s1 K) : wpOp P none all y s fun s1 => wpOp P none all x s1 K := by
  unfold indepN at hi
  rcases Bool.or_eq_true _ _ ▸ hi with hi | hi
  · exact swap_ops (v := false) (.inr rfl) hi h
  · simp only [Bool.and_eq_true, Bool.not_eq_true'] at hi
    obtain ⟨⟨⟨⟨c1, c2⟩, b1⟩, a1⟩, a2⟩ := hi
    obtain ⟨u, hu, hy⟩ := turns_op (v := false) (.inr rfl) c1 h
    rw [new_wp c2] at hy ⊢
    obtain ⟨cells, val, hre, hK⟩ := newA_spec hy
    obtain ⟨p1, p2⟩ := apart_spec a1
    obtain ⟨q1, q2⟩ := apart_spec a2
    have ub : u.bx = none := by
      cases hb : u.bx with
      | none => rfl
      | some _ => have := hu.bxB (by rw [hb]; rfl); rw [b1] at this; cases this
    have um : u.mm = none := by
      cases hb : u.mm with
      | none => rfl
      | some _ => have := hu.mmB (by rw [hb]; rfl); rw [b1] at this; cases this
    have hmm : (u.on s).mm = s.mm := by simp only [Up.on, um]
    refine hre s (fun z hz => ev_on (all := all) hu.1 fun n e => p1 n (mem_slots_of (e ▸ hz))) _ fun c hc => ?_
    have hKc := hK c (by rw [hmm]; exact hc)
    have htm : ∀ n, y.dst ≠ some n → (putT s y.dst (.v (.s (val c)))).tm[n]? = s.tm[n]? := fun n hn => by
      cases hd : y.dst with
      | none => rfl
      | some d => exact List.getElem?_set_ne (fun e => hn (by rw [hd, e]))
    have hbx : (putT s y.dst (.v (.s (val c)))).bx = s.bx := by cases y.dst <;> rfl
    have htk : (putT s y.dst (.v (.s (val c)))).tk = s.tk := by cases y.dst <;> rfl
    have hro : (putT s y.dst (.v (.s (val c)))).ro = s.ro := by cases y.dst <;> rfl
    refine hu.2.2.2.2 { putT s y.dst (.v (.s (val c))) with mm := s.mm.put c cells } ⟨fun z hz => ?_, fun d hd => ?_, hro.symm, fun _ _ _ b off _ => by show lk b s.bx = lk b (putT s y.dst _).bx; rw [hbx], fun _ => htk.symm, fun _ => MemLe.put cells hc⟩ _ ?_
    · cases z with
      | tmp n => exact (htm n fun e => q1 n (mem_slots_of hz) e).symm
      | _ => rfl
    · have : d ∈ slots all x := by simp only [slots, hd, Option.toList_some, List.mem_append]; exact .inr (by simp)
      exact (htm d fun e => q1 d this e).symm
    · have e : u.on { putT s y.dst (.v (.s (val c))) with mm := s.mm.put c cells } = { putT (u.on s) y.dst (.v (.s (val c))) with mm := (u.on s).mm.put c cells } := by
        rw [hmm]
        cases hd : y.dst with
        | none => simp only [Up.on, ub, um, putT]
        | some d =>
          simp only [Up.on, ub, um, putT]
          congr 1
          cases ht : u.tm with
          | none => rfl
          | some q =>
            obtain ⟨d', z⟩ := q
            have hdx := hu.1 d' z ht
            exact List.set_comm _ _ (fun e => q2 d hd (e ▸ hdx))
      rw [e]
      exact hKc

theorem wpL_firstN {all : List AO} {i : Nat} {oi : AO} (hoi : all[i]? = some oi) {K : St → Prop} {l2 : List Nat} : ∀ (l1 : List Nat), (∀ x ∈ l1, ∃ ox, all[x]? = some ox ∧ indepN all ox oi = true) → ∀ {s : St}, wpL P none all (l1 ++ i :: l2) s K → wpL P none all (i :: (l1 ++ l2)) s K
  | [], _, _, h => h
  | x :: l1, hx, s, h => by
    obtain ⟨ox, h1, h2⟩ := hx x (by simp)
    rw [List.cons_append, wpL_cons] at h
    obtain ⟨ox', h3, h4⟩ := h
    rw [h1] at h3
    cases h3
    have h5 : wpOp P none all ox s fun s' => wpOp P none all oi s' fun s'' => wpL P none all (l1 ++ l2) s'' K := wpOp_mono' (.inr rfl) (fun s' hs' => by
      have := wpL_firstN hoi l1 (fun y hy => hx y (by simp [hy])) hs'
      rw [wpL_cons] at this
      obtain ⟨o', k1, k2⟩ := this
      rw [hoi] at k1
      cases k1
      exact k2) h4
    rw [wpL_cons]
    refine ⟨oi, hoi, wpOp_mono' (.inr rfl) (fun s' hs' => ?_) (swapN h2 h5)⟩
    rw [List.cons_append, wpL_cons]
    exact ⟨ox, h1, hs'⟩

/-- x stands ahead of i. -/
def RelO (ao : List AO) (x i : Nat) : Prop := (∀ ox, ao[x]? = some ox → i ∉ ox.pre) ∧ ∀ oi, ao[i]? = some oi → reach ao x 7 oi.pre = false → ∃ ox, ao[x]? = some ox ∧ indepN ao ox oi = true
structure OrdOk (ord : List Nat) (ao : List AO) : Prop where
  mem : ∀ i, i ∈ ord ↔ i < ao.length
  nodup : ord.Nodup
  pair : ord.Pairwise (RelO ao)
  self : ∀ (i : Nat) (oi : AO), ao[i]? = some oi → i ∉ oi.pre ∧ ∀ j ∈ oi.pre, j < ao.length

def relB (ao : List AO) (x i : Nat) : Bool := match ao[x]?, ao[i]? with
  | some ox, some oi => x != i && !ox.pre.contains i && (oi.pre.contains x || indepN ao ox oi || reach ao x 6 oi.pre)
  | _, _ => false
def pairB (r : Nat → Nat → Bool) : List Nat → Bool
  | [] => true
  | x :: l => l.all (r x) && pairB r l
def ordB (ord : List Nat) (ao : List AO) : Bool :=
  ord.all (fun i => decide (i < ao.length)) && (List.range ao.length).all (fun i => ord.contains i) && pairB (relB ao) ord &&
    (List.range ao.length).all fun i => match ao[i]? with | some o => !o.pre.contains i && o.pre.all (fun j => decide (j < ao.length)) | none => false

theorem pairB_iff {r : Nat → Nat → Bool} : ∀ {l : List Nat}, pairB r l = true → l.Pairwise fun x y => r x y = true
  | [], _ => .nil
  | x :: l, h => by
    simp only [pairB, Bool.and_eq_true, List.all_eq_true] at h
    exact .cons h.1 (pairB_iff h.2)

theorem ordB_ok {ord : List Nat} {ao : List AO} (h : ordB ord ao = true) : OrdOk ord ao := by
  simp only [ordB, Bool.and_eq_true, List.all_eq_true, decide_eq_true_eq, List.mem_range, List.contains_eq_mem] at h
  obtain ⟨⟨⟨h1, h2⟩, h3⟩, h4⟩ := h
  have hp := pairB_iff h3
  have key : ∀ {x i}, relB ao x i = true → x ≠ i ∧ RelO ao x i := by
    intro x i hr
    unfold relB at hr
    split at hr
    · rename_i ox oi hx hi
      simp only [Bool.and_eq_true, bne_iff_ne, ne_eq, Bool.not_eq_true', List.contains_eq_mem, decide_eq_false_iff_not, Bool.or_eq_true, decide_eq_true_eq] at hr
      obtain ⟨⟨r1, r2⟩, r3⟩ := hr
      refine ⟨r1, (fun ox' e => by rw [hx] at e; cases e; exact r2), fun oi' e hn => ?_⟩
      rw [hi] at e
      cases e
      refine ⟨ox, hx, ?_⟩
      have e2 : reach ao x 6 oi.pre = false := by
        cases hrr : reach ao x 6 oi.pre with
        | false => rfl
        | true => rw [reach_succ ao x 6 _ hrr] at hn; cases hn
      simp only [reach, Bool.or_eq_false_iff, List.contains_eq_mem, decide_eq_false_iff_not] at hn
      rcases r3 with (r3 | r3) | r3
      · exact absurd r3 hn.1
      · exact r3
      · rw [e2] at r3; cases r3
    · cases hr
  refine ⟨fun i => ⟨h1 i, h2 i⟩, hp.imp fun h => (key h).1, hp.imp fun h => (key h).2, fun i oi hi => ?_⟩
  have := h4 i (List.getElem?_eq_some_iff.1 hi).1
  rw [hi] at this
  simpa using this

variable {its : Option (Nat × List Item)}

theorem sound_goN {ord : List Nat} {ao : List AO} {ops : Array Oper} (hok : OrdOk ord ao) (hag : OpsAgree P ao ops) {w00 : Bs} {I00 : Imm} {Jt : Nat → Imm → World → Prop} {ro : Option Nat} (hctx : Ctx P its Jt) {Q : XA → St → Prop} {sav : List (Array Value)}
    (Iz : Imm) (wz : World) : ∀ (fuel t : Nat) (listed : Array Bool), listed.size = ops.size → (∀ i oi, ao[i]? = some oi → listed.getD i false = true → ∀ j ∈ oi.pre, listed.getD j false = true) → (ord.filter fun i => !listed.getD i true).length = fuel →
    ∀ {I : Imm} {w : World} {s : St} {a : Act} {w0 : Bs} {I0 : Imm} {β : Nat → Nat} {κ : Nat → Nat × Nat × Nat}, Iz.le I → (its = none → KeepsOthers wz w) → (its.isSome = true → a.defers = []) → Base its w00 I00 Jt s.it w0 I0 → Sim w0 I0 I β κ s sav a w →
      wpL P none ao (ord.filter fun i => !listed.getD i true) s (Q .normal) →
      wpOpsIn (wideR ro) 0 P ops (PostA its (Base its w00 I00 Jt) Iz sav wz Q) (Region.linearise.go .any ops fuel t listed []) a w
  | 0, t, listed, hsz, hdc, hlen, I, w, s, a, w0, I0, β, κ, hle, hk, hdf, hB, h, hs => by
    rw [List.length_eq_zero_iff.1 hlen] at hs
    exact ⟨s, I, hs, hle, hk, hdf, w0, I0, β, κ, hB, h⟩
  | fuel + 1, t, listed, hsz, hdc, hlen, I, w, s, a, w0, I0, β, κ, hle, hk, hdf, hB, h, hs => by
    have hsort : (ord.filter fun i => !listed.getD i true).Pairwise (RelO ao) := List.Pairwise.filter _ hok.pair
    have hmem : ∀ i, i ∈ ord ↔ i < ops.size := fun i => by rw [hok.mem i, hag.length]
    have hlisted : ∀ j, j < ops.size → listed.getD j false = listed.getD j true := fun j hj => by
      have : j < listed.size := by omega
      simp [Array.getD, this]
    -- who is ready
    have hready : ∀ i, i ∈ Region.ready .any ops listed ↔ i < ops.size ∧ listed.getD i true = false ∧ ∀ oi, ao[i]? = some oi → ∀ j ∈ oi.pre, listed.getD j false = true := by
      intro i
      simp only [Region.ready, List.mem_filter, List.mem_range, Bool.and_eq_true, Bool.not_eq_true']
      refine and_congr_right fun hi => and_congr_right fun _ => ?_
      obtain ⟨oi, h1, _, _, _, h5, _⟩ := hag.get (Array.getElem?_eq_getElem hi)
      rw [Array.getElem?_eq_getElem hi]
      simp only [Option.map_some, Option.getD_some, h1, Option.some.injEq, forall_eq']
      rw [h5]
      rw [Array.all_eq_true']
      constructor
      · intro hx j hj
        obtain ⟨e, he, rfl⟩ := List.mem_map.1 hj
        obtain ⟨he1, hb⟩ := List.mem_filter.1 he
        have := hx e (by simpa using he1)
        rw [hb] at this
        simpa using this
      · intro hx e he
        cases hb : Region.binds .any e with
        | false => rfl
        | true =>
          have := hx e.on (List.mem_map.2 ⟨e, List.mem_filter.2 ⟨by simpa using he, hb⟩, rfl⟩)
          simpa using this
    have hne : Region.ready .any ops listed ≠ [] := by
      obtain ⟨x, L', hL⟩ : ∃ x L', (ord.filter fun i => !listed.getD i true) = x :: L' := by
        cases hL : (ord.filter fun i => !listed.getD i true) with
        | nil => rw [hL] at hlen; cases hlen
        | cons x L' => exact ⟨x, L', rfl⟩
      have hx : x ∈ (ord.filter fun i => !listed.getD i true) := by rw [hL]; simp
      simp only [List.mem_filter, hmem, Bool.not_eq_true'] at hx
      refine List.ne_nil_of_mem ((hready x).2 ⟨hx.1, hx.2, fun oi hoi j hj => ?_⟩)
      have hjn := (hok.self x oi hoi).2 j hj
      rw [← hag.length] at hlisted
      rw [hlisted j hjn]
      cases hl : listed.getD j true with
      | true => rfl
      | false =>
        have hm : j ∈ (ord.filter fun i => !listed.getD i true) := by simp only [List.mem_filter, hmem, Bool.not_eq_true']; exact ⟨by rw [← hag.length]; exact hjn, hl⟩
        rw [hL] at hm hsort
        rcases List.mem_cons.1 hm with hm | hm
        · subst hm; exact absurd hj (hok.self _ oi hoi).1
        · exact absurd hj (((List.pairwise_cons.1 hsort).1 j hm).1 oi hoi)
    have hlt : t % (Region.ready .any ops listed).length < (Region.ready .any ops listed).length := Nat.mod_lt _ (List.length_pos_iff.2 hne)
    obtain ⟨i, hi⟩ : ∃ i, (Region.ready .any ops listed)[t % (Region.ready .any ops listed).length]? = some i := ⟨_, List.getElem?_eq_getElem hlt⟩
    have hgo : Region.linearise.go .any ops (fuel + 1) t listed [] = i :: Region.linearise.go .any ops fuel (t / (Region.ready .any ops listed).length) (listed.setIfInBounds i true) [] := by
      simp only [Region.linearise.go]
      change (match (Region.ready .any ops listed)[t % (Region.ready .any ops listed).length]? with
        | some i => Region.linearise.go .any ops fuel (t / (Region.ready .any ops listed).length) (listed.setIfInBounds i true) [i]
        | none => [].reverse) = _
      rw [hi]
      simp only []
      rw [linearise_go_acc]
      rfl
    rw [hgo]
    obtain ⟨hi1, hi2, hi3⟩ := (hready i).1 (List.mem_of_getElem? hi)
    have him : i ∈ (ord.filter fun i => !listed.getD i true) := by simp only [List.mem_filter, hmem, Bool.not_eq_true']; exact ⟨hi1, hi2⟩
    obtain ⟨L1, L2, hL⟩ := List.append_of_mem him
    have hilt : i < ao.length := by rw [hag.length]; exact hi1
    have hoi : ao[i]? = some ao[i] := List.getElem?_eq_getElem hilt
    have hL1 : ∀ x ∈ L1, ∃ ox, ao[x]? = some ox ∧ indepN ao ox ao[i] = true := by
      intro x hx
      have hxm : x ∈ (ord.filter fun i => !listed.getD i true) := by rw [hL]; simp [hx]
      simp only [List.mem_filter, hmem, Bool.not_eq_true'] at hxm
      rw [hL] at hsort
      refine ((List.pairwise_append.1 hsort).2.2 x hx i (by simp)).2 _ hoi (Bool.eq_false_iff.2 fun hp => ?_)
      have := reach_listed hdc 7 _ (hi3 _ hoi) hp
      rw [hlisted x hxm.1, hxm.2] at this
      cases this
    have hL' : (ord.filter fun j => !(listed.setIfInBounds i true).getD j true) = L1 ++ L2 := by
      have e1 : (ord.filter fun j => !(listed.setIfInBounds i true).getD j true) = (ord.filter fun i => !listed.getD i true).filter (· != i) := by
        rw [List.filter_filter]
        refine List.filter_congr fun j hj => ?_
        have hj' := (hmem j).1 hj
        by_cases e : j = i
        · subst e
          have : j < listed.size := by omega
          simp [Array.getD, this]
        · have e' : i ≠ j := fun h => e h.symm
          simp [getD_set_ne true e', e]
      have hnd : (ord.filter fun i => !listed.getD i true).Nodup := List.Pairwise.filter _ hok.nodup
      rw [e1, hL]
      rw [hL] at hnd
      have hs2 := List.pairwise_append.1 hnd
      rw [List.filter_append, List.filter_cons]
      have f1 : L1.filter (· != i) = L1 := List.filter_eq_self.2 fun x hx => by
        have := hs2.2.2 x hx i (by simp)
        simpa using this
      have f2 : L2.filter (· != i) = L2 := List.filter_eq_self.2 fun x hx => by
        have := (List.pairwise_cons.1 hs2.2.1).1 x hx
        simpa using fun e : x = i => this e.symm
      rw [f1, f2]
      simp
    rw [hL] at hs
    have hs1 := wpL_firstN hoi L1 hL1 hs
    rw [wpL_cons] at hs1
    obtain ⟨oi, k1, k2⟩ := hs1
    rw [hoi] at k1
    cases k1
    refine sound_op hag hctx hoi hdf hB h (wpOp_mono' (.inl rfl) (fun _ hk => hk) k2) ?_
    intro s' a' w' J hle' hkeep' hsat hK
    obtain ⟨hdf1, w1, I1, β1, κ1, hB1, h1⟩ := hsat
    refine sound_goN hok hag hctx Iz wz fuel _ _ (by simpa using hsz) ?_ ?_ (Imm.le_trans hle hle') (fun e => (hk e).trans (hkeep' e)) hdf1 hB1 h1 (by rw [hL']; exact hK)
    · intro k ok hk' hkl j hj
      by_cases e : k = i
      · subst e
        exact getD_set_true (hi3 ok hk' j hj)
      · have e' : i ≠ k := fun h => e h.symm
        rw [getD_set_ne false e'] at hkl
        exact getD_set_true (hdc k ok hk' hkl j hj)
    rw [hL']
    rw [hL] at hlen
    simp only [List.length_append, List.length_cons] at hlen ⊢
    omega

theorem wpL_ord {all : List AO} {K : St → Prop} : ∀ (ord : List Nat), (∀ i ∈ ord, i < all.length) → ∀ {s : St}, wpOpsA P none all (ord.filterMap (all[·]?)) s K → wpL P none all ord s K
  | [], _, s, h => h
  | i :: ord, hl, s, h => by
    have hi := hl i (by simp)
    rw [List.filterMap_cons, List.getElem?_eq_getElem hi] at h
    rw [wpL_cons]
    exact ⟨_, List.getElem?_eq_getElem hi, wpOp_mono' (.inr rfl) (fun s' => wpL_ord ord fun j hj => hl j (by simp [hj])) h⟩

theorem draw_soundN {ord : List Nat} {ao : List AO} (hok : ordB ord ao = true) : DrawSoundN P ord ao := by
  intro ops hag hmix its w00 I00 Jt ro Q I w s sav a w0 I0 β κ t hctx hdf hB h hs
  have ho := ordB_ok hok
  unfold Region.linearise
  have hall : (ord.filter fun i => !(Array.replicate ops.size false).getD i true) = ord := List.filter_eq_self.2 fun i hi => by
    have := (ho.mem i).1 hi
    rw [hag.length] at this
    simp [Array.getD, this]
  have hlen : ord.length = ops.size := by
    have hp : ord.Perm (List.range ops.size) := (List.perm_ext_iff_of_nodup ho.nodup List.nodup_range).2 fun i => by rw [ho.mem i, hag.length, List.mem_range]
    rw [hp.length_eq, List.length_range]
  refine sound_goN ho hag hctx I w ops.size t _ (by simp) (fun i oi _ h => by simp [Array.getD] at h) (by rw [hall]; exact hlen) (Imm.le_refl _) (fun _ => KeepsOthers.drew w) hdf hB h.drew ?_
  rw [hall]
  exact wpL_ord ord (fun i hi => (ho.mem i).1 hi) hs

/-! ### Regions told for any order -/
/-- All that an operation waits for stands before it. -/
def backB (ao : List AO) : Bool := (List.range ao.length).all fun i => match ao[i]? with | some o => o.pre.all (fun j => decide (j < i)) | none => false
theorem backB_iff {ao : List AO} (h : backB ao = true) {i : Nat} {o : AO} (ho : ao[i]? = some o) : ∀ j ∈ o.pre, j < i := by
  unfold backB at h
  rw [List.all_eq_true] at h
  have := h i (List.mem_range.2 (List.getElem?_eq_some_iff.1 ho).1)
  rw [ho] at this
  simp only [List.all_eq_true, decide_eq_true_eq] at this
  exact this
theorem least_of {p : Nat → Bool} : ∀ {n : Nat}, p n = true → ∃ m, m ≤ n ∧ p m = true ∧ ∀ k, k < m → p k = false
  | 0, h => ⟨0, Nat.le_refl _, h, fun k hk => by omega⟩
  | n + 1, h => by
    by_cases hex : ∃ k, k < n + 1 ∧ p k = true
    · obtain ⟨k, hk, hp⟩ := hex
      obtain ⟨m, h1, h2, h3⟩ := least_of (n := k) hp
      exact ⟨m, by omega, h2, h3⟩
    · exact ⟨n + 1, Nat.le_refl _, h, fun k hk => Bool.eq_false_iff.2 fun e => hex ⟨k, hk, e⟩⟩
termination_by n => n
decreasing_by omega
theorem sound_goI {w00 : Bs} {I00 : Imm} {Jt : Nat → Imm → World → Prop} {ro : Option Nat} {sav : List (Array Value)} {ops : Array Oper} {ao : List AO} (hag : OpsAgree P ao ops) (hback : backB ao = true) (hctx : Ctx P its Jt) {Q : XA → St → Prop} {Inv : (Nat → Bool) → St → Prop}
    (hstep : ∀ (D : Nat → Bool) (i : Nat) (o : AO) (s : St), ao[i]? = some o → D i = false → (∀ j ∈ o.pre, D j = true) → Inv D s → wpOp P none ao o s (Inv fun j => D j || j == i))
    (hfin : ∀ (D : Nat → Bool) (s : St), (∀ j, j < ao.length → D j = true) → Inv D s → Q .normal s) (Iz : Imm) (wz : World) :
    ∀ (fuel t : Nat) (listed : Array Bool) {I w s a w0 I0 β κ}, listed.size = ops.size → (∀ j, ops.size ≤ j → listed.getD j false = false) → ((List.range ops.size).filter fun i => !listed.getD i true).length = fuel → Iz.le I → (its = none → KeepsOthers wz w) →
      (its.isSome = true → a.defers = []) → Base its w00 I00 Jt s.it w0 I0 → Sim w0 I0 I β κ s sav a w → Inv (fun j => listed.getD j false) s →
      wpOpsIn (wideR ro) 0 P ops (PostA its (Base its w00 I00 Jt) Iz sav wz Q) (Region.linearise.go .any ops fuel t listed []) a w
  | 0, t, listed, I, w, s, a, w0, I0, β, κ, hsz, hout, hlen, hle, hk, hdf, hB, h, hs => by
    have hall : ∀ j, j < ao.length → listed.getD j false = true := fun j hj => by
      have hj' : j < listed.size := by rw [hsz, ← hag.length]; exact hj
      have e := List.eq_nil_of_length_eq_zero hlen
      have : j ∉ (List.range ops.size).filter fun i => !listed.getD i true := by rw [e]; simp
      simp only [List.mem_filter, List.mem_range, not_and, Bool.not_eq_true', Bool.not_eq_false] at this
      have := this (by omega)
      simpa [Array.getD, hj'] using this
    simp only [Region.linearise.go, List.reverse_nil, wpOpsIn]
    exact ⟨s, I, hfin _ s hall hs, hle, hk, hdf, w0, I0, β, κ, hB, h⟩
  | fuel + 1, t, listed, I, w, s, a, w0, I0, β, κ, hsz, hout, hlen, hle, hk, hdf, hB, h, hs => by
    have hlisted : ∀ i, i < ops.size → listed.getD i true = listed.getD i false := fun i hi => by
      have : i < listed.size := by omega
      simp [Array.getD, this]
    have hready : ∀ i, i ∈ Region.ready .any ops listed ↔ i < ops.size ∧ listed.getD i true = false ∧ ∀ oi, ao[i]? = some oi → ∀ j ∈ oi.pre, listed.getD j false = true := by
      intro i
      unfold Region.ready
      simp only [List.mem_filter, List.mem_range, Bool.and_eq_true, Bool.not_eq_true']
      refine and_congr_right fun hi => and_congr_right fun _ => ?_
      obtain ⟨oi, h1, _, _, _, h5, _⟩ := hag.get (Array.getElem?_eq_getElem hi)
      rw [Array.getElem?_eq_getElem hi]
      simp only [Option.map_some, Option.getD_some, h1, Option.some.injEq, forall_eq']
      rw [h5]
      rw [Array.all_eq_true']
      constructor
      · intro hx j hj
        obtain ⟨e, he, rfl⟩ := List.mem_map.1 hj
        obtain ⟨he1, hb⟩ := List.mem_filter.1 he
        have := hx e (by simpa using he1)
        rw [hb] at this
        simpa using this
      · intro hx e he
        cases hb : Region.binds .any e with
        | false => rfl
        | true =>
          have := hx e.on (List.mem_map.2 ⟨e, List.mem_filter.2 ⟨by simpa using he, hb⟩, rfl⟩)
          simpa using this
    have hne : Region.ready .any ops listed ≠ [] := by
      obtain ⟨x, hx⟩ : ∃ x, x ∈ (List.range ops.size).filter fun i => !listed.getD i true := by
        cases hL : ((List.range ops.size).filter fun i => !listed.getD i true) with
        | nil => rw [hL] at hlen; cases hlen
        | cons x L' => exact ⟨x, by simp⟩
      simp only [List.mem_filter, List.mem_range, Bool.not_eq_true'] at hx
      obtain ⟨m, hm1, hm2, hm3⟩ := least_of (p := fun i => !listed.getD i true) (n := x) (by simp [hx.2])
      have hm2' : listed.getD m true = false := by simpa using hm2
      refine List.ne_nil_of_mem ((hready m).2 ⟨by omega, hm2', fun oi hoi j hj => ?_⟩)
      have hjm := backB_iff hback hoi j hj
      have := hm3 j hjm
      rw [← hlisted j (by omega)]
      simpa using this
    have hlt : t % (Region.ready .any ops listed).length < (Region.ready .any ops listed).length := Nat.mod_lt _ (List.length_pos_iff.2 hne)
    obtain ⟨i, hi⟩ : ∃ i, (Region.ready .any ops listed)[t % (Region.ready .any ops listed).length]? = some i := ⟨_, List.getElem?_eq_getElem hlt⟩
    have hgo : Region.linearise.go .any ops (fuel + 1) t listed [] = i :: Region.linearise.go .any ops fuel (t / (Region.ready .any ops listed).length) (listed.setIfInBounds i true) [] := by
      simp only [Region.linearise.go]
      change (match (Region.ready .any ops listed)[t % (Region.ready .any ops listed).length]? with
        | some i => Region.linearise.go .any ops fuel (t / (Region.ready .any ops listed).length) (listed.setIfInBounds i true) [i]
        | none => [].reverse) = _
      rw [hi]
      simp only []
      rw [linearise_go_acc]
      rfl
    rw [hgo]
    obtain ⟨hi1, hi2, hi3⟩ := (hready i).1 (List.mem_of_getElem? hi)
    have hilt : i < ao.length := by rw [hag.length]; exact hi1
    have hoi : ao[i]? = some ao[i] := List.getElem?_eq_getElem hilt
    have hDi : listed.getD i false = false := by rw [← hlisted i hi1]; exact hi2
    have hw := hstep (fun j => listed.getD j false) i ao[i] s hoi hDi (hi3 _ hoi) hs
    refine sound_op hag hctx hoi hdf hB h (wpOp_mono' (.inl rfl) (fun _ hk => hk) hw) ?_
    intro s' a' w' J hle' hkeep' hsat hK
    obtain ⟨hdf1, w1, I1, β1, κ1, hB1, h1⟩ := hsat
    have hset : (fun j => (listed.setIfInBounds i true).getD j false) = fun j => listed.getD j false || j == i := by
      funext j
      by_cases e : j = i
      · subst e
        have : j < listed.size := by omega
        simp [Array.getD, this]
      · have e' : i ≠ j := fun h => e h.symm
        rw [getD_set_ne false e']
        have : (j == i) = false := by simpa using e
        rw [this, Bool.or_false]
    refine sound_goI hag hback hctx hstep hfin Iz wz fuel _ _ (by simpa using hsz) (fun j hj => ?_) ?_ (Imm.le_trans hle hle') (fun e => (hk e).trans (hkeep' e)) hdf1 hB1 h1 (by rw [hset]; exact hK)
    · have : i ≠ j := by omega
      rw [getD_set_ne false this]
      exact hout j hj
    · have e1 : ((List.range ops.size).filter fun j => !(listed.setIfInBounds i true).getD j true) = ((List.range ops.size).filter fun i => !listed.getD i true).filter (· != i) := by
        rw [List.filter_filter]
        refine List.filter_congr fun j hj => ?_
        have hj' : j < ops.size := List.mem_range.1 hj
        by_cases e : j = i
        · subst e
          have : j < listed.size := by omega
          simp [Array.getD, this]
        · have e' : i ≠ j := fun h => e h.symm
          simp [getD_set_ne true e', e]
      rw [e1]
      have hm : i ∈ (List.range ops.size).filter fun i => !listed.getD i true := by simp only [List.mem_filter, List.mem_range, Bool.not_eq_true']; exact ⟨hi1, hi2⟩
      have hnd : ((List.range ops.size).filter fun i => !listed.getD i true).Nodup := List.Pairwise.filter _ List.nodup_range
      have := List.length_erase_of_mem hm
      rw [List.Nodup.erase_eq_filter hnd] at this
      omega
theorem draw_soundI {ao : List AO} (hback : backB ao = true) : DrawSoundI P ao := by
  intro ops hag hmix its w00 I00 Jt ro Q I w s sav a w0 I0 β κ t hctx hdf hB h hs
  obtain ⟨Inv, h0, hstep, hfin⟩ := hs
  unfold Region.linearise
  have hD : (fun j => (Array.replicate ops.size false).getD j false) = fun _ => false := by
    funext j
    simp [Array.getD]
  refine sound_goI hag hback hctx hstep hfin I w ops.size t _ (by simp) (fun j _ => congrFun hD j) ?_ (Imm.le_refl _) (fun _ => KeepsOthers.drew w) hdf hB h.drew (by rw [hD]; exact h0)
  rw [List.filter_eq_self.2 (fun i hi => by
    have : i < ops.size := List.mem_range.1 hi
    simp [Array.getD, this]), List.length_range]

end
end Go.Proofs.YtambpjbpdackfaaGreat.A


/- Code with what is known of it, put together from the code and from hints; a check of the hints; contracts. -/
set_option linter.unusedVariables false
set_option linter.unusedSimpArgs false
namespace Go.Proofs.YtambpjbpdackfaaGreat.A
open Go Go.RowKit Go.Shelf

/-- What is known beside the code: of operations (by their number in the region), of loops. -/
inductive Hint where
  | o
  | r (l : List (Nat × Inf))
  | y (l : List (Nat × Inf))
  | s (x y : Hint)
  | b (x : Hint)
  | l (g : List Gh) (x : Hint)
  | f (g : List Gh) (x y : Hint)
  | g (g : List Gh) (x : Hint)
  | no
  | d (pa : List (Nat × Nat)) (l : List (Nat × Inf))
  | n (ord : List Nat) (l : List (Nat × Inf))
  | i (l : List (Nat × Inf))

def ao (o : Oper) (i : Inf) : AO := ⟨o.dst, o.op, o.guard, (o.after.toList.filter fun e => Region.binds .any e).map (·.on), i⟩

def aoL : Nat → List Oper → List (Nat × Inf) → List AO
  | _, [], _ => []
  | k, o :: os, l => ao o ((lk k l).getD {}) :: aoL (k + 1) os l

def acOf : Hint → Code → AC
  | .no, _ => .dead
  | .d pa l, .region _ ops _ => .regd pa (aoL 0 ops.toList l)
  | .n ord l, .region _ ops _ => .regn ord (aoL 0 ops.toList l)
  | .i l, .region _ ops _ => .regi (aoL 0 ops.toList l)
  | .g g h, c => .gh g (acOf h c)
  | .o, .skip => .skip
  | .o, .label _ => .skip
  | .o, .region _ ops d => .reg d false (aoL 0 ops.toList [])
  | .r l, .region _ ops d => .reg d false (aoL 0 ops.toList l)
  | .y l, .region _ ops d => .reg d true (aoL 0 ops.toList l)
  | .s a b, .seq x y => .seq (acOf a x) (acOf b y)
  | .s a b, .cond c x y => .cond c (acOf a x) (acOf b y)
  | .b a, .block id x => .block id (acOf a x)
  | .l g a, .loop x => .loop g (acOf a x)
  | .f g a b, .rangeFunc f ps x y => .rf f ps.toList g (acOf a x) (acOf b y)
  | .o, .exit id => .exit id
  | .o, .ret => .ret
  | _, _ => .skip

/-- Do the hints fit the code, and the types? -/
def okC (P : Program) : Hint → Code → Bool
  | .no, _ => true
  | .d pa l, .region _ ops d => (aoL 0 ops.toList l).all (fun a => infOk' P a.op a.inf) && (d && (drawOkC pa (aoL 0 ops.toList l) && (distinctA (aoL 0 ops.toList l) && nsDist pa (aoL 0 ops.toList l))))
  | .n ord l, .region _ ops d => (aoL 0 ops.toList l).all (fun a => infOk' P a.op a.inf) && (d && ordB ord (aoL 0 ops.toList l))
  | .i l, .region _ ops d => (aoL 0 ops.toList l).all (fun a => infOk' P a.op a.inf) && (d && backB (aoL 0 ops.toList l))
  | .g _ h, c => okC P h c
  | .o, .skip => true
  | .o, .label _ => true
  | .o, .region _ ops d => (aoL 0 ops.toList []).all (fun a => infOk' P a.op a.inf) && (!d || drawOk false (aoL 0 ops.toList []))
  | .r l, .region _ ops d => (aoL 0 ops.toList l).all (fun a => infOk' P a.op a.inf) && (!d || drawOk false (aoL 0 ops.toList l))
  | .y l, .region _ ops d => (aoL 0 ops.toList l).all (fun a => infOk' P a.op a.inf) && (!d || drawOk true (aoL 0 ops.toList l))
  | .s a b, .seq x y => okC P a x && okC P b y
  | .s a b, .cond _ x y => okC P a x && okC P b y
  | .b a, .block _ x => okC P a x
  | .l _ a, .loop x => okC P a x
  | .f _ a b, .rangeFunc _ _ x y => okC P a x && okC P b y
  | .o, .exit _ => true
  | .o, .ret => true
  | _, _ => false

theorem aoL_keys : ∀ (os : List Oper) (k : Nat) (l : List (Nat × Inf)), os.map opKey = (aoL k os l).map AO.key
  | [], _, _ => rfl
  | o :: os, k, l => by
    simp only [aoL, List.map_cons]
    rw [aoL_keys os (k + 1) l]
    rfl

theorem ag_reg {P : Program} (hm : P.follows .mixedOrders = true) {id : Nat} {ops : Array Oper} {d y : Bool} {l : List (Nat × Inf)} (h : ((aoL 0 ops.toList l).all (fun a => infOk' P a.op a.inf) && (!d || drawOk y (aoL 0 ops.toList l))) = true) :
    Ag P (.reg d y (aoL 0 ops.toList l)) (.region id ops d) := by
  simp only [Bool.and_eq_true, Bool.or_eq_true, Bool.not_eq_true'] at h
  obtain ⟨h3, h4⟩ := h
  refine ⟨rfl, ⟨aoL_keys _ _ _, h3⟩, fun hd => ⟨hm, draw_sound ?_⟩⟩
  rcases h4 with h4 | h4
  · rw [h4] at hd; cases hd
  · exact h4

theorem ag_of {P : Program} (hm : P.follows .mixedOrders = true) : ∀ (h : Hint) (code : Code), okC P h code = true → Ag P (acOf h code) code := by
  intro h
  induction h with
  | g g x ih => intro code h1; exact ih code h1
  | no => intro code h1; exact (by cases code <;> trivial)
  | d pa l =>
    intro code h1
    cases code <;> simp only [okC, Bool.false_eq_true] at h1
    simp only [Bool.and_eq_true] at h1
    obtain ⟨h3, rfl, h4, h5, h6⟩ := h1
    exact ⟨rfl, ⟨aoL_keys _ _ _, h3⟩, hm, draw_soundC h4 h5 h6⟩
  | n ord l =>
    intro code h1
    cases code <;> simp only [okC, Bool.false_eq_true] at h1
    simp only [Bool.and_eq_true] at h1
    obtain ⟨h3, rfl, h4⟩ := h1
    exact ⟨rfl, ⟨aoL_keys _ _ _, h3⟩, hm, draw_soundN h4⟩
  | i l =>
    intro code h1
    cases code <;> simp only [okC, Bool.false_eq_true] at h1
    simp only [Bool.and_eq_true] at h1
    obtain ⟨h3, rfl, h4⟩ := h1
    exact ⟨rfl, ⟨aoL_keys _ _ _, h3⟩, hm, draw_soundI h4⟩
  | o =>
    intro code h1
    cases code <;> simp only [okC, Bool.false_eq_true] at h1 <;> simp only [acOf] <;> first | exact ag_reg hm h1 | trivial | exact (rfl : _ = _)
  | r l =>
    intro code h1
    cases code <;> simp only [okC, Bool.false_eq_true] at h1
    exact ag_reg hm h1
  | y l =>
    intro code h1
    cases code <;> simp only [okC, Bool.false_eq_true] at h1
    exact ag_reg hm h1
  | s a b iha ihb =>
    intro code h1
    cases code <;> simp only [okC, Bool.false_eq_true, Bool.and_eq_true] at h1
    · exact ⟨iha _ h1.1, ihb _ h1.2⟩
    · exact ⟨rfl, iha _ h1.1, ihb _ h1.2⟩
  | b a ih =>
    intro code h1
    cases code <;> simp only [okC, Bool.false_eq_true] at h1
    exact ⟨rfl, ih _ h1⟩
  | l g a ih =>
    intro code h1
    cases code <;> simp only [okC, Bool.false_eq_true] at h1
    exact ih _ h1
  | f g a b iha ihb =>
    intro code h1
    cases code <;> simp only [okC, Bool.false_eq_true, Bool.and_eq_true] at h1
    exact ⟨rfl, rfl, iha _ h1.1, ihb _ h1.2⟩

/-- The hints fit the function. -/
def okF (P : Program) (fn : Func) (h : Hint) (qs : List (Bool × Nat)) : Bool :=
  !(fn.name == "runtime.NumGoroutine") && rinfOk P fn.results.toList qs && (match fn.body with | some c => okC P h c | none => false)

theorem okF_spec {P : Program} {fn : Func} {code : Code} {h : Hint} {qs : List (Bool × Nat)} (hb : fn.body = some code) (hk : okF P fn h qs = true) :
    (fn.name == "runtime.NumGoroutine") = false ∧ rinfOk P fn.results.toList qs = true ∧ okC P h code = true := by
  simp only [okF, hb, Bool.and_eq_true, Bool.not_eq_true'] at hk
  exact ⟨hk.1.1, hk.1.2, hk.2⟩

theorem ok_fn {P : Program} (hm : P.follows .mixedOrders = true) {f : FuncId} {fn : Func} {code : Code} {h : Hint} {qs : List (Bool × Nat)} {args : List PV} {r : PV} (hf : P.funcs[f]? = some fn) (hb : fn.body = some code) (hk : okF P fn h qs = true)
    (hwp : wpA P none (acOf h code) (RetQ fn.results.toList qs r) (initS args fn.ntmps)) : Ok P f args r := by
  obtain ⟨h1, h2, h3⟩ := okF_spec hb hk
  exact ok_of hf h1 hb (ag_of hm h code h3) h2 hwp

theorem iterM_fn {P : Program} (hm : P.follows .mixedOrders = true) {f : FuncId} {fn : Func} {code : Code} {h : Hint} {caps : List PV} {items : List Item} (hf : P.funcs[f]? = some fn) (hb : fn.body = some code) (hk : okF P fn h [] = true)
    (hq : fn.results.toList = [])
    (hwp : ∀ l, wpA P (some (l, items)) (acOf h code) (fun e s => match e with | .exit _ => False | _ => s.it = items.length ∨ s.it = items.length + 1) (initS (.fn (.yield l) [] :: caps) fn.ntmps)) : IterOkM P (.fn (.func f) caps) items := by
  obtain ⟨h1, h2, h3⟩ := okF_spec hb hk
  exact iter_of hf h1 hb (ag_of hm h code h3) hq hwp

theorem iter_fn {P : Program} (hm : P.follows .mixedOrders = true) {f : FuncId} {fn : Func} {code : Code} {h : Hint} {caps : List PV} {items : List (List PV)} (hf : P.funcs[f]? = some fn) (hb : fn.body = some code) (hk : okF P fn h [] = true)
    (hq : fn.results.toList = [])
    (hwp : ∀ l, wpA P (some (l, items.map exact1)) (acOf h code) (fun e s => match e with | .exit _ => False | _ => s.it = items.length ∨ s.it = items.length + 1) (initS (.fn (.yield l) [] :: caps) fn.ntmps)) : IterOk P (.fn (.func f) caps) items := by
  refine iterM_fn hm hf hb hk hq fun l => ?_
  rw [List.length_map]
  exact hwp l

/-- A function that hands a new row back: its contract. -/
theorem okn_fn {P : Program} (hm : P.follows .mixedOrders = true) {f : FuncId} {fn : Func} {code : Code} {h : Hint} {t : Nat} {args els : List PV} (hf : P.funcs[f]? = some fn) (hb : fn.body = some code) (hk : okF P fn h [(false, 0)] = true)
    (hq : fn.results.toList = [.tmp t]) (hrf : RFs (flat els) = true)
    (hwp : wpA P none (acOf h code) (atEnd fun s => (∃ tok, s.tm[t]? = some (.acc tok els) ∧ els.length = tkOf s.tk tok) ∨ (∃ r, s.tm[t]? = some (.v r) ∧ NewRow els r s.mm)) (initS args fn.ntmps)) : OkN P f args els := by
  obtain ⟨h1, h2, h3⟩ := okF_spec hb hk
  exact okn_of hf h1 hb (ag_of hm h code h3) hq hrf hwp

/-- A function to which memory is handed over: its contract. -/
theorem okm_fn {P : Program} (hm : P.follows .mixedOrders = true) {f : FuncId} {fn : Func} {code : Code} {h : Hint} {qs : List (Bool × Nat)} {args : List PV} {m : Mem} {R : PV → Mem → Prop} (hf : P.funcs[f]? = some fn) (hb : fn.body = some code) (hk : okF P fn h qs = true)
    (hwp : wpA P none (acOf h code) (atEnd fun s => ∃ xs, resAll s fn.results.toList qs = some xs ∧ R (packR xs) s.mm) { initS args fn.ntmps with mm := m }) : OkM P f args m R := by
  obtain ⟨h1, h2, h3⟩ := okF_spec hb hk
  exact okm_of hf h1 hb (ag_of hm h code h3) h2 hwp

/-- A function that writes memory of its own, and hands it back: its contract. -/
theorem okt_fn {P : Program} (hm : P.follows .mixedOrders = true) {f : FuncId} {fn : Func} {code : Code} {h : Hint} {qs : List (Bool × Nat)} {args : List PV} {r : PV} (hf : P.funcs[f]? = some fn) (hb : fn.body = some code) (hk : okF P fn h qs = true)
    (hwp : wpA P none (acOf h code) (atEnd fun s => ∃ xs, resAll s fn.results.toList qs = some xs ∧ Tell s.mm (packR xs) r) (initS args fn.ntmps)) : Ok P f args r := by
  obtain ⟨h1, h2, h3⟩ := okF_spec hb hk
  exact ok_tell hf h1 hb (ag_of hm h code h3) h2 hwp

end Go.Proofs.YtambpjbpdackfaaGreat.A


/- Rules for reckoning what code tells, step by step. -/
set_option linter.unusedVariables false
set_option linter.unusedSimpArgs false
namespace Go.Proofs.YtambpjbpdackfaaGreat.A
open Go Go.RowKit Go.Shelf

/-- A step that tells a state, and what is asked of it. -/
def opt (o : Option St) (K : St → Prop) : Prop := match o with | some s => K s | none => False
theorem opt_some (s : St) (K : St → Prop) : opt (some s) K = K s := rfl
theorem ex_opt (o : Option St) (K : St → Prop) : (∃ s', o = some s' ∧ K s') = opt o K := by
  cases o <;> simp [opt]
@[congr] theorem opt_congr {o o' : Option St} {K : St → Prop} (h : o = o') : opt o K = opt o' K := by rw [h]

/-- A truth value that a guard or a condition looks at. -/
def gB (o : Option TV) (s : St) (x y : St → Prop) : Prop := match o with | some (.v (.s (.bool b))) => if b = true then x s else y s | _ => False
theorem gB_true (s : St) (x y : St → Prop) : gB (some (.v (.s (.bool true)))) s x y = x s := rfl
theorem gB_false (s : St) (x y : St → Prop) : gB (some (.v (.s (.bool false)))) s x y = y s := rfl
theorem gB_dec {p : Prop} [Decidable p] {s : St} {x y : St → Prop} (h1 : p → x s) (h2 : ¬ p → y s) : gB (some (.v (.s (.bool (decide p))))) s x y := by
  unfold gB; by_cases h : p
  · simpa [h] using h1 h
  · simpa [h] using h2 h
theorem gB_bool {b : Bool} {s : St} {x y : St → Prop} (h1 : b = true → x s) (h2 : b = false → y s) : gB (some (.v (.s (.bool b)))) s x y := by
  cases b
  · exact h2 rfl
  · exact h1 rfl

@[congr] theorem wpA_congr {P : Program} {its : Option (Nat × List Item)} {ac : AC} {Q : XA → St → Prop} {s s' : St} (h : s = s') : wpA P its ac Q s = wpA P its ac Q s' := by rw [h]
@[congr] theorem wpOpsA_congr {P : Program} {its : Option (Nat × List Item)} {all l : List AO} {K : St → Prop} {s s' : St} (h : s = s') : wpOpsA P its all l s K = wpOpsA P its all l s' K := by rw [h]
@[congr] theorem wpOpsC_congr {P : Program} {pa : List (Nat × Nat)} {all l : List AO} {K : St → Prop} {s s' : St} (h : s = s') : wpOpsC P pa all l s K = wpOpsC P pa all l s' K := by rw [h]
@[congr] theorem wpOp_congr {P : Program} {its : Option (Nat × List Item)} {all : List AO} {o : AO} {K : St → Prop} {s s' : St} (h : s = s') : wpOp P its all o s K = wpOp P its all o s' K := by rw [h]
@[congr] theorem execA_congr {P : Program} {its : Option (Nat × List Item)} {o : AO} {K : St → Prop} {s s' : St} (h : s = s') : execA P its s o K = execA P its s' o K := by rw [h]
@[congr] theorem callA_congr {P : Program} {its : Option (Nat × List Item)} {d : Option Nat} {c : Call} {K : St → Prop} {s s' : St} (h : s = s') : callA P its s d c K = callA P its s' d c K := by rw [h]

/-! ### Code -/
def seqK (P : Program) (its : Option (Nat × List Item)) (y : AC) (Q : XA → St → Prop) : XA → St → Prop := fun e s' => match e with | .normal => wpA P its y Q s' | .ret => Q .ret s' | .exit id => Q (.exit id) s'
def blockK (id : Nat) (Q : XA → St → Prop) : XA → St → Prop := fun e s' => match e with | .exit j => if j = id then Q .normal s' else Q (.exit j) s' | .normal => Q .normal s' | .ret => Q .ret s'
def wpK (P : Program) (its : Option (Nat × List Item)) (a : Hint) (x : Code) (Q : XA → St → Prop) : St → Prop := fun s => wpA P its (acOf a x) Q s
def execK (P : Program) (its : Option (Nat × List Item)) (d : Option Nat) (op : Op) (i : Inf) (K : St → Prop) : St → Prop := fun s => execA P its s ⟨d, op, none, [], i⟩ K
def junkK (d : Option Nat) (K : St → Prop) : St → Prop := fun s => K (putT s d (.v (.tup [])))
def opsK (P : Program) (its : Option (Nat × List Item)) (all l : List AO) (K : St → Prop) : St → Prop := fun s' => wpOpsA P its all l s' K
def loopK (g : List Gh) (Inv : Nat → St → Prop) (m : Nat) (Q : XA → St → Prop) : XA → St → Prop := fun e s' => match e with | .normal => ∃ s1 m', ghs g s' = some s1 ∧ m' < m ∧ Inv m' s1 | .ret => Q .ret s' | .exit id => Q (.exit id) s'

section
variable {P : Program} {its : Option (Nat × List Item)} {Q : XA → St → Prop} {s : St} {K : St → Prop}

theorem wpK_at (a : Hint) (x : Code) : wpK P its a x Q s = wpA P its (acOf a x) Q s := rfl
theorem execK_at (d : Option Nat) (op : Op) (i : Inf) : execK P its d op i K s = execA P its s ⟨d, op, none, [], i⟩ K := rfl
theorem junkK_at (d : Option Nat) : junkK d K s = K (putT s d (.v (.tup []))) := rfl
theorem seqK_normal (y : AC) : seqK P its y Q .normal s = wpA P its y Q s := rfl
theorem seqK_ret (y : AC) : seqK P its y Q .ret s = Q .ret s := rfl
theorem seqK_exit (y : AC) (id : Nat) : seqK P its y Q (.exit id) s = Q (.exit id) s := rfl
theorem blockK_normal (id : Nat) : blockK id Q .normal s = Q .normal s := rfl
theorem blockK_ret (id : Nat) : blockK id Q .ret s = Q .ret s := rfl
theorem blockK_exit (id j : Nat) : blockK id Q (.exit j) s = if j = id then Q .normal s else Q (.exit j) s := rfl
theorem loopK_ret (g : List Gh) (Inv : Nat → St → Prop) (m : Nat) : loopK g Inv m Q .ret s = Q .ret s := rfl
theorem loopK_exit (g : List Gh) (Inv : Nat → St → Prop) (m id : Nat) : loopK g Inv m Q (.exit id) s = Q (.exit id) s := rfl
theorem opsK_at (all l : List AO) : opsK P its all l K s = wpOpsA P its all l s K := rfl

theorem wp_skip : wpA P its (acOf .o .skip) Q s = Q .normal s := rfl
theorem wp_label (n : Nat) : wpA P its (acOf .o (.label n)) Q s = Q .normal s := rfl
theorem wp_reg0 (id : Nat) (ops : List Oper) : wpA P its (acOf .o (.region id ⟨ops⟩ false)) Q s = wpOpsA P its (aoL 0 ops []) (aoL 0 ops []) s (Q .normal) := rfl
theorem wp_reg (id : Nat) (ops : List Oper) (l : List (Nat × Inf)) : wpA P its (acOf (.r l) (.region id ⟨ops⟩ false)) Q s = wpOpsA P its (aoL 0 ops l) (aoL 0 ops l) s (Q .normal) := rfl
theorem wp_draw0 (id : Nat) (ops : List Oper) : wpA P its (acOf .o (.region id ⟨ops⟩ true)) Q s = wpOpsA P none (aoL 0 ops []) (aoL 0 ops []) s (Q .normal) := rfl
theorem wp_draw (id : Nat) (ops : List Oper) (l : List (Nat × Inf)) : wpA P its (acOf (.r l) (.region id ⟨ops⟩ true)) Q s = wpOpsA P none (aoL 0 ops l) (aoL 0 ops l) s (Q .normal) := rfl
theorem wp_regy (id : Nat) (ops : List Oper) (l : List (Nat × Inf)) : wpA P its (acOf (.y l) (.region id ⟨ops⟩ false)) Q s = wpOpsA P its (aoL 0 ops l) (aoL 0 ops l) s (Q .normal) := rfl
theorem wp_drawy (id : Nat) (ops : List Oper) (l : List (Nat × Inf)) : wpA P its (acOf (.y l) (.region id ⟨ops⟩ true)) Q s = wpOpsA P its (aoL 0 ops l) (aoL 0 ops l) s (Q .normal) := rfl
theorem wp_seq (x y : Code) (a b : Hint) : wpA P its (acOf (.s a b) (.seq x y)) Q s = wpA P its (acOf a x) (seqK P its (acOf b y) Q) s := rfl
theorem wp_cond (c : Operand) (x y : Code) (a b : Hint) : wpA P its (acOf (.s a b) (.cond c x y)) Q s = gB (ev s c) s (wpK P its a x Q) (wpK P its b y Q) := by
  simp only [acOf, wpA, gB]
  rfl
theorem wp_block (id : Nat) (x : Code) (a : Hint) : wpA P its (acOf (.b a) (.block id x)) Q s = wpA P its (acOf a x) (blockK id Q) s := rfl
theorem wp_exit (id : Nat) : wpA P its (acOf .o (.exit id)) Q s = Q (.exit id) s := rfl
theorem wp_ret : wpA P its (acOf .o .ret) Q s = Q .ret s := rfl
theorem wp_gh (g : List Gh) (x : Code) (a : Hint) : wpA P its (acOf (.g g a) x) Q s = opt (ghs g s) (wpK P its a x Q) := by
  have e : acOf (.g g a) x = .gh g (acOf a x) := by cases x <;> rfl
  simp only [e, wpA, ex_opt]
  rfl
/-- A loop: what holds at its head, and a measure that falls. -/
theorem wp_loop {g : List Gh} {x : Code} {a : Hint} (Inv : Nat → St → Prop) (m : Nat) (h0 : opt (ghs g s) (Inv m)) (h : ∀ m s, Inv m s → wpA P its (acOf a x) (loopK g Inv m Q) s) : wpA P its (acOf (.l g a) (.loop x)) Q s := by
  cases hg : ghs g s with
  | none => rw [hg] at h0; exact h0.elim
  | some s0 => rw [hg] at h0; exact ⟨Inv, m, s0, hg, h0, h⟩
theorem loopK_of {g : List Gh} {Inv : Nat → St → Prop} {m m' : Nat} (hm : m' < m) (h : opt (ghs g s) (Inv m')) : loopK g Inv m Q .normal s := by
  cases hg : ghs g s with
  | none => rw [hg] at h; exact h.elim
  | some s0 => rw [hg] at h; exact ⟨s0, m', hg, hm, h⟩

theorem RetQ_ret (vs : List ResultVar) (qs : List (Bool × Nat)) (r : PV) : RetQ vs qs r .ret s = ((resAll s vs qs).map packR = some r) := rfl
theorem RetQ_normal (vs : List ResultVar) (qs : List (Bool × Nat)) (r : PV) : RetQ vs qs r .normal s = ((resAll s vs qs).map packR = some r) := rfl

theorem atEnd_ret (F : St → Prop) : atEnd F .ret s = F s := rfl
theorem atEnd_normal (F : St → Prop) : atEnd F .normal s = F s := rfl

/-! ### Regions that draw their order, and make variables -/
def opsCK (P : Program) (pa : List (Nat × Nat)) (all l : List AO) (K : St → Prop) : St → Prop := fun s' => (freeAll (dsL l) s' && (paOk pa s' && nonPs (nsL pa l) s')) = true ∧ wpOpsC P pa all l s' K
theorem opsCK_at (pa : List (Nat × Nat)) (all l : List AO) : opsCK P pa all l K s = ((freeAll (dsL l) s && (paOk pa s && nonPs (nsL pa l) s)) = true ∧ wpOpsC P pa all l s K) := rfl
theorem wp_regd (id : Nat) (ops : List Oper) (pa : List (Nat × Nat)) (l : List (Nat × Inf)) (d : Bool) : wpA P its (acOf (.d pa l) (.region id ⟨ops⟩ d)) Q s = ((freeAll (dsL (aoL 0 ops l)) s && (paOk pa s && nonPs (nsL pa (aoL 0 ops l)) s)) = true ∧ wpOpsC P pa (aoL 0 ops l) (aoL 0 ops l) s (Q .normal)) := rfl
theorem opsC_nil (pa : List (Nat × Nat)) (all : List AO) (k : Nat) (l : List (Nat × Inf)) : wpOpsC P pa all (aoL k [] l) s K = K s := rfl
theorem opsC_cons (pa : List (Nat × Nat)) (all : List AO) (k : Nat) (l : List (Nat × Inf)) (os : List Oper) (o : Oper) : wpOpsC P pa all (aoL k (o :: os) l) s K = wpOp P none all (ao o ((lk k l).getD {})) s (opsCK P pa all (aoL (k + 1) os l) K) := rfl
def allocX (d : Option Nat) (op : Op) (g : Option (Nat × Bool)) (i : Inf) : Option (Nat × List Nat) := match op, d, g, i.mc with
  | .alloc _, some d, none, 0 => some (d, i.acc.map (·.2))
  | _, _, _, _ => none
def dsC : Option (Nat × List Nat) → List (Nat × List Nat) → List (Nat × List Nat)
  | some p, l => p :: l
  | none, l => l
theorem nsL_nil (pa : List (Nat × Nat)) (k : Nat) (l : List (Nat × Inf)) : nsL pa (aoL k [] l) = [] := rfl
theorem nsL_cons (pa : List (Nat × Nat)) (k : Nat) (l : List (Nat × Inf)) (os : List Oper) (d : Option Nat) (op : Op) (t : TypeId) (p : String) (af : Array Edge) (g : Option (Nat × Bool)) :
    nsL pa (aoL k (⟨d, op, t, p, af, g⟩ :: os) l) = nsC pa d (nsL pa (aoL (k + 1) os l)) := rfl
theorem nsL_no (l : List AO) : nsL [] l = [] := by
  induction l with
  | nil => rfl
  | cons o l ih =>
    rw [nsL, ih]
    unfold nsC inPa
    split <;> simp
theorem dsL_nil (k : Nat) (l : List (Nat × Inf)) : dsL (aoL k [] l) = [] := rfl
theorem dsL_cons (k : Nat) (l : List (Nat × Inf)) (os : List Oper) (d : Option Nat) (op : Op) (t : TypeId) (p : String) (af : Array Edge) (g : Option (Nat × Bool)) :
    dsL (aoL k (⟨d, op, t, p, af, g⟩ :: os) l) = dsC (allocX d op g ((lk k l).getD {})) (dsL (aoL (k + 1) os l)) := by
  show (match allocD (ao ⟨d, op, t, p, af, g⟩ ((lk k l).getD {})) with | some p => p :: _ | none => _) = _
  have e : allocD (ao ⟨d, op, t, p, af, g⟩ ((lk k l).getD {})) = allocX d op g ((lk k l).getD {}) := rfl
  rw [e]
  cases allocX d op g ((lk k l).getD {}) <;> rfl

/-! ### Regions told in another order -/
def ordL (all : List AO) (ord : List Nat) : List AO := ord.filterMap (all[·]?)
def ordC : Option AO → List AO → List AO
  | some o, l => o :: l
  | none, l => l
theorem ordL_nil (all : List AO) : ordL all [] = [] := rfl
theorem ordL_cons (all : List AO) (i : Nat) (ord : List Nat) : ordL all (i :: ord) = ordC all[i]? (ordL all ord) := by
  unfold ordL
  rw [List.filterMap_cons]
  cases all[i]? <;> rfl
theorem ordC_some (o : AO) (l : List AO) : ordC (some o) l = o :: l := rfl
theorem aoAt_zero (k : Nat) (o : Oper) (os : List Oper) (l : List (Nat × Inf)) : (aoL k (o :: os) l)[0]? = some (ao o ((lk k l).getD {})) := rfl
theorem aoAt_succ (k n : Nat) (o : Oper) (os : List Oper) (l : List (Nat × Inf)) : (aoL k (o :: os) l)[n + 1]? = (aoL (k + 1) os l)[n]? := rfl
theorem wp_regn (id : Nat) (ops : List Oper) (ord : List Nat) (l : List (Nat × Inf)) (d : Bool) : wpA P its (acOf (.n ord l) (.region id ⟨ops⟩ d)) Q s = wpOpsA P none (aoL 0 ops l) (ordL (aoL 0 ops l) ord) s (Q .normal) := rfl
theorem opsL_nil (all : List AO) : wpOpsA P its all [] s K = K s := rfl
theorem opsL_cons (all : List AO) (o : AO) (os : List AO) : wpOpsA P its all (o :: os) s K = wpOp P its all o s (opsK P its all os K) := rfl

/-! ### Operations -/
theorem ops_nil (all : List AO) (k : Nat) (l : List (Nat × Inf)) : wpOpsA P its all (aoL k [] l) s K = K s := rfl
theorem ops_cons (all : List AO) (k : Nat) (l : List (Nat × Inf)) (os : List Oper) (o : Oper) : wpOpsA P its all (aoL k (o :: os) l) s K = wpOp P its all (ao o ((lk k l).getD {})) s (opsK P its all (aoL (k + 1) os l) K) := rfl
theorem op_plain (all : List AO) (d : Option Nat) (op : Op) (t : TypeId) (p : String) (af : Array Edge) (i : Inf) : wpOp P its all (ao ⟨d, op, t, p, af, none⟩ i) s K = execA P its s ⟨d, op, none, [], i⟩ K := by
  rfl
/-- Was what a guard looks at passed by? -/
def gU : Option TV → Prop → Prop → Prop
  | some (.v (.tup [])), _, y => y
  | _, x, _ => x
theorem gU_s (v : Value) (x y : Prop) : gU (some (.v (.s v))) x y = x := rfl
theorem gU_skip (x y : Prop) : gU (some (.v (.tup []))) x y = y := rfl
/-- Where the operation that a guard looks at lays its value. -/
def slotAt (all : List AO) (j : Nat) : Option Nat := (all[j]?).bind (·.dst)
theorem slotAt_zero (o : Oper) (os : List Oper) (k : Nat) (l : List (Nat × Inf)) : slotAt (aoL k (o :: os) l) 0 = o.dst := rfl
theorem slotAt_succ (o : Oper) (os : List Oper) (k j : Nat) (l : List (Nat × Inf)) : slotAt (aoL k (o :: os) l) (j + 1) = slotAt (aoL (k + 1) os l) j := rfl
@[congr] theorem slotAt_congr {all : List AO} {j : Nat} : slotAt all j = slotAt all j := rfl
theorem op_guard (all : List AO) (d : Option Nat) (op : Op) (t : TypeId) (p : String) (af : Array Edge) (j : Nat) (i : Inf) :
    wpOp P its all (ao ⟨d, op, t, p, af, some (j, true)⟩ i) s K = gU ((slotAt all j).bind (s.tm[·]?)) (gB ((slotAt all j).bind (s.tm[·]?)) s (execK P its d op i K) (junkK d K)) (junkK d K s) := by
  have key : ∀ (o : Option TV) (x y : St → Prop), (match o with | some (.v (.s (.bool b))) => if b = true then x s else y s | some (.v (.tup [])) => y s | _ => False) = gU o (gB o s x y) (y s) := by
    intro o x y
    rcases o with _ | (z | _ | _ | _)
    · rfl
    · cases z with
      | s v => cases v <;> rfl
      | tup l => cases l <;> rfl
      | _ => rfl
    all_goals rfl
  exact key ((slotAt all j).bind (s.tm[·]?)) (execK P its d op i K) (junkK d K)
theorem op_guardn (all : List AO) (d : Option Nat) (op : Op) (t : TypeId) (p : String) (af : Array Edge) (j : Nat) (i : Inf) :
    wpOp P its all (ao ⟨d, op, t, p, af, some (j, false)⟩ i) s K = gU ((slotAt all j).bind (s.tm[·]?)) (gB ((slotAt all j).bind (s.tm[·]?)) s (junkK d K) (execK P its d op i K)) (junkK d K s) := by
  have key : ∀ (o : Option TV) (x y : St → Prop), (match o with | some (.v (.s (.bool b))) => if b = false then x s else y s | some (.v (.tup [])) => y s | _ => False) = gU o (gB o s y x) (y s) := by
    intro o x y
    rcases o with _ | (z | _ | _ | _)
    · rfl
    · cases z with
      | s v =>
        cases v with
        | bool b => cases b <;> rfl
        | _ => rfl
      | tup l => cases l <;> rfl
      | _ => rfl
    all_goals rfl
  exact key ((slotAt all j).bind (s.tm[·]?)) (execK P its d op i K) (junkK d K)

theorem execA_zero {o : AO} (h : o.inf.mc = 0) : execA P its s o K = (match nilTest o with | some x => nilA s o.dst x K | none => execB P its s o K) := by
  unfold execA; rw [h]; rfl
theorem execA_more {o : AO} {n : Nat} (h : o.inf.mc = n + 1) : execA P its s o K = execM P s o K := by
  unfold execA; rw [h]
/-- A row of the code's operations, looked up. -/
theorem step_call (d : Option Nat) (f : Operand) (xs : Array Operand) (ts : Array TypeId) (g : Option (Nat × Bool)) (pre : List Nat) (i : Inf) (hmc : i.mc = 0) : execA P its s ⟨d, .call ⟨.value f, xs, ts⟩, g, pre, i⟩ K = callA P its s d ⟨.value f, xs, ts⟩ K := by rw [execA_zero (by exact hmc)]; rfl
theorem step_invoke (d : Option Nat) (f : Operand) (n : String) (xs : Array Operand) (ts : Array TypeId) (g : Option (Nat × Bool)) (pre : List Nat) (i : Inf) (hmc : i.mc = 0) : execA P its s ⟨d, .call ⟨.invoke f n, xs, ts⟩, g, pre, i⟩ K = callA P its s d ⟨.invoke f n, xs, ts⟩ K := by rw [execA_zero (by exact hmc)]; rfl
theorem step_builtin (d : Option Nat) (b : Builtin) (xs : Array Operand) (ts : Array TypeId) (g : Option (Nat × Bool)) (pre : List Nat) (i : Inf) (hmc : i.mc = 0) : execA P its s ⟨d, .call ⟨.builtin b, xs, ts⟩, g, pre, i⟩ K = opt (stepA s d (.call ⟨.builtin b, xs, ts⟩) i) K := by rw [execA_zero (by exact hmc)]; exact ex_opt _ _
theorem step_move (d : Option Nat) (x : Operand) (g : Option (Nat × Bool)) (pre : List Nat) (i : Inf) (hmc : i.mc = 0) : execA P its s ⟨d, .move x, g, pre, i⟩ K = opt ((ev s x).map (putT s d)) K := by rw [execA_zero (by exact hmc)]; exact ex_opt _ _
theorem step_assign (d : Option Nat) (x : Operand) (g : Option (Nat × Bool)) (pre : List Nat) (i : Inf) (hmc : i.mc = 0) : execA P its s ⟨d, .assign x, g, pre, i⟩ K = opt (stepA s d (.assign x) i) K := by rw [execA_zero (by exact hmc)]; exact ex_opt _ _
theorem step_pick (d : Option Nat) (c x y : Operand) (g : Option (Nat × Bool)) (pre : List Nat) (i : Inf) (hmc : i.mc = 0) : execA P its s ⟨d, .pick c x y, g, pre, i⟩ K = opt ((valA s (.pick c x y) i).map (putT s d)) K := by rw [execA_zero (by exact hmc)]; exact ex_opt _ _
theorem step_load (d : Option Nat) (t : TypeId) (x : Operand) (g : Option (Nat × Bool)) (pre : List Nat) (i : Inf) (hmc : i.mc = 0) : execA P its s ⟨d, .load t x, g, pre, i⟩ K = opt (((ev s x).bind (ldA s i.agg i.n)).map (putT s d)) K := by rw [execA_zero (by exact hmc)]; exact ex_opt _ _
theorem step_fieldAddr (d : Option Nat) (t : TypeId) (x : Operand) (f : Nat) (g : Option (Nat × Bool)) (pre : List Nat) (i : Inf) (hmc : i.mc = 0) : execA P its s ⟨d, .fieldAddr t x f, g, pre, i⟩ K = opt (((ev s x).bind (fieldAddrA i.off)).map (putT s d)) K := by rw [execA_zero (by exact hmc)]; exact ex_opt _ _
theorem step_field (d : Option Nat) (t : TypeId) (x : Operand) (f : Nat) (g : Option (Nat × Bool)) (pre : List Nat) (i : Inf) (hmc : i.mc = 0) : execA P its s ⟨d, .field t x f, g, pre, i⟩ K = opt (((pv s x).bind (fieldA i.agg i.n i.off)).map (putT s d)) K := by rw [execA_zero (by exact hmc)]; exact ex_opt _ _
theorem step_indexAddr (d : Option Nat) (t : TypeId) (x k : Operand) (g : Option (Nat × Bool)) (pre : List Nat) (i : Inf) (hmc : i.mc = 0) : execA P its s ⟨d, .indexAddr t x k, g, pre, i⟩ K = opt ((valA s (.indexAddr t x k) i).map (putT s d)) K := by rw [execA_zero (by exact hmc)]; exact ex_opt _ _
theorem step_index (d : Option Nat) (t : TypeId) (x k : Operand) (g : Option (Nat × Bool)) (pre : List Nat) (i : Inf) (hmc : i.mc = 0) : execA P its s ⟨d, .index t x k, g, pre, i⟩ K = opt ((valA s (.index t x k) i).map (putT s d)) K := by rw [execA_zero (by exact hmc)]; exact ex_opt _ _
theorem step_binOp (d : Option Nat) (op : BinOp) (t u : TypeId) (x y : Operand) (g : Option (Nat × Bool)) (pre : List Nat) (i : Inf) (hmc : i.mc = 0) (h : (i.t == 1) = false) : execA P its s ⟨d, .binOp op t x y u, g, pre, i⟩ K = opt ((valA s (.binOp op t x y u) i).map (putT s d)) K := by
  have hn : nilTest ⟨d, .binOp op t x y u, g, pre, i⟩ = none := by
    have h' : i.t ≠ 1 := by simpa using h
    unfold nilTest
    split
    · rw [if_neg (fun e => h' e.1)]
    · rfl
  rw [execA_zero (by exact hmc), hn]
  exact ex_opt _ _
theorem step_nil (d : Option Nat) (t u : TypeId) (x : Operand) (g : Option (Nat × Bool)) (pre : List Nat) (i : Inf) (hmc : i.mc = 0) (h : (i.t == 1) = true) (h3 : (i.n == 3) = true) : execA P its s ⟨d, .binOp .eql t x (.const (.slice none 0 0)) u, g, pre, i⟩ K = nilA s d x K := by
  have hn : nilTest ⟨d, .binOp .eql t x (.const (.slice none 0 0)) u, g, pre, i⟩ = some x := by
    unfold nilTest
    exact if_pos ⟨by simpa using h, by simpa using h3⟩
  rw [execA_zero (by exact hmc), hn]
theorem nilA_nil (d : Option Nat) (x : Operand) (h : ev s x = some (.v (.s (.slice none 0 0)))) : nilA s d x K = K (putT s d (bl true)) := by
  unfold nilA; rw [h]
  rfl
theorem nilA_sl {ex : Bool} {els : List PV} (d : Option Nat) (x : Operand) (h : ev s x = some (.v (.sl ex els))) (hK : ∀ b : Bool, (els.isEmpty = false → b = false) → K (putT s d (bl b))) : nilA s d x K := by
  unfold nilA; rw [h]; exact hK
theorem step_unOp (d : Option Nat) (op : UnOp) (t : TypeId) (x : Operand) (g : Option (Nat × Bool)) (pre : List Nat) (i : Inf) (hmc : i.mc = 0) : execA P its s ⟨d, .unOp op t x, g, pre, i⟩ K = opt (((pv s x).bind (unA op)).map (putT s d)) K := by rw [execA_zero (by exact hmc)]; exact ex_opt _ _
theorem step_iface (d : Option Nat) (t : TypeId) (x : Operand) (g : Option (Nat × Bool)) (pre : List Nat) (i : Inf) (hmc : i.mc = 0) : execA P its s ⟨d, .makeInterface t x, g, pre, i⟩ K = opt ((valA s (.makeInterface t x) i).map (putT s d)) K := by rw [execA_zero (by exact hmc)]; exact ex_opt _ _
theorem step_extract (d : Option Nat) (x : Operand) (k : Nat) (g : Option (Nat × Bool)) (pre : List Nat) (i : Inf) (hmc : i.mc = 0) : execA P its s ⟨d, .extract x k, g, pre, i⟩ K = opt ((valA s (.extract x k) i).map (putT s d)) K := by rw [execA_zero (by exact hmc)]; exact ex_opt _ _
theorem step_func (d : Option Nat) (f : Fn) (fs xs : Array Operand) (g : Option (Nat × Bool)) (pre : List Nat) (i : Inf) (hmc : i.mc = 0) : execA P its s ⟨d, .makeFunc f fs xs, g, pre, i⟩ K = opt ((valA s (.makeFunc f fs xs) i).map (putT s d)) K := by rw [execA_zero (by exact hmc)]; exact ex_opt _ _
theorem step_build (d : Option Nat) (t : TypeId) (parts : Array (Nat × Operand)) (g : Option (Nat × Bool)) (pre : List Nat) (i : Inf) (hmc : i.mc = 0) : execA P its s ⟨d, .build t parts, g, pre, i⟩ K = opt ((valA s (.build t parts) i).map (putT s d)) K := by rw [execA_zero (by exact hmc)]; exact ex_opt _ _
theorem step_slice (d : Option Nat) (t : TypeId) (x : Operand) (lo hi mx : Option Operand) (g : Option (Nat × Bool)) (pre : List Nat) (i : Inf) (hmc : i.mc = 0) : execA P its s ⟨d, .slice t x lo hi mx, g, pre, i⟩ K = opt ((valA s (.slice t x lo hi mx) i).map (putT s d)) K := by rw [execA_zero (by exact hmc)]; exact ex_opt _ _
theorem step_convert (d : Option Nat) (t u : TypeId) (x : Operand) (g : Option (Nat × Bool)) (pre : List Nat) (i : Inf) (hmc : i.mc = 0) : execA P its s ⟨d, .convert t u x, g, pre, i⟩ K = opt ((valA s (.convert t u x) i).map (putT s d)) K := by rw [execA_zero (by exact hmc)]; exact ex_opt _ _
theorem step_alloc (d : Option Nat) (t : TypeId) (g : Option (Nat × Bool)) (pre : List Nat) (i : Inf) (hmc : i.mc = 0) : execA P its s ⟨d, .alloc t, g, pre, i⟩ K = opt (stepA s d (.alloc t) i) K := by rw [execA_zero (by exact hmc)]; exact ex_opt _ _
theorem step_box (d : Option Nat) (t : TypeId) (x : Operand) (g : Option (Nat × Bool)) (pre : List Nat) (i : Inf) (hmc : i.mc = 0) : execA P its s ⟨d, .box t x, g, pre, i⟩ K = opt (stepA s d (.box t x) i) K := by rw [execA_zero (by exact hmc)]; exact ex_opt _ _
theorem step_makeSlice (d : Option Nat) (t : TypeId) (l c : Operand) (g : Option (Nat × Bool)) (pre : List Nat) (i : Inf) (hmc : i.mc = 0) : execA P its s ⟨d, .makeSlice t l c, g, pre, i⟩ K = opt (stepA s d (.makeSlice t l c) i) K := by rw [execA_zero (by exact hmc)]; exact ex_opt _ _
theorem step_store (d : Option Nat) (t : TypeId) (x y : Operand) (g : Option (Nat × Bool)) (pre : List Nat) (i : Inf) (hmc : i.mc = 0) : execA P its s ⟨d, .store t x y, g, pre, i⟩ K = opt (stepA s d (.store t x y) i) K := by rw [execA_zero (by exact hmc)]; exact ex_opt _ _
theorem step_buildSlice (d : Option Nat) (t : TypeId) (n : Nat) (parts : Array (Nat × Operand)) (g : Option (Nat × Bool)) (pre : List Nat) (i : Inf) (hmc : i.mc = 0) : execA P its s ⟨d, .buildSlice t n parts, g, pre, i⟩ K = opt (stepA s d (.buildSlice t n parts) i) K := by rw [execA_zero (by exact hmc)]; exact ex_opt _ _

/-- A call of a function of the program's, whose contract is known. -/
theorem call_fn {d : Option Nat} {f : Operand} {xs : Array Operand} {ts : Array TypeId} {k : Nat} {caps ps ys : List PV} {r : PV} (hf : ev s f = some (.v (.fn (.func k) caps))) (hp : pvs s xs.toList = some ps) (ha : ps ++ caps = ys) (hOk : Ok P k ys r)
    (hK : K (putT s d (.v r))) : callA P its s d ⟨.value f, xs, ts⟩ K := by
  unfold callA
  subst ha
  simp only [hf, hp]
  exact ⟨r, hOk, hK⟩
theorem call_meth {d : Option Nat} {f : Operand} {n : String} {xs : Array Operand} {ts : Array TypeId} {t k : Nat} {x : PV} {ps : List PV} {r : PV} (hf : ev s f = some (.v (.ifc t x))) (hp : pvs s xs.toList = some ps) (hM : Meth P t n k) (hOk : Ok P k (x :: ps) r)
    (hK : K (putT s d (.v r))) : callA P its s d ⟨.invoke f n, xs, ts⟩ K := by
  unfold callA
  simp only [hf, hp]
  exact ⟨k, r, hM, hOk, hK⟩

/-! ### Memory that is known, and may be written -/
theorem step_lend (d : Option Nat) (c : Call) (g : Option (Nat × Bool)) (pre : List Nat) (i : Inf) (hi : i.mc = 1) : execA P its s ⟨d, .call c, g, pre, i⟩ K = lendA P s d c K := by
  rw [execA_more (n := 0) (by exact hi)]; unfold execM; simp only [hi]
theorem step_mem (d : Option Nat) (c : Call) (g : Option (Nat × Bool)) (pre : List Nat) (i : Inf) (hi : i.mc = 2) : execA P its s ⟨d, .call c, g, pre, i⟩ K = memA P s d c K := by
  rw [execA_more (n := 1) (by exact hi)]; unfold execM; simp only [hi]
theorem step_new (d : Option Nat) (op : Op) (g : Option (Nat × Bool)) (pre : List Nat) (i : Inf) (hi : i.mc = 3) : execA P its s ⟨d, op, g, pre, i⟩ K = newA s d op i K := by
  rw [execA_more (n := 2) (by exact hi)]; unfold execM; simp only [hi]
theorem step_appM (d : Option Nat) (c : Call) (g : Option (Nat × Bool)) (pre : List Nat) (i : Inf) (hi : i.mc = 4) : execA P its s ⟨d, .call c, g, pre, i⟩ K = appMA s d c i K := by
  rw [execA_more (n := 3) (by exact hi)]; unfold execM; simp only [hi]
theorem step_copy (d : Option Nat) (c : Call) (g : Option (Nat × Bool)) (pre : List Nat) (i : Inf) (hi : i.mc = 5) : execA P its s ⟨d, .call c, g, pre, i⟩ K = copyA s d c i K := by
  rw [execA_more (n := 4) (by exact hi)]; unfold execM; simp only [hi]
theorem step_lendNew (d : Option Nat) (c : Call) (g : Option (Nat × Bool)) (pre : List Nat) (i : Inf) (hi : i.mc = 6) : execA P its s ⟨d, .call c, g, pre, i⟩ K = lendNewA P s d c K := by
  rw [execA_more (n := 5) (by exact hi)]; unfold execM; simp only [hi]
theorem step_appIn (d : Option Nat) (c : Call) (g : Option (Nat × Bool)) (pre : List Nat) (i : Inf) (hi : i.mc = 7) : execA P its s ⟨d, .call c, g, pre, i⟩ K = appInA s d c i K := by
  rw [execA_more (n := 6) (by exact hi)]; unfold execM; simp only [hi]
theorem step_grow (d : Option Nat) (c : Call) (g : Option (Nat × Bool)) (pre : List Nat) (i : Inf) (hi : i.mc = 8) : execA P its s ⟨d, .call c, g, pre, i⟩ K = growA s d c i K := by
  rw [execA_more (n := 7) (by exact hi)]; unfold execM; simp only [hi]

theorem lend_fn {d : Option Nat} {f : Operand} {xs : Array Operand} {ts : Array TypeId} {k : Nat} {caps ps l : List PV} {r : PV} (hf : ev s f = some (.v (.fn (.func k) caps))) (hp : pvs s xs.toList = some ps) (ht : Tells s.mm (ps ++ caps) l) (hOk : Ok P k l r) (hr : RF r = true)
    (hK : K (putT s d (.v r))) : lendA P s d ⟨.value f, xs, ts⟩ K := by
  unfold lendA
  simp only [hf, hp]
  exact ⟨l, r, ht, hOk, hr, hK⟩
theorem lendNew_fn {d : Option Nat} {f : Operand} {xs : Array Operand} {ts : Array TypeId} {k : Nat} {caps ps l : List PV} {R : PV → Mem → Prop} (hf : ev s f = some (.v (.fn (.func k) caps))) (hp : pvs s xs.toList = some ps) (ht : Tells s.mm (ps ++ caps) l) (hOk : OkM P k l nomem R)
    (hr : ∀ r m', R r m' → RF r = true ∧ ∀ c cells, m' c = some cells → RFs cells = true) (hK : ∀ r m', R r m' → (∀ c, (m' c).isSome = true → s.mm c = none) → K { putT s d (.v r) with mm := s.mm.join m' }) : lendNewA P s d ⟨.value f, xs, ts⟩ K := by
  unfold lendNewA
  simp only [hf, hp]
  exact ⟨l, R, ht, hOk, hr, hK⟩
/-- A call of a function that hands a new row back, of one element at least. -/
theorem newRow_fn {d : Option Nat} {f : Operand} {xs : Array Operand} {ts : Array TypeId} {k : Nat} {caps ps l els : List PV} (hf : ev s f = some (.v (.fn (.func k) caps))) (hp : pvs s xs.toList = some ps) (ht : Tells s.mm (ps ++ caps) l) (hOk : OkN P k l els) (hr : RFs (flat els) = true) (hne : els ≠ [])
    (hK : ∀ c cap q, s.mm c = none → els.length ≤ cap → K { putT s d (.v (.s (.slice (some ⟨c, 0, none⟩) els.length cap))) with mm := s.mm.put c (flat els ++ List.replicate q .junk) }) : lendNewA P s d ⟨.value f, xs, ts⟩ K := by
  refine lendNew_fn hf hp ht hOk (NewRow.rf hr) ?_
  intro r m' h hfr
  rcases h with ⟨rfl, _⟩ | ⟨_, c, cap, q, h1, rfl, rfl⟩
  · exact absurd rfl hne
  · rw [Mem.join_put]
    exact hK c cap q (hfr c (by rw [Mem.put_same]; rfl)) h1
theorem mem_fn {d : Option Nat} {f : Operand} {xs : Array Operand} {ts : Array TypeId} {k : Nat} {caps ps l : List PV} {R : PV → Mem → Prop} (hf : ev s f = some (.v (.fn (.func k) caps))) (hp : pvs s xs.toList = some ps) (hl : ps ++ caps = l) (hOk : OkM P k l s.mm R)
    (hK : ∀ r m', R r m' → K { putT s d (.v r) with mm := m' }) : memA P s d ⟨.value f, xs, ts⟩ K := by
  subst hl
  unfold memA
  simp only [hf, hp]
  exact ⟨R, hOk, hK⟩
theorem new_make {d : Option Nat} {t : TypeId} {l c : Operand} {i : Inf} {k k' : IntKind} {n : Int} {T N : Nat} {Z : List Value} (hl : ev s l = some (.v (.s (.int k n)))) (hc : ev s c = some (.v (.s (.int k' n)))) (hT : i.t = T) (hN : i.n = N) (hZ : i.zero = Z) (h0 : 0 ≤ n) (h1 : n * T ≤ 140737488355328) (h2 : n * N ≤ 16777216)
    (h : ∀ c, s.mm c = none → K { putT s d (.v (.s (.slice (some ⟨c, 0, none⟩) n.toNat n.toNat))) with mm := s.mm.put c (List.replicate n.toNat (Z.map PV.s)).flatten }) : newA s d (.makeSlice t l c) i K := by
  subst hT hN hZ
  unfold newA
  simp only [hl, hc]
  exact ⟨trivial, h0, h1, h2, h⟩
theorem appM_of {d : Nat} {x y : Operand} {ts : Array TypeId} {i : Inf} {p : TV} {q : PV} {ys : List PV} (hx : ev s x = some p) (hy : pv s y = some q) (ht : Tell s.mm q (.sl false ys)) (hr : RFs (flat ys) = true) (h : opt (appA s d i p ys) K) : appMA s (some d) ⟨.builtin .append, #[x, y], ts⟩ i K := by
  unfold appMA
  simp only [hx, hy]
  cases ha : appA s d i p ys with
  | none => rw [ha] at h; exact h.elim
  | some s' => rw [ha] at h; exact ⟨ys, s', ht, hr, ha, h⟩
theorem copy_of {d : Option Nat} {x y : Operand} {ts : Array TypeId} {i : Inf} {b off n cap : Nat} {q : PV} {ys cells : List PV} (hx : pv s x = some (.s (.slice (some ⟨b, off, none⟩) n cap))) (hy : pv s y = some q) (ht : Tell s.mm q (.sl false ys)) (hr : RFs (flat ys) = true)
    (hm : s.mm b = some cells) (hu : ys.all (fun e => e.ok && e.cells.length == i.n) = true) (hl : ys.length ≤ n) (hc : off + (flat ys).length ≤ cells.length)
    (h : K { putT s d (.v (.s (.int .i64 (ys.length : Nat)))) with mm := s.mm.put b (cells.take off ++ flat ys ++ cells.drop (off + (flat ys).length)) }) : copyA s d ⟨.builtin .copy, #[x, y], ts⟩ i K := by
  unfold copyA
  simp only [hx, hy]
  exact ⟨ys, cells, ht, hr, hm, hu, hl, hc, h⟩
theorem appIn_of {d : Option Nat} {x y : Operand} {ts : Array TypeId} {i : Inf} {b off n cap : Nat} {q : PV} {ys cells : List PV} (hx : pv s x = some (.s (.slice (some ⟨b, off, none⟩) n cap))) (hy : pv s y = some q) (ht : Tell s.mm q (.sl false ys)) (hr : RFs (flat ys) = true)
    (hm : s.mm b = some cells) (hu : ys.all (fun e => e.ok && e.cells.length == i.n) = true) (hl : n + ys.length ≤ cap) (hc : off + n * i.n + (flat ys).length ≤ cells.length)
    (h : K { putT s d (.v (.s (.slice (some ⟨b, off, none⟩) (n + ys.length) cap))) with mm := s.mm.put b (cells.take (off + n * i.n) ++ flat ys ++ cells.drop (off + n * i.n + (flat ys).length)) }) : appInA s d ⟨.builtin .append, #[x, y], ts⟩ i K := by
  unfold appInA
  simp only [hx, hy]
  exact ⟨ys, cells, ht, hr, hm, hu, hl, hc, h⟩
/-- A row of elements in memory: one of them. -/
theorem flat_get {els : List PV} {sz k : Nat} {e : PV} (hu : ∀ x ∈ els, x.cells.length = sz) (hk : els[k]? = some e) (post : List PV) : ((flat els ++ post).drop (k * sz)).take sz = e.cells := by
  obtain ⟨pre, post', h1, h2⟩ := flat_at hu hk
  have hs := hu e (List.mem_of_getElem? hk)
  rw [h1, List.append_assoc, List.append_assoc, ← h2, List.drop_left, ← hs, List.take_left]
/-- One of them written. -/
theorem flat_set {els : List PV} {sz k : Nat} {e : PV} (hu : ∀ x ∈ els, x.cells.length = sz) (hk : k < els.length) (he : e.cells.length = sz) (post : List PV) :
    (flat els ++ post).take (k * sz) ++ e.cells ++ (flat els ++ post).drop (k * sz + sz) = flat (els.set k e) ++ post := by
  obtain ⟨pre, post', h1, h2⟩ := flat_at hu (List.getElem?_eq_getElem hk)
  have hs := hu _ (List.getElem_mem hk)
  have hset : els.set k e = els.take k ++ e :: els.drop (k + 1) := List.set_eq_take_append_cons_drop ▸ by rw [if_pos hk]
  have e1 : flat els = flat (els.take k) ++ els[k].cells ++ flat (els.drop (k + 1)) := by
    have : els = els.take k ++ els[k] :: els.drop (k + 1) := by simp
    conv => lhs; rw [this]
    simp only [flat, List.flatMap_append, List.flatMap_cons, List.append_assoc]
  have l1 : (flat (els.take k)).length = k * sz := by
    rw [flat_length (fun x hx => hu x (List.mem_of_mem_take hx)), List.length_take, Nat.min_eq_left (by omega)]
  rw [hset, e1]
  simp only [flat, List.flatMap_append, List.flatMap_cons, List.append_assoc] at l1 ⊢
  rw [← l1, List.take_left]
  congr 1
  congr 1
  rw [List.drop_append, List.drop_append]
  have z1 : List.length (List.flatMap PV.cells (List.take k els)) + sz - List.length (List.flatMap PV.cells (List.take k els)) = sz := by omega
  rw [z1, List.drop_of_length_le (by omega), List.nil_append, List.drop_of_length_le (by omega), List.nil_append, hs, Nat.sub_self, List.drop_zero]

theorem ldM_elem {els : List PV} {sz k : Nat} {e : PV} (hu : ∀ x ∈ els, x.cells.length = sz) (hk : els[k]? = some e) (post : List PV) : ldM true sz (k * sz) (flat els ++ post) = some (.v (.agg e.cells)) := by
  have hlt := (List.getElem?_eq_some_iff.1 hk).1
  have hfl := flat_length hu
  have h1 : k * sz + sz ≤ els.length * sz := by rw [← Nat.succ_mul]; exact Nat.mul_le_mul_right _ hlt
  unfold ldM ldC
  rw [if_pos (by rw [List.length_append]; omega), if_pos (by rw [List.length_drop, List.length_append]; omega), flat_get hu hk]
  rfl
theorem stM_elem {els : List PV} {sz k : Nat} {e : PV} (hu : ∀ x ∈ els, x.cells.length = sz) (hk : k < els.length) (ho : e.ok = true) (he : e.cells.length = sz) (post : List PV) : stM sz (k * sz) (flat els ++ post) e = some (flat (els.set k e) ++ post) := by
  have hfl := flat_length hu
  have h1 : k * sz + sz ≤ els.length * sz := by rw [← Nat.succ_mul]; exact Nat.mul_le_mul_right _ hk
  unfold stM
  rw [if_pos ⟨ho, he, by rw [List.length_append]; omega⟩, flat_set hu hk he]
theorem range0 : List.range 0 = [] := rfl
theorem range1 : List.range 1 = [0] := rfl
theorem range2 : List.range 2 = [0, 1] := rfl
theorem range3 : List.range 3 = [0, 1, 2] := rfl
theorem range4 : List.range 4 = [0, 1, 2, 3] := rfl
theorem one_int (k : IntKind) (n : Int) : (Value.int k n).oneCell' = true := rfl
theorem one_bool (b : Bool) : (Value.bool b).oneCell' = true := rfl
theorem one_slice (b : Option Addr) (n c : Nat) : (Value.slice b n c).oneCell' = true := rfl

theorem call_yield {d : Option Nat} {f : Operand} {xs : Array Operand} {ts : Array TypeId} {l : Nat} {items : List (List PV)} {ps : List PV} (hf : ev s f = some (.v (.fn (.yield l) []))) (hp : pvs s xs.toList = some ps) (hb : s.bx = []) (ht : s.tk = [])
    (hm : s.mm = nomem) (hx : items[s.it]? = some ps) (h1 : K { putT s d (bl true) with it := s.it + 1, mm := nomem }) (h2 : K { putT s d (bl false) with it := items.length + 1, mm := nomem }) : callA P (some (l, items.map exact1)) s d ⟨.value f, xs, ts⟩ K := by
  unfold callA
  simp only [hf, hp]
  exact ⟨trivial, hb, ht, ⟨exact1 ps, by rw [List.getElem?_map, hx]; rfl, rfl, hm⟩, h1, by rw [List.length_map]; exact h2⟩
/-- The same; a round's memory is handed over. -/
theorem call_yieldM {d : Option Nat} {f : Operand} {xs : Array Operand} {ts : Array TypeId} {l : Nat} {items : List Item} {x : Item} {ps : List PV} (hf : ev s f = some (.v (.fn (.yield l) []))) (hp : pvs s xs.toList = some ps) (hb : s.bx = []) (ht : s.tk = [])
    (hi : items[s.it]? = some x) (hx : x ps s.mm) (h1 : K { putT s d (bl true) with it := s.it + 1, mm := nomem }) (h2 : K { putT s d (bl false) with it := items.length + 1, mm := nomem }) : callA P (some (l, items)) s d ⟨.value f, xs, ts⟩ K := by
  unfold callA
  simp only [hf, hp]
  exact ⟨trivial, hb, ht, ⟨x, hi, hx⟩, h1, h2⟩

/-! ### A loop over an iterator -/
/-- Behind the operations that lay a round's values. -/
def rfK (P : Program) (y : AC) (Q' : XA → St → Prop) : XA → St → Prop := fun e s2 => match e with | .normal => wpA P none y Q' s2 | _ => False
/-- Behind a round. -/
def roundK (g : List Gh) (R : St → Prop) (Q : XA → St → Prop) : XA → St → Prop := fun e s' => match e with
  | .normal => ∃ s1, ghs g (betw s') = some s1 ∧ R s1
  | .ret => Q .ret (leaveR s')
  | .exit id => Q (.exit id) (leaveR s')
theorem rfK_normal (y : AC) : rfK P y Q .normal s = wpA P none y Q s := rfl
theorem roundK_normal (g : List Gh) (R : St → Prop) : roundK g R Q .normal s = opt (ghs g (betw s)) R := ex_opt _ _
theorem roundK_ret (g : List Gh) (R : St → Prop) : roundK g R Q .ret s = Q .ret (leaveR s) := rfl
theorem roundK_exit (g : List Gh) (R : St → Prop) (id : Nat) : roundK g R Q (.exit id) s = Q (.exit id) (leaveR s) := rfl
theorem rounds_ofM {g : List Gh} {ps : List Nat} {a b : AC} (Inv : Nat → St → Prop) {items : List Item}
    (hr : ∀ (i : Nat) (x : Item) (p : List PV) (m : Mem) (s' : St) (R : St → Prop), items[i]? = some x → Inv i s' → x p m → (∀ c, (m c).isSome = true → s'.mm c = none) → (∀ s1, Inv (i + 1) s1 → R s1) → p.length = ps.length ∧ wpA P none a (rfK P b (roundK g R Q)) (enterR ps p { s' with mm := s'.mm.join m }))
    (hq : ∀ s', Inv items.length s' → Q .normal (leaveR s')) :
    ∀ (rest : List Item) (i : Nat) (s' : St), items.drop i = rest → i + rest.length = items.length → Inv i s' →
      Rounds g ps (fun Q' s' => wpA P none a (fun e s2 => match e with | .normal => wpA P none b Q' s2 | _ => False) s') Q rest s' := by
  intro rest
  induction rest with
  | nil =>
    intro i s' hd hl hi
    have : i = items.length := by simpa using hl
    subst this
    exact hq _ hi
  | cons x xs ih =>
    intro i s' hd hl hi
    have hx : items[i]? = some x := by
      have := congrArg (·[0]?) hd
      simpa using this
    have hd' : items.drop (i + 1) = xs := by
      have := congrArg List.tail hd
      simpa using this
    intro p m hxm hfr
    obtain ⟨h1, h2⟩ := hr i x p m s' (Rounds g ps (fun Q' s' => wpA P none a (fun e s2 => match e with | .normal => wpA P none b Q' s2 | _ => False) s') Q xs) hx hi hxm hfr
      (fun s1 h => ih (i + 1) s1 hd' (by simp only [List.length_cons] at hl; omega) h)
    exact ⟨h1, h2⟩
theorem wp_rfM {f : Operand} {ps : Array Nat} {g : List Gh} {a b : Hint} {x y : Code} {p : PV} {items : List Item} (hf : ev s f = some (.v p)) (hI : IterOkM P p items) (Inv : Nat → St → Prop)
    (h0 : opt (ghs g (betw { s with sv := s.tm :: s.sv })) (Inv 0))
    (hr : ∀ (i : Nat) (x' : Item) (p : List PV) (m : Mem) (s' : St) (R : St → Prop), items[i]? = some x' → Inv i s' → x' p m → (∀ c, (m c).isSome = true → s'.mm c = none) → (∀ s1, Inv (i + 1) s1 → R s1) → p.length = ps.toList.length ∧ wpA P none (acOf a x) (rfK P (acOf b y) (roundK g R Q)) (enterR ps.toList p { s' with mm := s'.mm.join m }))
    (hq : ∀ s', Inv items.length s' → Q .normal (leaveR s')) :
    wpA P none (acOf (.f g a b) (.rangeFunc f ps x y)) Q s := by
  cases hg : ghs g (betw { s with sv := s.tm :: s.sv }) with
  | none => rw [hg] at h0; exact h0.elim
  | some s1 =>
    rw [hg] at h0
    exact ⟨items, p, s1, rfl, hf, hI, hg, rounds_ofM Inv hr hq items 0 s1 (by simp) (by simp) h0⟩
theorem wp_rf {f : Operand} {ps : Array Nat} {g : List Gh} {a b : Hint} {x y : Code} {p : PV} {items : List (List PV)} (hf : ev s f = some (.v p)) (hI : IterOk P p items) (Inv : Nat → St → Prop)
    (h0 : opt (ghs g (betw { s with sv := s.tm :: s.sv })) (Inv 0))
    (hr : ∀ (i : Nat) (x' : List PV) (s' : St) (R : St → Prop), items[i]? = some x' → Inv i s' → (∀ s1, Inv (i + 1) s1 → R s1) → x'.length = ps.toList.length ∧ wpA P none (acOf a x) (rfK P (acOf b y) (roundK g R Q)) (enterR ps.toList x' s'))
    (hq : ∀ s', Inv items.length s' → Q .normal (leaveR s')) :
    wpA P none (acOf (.f g a b) (.rangeFunc f ps x y)) Q s := by
  refine wp_rfM hf hI Inv h0 ?_ (by rw [List.length_map]; exact hq)
  intro i x' p m s' R hx hi hxm _ hR
  rw [List.getElem?_map] at hx
  obtain ⟨y', hy, rfl⟩ := Option.map_eq_some_iff.1 hx
  obtain ⟨rfl, rfl⟩ := hxm
  exact hr i p s' R hy hi hR
/-- The same; what is told may name the slots as the loop began. -/
theorem wp_rf' {tm : List TV} {bx : List (Nat × List TV)} {ro : List (Nat × List PV)} {tk : List (Nat × Nat)} {sv : List (List TV)} {it : Nat} {mm : Mem} {f : Operand} {ps : Array Nat} {g : List Gh} {a b : Hint} {x y : Code} {p : PV} {items : List (List PV)} (hf : ev ⟨tm, bx, ro, tk, sv, it, mm⟩ f = some (.v p)) (hI : IterOk P p items)
    (Inv : List (List TV) → Nat → St → Prop) (h0 : opt (ghs g ⟨[], bx, ro, tk, tm :: sv, it, mm⟩) (Inv (tm :: sv) 0))
    (hr : ∀ (i : Nat) (x' : List PV) (s' : St) (R : St → Prop), items[i]? = some x' → Inv (tm :: sv) i s' → (∀ s1, Inv (tm :: sv) (i + 1) s1 → R s1) → x'.length = ps.toList.length ∧ wpA P none (acOf a x) (rfK P (acOf b y) (roundK g R Q)) (enterR ps.toList x' s'))
    (hq : ∀ s', Inv (tm :: sv) items.length s' → Q .normal (leaveR s')) :
    wpA P none (acOf (.f g a b) (.rangeFunc f ps x y)) Q ⟨tm, bx, ro, tk, sv, it, mm⟩ := wp_rf hf hI (Inv (tm :: sv)) h0 hr hq
theorem enterR_mk {tm : List TV} {bx : List (Nat × List TV)} {ro : List (Nat × List PV)} {tk : List (Nat × Nat)} {v : List TV} {sv : List (List TV)} {it : Nat} {mm : Mem} (ps : List Nat) (x : List PV) : enterR ps x ⟨tm, bx, ro, tk, v :: sv, it, mm⟩ = ⟨setPs ps x v, bx, ro, tk, v :: sv, it, mm⟩ := rfl
theorem leaveR_mk {tm : List TV} {bx : List (Nat × List TV)} {ro : List (Nat × List PV)} {tk : List (Nat × Nat)} {v : List TV} {sv : List (List TV)} {it : Nat} {mm : Mem} : leaveR ⟨tm, bx, ro, tk, v :: sv, it, mm⟩ = ⟨v, bx, ro, tk, sv, it, mm⟩ := rfl
theorem betw_mk {tm : List TV} {bx : List (Nat × List TV)} {ro : List (Nat × List PV)} {tk : List (Nat × Nat)} {sv : List (List TV)} {it : Nat} {mm : Mem} : betw ⟨tm, bx, ro, tk, sv, it, mm⟩ = ⟨[], bx, ro, tk, sv, it, mm⟩ := rfl

/-! ### States, by their parts -/
variable {tm : List TV} {bx : List (Nat × List TV)} {ro : List (Nat × List PV)} {tk : List (Nat × Nat)} {sv : List (List TV)} {it : Nat} {mm : Mem}
theorem ev_tmp (n : Nat) : ev ⟨tm, bx, ro, tk, sv, it, mm⟩ (.tmp n) = tm[n]? := rfl
theorem ev_const (v : Value) : ev s (.const v) = some (.v (.s v)) := rfl
theorem ev_func (f : FuncId) : ev s (.func f) = some (.v (.fn (.func f) [])) := rfl
theorem putT_some (d : Nat) (t : TV) : putT ⟨tm, bx, ro, tk, sv, it, mm⟩ (some d) t = ⟨tm.set d t, bx, ro, tk, sv, it, mm⟩ := rfl
theorem putT_none (t : TV) : putT s none t = s := rfl
theorem pv_eq (x : Operand) : pv s x = (ev s x).bind tov := rfl
theorem st_tm : (St.mk tm bx ro tk sv it mm).tm = tm := rfl
end
end Go.Proofs.YtambpjbpdackfaaGreat.A


/- From a law's arguments, as the row tells them, to what is known of them; from a contract to the row's end. -/
set_option linter.unusedVariables false
set_option linter.unusedSimpArgs false
namespace Go.Proofs.YtambpjbpdackfaaGreat.A
open Go Go.RowKit Go.Shelf Go.ChangeShapes Go.WideShapes Go.ChangeAt

/-- All that lies there, is known. -/
def allI (w : World) : Imm := fun b => match w.heap[b]? with | some (.cells cs _ _) => some cs.toList | _ => none
theorem good_all (w : World) : Good (allI w) w := fun b arr h => by
  unfold allI at h
  split at h
  · rename_i cs ty fz hw
    cases h
    exact ⟨cs, ty, fz, [], hw, by simp⟩
  · cases h

/-- The row's end: the law says true, and nothing that was there has turned. -/
theorem ok_end {P : Program} {f : FuncId} {args : List PV} {W : World} {vs : List Value} (h : Ok P f args (.s (.bool true))) (hc : Cs (allI W) args vs) :
    Calls P f vs.toArray W fun e w' => e = .returned (.bool true) ∧ Below W.heap.size W w' :=
  (h.2 (allI W) W vs (good_all W) hc).mono fun e w' ⟨v, J, he, hb, _, _, _, hv⟩ => by
    cases hv
    exact ⟨he, hb⟩
end Go.Proofs.YtambpjbpdackfaaGreat.A


/- Arguments of any shape (numbers, truths, slices and structs of these), read: 'shape' of a type, 'FitL' of what is told. -/
set_option linter.unusedVariables false
set_option linter.unusedSimpArgs false
namespace Go.Proofs.YtambpjbpdackfaaGreat.A
open Go Go.RowKit Go.Shelf Go.ChangeShapes Go.WideShapes Go.ChangeAt

/-- What a cell is. -/
inductive CSh where
  | int (k : IntKind)
  | bool
  | str
  | sl (ag : Bool) (els : List CSh)

def offsOk (P : Program) : Nat → List Field → Option Nat
  | o, [] => some o
  | o, f :: fs => if f.offset = o then offsOk P (o + P.cellsOf f.type) fs else none

/-- The cells of a type. -/
def shape (P : Program) : Nat → TypeId → Option (List CSh)
  | 0, _ => none
  | m + 1, t => match P.underlying t with
    | some .bool => some [.bool]
    | some .string => some [.str]
    | some (.int k) => some [.int k]
    | some (.slice e) => (shape P m e).bind fun l => if l.length = P.cellsOf e ∧ 0 < l.length then some [.sl (match P.underlying e with | some (.struct _) => true | some (.array _ _) => true | _ => false) l] else none
    | some (.struct fs) => if offsOk P 0 fs.toList = some (P.cellsOf t) then (fs.toList.mapM fun f => (shape P m f.type).bind fun l => if l.length = P.cellsOf f.type then some l else none).map List.flatten else none
    | _ => none

def packE (ag : Bool) (cs : List PV) : PV := if ag then .agg cs else cs.headD .junk

mutual
def FitC : CSh → PV → Prop
  | .int k, x => ∃ n, x = .s (.int k n) ∧ (Lit.int k n).wf = true
  | .bool, x => ∃ b, x = .s (.bool b)
  | .str, x => ∃ s, x = .s (.string s)
  | .sl ag l, x => ∃ els, x = .sl false els ∧ ∀ e ∈ els, ∃ cs, e = packE ag cs ∧ FitL l cs
def FitL : List CSh → List PV → Prop
  | [], xs => xs = []
  | c :: l, xs => ∃ y ys, xs = y :: ys ∧ FitC c y ∧ FitL l ys
end
theorem FitC.one {c : CSh} {x : PV} (h : FitC c x) : x.one = true := by
  cases c with
  | int k => simp only [FitC] at h; obtain ⟨n, rfl, _⟩ := h; rfl
  | bool => simp only [FitC] at h; obtain ⟨n, rfl⟩ := h; rfl
  | str => simp only [FitC] at h; obtain ⟨n, rfl⟩ := h; rfl
  | sl ag l => simp only [FitC] at h; obtain ⟨n, rfl, _⟩ := h; rfl
theorem FitL.length : ∀ {l : List CSh} {xs : List PV}, FitL l xs → xs.length = l.length
  | [], xs, h => by simp only [FitL] at h; subst h; rfl
  | c :: l, xs, h => by
    simp only [FitL] at h
    obtain ⟨y, ys, rfl, _, h2⟩ := h
    simp [FitL.length h2]
theorem FitL.append : ∀ {l m : List CSh} {xs ys : List PV}, FitL l xs → FitL m ys → FitL (l ++ m) (xs ++ ys)
  | [], m, xs, ys, h, k => by simp only [FitL] at h; subst h; exact k
  | c :: l, m, xs, ys, h, k => by
    simp only [FitL] at h
    obtain ⟨z, zs, rfl, h1, h2⟩ := h
    simp only [List.cons_append, FitL]
    exact ⟨z, _, rfl, h1, FitL.append h2 k⟩
theorem packE_cells {ag : Bool} {l : List CSh} {cs : List PV} (hag : ag = false → l.length = 1) (h : FitL l cs) : (packE ag cs).cells = cs := by
  cases ag with
  | true => rfl
  | false =>
    have h1 := hag rfl
    match l, h1 with
    | [c], _ =>
      simp only [FitL] at h
      obtain ⟨y, ys, rfl, h2, rfl⟩ := h
      have := h2.one
      cases y <;> simp_all [packE, PV.cells, PV.one]

section
variable {H : Type} {enc : TypeId × Value → H} {P : Program} {W : World} {base : Nat} {held : Bool}

theorem struct_fit {n : Nat} {cs : List Value} (m : Nat)
    (ih : ∀ t sh, shape P m t = some sh → ∀ fuel cs y, DataW.trod enc P W base (fun _ => true) held fuel t cs = some y → ∃ xs, FitL sh xs ∧ Cs (allI W) xs cs) :
    ∀ (fs : List Field) (o : Nat) (ls : List (List CSh)) (ys : List (DataW H × List MemPlace)), offsOk P o fs = some cs.length → (fs.mapM fun f => (shape P m f.type).bind fun l => if l.length = P.cellsOf f.type then some l else none) = some ls →
      (∀ (i : Nat) (f : Field), fs[i]? = some f → DataW.trod enc P W base (fun _ => true) held n f.type ((cs.drop f.offset).take (P.cellsOf f.type)) = ys[i]?) → ys.length = fs.length → o ≤ cs.length → ∃ xs, FitL ls.flatten xs ∧ Cs (allI W) xs (cs.drop o)
  | [], o, ls, ys, ho, hl, hf, _, hoc => by
    simp only [offsOk, Option.some.injEq] at ho
    subst ho
    simp at hl
    subst hl
    exact ⟨[], rfl, by rw [List.drop_length]; exact .nil⟩
  | f :: fs, o, ls, ys, ho, hl, hf, hlen, hoc => by
    simp only [offsOk] at ho
    split at ho
    · rename_i hoff
      subst hoff
      simp only [List.mapM_cons, Option.bind_eq_bind, Option.pure_def] at hl
      obtain ⟨l1, h1, h2⟩ := Option.bind_eq_some_iff.1 hl
      obtain ⟨l2, h3, h4⟩ := Option.bind_eq_some_iff.1 h2
      cases h4
      obtain ⟨l1', k1, k2⟩ := Option.bind_eq_some_iff.1 h1
      split at k2
      · rename_i hlen1
        cases k2
        have h0 := hf 0 f rfl
        match ys, hlen with
        | y :: ys, hlen =>
          obtain ⟨xs, g1, g2⟩ := ih _ _ k1 _ _ _ h0
          have hx := g1.length
          have hc := g2.length
          have hmono : ∀ (fs : List Field) (o : Nat) (k : Nat), offsOk P o fs = some k → o ≤ k := by
            intro fs
            induction fs with
            | nil => intro o k h; simp only [offsOk, Option.some.injEq] at h; omega
            | cons f fs ih =>
              intro o k h
              simp only [offsOk] at h
              split at h
              · have := ih _ _ h; omega
              · cases h
          have hle := hmono _ _ _ ho
          obtain ⟨xs2, g3, g4⟩ := struct_fit m ih fs (f.offset + P.cellsOf f.type) l2 ys ho h3 (fun i f' hi => by simpa using hf (i + 1) f' (by simpa using hi)) (by simpa using hlen) hle
          refine ⟨xs ++ xs2, by rw [List.flatten_cons]; exact g1.append g3, ?_⟩
          have e : cs.drop f.offset = (cs.drop f.offset).take (P.cellsOf f.type) ++ cs.drop (f.offset + P.cellsOf f.type) := by
            rw [← List.drop_drop, List.take_append_drop]
          rw [e]
          exact g2.append g4
      · cases k2
    · cases ho

theorem flat_snoc (els : List PV) (e : PV) : flat (els ++ [e]) = flat els ++ e.cells := by simp [flat]

theorem trod_fit : ∀ (m : Nat) (t : TypeId) (sh : List CSh), shape P m t = some sh → ∀ (fuel : Nat) (cs : List Value) (y : DataW H × List MemPlace), DataW.trod enc P W base (fun _ => true) held fuel t cs = some y → ∃ xs, FitL sh xs ∧ Cs (allI W) xs cs
  | 0, t, sh, h, _, _, _, _ => by simp [shape] at h
  | m + 1, t, sh, h, fuel, cs, y, hy => by
    unfold shape at h
    split at h
    · rename_i ht
      cases h
      obtain ⟨b, rfl, _⟩ := DataW.trod_bool ht hy
      exact ⟨[.s (.bool b)], ⟨_, _, rfl, ⟨_, rfl⟩, rfl⟩, .cons (.s _) .nil⟩
    · rename_i ht
      cases h
      obtain ⟨s, rfl, _⟩ := DataW.trod_string ht hy
      exact ⟨[.s (.string s)], ⟨_, _, rfl, ⟨_, rfl⟩, rfl⟩, .cons (.s _) .nil⟩
    · rename_i k ht
      cases h
      obtain ⟨n, rfl, _, hw⟩ := DataW.trod_int ht hy
      exact ⟨[.s (.int k n)], ⟨_, _, rfl, ⟨_, rfl, hw⟩, rfl⟩, .cons (.s _) .nil⟩
    · rename_i e ht
      obtain ⟨l, hl, h2⟩ := Option.bind_eq_some_iff.1 h
      split at h2
      · rename_i hsz
        obtain ⟨hsz, hpos⟩ := hsz
        simp only [Option.some.injEq] at h2
        generalize hag : (match P.underlying e with | some (.struct _) => true | some (.array _ _) => true | _ => false) = ag at h2
        subst h2
        have hone : ag = false → l.length = 1 := by
          intro e1
          subst e1
          cases m with
          | zero => simp [shape] at hl
          | succ m =>
            unfold shape at hl
            split at hl <;> rename_i hu
            · cases hl; rfl
            · cases hl; rfl
            · cases hl; rfl
            · obtain ⟨l', _, h3⟩ := Option.bind_eq_some_iff.1 hl
              split at h3
              · cases h3; rfl
              · cases h3
            · rw [hu] at hag; cases hag
            · cases hl
        rcases DataW.trod_slice ht hy with ⟨rfl, _⟩ | ⟨x, len, cap, elems, rest, n, _, rfl, _, hb, hlc, hm, hlen, hel, hsp, _⟩
        · exact ⟨[.sl false []], ⟨_, _, rfl, ⟨[], rfl, by simp⟩, rfl⟩, .cons .sl0 .nil⟩
        · obtain ⟨hr1, hr2⟩ := hsp rfl
          have key : ∀ k, k < cap → ∃ cs y, W.cells? base (x.add (k * P.cellsOf e)) (P.cellsOf e) = some cs ∧ DataW.trod enc P W base (fun _ => true) held n e cs = some y := fun k hk => by
            by_cases h1 : k < len
            · have := hel k h1
              rw [List.getElem?_eq_getElem (by omega)] at this
              obtain ⟨cs, hcs, h3⟩ := Option.bind_eq_some_iff.1 this
              exact ⟨cs, _, hcs, h3⟩
            · have := hr2 (k - len) (by omega)
              rw [List.getElem?_eq_getElem (by omega), show len + (k - len) = k by omega] at this
              obtain ⟨cs, hcs, h3⟩ := Option.bind_eq_some_iff.1 this
              exact ⟨cs, _, hcs, h3⟩
          by_cases h0 : cap = 0
          · subst h0
            have : len = 0 := by omega
            subst this
            exact ⟨[.sl false []], ⟨_, _, rfl, ⟨[], rfl, by simp⟩, rfl⟩, .cons .sle .nil⟩
          · rw [hsz] at hpos
            have at_ : ∀ k, k < cap → ∀ j, j < P.cellsOf e → ∃ v, W.cell? (x.add (k * P.cellsOf e + j)) = some v := fun k hk j hj => by
              obtain ⟨cs, y, hcs, _⟩ := key k hk
              obtain ⟨_, h1, h2⟩ := World.cells?_some hcs
              have := h2 j hj
              rw [Addr.add_add, List.getElem?_eq_getElem (by omega)] at this
              exact ⟨_, this⟩
            obtain ⟨v0, hv0⟩ := at_ 0 (by omega) 0 hpos
            obtain ⟨b, off, spot⟩ := x
            have hspot : spot = none := by
              have : (⟨b, off, spot⟩ : Addr).add (0 * P.cellsOf e + 0) = ⟨b, off, spot⟩ := by simp [Addr.add]
              rw [this] at hv0
              exact World.cell?_spot hv0
            subst hspot
            have hcell : ∀ k, k < cap → ∃ cs y, DataW.trod enc P W base (fun _ => true) held n e cs = some y ∧ cs.length = P.cellsOf e ∧ ∀ j, j < P.cellsOf e → W.cell? ⟨b, off + (k * P.cellsOf e + j), none⟩ = cs[j]? := fun k hk => by
              obtain ⟨cs, y, hcs, hy⟩ := key k hk
              obtain ⟨_, h1, h2⟩ := World.cells?_some hcs
              refine ⟨cs, y, hy, h1, fun j hj => ?_⟩
              have := h2 j hj
              rw [Addr.add_add, Go.WideShapes.add_plain] at this
              exact this
            have hv1 := hv0
            have e0 : (⟨b, off, none⟩ : Addr).add (0 * P.cellsOf e + 0) = ⟨b, off, none⟩ := by simp [Addr.add]
            rw [e0] at hv1
            unfold World.cell? at hv1
            cases hw : W.heap[b]? with
            | none => rw [hw] at hv1; cases hv1
            | some o =>
              cases o with
              | cells arr ty fz =>
                have hI : allI W b = some arr.toList := by simp [allI, hw]
                have hget : ∀ k, k < cap → ∃ cs y, DataW.trod enc P W base (fun _ => true) held n e cs = some y ∧ cs.length = P.cellsOf e ∧ off + (k + 1) * P.cellsOf e ≤ arr.toList.length ∧ (arr.toList.drop (off + k * P.cellsOf e)).take (P.cellsOf e) = cs := fun k hk => by
                  obtain ⟨cs, y, h1, h2, h3⟩ := hcell k hk
                  have hin : ∀ j, j < P.cellsOf e → arr.toList[off + k * P.cellsOf e + j]? = cs[j]? := fun j hj => by
                    have := h3 j hj
                    simp only [World.cell?, hw] at this
                    rw [Nat.add_assoc]
                    simpa using this
                  have hlast := hin (P.cellsOf e - 1) (by omega)
                  rw [List.getElem?_eq_getElem (show P.cellsOf e - 1 < cs.length by omega)] at hlast
                  have hlt := (List.getElem?_eq_some_iff.1 hlast).1
                  refine ⟨cs, y, h1, h2, by rw [Nat.add_mul]; omega, ?_⟩
                  apply List.ext_getElem?
                  intro j
                  by_cases hj : j < P.cellsOf e
                  · rw [List.getElem?_take_of_lt hj, List.getElem?_drop]
                    exact hin j hj
                  · rw [List.getElem?_eq_none (by simp; omega), List.getElem?_eq_none (by omega)]
                have rows : ∀ k, k ≤ len → ∃ els : List PV, els.length = k ∧ (∀ q ∈ els, ∃ cs, q = packE ag cs ∧ FitL l cs) ∧ (∀ q ∈ els, q.cells.length = P.cellsOf e) ∧ (flat els).length = k * P.cellsOf e ∧ Cs (allI W) (flat els) ((arr.toList.drop off).take (k * P.cellsOf e)) := by
                  intro k
                  induction k with
                  | zero => exact fun _ => ⟨[], rfl, by simp, by simp, by simp [flat], by simp [flat]; exact .nil⟩
                  | succ k ihk =>
                    intro hk
                    obtain ⟨els, q1, q2, q3, q4, q5⟩ := ihk (by omega)
                    obtain ⟨cs, y, h1, h2, h3, h4⟩ := hget k (by omega)
                    obtain ⟨xs, g1, g2⟩ := trod_fit m e l hl n cs y h1
                    have hcx := packE_cells hone g1
                    have hxl := g1.length
                    refine ⟨els ++ [packE ag xs], by simp [q1], ?_, ?_, ?_, ?_⟩
                    · intro q hq
                      rcases List.mem_append.1 hq with hq | hq
                      · exact q2 q hq
                      · rw [List.mem_singleton.1 hq]; exact ⟨xs, rfl, g1⟩
                    · intro q hq
                      rcases List.mem_append.1 hq with hq | hq
                      · exact q3 q hq
                      · rw [List.mem_singleton.1 hq, hcx, hxl, hsz]
                    · rw [flat_snoc, List.length_append, q4, hcx, hxl, hsz, Nat.add_mul, Nat.one_mul]
                    · rw [flat_snoc, hcx, Nat.add_mul, Nat.one_mul, List.take_add, List.drop_drop, h4]
                      exact q5.append g2
                obtain ⟨els, q1, q2, q3, q4, q5⟩ := rows len (Nat.le_refl _)
                refine ⟨[.sl false els], ⟨_, _, rfl, ⟨els, rfl, q2⟩, rfl⟩, .cons (.sl hI q3 q1.symm (by rw [q4]; exact q5) ?_ hlc (fun h => by cases h)) .nil⟩
                rw [q4]
                obtain ⟨_, _, _, _, h3, _⟩ := hget (cap - 1) (by omega)
                have e1 : (cap - 1 + 1) * P.cellsOf e = cap * P.cellsOf e := by rw [Nat.sub_add_cancel (by omega)]
                rw [e1] at h3
                have := Nat.mul_le_mul_right (P.cellsOf e) hlc
                omega
              | _ => rw [hw] at hv1; cases hv1
      · cases h2
    · rename_i fs ht
      split at h
      · rename_i hoffs
        obtain ⟨ls, h1, rfl⟩ := Option.map_eq_some_iff.1 h
        obtain ⟨xs, n, _, _, hl, hlen, hf⟩ := DataW.trod_struct ht hy
        obtain ⟨zs, k1, k2⟩ := struct_fit (n := n) (cs := cs) m (trod_fit m) fs.toList 0 ls xs (by rw [hl]; exact hoffs) h1 (fun i f hi => hf i f (by simpa using hi)) (by simpa using hlen) (Nat.zero_le _)
        exact ⟨zs, k1, by simpa using k2⟩
      · cases h
    · cases h

/-- A slice that comes in. -/
theorem row_slice {t e : TypeId} {c : CSh} {v : Value} {d : DataW H} {ps : List MemPlace} {r : Reach} {b0 : Nat}
    (m : Nat) (ht : P.underlying t = some (.slice e)) (hs : shape P m t = some [c]) (hv : Value.okWide P W r b0 t v) (h : DataW.Trod enc P W base (fun _ => true) held t v d ps) :
    ∃ x, FitC c x ∧ C (allI W) x v := by
  obtain ⟨fuel, hf⟩ := h
  obtain ⟨xs, h1, h2⟩ := trod_fit m t _ hs _ _ _ hf
  obtain ⟨a, len, cap, rfl⟩ := okWide_slice ht hv
  simp only [FitL] at h1
  obtain ⟨y, ys, rfl, h3, rfl⟩ := h1
  simp only [Value.cells] at h2
  cases h2 with
  | cons h4 h5 => exact ⟨y, h3, h4⟩

/-- A list of things that are all of one form. -/
theorem map_of_all {α : Type} {f : α → PV} {p : α → Prop} : ∀ {l : List PV}, (∀ e ∈ l, ∃ a, e = f a ∧ p a) → ∃ us : List α, l = us.map f ∧ ∀ a ∈ us, p a
  | [], _ => ⟨[], rfl, by simp⟩
  | x :: l, h => by
    obtain ⟨a, rfl, ha⟩ := h x (by simp)
    obtain ⟨us, rfl, has⟩ := map_of_all fun e he => h e (List.mem_cons_of_mem _ he)
    refine ⟨a :: us, rfl, ?_⟩
    intro b hb
    rcases List.mem_cons.1 hb with rfl | hb
    · exact ha
    · exact has b hb
theorem FitC.ints {k : IntKind} {x : PV} (h : FitC (.sl false [.int k]) x) : ∃ zs : List Int, x = .sl false (zs.map fun n => .s (.int k n)) ∧ ∀ n ∈ zs, (Lit.int k n).wf = true := by
  simp only [FitC, FitL] at h
  obtain ⟨els, rfl, h⟩ := h
  obtain ⟨zs, rfl, h2⟩ := map_of_all (f := fun n => PV.s (.int k n)) (p := fun n => (Lit.int k n).wf = true) (l := els) (fun e he => by
    obtain ⟨cs, rfl, y, ys, rfl, ⟨n, rfl, hn⟩, rfl⟩ := h e he
    exact ⟨n, rfl, hn⟩)
  exact ⟨zs, rfl, h2⟩
end
end Go.Proofs.YtambpjbpdackfaaGreat.A


/- All rules of reckoning, as one. -/
set_option linter.unusedVariables false
set_option maxRecDepth 100000
namespace Go.Proofs.YtambpjbpdackfaaGreat.A
open Go Go.RowKit Go.Shelf
theorem rkA : type_of% (And.intro (And.intro (And.intro (And.intro (And.intro (And.intro (And.intro (And.intro (@wp_skip) (@wp_label)) (And.intro (@wp_reg0) (@wp_reg))) (And.intro (And.intro (@wp_draw0) (@wp_draw)) (And.intro (@wp_regy) (@wp_drawy)))) (And.intro (And.intro (And.intro (@wp_seq) (@wp_cond)) (And.intro (@wp_block) (@wp_exit))) (And.intro (And.intro (@wp_ret) (@wp_gh)) (And.intro (@wpK_at) (And.intro (@execK_at) (@junkK_at)))))) (And.intro (And.intro (And.intro (And.intro (@seqK_normal) (@seqK_ret)) (And.intro (@seqK_exit) (@blockK_normal))) (And.intro (And.intro (@blockK_ret) (@blockK_exit)) (And.intro (@loopK_ret) (@loopK_exit)))) (And.intro (And.intro (And.intro (@opsK_at) (@ops_nil)) (And.intro (@ops_cons) (@op_plain))) (And.intro (And.intro (@op_guard) (@op_guardn)) (And.intro (@slotAt_zero) (And.intro (@slotAt_succ) (@step_call))))))) (And.intro (And.intro (And.intro (And.intro (And.intro (@step_invoke) (@step_builtin)) (And.intro (@step_move) (@step_assign))) (And.intro (And.intro (@step_pick) (@step_load)) (And.intro (@step_fieldAddr) (@step_field)))) (And.intro (And.intro (And.intro (@step_indexAddr) (@step_index)) (And.intro (@step_binOp) (@step_nil))) (And.intro (And.intro (@step_unOp) (@step_iface)) (And.intro (@step_extract) (And.intro (@step_func) (@step_build)))))) (And.intro (And.intro (And.intro (And.intro (@step_slice) (@step_convert)) (And.intro (@step_alloc) (@step_box))) (And.intro (And.intro (@step_store) (@step_buildSlice)) (And.intro (@step_makeSlice) (@opt_some)))) (And.intro (And.intro (And.intro (@gB_true) (@gB_false)) (And.intro (@gU_s) (@gU_skip))) (And.intro (And.intro (@ev_tmp) (@ev_const)) (And.intro (@ev_func) (And.intro (@putT_some) (@putT_none)))))))) (And.intro (And.intro (And.intro (And.intro (And.intro (And.intro (@pv_eq) (@st_tm)) (And.intro (@lk.eq_1) (@lk.eq_2))) (And.intro (And.intro (@rm.eq_1) (@rm.eq_2)) (And.intro (@upd.eq_1) (@upd.eq_2)))) (And.intro (And.intro (And.intro (@tov.eq_1) (@tov.eq_2)) (And.intro (@tov.eq_3) (@tov.eq_4))) (And.intro (And.intro (@cellsOf.eq_1) (@cellsOf.eq_2)) (And.intro (@cellsOf.eq_3) (And.intro (@cellsOf.eq_4) (@ldC.eq_1)))))) (And.intro (And.intro (And.intro (And.intro (@ldT.eq_1) (@bl.eq_1)) (And.intro (@pvs.eq_1) (@pvs.eq_2))) (And.intro (And.intro (@tovs.eq_1) (@tovs.eq_2)) (And.intro (@capsA.eq_1) (@capsA.eq_2)))) (And.intro (And.intro (And.intro (@capA.eq_1) (@capA.eq_2)) (And.intro (@capA.eq_3) (@capA.eq_4))) (And.intro (And.intro (@newToks.eq_1) (@newToks.eq_2)) (And.intro (@St.freeze.eq_1) (And.intro (@St.newBox.eq_1) (@St.newTok.eq_1))))))) (And.intro (And.intro (And.intro (And.intro (And.intro (@St.shut.eq_1) (@TV.shut.eq_1)) (And.intro (@TV.shut.eq_2) (@TV.shut.eq_3))) (And.intro (And.intro (@TV.shut.eq_4) (@List.headD_cons.{0})) (And.intro (@St.mapTV.eq_1) (@TV.killPtr.eq_1)))) (And.intro (And.intro (And.intro (@TV.killPtr.eq_2) (@TV.killPtr.eq_3)) (And.intro (@TV.killPtr.eq_4) (@TV.killTok.eq_1))) (And.intro (And.intro (@TV.killTok.eq_2) (@TV.killTok.eq_3)) (And.intro (@TV.killTok.eq_4) (And.intro (@tkOf.eq_1) (@zeroT.eq_1)))))) (And.intro (And.intro (And.intro (And.intro (@PV.ok.eq_1) (@fillA.eq_1)) (And.intro (@fillA.eq_2) (@setR.eq_1))) (And.intro (And.intro (@setR.eq_2) (@ghs.eq_1)) (And.intro (@ghs.eq_2) (And.intro (@gh1.eq_1) (@gh1.eq_2))))) (And.intro (And.intro (And.intro (@gh1.eq_3) (@gh1.eq_4)) (And.intro (@gh1.eq_5) (@gh1.eq_6))) (And.intro (And.intro (@junkAll.eq_1) (@junkAll.eq_2)) (And.intro (@rmAll.eq_1) (And.intro (@rmAll.eq_2) (@Option.getD_some.{0}))))))))) (And.intro (And.intro (And.intro (And.intro (And.intro (And.intro (And.intro (@Option.getD_none.{0}) (@Option.map_some.{0,0})) (And.intro (@Option.map_none.{0,0}) (@Option.bind_some.{0,0}))) (And.intro (And.intro (@Option.bind_none.{0,0}) (@List.getElem?_cons_zero.{0})) (And.intro (@List.getElem?_cons_succ.{0}) (@List.getElem?_nil.{0})))) (And.intro (And.intro (And.intro (@List.set_cons_zero.{0}) (@List.set_cons_succ.{0})) (And.intro (@List.map_cons.{0,0}) (@List.map_nil.{0,0}))) (And.intro (And.intro (@List.foldl_cons.{0,0}) (@List.foldl_nil.{0,0})) (And.intro (@List.all_cons.{0}) (And.intro (@List.all_nil.{0}) (@List.length_cons.{0})))))) (And.intro (And.intro (And.intro (And.intro (@List.length_nil.{0}) (@List.take_succ_cons.{0})) (And.intro (@List.take_zero.{0}) (@List.take_nil.{0}))) (And.intro (And.intro (@List.drop_succ_cons.{0}) (@List.drop_zero.{0})) (And.intro (@List.drop_nil.{0}) (@List.cons_append.{0})))) (And.intro (And.intro (And.intro (@List.nil_append.{0}) (@List.append_nil.{0})) (And.intro (@List.append_assoc.{0}) (@List.isEmpty_nil.{0}))) (And.intro (And.intro (@List.isEmpty_cons.{0}) (@List.zip_cons_cons.{0,0})) (And.intro (@List.zip_nil_left.{0,0}) (And.intro (@List.toList_toArray.{0}) (@List.replicate_succ.{0}))))))) (And.intro (And.intro (And.intro (And.intro (And.intro (@List.replicate_zero.{0}) (@if_true.{1})) (And.intro (@if_false.{1}) (@ite_true.{1}))) (And.intro (And.intro (@ite_false.{1}) (@Bool.not_true)) (And.intro (@Bool.not_false) (@Bool.and_true)))) (And.intro (And.intro (And.intro (@Bool.true_and) (@Bool.and_false)) (And.intro (@Bool.false_and) (@ne_eq.{1}))) (And.intro (And.intro (@not_false_eq_true) (@not_true_eq_false)) (And.intro (@and_true) (And.intro (@true_and) (@and_false)))))) (And.intro (And.intro (And.intro (And.intro (@false_and) (@and_self)) (And.intro (@Nat.zero_add) (@Nat.le_refl))) (And.intro (And.intro (@nilA_nil) (@Bool.false_eq_true)) (And.intro (@decide_true) (And.intro (@decide_false) (@ordL_nil))))) (And.intro (And.intro (And.intro (@ordL_cons) (@ordC_some)) (And.intro (@aoAt_zero) (@aoAt_succ))) (And.intro (And.intro (@wp_regn) (@opsL_nil)) (And.intro (@opsL_cons) (And.intro (@step_lend) (@step_mem)))))))) (And.intro (And.intro (And.intro (And.intro (And.intro (And.intro (@step_new) (@step_appM)) (And.intro (@step_copy) (@step_lendNew))) (And.intro (And.intro (@atEnd_ret) (@atEnd_normal)) (And.intro (@Mem.put_same) (@Mem.join_put)))) (And.intro (And.intro (And.intro (@Mem.join_none) (@sliceR.eq_1)) (And.intro (@wp_regd) (@opsC_nil))) (And.intro (And.intro (@opsC_cons) (@opsCK_at)) (And.intro (@dsL_nil) (And.intro (@dsL_cons) (@dsC.eq_1)))))) (And.intro (And.intro (And.intro (And.intro (@dsC.eq_2) (@paOk.eq_1)) (And.intro (@paOk.eq_2) (@inPa.eq_1))) (And.intro (And.intro (@inPa.eq_2) (@nsC.eq_1)) (And.intro (@nsC.eq_2) (@nsL_nil)))) (And.intro (And.intro (And.intro (@nsL_cons) (@nsL_no)) (And.intro (@nptr.eq_1) (@nonPs.eq_1))) (And.intro (And.intro (@nonPs.eq_2) (@freeAll.eq_1)) (And.intro (@freeAll.eq_2) (And.intro (@St.freeB.eq_1) (@TV.freeB.eq_1))))))) (And.intro (And.intro (And.intro (And.intro (And.intro (@TV.freeB.eq_2) (@TV.freeB.eq_3)) (And.intro (@TV.freeB.eq_4) (@eq_self.{1}))) (And.intro (And.intro (@List.contains_cons.{0}) (@List.contains_nil.{0})) (And.intro (@Bool.or_false) (@Bool.false_or)))) (And.intro (And.intro (And.intro (@Bool.true_or) (@Bool.or_true)) (And.intro (@rfK_normal) (@roundK_normal))) (And.intro (And.intro (@roundK_ret) (@roundK_exit)) (And.intro (@enterR_mk) (And.intro (@leaveR_mk) (@betw_mk)))))) (And.intro (And.intro (And.intro (And.intro (@Option.isNone_none.{0}) (@Option.isNone_some.{0})) (And.intro (@Option.isSome_none.{0}) (@Option.isSome_some.{0}))) (And.intro (And.intro (@range0) (@range1)) (And.intro (@range2) (And.intro (@range3) (@range4))))) (And.intro (And.intro (And.intro (@one_int) (@one_bool)) (And.intro (@one_slice) (@RetQ_ret))) (And.intro (And.intro (@RetQ_normal) (@res1.eq_1)) (And.intro (@res1.eq_2) (And.intro (@Option.some.injEq.{0}) (@List.cons.injEq.{0})))))))))) :=
  And.intro (And.intro (And.intro (And.intro (And.intro (And.intro (And.intro (And.intro (@wp_skip) (@wp_label)) (And.intro (@wp_reg0) (@wp_reg))) (And.intro (And.intro (@wp_draw0) (@wp_draw)) (And.intro (@wp_regy) (@wp_drawy)))) (And.intro (And.intro (And.intro (@wp_seq) (@wp_cond)) (And.intro (@wp_block) (@wp_exit))) (And.intro (And.intro (@wp_ret) (@wp_gh)) (And.intro (@wpK_at) (And.intro (@execK_at) (@junkK_at)))))) (And.intro (And.intro (And.intro (And.intro (@seqK_normal) (@seqK_ret)) (And.intro (@seqK_exit) (@blockK_normal))) (And.intro (And.intro (@blockK_ret) (@blockK_exit)) (And.intro (@loopK_ret) (@loopK_exit)))) (And.intro (And.intro (And.intro (@opsK_at) (@ops_nil)) (And.intro (@ops_cons) (@op_plain))) (And.intro (And.intro (@op_guard) (@op_guardn)) (And.intro (@slotAt_zero) (And.intro (@slotAt_succ) (@step_call))))))) (And.intro (And.intro (And.intro (And.intro (And.intro (@step_invoke) (@step_builtin)) (And.intro (@step_move) (@step_assign))) (And.intro (And.intro (@step_pick) (@step_load)) (And.intro (@step_fieldAddr) (@step_field)))) (And.intro (And.intro (And.intro (@step_indexAddr) (@step_index)) (And.intro (@step_binOp) (@step_nil))) (And.intro (And.intro (@step_unOp) (@step_iface)) (And.intro (@step_extract) (And.intro (@step_func) (@step_build)))))) (And.intro (And.intro (And.intro (And.intro (@step_slice) (@step_convert)) (And.intro (@step_alloc) (@step_box))) (And.intro (And.intro (@step_store) (@step_buildSlice)) (And.intro (@step_makeSlice) (@opt_some)))) (And.intro (And.intro (And.intro (@gB_true) (@gB_false)) (And.intro (@gU_s) (@gU_skip))) (And.intro (And.intro (@ev_tmp) (@ev_const)) (And.intro (@ev_func) (And.intro (@putT_some) (@putT_none)))))))) (And.intro (And.intro (And.intro (And.intro (And.intro (And.intro (@pv_eq) (@st_tm)) (And.intro (@lk.eq_1) (@lk.eq_2))) (And.intro (And.intro (@rm.eq_1) (@rm.eq_2)) (And.intro (@upd.eq_1) (@upd.eq_2)))) (And.intro (And.intro (And.intro (@tov.eq_1) (@tov.eq_2)) (And.intro (@tov.eq_3) (@tov.eq_4))) (And.intro (And.intro (@cellsOf.eq_1) (@cellsOf.eq_2)) (And.intro (@cellsOf.eq_3) (And.intro (@cellsOf.eq_4) (@ldC.eq_1)))))) (And.intro (And.intro (And.intro (And.intro (@ldT.eq_1) (@bl.eq_1)) (And.intro (@pvs.eq_1) (@pvs.eq_2))) (And.intro (And.intro (@tovs.eq_1) (@tovs.eq_2)) (And.intro (@capsA.eq_1) (@capsA.eq_2)))) (And.intro (And.intro (And.intro (@capA.eq_1) (@capA.eq_2)) (And.intro (@capA.eq_3) (@capA.eq_4))) (And.intro (And.intro (@newToks.eq_1) (@newToks.eq_2)) (And.intro (@St.freeze.eq_1) (And.intro (@St.newBox.eq_1) (@St.newTok.eq_1))))))) (And.intro (And.intro (And.intro (And.intro (And.intro (@St.shut.eq_1) (@TV.shut.eq_1)) (And.intro (@TV.shut.eq_2) (@TV.shut.eq_3))) (And.intro (And.intro (@TV.shut.eq_4) (@List.headD_cons.{0})) (And.intro (@St.mapTV.eq_1) (@TV.killPtr.eq_1)))) (And.intro (And.intro (And.intro (@TV.killPtr.eq_2) (@TV.killPtr.eq_3)) (And.intro (@TV.killPtr.eq_4) (@TV.killTok.eq_1))) (And.intro (And.intro (@TV.killTok.eq_2) (@TV.killTok.eq_3)) (And.intro (@TV.killTok.eq_4) (And.intro (@tkOf.eq_1) (@zeroT.eq_1)))))) (And.intro (And.intro (And.intro (And.intro (@PV.ok.eq_1) (@fillA.eq_1)) (And.intro (@fillA.eq_2) (@setR.eq_1))) (And.intro (And.intro (@setR.eq_2) (@ghs.eq_1)) (And.intro (@ghs.eq_2) (And.intro (@gh1.eq_1) (@gh1.eq_2))))) (And.intro (And.intro (And.intro (@gh1.eq_3) (@gh1.eq_4)) (And.intro (@gh1.eq_5) (@gh1.eq_6))) (And.intro (And.intro (@junkAll.eq_1) (@junkAll.eq_2)) (And.intro (@rmAll.eq_1) (And.intro (@rmAll.eq_2) (@Option.getD_some.{0}))))))))) (And.intro (And.intro (And.intro (And.intro (And.intro (And.intro (And.intro (@Option.getD_none.{0}) (@Option.map_some.{0,0})) (And.intro (@Option.map_none.{0,0}) (@Option.bind_some.{0,0}))) (And.intro (And.intro (@Option.bind_none.{0,0}) (@List.getElem?_cons_zero.{0})) (And.intro (@List.getElem?_cons_succ.{0}) (@List.getElem?_nil.{0})))) (And.intro (And.intro (And.intro (@List.set_cons_zero.{0}) (@List.set_cons_succ.{0})) (And.intro (@List.map_cons.{0,0}) (@List.map_nil.{0,0}))) (And.intro (And.intro (@List.foldl_cons.{0,0}) (@List.foldl_nil.{0,0})) (And.intro (@List.all_cons.{0}) (And.intro (@List.all_nil.{0}) (@List.length_cons.{0})))))) (And.intro (And.intro (And.intro (And.intro (@List.length_nil.{0}) (@List.take_succ_cons.{0})) (And.intro (@List.take_zero.{0}) (@List.take_nil.{0}))) (And.intro (And.intro (@List.drop_succ_cons.{0}) (@List.drop_zero.{0})) (And.intro (@List.drop_nil.{0}) (@List.cons_append.{0})))) (And.intro (And.intro (And.intro (@List.nil_append.{0}) (@List.append_nil.{0})) (And.intro (@List.append_assoc.{0}) (@List.isEmpty_nil.{0}))) (And.intro (And.intro (@List.isEmpty_cons.{0}) (@List.zip_cons_cons.{0,0})) (And.intro (@List.zip_nil_left.{0,0}) (And.intro (@List.toList_toArray.{0}) (@List.replicate_succ.{0}))))))) (And.intro (And.intro (And.intro (And.intro (And.intro (@List.replicate_zero.{0}) (@if_true.{1})) (And.intro (@if_false.{1}) (@ite_true.{1}))) (And.intro (And.intro (@ite_false.{1}) (@Bool.not_true)) (And.intro (@Bool.not_false) (@Bool.and_true)))) (And.intro (And.intro (And.intro (@Bool.true_and) (@Bool.and_false)) (And.intro (@Bool.false_and) (@ne_eq.{1}))) (And.intro (And.intro (@not_false_eq_true) (@not_true_eq_false)) (And.intro (@and_true) (And.intro (@true_and) (@and_false)))))) (And.intro (And.intro (And.intro (And.intro (@false_and) (@and_self)) (And.intro (@Nat.zero_add) (@Nat.le_refl))) (And.intro (And.intro (@nilA_nil) (@Bool.false_eq_true)) (And.intro (@decide_true) (And.intro (@decide_false) (@ordL_nil))))) (And.intro (And.intro (And.intro (@ordL_cons) (@ordC_some)) (And.intro (@aoAt_zero) (@aoAt_succ))) (And.intro (And.intro (@wp_regn) (@opsL_nil)) (And.intro (@opsL_cons) (And.intro (@step_lend) (@step_mem)))))))) (And.intro (And.intro (And.intro (And.intro (And.intro (And.intro (@step_new) (@step_appM)) (And.intro (@step_copy) (@step_lendNew))) (And.intro (And.intro (@atEnd_ret) (@atEnd_normal)) (And.intro (@Mem.put_same) (@Mem.join_put)))) (And.intro (And.intro (And.intro (@Mem.join_none) (@sliceR.eq_1)) (And.intro (@wp_regd) (@opsC_nil))) (And.intro (And.intro (@opsC_cons) (@opsCK_at)) (And.intro (@dsL_nil) (And.intro (@dsL_cons) (@dsC.eq_1)))))) (And.intro (And.intro (And.intro (And.intro (@dsC.eq_2) (@paOk.eq_1)) (And.intro (@paOk.eq_2) (@inPa.eq_1))) (And.intro (And.intro (@inPa.eq_2) (@nsC.eq_1)) (And.intro (@nsC.eq_2) (@nsL_nil)))) (And.intro (And.intro (And.intro (@nsL_cons) (@nsL_no)) (And.intro (@nptr.eq_1) (@nonPs.eq_1))) (And.intro (And.intro (@nonPs.eq_2) (@freeAll.eq_1)) (And.intro (@freeAll.eq_2) (And.intro (@St.freeB.eq_1) (@TV.freeB.eq_1))))))) (And.intro (And.intro (And.intro (And.intro (And.intro (@TV.freeB.eq_2) (@TV.freeB.eq_3)) (And.intro (@TV.freeB.eq_4) (@eq_self.{1}))) (And.intro (And.intro (@List.contains_cons.{0}) (@List.contains_nil.{0})) (And.intro (@Bool.or_false) (@Bool.false_or)))) (And.intro (And.intro (And.intro (@Bool.true_or) (@Bool.or_true)) (And.intro (@rfK_normal) (@roundK_normal))) (And.intro (And.intro (@roundK_ret) (@roundK_exit)) (And.intro (@enterR_mk) (And.intro (@leaveR_mk) (@betw_mk)))))) (And.intro (And.intro (And.intro (And.intro (@Option.isNone_none.{0}) (@Option.isNone_some.{0})) (And.intro (@Option.isSome_none.{0}) (@Option.isSome_some.{0}))) (And.intro (And.intro (@range0) (@range1)) (And.intro (@range2) (And.intro (@range3) (@range4))))) (And.intro (And.intro (And.intro (@one_int) (@one_bool)) (And.intro (@one_slice) (@RetQ_ret))) (And.intro (And.intro (@RetQ_normal) (@res1.eq_1)) (And.intro (@res1.eq_2) (And.intro (@Option.some.injEq.{0}) (@List.cons.injEq.{0})))))))))
end Go.Proofs.YtambpjbpdackfaaGreat.A


set_option linter.unusedVariables false
namespace Go.Proofs.YtambpjbpdackfaaGreat.A
open Go Go.RowKit Go.Shelf

/-! ### simp goes into the state, not into the code that is still to come -/
section
variable {P : Program} {its : Option (Nat × List Item)} {s s' : St} {K : St → Prop} {Q : XA → St → Prop}
@[congr] theorem wpA_cg {c : AC} (h : s = s') : wpA P its c Q s = wpA P its c Q s' := by rw [h]
@[congr] theorem wpOpsA_cg {all l : List AO} (h : s = s') : wpOpsA P its all l s K = wpOpsA P its all l s' K := by rw [h]
@[congr] theorem wpOp_cg {all : List AO} {o o' : AO} (ho : o = o') (h : s = s') : wpOp P its all o s K = wpOp P its all o' s' K := by rw [h, ho]
@[congr] theorem execA_cg {o o' : AO} (h : s = s') (ho : o = o') : execA P its s o K = execA P its s' o' K := by rw [h, ho]
@[congr] theorem opsK_cg {all l : List AO} (h : s = s') : opsK P its all l K s = opsK P its all l K s' := by rw [h]
@[congr] theorem seqK_cg {y : AC} {e e' : XA} (he : e = e') (h : s = s') : seqK P its y Q e s = seqK P its y Q e' s' := by rw [h, he]
@[congr] theorem blockK_cg {id : Nat} {e e' : XA} (he : e = e') (h : s = s') : blockK id Q e s = blockK id Q e' s' := by rw [h, he]
@[congr] theorem wpK_cg {a : Hint} {x : Code} (h : s = s') : wpK P its a x Q s = wpK P its a x Q s' := by rw [h]
@[congr] theorem gB_cg {o o' : Option TV} {x y : St → Prop} (ho : o = o') (h : s = s') : gB o s x y = gB o' s' x y := by rw [h, ho]
@[congr] theorem gU_cg {o o' : Option TV} {x y : Prop} (ho : o = o') : gU o x y = gU o' x y := by rw [ho]
@[congr] theorem opt_cg {o o' : Option St} (ho : o = o') : opt o K = opt o' K := by rw [ho]
@[congr] theorem callA_cg {d : Option Nat} {c : Call} (h : s = s') : callA P its s d c K = callA P its s' d c K := by rw [h]
end
end Go.Proofs.YtambpjbpdackfaaGreat.A


/- The other rules of reckoning, as one: what is reckoned case by case. -/
set_option linter.unusedVariables false
set_option maxRecDepth 100000
namespace Go.Proofs.YtambpjbpdackfaaGreat.A
open Go Go.RowKit Go.Shelf
theorem rkB : type_of% (And.intro (And.intro (@step_appIn) (@step_grow)) (And.intro (And.intro (And.intro (And.intro (And.intro (And.intro (And.intro (@stepA.eq_1) (@stepA.eq_2)) (And.intro (@stepA.eq_3) (@stepA.eq_4))) (And.intro (And.intro (@stepA.eq_5) (@stepA.eq_6)) (And.intro (@stepA.eq_7) (@stepA.eq_8)))) (And.intro (And.intro (And.intro (@stepA.eq_9) (@stepA.eq_10)) (And.intro (@stepA.eq_11) (@stepA.eq_12))) (And.intro (And.intro (@valA.eq_1) (@valA.eq_2)) (And.intro (@valA.eq_3) (@valA.eq_4))))) (And.intro (And.intro (And.intro (And.intro (@valA.eq_5) (@valA.eq_6)) (And.intro (@valA.eq_7) (@valA.eq_8))) (And.intro (And.intro (@valA.eq_9) (@valA.eq_10)) (And.intro (@valA.eq_11) (@valA.eq_12)))) (And.intro (And.intro (And.intro (@valA.eq_13) (@valA.eq_14)) (And.intro (@valA.eq_15) (@valA.eq_16))) (And.intro (And.intro (@valA.eq_17) (@valA.eq_18)) (And.intro (@storeA.eq_1) (@storeA.eq_2)))))) (And.intro (And.intro (And.intro (And.intro (And.intro (@storeA.eq_3) (@ldA.eq_1)) (And.intro (@ldA.eq_2) (@ldA.eq_3))) (And.intro (And.intro (@ldA.eq_4) (@fieldAddrA.eq_1)) (And.intro (@fieldAddrA.eq_2) (@fieldAddrA.eq_3)))) (And.intro (And.intro (And.intro (@fieldAddrA.eq_4) (@fieldA.eq_1)) (And.intro (@fieldA.eq_2) (@idxAddrA.eq_1))) (And.intro (And.intro (@idxAddrA.eq_2) (@idxAddrA.eq_3)) (And.intro (@idxA.eq_1) (@idxA.eq_2))))) (And.intro (And.intro (And.intro (And.intro (@idxA.eq_3) (@idxA.eq_4)) (And.intro (@idxArr.eq_1) (@idxArr.eq_2))) (And.intro (And.intro (@idxArr.eq_3) (@idxArr.eq_4)) (And.intro (@lenA.eq_1) (@lenA.eq_2)))) (And.intro (And.intro (And.intro (@lenA.eq_3) (@unA.eq_1)) (And.intro (@unA.eq_2) (@unA.eq_3))) (And.intro (And.intro (@unA.eq_4) (@binA.eq_1)) (And.intro (@binA.eq_2) (And.intro (@binA.eq_3) (@num2.eq_1)))))))) (And.intro (And.intro (And.intro (And.intro (And.intro (And.intro (@num2.eq_2) (@binV.eq_1)) (And.intro (@binV.eq_2) (@binV.eq_3))) (And.intro (And.intro (@binV.eq_4) (@binV.eq_5)) (And.intro (@binV.eq_6) (@binV.eq_7)))) (And.intro (And.intro (And.intro (@binV.eq_8) (@binV.eq_9)) (And.intro (@binV.eq_10) (@binV.eq_11))) (And.intro (And.intro (@binV.eq_12) (@binV.eq_13)) (And.intro (@binV.eq_14) (@binV.eq_15))))) (And.intro (And.intro (And.intro (And.intro (@binV.eq_16) (@binV.eq_17)) (And.intro (@eqA.eq_1) (@eqA.eq_2))) (And.intro (And.intro (@eqA.eq_3) (@eqA.eq_4)) (And.intro (@eqA.eq_5) (@eqA.eq_6)))) (And.intro (And.intro (And.intro (@eqA.eq_7) (@eqA.eq_8)) (And.intro (@eqA.eq_9) (@eqA.eq_10))) (And.intro (And.intro (@eqA.eq_11) (@rowOf.eq_1)) (And.intro (@rowOf.eq_2) (@rowOf.eq_3)))))) (And.intro (And.intro (And.intro (And.intro (And.intro (@PV.cells.eq_1) (@PV.cells.eq_2)) (And.intro (@PV.cell.eq_1) (@PV.cell.eq_2))) (And.intro (And.intro (@PV.cell.eq_3) (@PV.cell.eq_4)) (And.intro (@PV.cell.eq_5) (@PV.cell.eq_6)))) (And.intro (And.intro (And.intro (@bndA.eq_1) (@bndA.eq_2)) (And.intro (@bndA.eq_3) (@appA.eq_1))) (And.intro (And.intro (@appA.eq_2) (@appA.eq_3)) (And.intro (@appA.eq_4) (@allocX.eq_1))))) (And.intro (And.intro (And.intro (And.intro (@allocX.eq_2) (@setPs.eq_1)) (And.intro (@setPs.eq_2) (@extremeA.eq_1))) (And.intro (And.intro (@extremeA.eq_2) (@ints.eq_1)) (And.intro (@ints.eq_2) (@ints.eq_3)))) (And.intro (And.intro (And.intro (@resAll.eq_1) (@resAll.eq_2)) (And.intro (@resAll.eq_3) (@rinfOk.eq_1))) (And.intro (And.intro (@rinfOk.eq_2) (@rinfOk.eq_3)) (And.intro (@rinfOk.eq_4) (And.intro (@packR.eq_1) (@packR.eq_2)))))))))) :=
  And.intro (And.intro (@step_appIn) (@step_grow)) (And.intro (And.intro (And.intro (And.intro (And.intro (And.intro (And.intro (@stepA.eq_1) (@stepA.eq_2)) (And.intro (@stepA.eq_3) (@stepA.eq_4))) (And.intro (And.intro (@stepA.eq_5) (@stepA.eq_6)) (And.intro (@stepA.eq_7) (@stepA.eq_8)))) (And.intro (And.intro (And.intro (@stepA.eq_9) (@stepA.eq_10)) (And.intro (@stepA.eq_11) (@stepA.eq_12))) (And.intro (And.intro (@valA.eq_1) (@valA.eq_2)) (And.intro (@valA.eq_3) (@valA.eq_4))))) (And.intro (And.intro (And.intro (And.intro (@valA.eq_5) (@valA.eq_6)) (And.intro (@valA.eq_7) (@valA.eq_8))) (And.intro (And.intro (@valA.eq_9) (@valA.eq_10)) (And.intro (@valA.eq_11) (@valA.eq_12)))) (And.intro (And.intro (And.intro (@valA.eq_13) (@valA.eq_14)) (And.intro (@valA.eq_15) (@valA.eq_16))) (And.intro (And.intro (@valA.eq_17) (@valA.eq_18)) (And.intro (@storeA.eq_1) (@storeA.eq_2)))))) (And.intro (And.intro (And.intro (And.intro (And.intro (@storeA.eq_3) (@ldA.eq_1)) (And.intro (@ldA.eq_2) (@ldA.eq_3))) (And.intro (And.intro (@ldA.eq_4) (@fieldAddrA.eq_1)) (And.intro (@fieldAddrA.eq_2) (@fieldAddrA.eq_3)))) (And.intro (And.intro (And.intro (@fieldAddrA.eq_4) (@fieldA.eq_1)) (And.intro (@fieldA.eq_2) (@idxAddrA.eq_1))) (And.intro (And.intro (@idxAddrA.eq_2) (@idxAddrA.eq_3)) (And.intro (@idxA.eq_1) (@idxA.eq_2))))) (And.intro (And.intro (And.intro (And.intro (@idxA.eq_3) (@idxA.eq_4)) (And.intro (@idxArr.eq_1) (@idxArr.eq_2))) (And.intro (And.intro (@idxArr.eq_3) (@idxArr.eq_4)) (And.intro (@lenA.eq_1) (@lenA.eq_2)))) (And.intro (And.intro (And.intro (@lenA.eq_3) (@unA.eq_1)) (And.intro (@unA.eq_2) (@unA.eq_3))) (And.intro (And.intro (@unA.eq_4) (@binA.eq_1)) (And.intro (@binA.eq_2) (And.intro (@binA.eq_3) (@num2.eq_1)))))))) (And.intro (And.intro (And.intro (And.intro (And.intro (And.intro (@num2.eq_2) (@binV.eq_1)) (And.intro (@binV.eq_2) (@binV.eq_3))) (And.intro (And.intro (@binV.eq_4) (@binV.eq_5)) (And.intro (@binV.eq_6) (@binV.eq_7)))) (And.intro (And.intro (And.intro (@binV.eq_8) (@binV.eq_9)) (And.intro (@binV.eq_10) (@binV.eq_11))) (And.intro (And.intro (@binV.eq_12) (@binV.eq_13)) (And.intro (@binV.eq_14) (@binV.eq_15))))) (And.intro (And.intro (And.intro (And.intro (@binV.eq_16) (@binV.eq_17)) (And.intro (@eqA.eq_1) (@eqA.eq_2))) (And.intro (And.intro (@eqA.eq_3) (@eqA.eq_4)) (And.intro (@eqA.eq_5) (@eqA.eq_6)))) (And.intro (And.intro (And.intro (@eqA.eq_7) (@eqA.eq_8)) (And.intro (@eqA.eq_9) (@eqA.eq_10))) (And.intro (And.intro (@eqA.eq_11) (@rowOf.eq_1)) (And.intro (@rowOf.eq_2) (@rowOf.eq_3)))))) (And.intro (And.intro (And.intro (And.intro (And.intro (@PV.cells.eq_1) (@PV.cells.eq_2)) (And.intro (@PV.cell.eq_1) (@PV.cell.eq_2))) (And.intro (And.intro (@PV.cell.eq_3) (@PV.cell.eq_4)) (And.intro (@PV.cell.eq_5) (@PV.cell.eq_6)))) (And.intro (And.intro (And.intro (@bndA.eq_1) (@bndA.eq_2)) (And.intro (@bndA.eq_3) (@appA.eq_1))) (And.intro (And.intro (@appA.eq_2) (@appA.eq_3)) (And.intro (@appA.eq_4) (@allocX.eq_1))))) (And.intro (And.intro (And.intro (And.intro (@allocX.eq_2) (@setPs.eq_1)) (And.intro (@setPs.eq_2) (@extremeA.eq_1))) (And.intro (And.intro (@extremeA.eq_2) (@ints.eq_1)) (And.intro (@ints.eq_2) (@ints.eq_3)))) (And.intro (And.intro (And.intro (@resAll.eq_1) (@resAll.eq_2)) (And.intro (@resAll.eq_3) (@rinfOk.eq_1))) (And.intro (And.intro (@rinfOk.eq_2) (@rinfOk.eq_3)) (And.intro (@rinfOk.eq_4) (And.intro (@packR.eq_1) (@packR.eq_2)))))))))
end Go.Proofs.YtambpjbpdackfaaGreat.A


/- What holds behind code holds with less said, too ('wpA_mono'); two branches that are gone on with as one ('cond_join'). -/
set_option linter.unusedVariables false
set_option linter.unusedSimpArgs false
namespace Go.Proofs.YtambpjbpdackfaaGreat.A
open Go Go.RowKit

section
variable {P : Program} {its : Option (Nat × List Item)}
end
end Go.Proofs.YtambpjbpdackfaaGreat.A


/- A region that lays a literal of a map, and looks things up in it; code put together of parts, told each in its own way. -/
set_option linter.unusedVariables false
set_option linter.unusedSimpArgs false
namespace Go.Proofs.YtambpjbpdackfaaGreat.A
open Go Go.RowKit Go.Shelf

/-- What a map holds, told. -/
inductive Ents (I : Imm) : List (Int × PV) → List MapEntry → Prop
  | nil : Ents I [] []
  | cons {k : Int} {p : PV} {e : MapEntry} {l : List (Int × PV)} {es : List MapEntry} : e.key = .int .i64 k → C I p e.val → Ents I l es → Ents I ((k, p) :: l) (e :: es)
theorem Ents.mono {I J : Imm} (h : I.le J) {l : List (Int × PV)} {es : List MapEntry} (k : Ents I l es) : Ents J l es := by
  induction k with
  | nil => exact .nil
  | cons h1 h2 _ ih => exact .cons h1 (h2.mono h) ih
theorem Ents.snoc {I : Imm} {l : List (Int × PV)} {es : List MapEntry} (h : Ents I l es) {k : Int} {p : PV} {e : MapEntry} (h1 : e.key = .int .i64 k) (h2 : C I p e.val) : Ents I (l ++ [(k, p)]) (es ++ [e]) := by
  induction h with
  | nil => exact .cons h1 h2 .nil
  | cons h3 h4 _ ih => exact .cons h3 h4 ih
def lkz (n : Int) : List (Int × PV) → Option PV
  | [] => none
  | (k, p) :: l => if n = k then some p else lkz n l
theorem Ents.find {I : Imm} {n : Int} {l : List (Int × PV)} {es : List MapEntry} (h : Ents I l es) : ∀ i, (lkz n l = none → Instr.findNow (.int .i64) (.int .i64 n) es i = some none) ∧
    (∀ p, lkz n l = some p → ∃ j v, Instr.findNow (.int .i64) (.int .i64 n) es i = some (some (j, v)) ∧ C I p v) := by
  induction h with
  | nil => exact fun i => ⟨fun _ => rfl, fun p hp => by cases hp⟩
  | @cons k p e l es h1 h2 _ ih =>
    intro i
    have e1 : Instr.sameNow (.int .i64) (.int .i64 n) e.key = some (n == k) := by rw [h1]; simp [Instr.sameNow]
    by_cases hk : n = k
    · subst hk
      refine ⟨fun h => by simp [lkz] at h, fun p' hp => ?_⟩
      simp only [lkz, if_true, Option.some.injEq] at hp
      subst hp
      exact ⟨i, e.val, by simp [Instr.findNow, e1], h2⟩
    · have e2 : (n == k) = false := by simpa using hk
      obtain ⟨h3, h4⟩ := ih (i + 1)
      simp only [lkz, hk, if_false, Instr.findNow, e1, e2]
      exact ⟨h3, h4⟩
/-- The map of a region, as it is now. -/
def MapHas (I : Imm) (r : Nat) (l : List (Int × PV)) (w : World) : Prop := ∃ es clock, w.heap[r]? = some (.map es clock) ∧ Ents I l es.toList

def insC : Option TV → Option TV → Option PV → Nat → List (Int × PV) → (List (Int × PV) → Prop) → Prop
  | some (.v (.s (.map (some r')))), some (.v (.s (.int .i64 n))), some p, r, m, K => r' = r ∧ lkz n m = none ∧ K (m ++ [(n, p)])
  | _, _, _, _, _, _ => False
def lkC : Option TV → Option TV → Nat → List (Int × PV) → PV → (PV → Prop) → Prop
  | some (.v (.s (.map (some r')))), some (.v (.s (.int .i64 n))), r, m, z, K => r' = r ∧ K ((lkz n m).getD z)
  | _, _, _, _, _, _ => False
theorem insC_inv {a b : Option TV} {c : Option PV} {r : Nat} {m : List (Int × PV)} {K : List (Int × PV) → Prop} (h : insC a b c r m K) : ∃ n p, a = some (.v (.s (.map (some r)))) ∧ b = some (.v (.s (.int .i64 n))) ∧ c = some p ∧ lkz n m = none ∧ K (m ++ [(n, p)]) := by
  unfold insC at h
  split at h
  · obtain ⟨rfl, h1, h2⟩ := h; exact ⟨_, _, rfl, rfl, rfl, h1, h2⟩
  · exact h.elim
theorem lkC_inv {a b : Option TV} {r : Nat} {m : List (Int × PV)} {z : PV} {K : PV → Prop} (h : lkC a b r m z K) : ∃ n, a = some (.v (.s (.map (some r)))) ∧ b = some (.v (.s (.int .i64 n))) ∧ K ((lkz n m).getD z) := by
  unfold lkC at h
  split at h
  · obtain ⟨rfl, h1⟩ := h; exact ⟨_, rfl, rfl, h1⟩
  · exact h.elim
/-- A region's operations told, with the map that it lays: its block, what it holds. -/
def wpOpsM (P : Program) : List AO → Nat → List (Int × PV) → St → (St → Prop) → Prop
  | [], _, _, s, K => K s
  | o :: os, r, l, s, K => match o.op with
    | .insert _ x k v => insC (ev s x) (ev s k) (pv s v) r l (fun l' => wpOpsM P os r l' s K)
    | .lookup _ x i _ => lkC (ev s x) (ev s i) r l (.s (o.inf.zero.headD .nilFunc)) (fun p => wpOpsM P os r l (putT s o.dst (.v p)) K)
    | _ => execA P none s o fun s' => wpOpsM P os r l s' K
def wpRegM (P : Program) (ops : List AO) (s : St) (K : St → Prop) : Prop :=
  match ops with
  | o :: os => ∀ r, wpOpsM P os r [] (putT s o.dst (.v (.s (.map (some r))))) K
  | [] => False

def isMapT (P : Program) (t : TypeId) : Bool := match P.underlying t with
  | some (.map k _) => (match P.underlying k with | some (.int .i64) => true | _ => false)
  | _ => false
/-- What must be so of the operations of such a region. -/
def mapOk (P : Program) (o : AO) : Bool :=
  o.guard.isNone && match o.op with
  | .insert t _ _ _ => isMapT P t && o.dst.isNone
  | .lookup t _ _ ok => isMapT P t && (!ok && (match P.underlying t with | some (.map _ e) => (match tZero P e with | some z => constEq z (o.inf.zero.headD .nilFunc) | none => false) | _ => false))
  | op => infOk' P op o.inf
def isMake : AO → Bool
  | ⟨_, .makeMap _ none, none, _, _⟩ => true
  | _ => false
def regMOk (P : Program) : List AO → Bool
  | o :: os => isMake o && os.all (mapOk P)
  | [] => false

section
variable {P : Program} {w00 : Bs} {I00 : Imm} {Jt : Nat → Imm → World → Prop} {ro : Option Nat}
variable {w0 : Bs} {w w' : World} {I0 I J : Imm} {β : Nat → Nat} {κ : Nat → Nat × Nat × Nat} {s s' : St} {sav : List (Array Value)} {a : Act}

theorem isMapT_spec {t : TypeId} (h : isMapT P t = true) : ∃ k e, P.underlying t = some (.map k e) ∧ P.underlying k = some (.int .i64) := by
  unfold isMapT at h
  split at h
  · rename_i k e hu
    split at h
    · rename_i hk; exact ⟨k, e, hu, hk⟩
    · cases h
  · cases h

/-- A map of the call's own written anew. -/
theorem Sim.putMap (h : Sim w0 I0 I β κ s sav a w) {l : Nat} {es : Array MapEntry} {c : Nat} (hl : w.heap[l]? = some (.map es c)) (hb : w0.heap.size ≤ l) (o : Obj) : Sim w0 I0 I β κ s sav a (w.putObj l o) := by
  have ho := OnlyAt.putObj w l o
  exact
    { below := h.below.trans (ho.below hb)
      good := fun b arr hI => by
        obtain ⟨cs, ty, fz, more, h1, h2⟩ := h.good b arr hI
        exact ⟨cs, ty, fz, more, (ho.block b (fun e => by rw [e, hl] at h1; cases h1)).trans h1, h2⟩
      ext := h.ext
      old := h.old
      tm := h.tm
      sv := h.sv
      mem := h.memKeep (Imm.le_refl _) (fun c x hc => (h.mem c x hc).2.1) (fun c x hc => ho.block c (fun e => by obtain ⟨_, _, cs, ty, h3, _⟩ := h.mem c x hc; rw [e, hl] at h3; cases h3))
      mbx := h.mbx
      box := fun b cells hc => by
        obtain ⟨h1, h2, cs, ty, h3, h4⟩ := h.box b cells hc
        exact ⟨h1, h2, cs, ty, (ho.block _ (fun e => by rw [e, hl] at h3; cases h3)).trans h3, h4⟩
      rob := h.rob
      inj := h.inj
      tok := fun t ht => by
        obtain ⟨h1, cs, ty, arr, h3, h4⟩ := h.tok t ht
        exact ⟨h1, cs, ty, arr, (ho.block _ (fun e => by rw [e, hl] at h3; cases h3)).trans h3, h4⟩
      tinj := h.tinj
      dfr := by
        obtain ⟨Ds, h1, h2, h3⟩ := h.dfr
        exact ⟨Ds, h1, h2, fun D hD => ⟨(h3 D hD).1, (ho.block D (fun e => by have := (h3 D hD).2; rw [e, hl] at this; cases this)).trans (h3 D hD).2⟩⟩ }

theorem sound_opsM {ops : Array Oper} {all : List AO} (hkey : ops.toList.map opKey = all.map AO.key) {Q : XA → St → Prop} (Iz : Imm) (wz : World) (hz : w00.heap.size ≤ wz.heap.size) : ∀ (n k : Nat), k + n = ops.size → (all.drop k).all (mapOk P) = true →
    ∀ {I w s a w0 I0 β κ r l}, Iz.le I → KeepsOthers wz w → wz.heap.size ≤ r → MapHas I r l w → Base none w00 I00 Jt s.it w0 I0 → Sim w0 I0 I β κ s sav a w → wpOpsM P (all.drop k) r l s (Q .normal) →
    wpOpsIn (wideR ro) 0 P ops (PostA none (Base none w00 I00 Jt) Iz sav wz Q) (List.range' k n) a w
  | 0, k, hk, hall, I, w, s, a, w0, I0, β, κ, r, l, hle, hkeep, hr, hm, hB, h, hs => by
    have hlen : all.length = ops.size := by have := congrArg List.length hkey; simpa using this.symm
    have e : all.drop k = [] := List.drop_eq_nil_of_le (by omega)
    rw [e] at hs
    exact ⟨s, I, hs, hle, fun _ => hkeep, (fun e => by cases e), w0, I0, β, κ, hB, h⟩
  | n + 1, k, hk, hall, I, w, s, a, w0, I0, β, κ, r, l, hle, hkeep, hr, hm, hB, h, hs => by
    have hlen : all.length = ops.size := by have := congrArg List.length hkey; simpa using this.symm
    have hlt : k < all.length := by omega
    have hlt' : k < ops.size := by omega
    have e : all.drop k = all[k] :: all.drop (k + 1) := List.drop_eq_getElem_cons hlt
    rw [e] at hs hall
    simp only [List.all_cons, Bool.and_eq_true] at hall
    obtain ⟨hok, hall⟩ := hall
    have hkk := congrArg (fun l => l[k]?) hkey
    simp only [List.getElem?_map, Array.getElem?_toList, Array.getElem?_eq_getElem hlt', List.getElem?_eq_getElem hlt, Option.map_some, Option.some.injEq, opKey, AO.key, Prod.mk.injEq] at hkk
    obtain ⟨hdst, hop, hgd, _⟩ := hkk
    generalize hall' : all[k] = ao at *
    unfold mapOk at hok
    simp only [Bool.and_eq_true, Option.isNone_iff_eq_none] at hok
    obtain ⟨hg, hok⟩ := hok
    have hw : ∀ t, Region.wanted ops[k] t = true := fun t => by unfold Region.wanted; rw [hgd, hg]
    rw [List.range'_succ]
    simp only [wpOpsIn, Array.getElem?_eq_getElem hlt']
    rw [if_pos (hw _)]
    have hgo : ∀ {s' : St} {a' : Act} {w' : World} {J : Imm} {l' : List (Int × PV)} {w1 I1 β1 κ1}, I.le J → KeepsOthers wz w' → MapHas J r l' w' → Base none w00 I00 Jt s'.it w1 I1 → Sim w1 I1 J β1 κ1 s' sav a' w' → wpOpsM P (all.drop (k + 1)) r l' s' (Q .normal) →
        wpOpsIn (wideR ro) 0 P ops (PostA none (Base none w00 I00 Jt) Iz sav wz Q) (List.range' (k + 1) n) a' w' := fun h1 h2 h3 h4 h5 h6 =>
      sound_opsM hkey Iz wz hz n (k + 1) (by omega) hall (Imm.le_trans hle h1) h2 hr h3 h4 h5 h6
    obtain ⟨rfl, rfl⟩ := hB
    simp only [wpOpsM] at hs
    split at hs
    · -- insert
      rename_i t x kk v ho
      rw [ho] at hok
      simp only [Bool.and_eq_true, Option.isNone_iff_eq_none] at hok
      obtain ⟨ht, hdn⟩ := hok
      obtain ⟨kt, et, hu, hu2⟩ := isMapT_spec ht
      · obtain ⟨n', p, hx, hkv, hv, hnone, hs⟩ := insC_inv hs
        obtain ⟨es, clock, hb, hE⟩ := hm
        have hxv := (ev_R h hx).inv.inv_s
        have hkv' := (ev_R h hkv).inv.inv_s
        have hvC : C I p (a.eval v) := by
          have := pvs_C h (xs := [v]) (show pvs s [v] = some [p] by simp [pvs, hv])
          cases this with | cons h1 _ => exact h1
        have hf := (hE.find (n := n') 0).1 hnone
        have hk' : MapKept.IsKey (.int .i64) (.int .i64 n') := by simp [MapKept.IsKey]
        have hrun : (Instr.mapUpdate t (.map (some r)) (.int .i64 n') (a.eval v)).run P w = .ok () (w.putObj r (.map (es.push { key := .int .i64 n', val := a.eval v, born := clock }) (clock + 1))) := by
          simp [Instr.mapUpdate, run_underlying hu, MapKept.run_getObj_map hb, MapKept.run_checkKey hu2 hk', MapKept.run_findKey hu2 hf, MapKept.run_setObj_map _ hb, Result.andThen]
          rfl
        refine wpIn_run (by rw [hop, ho]; simp) ?_
        have hex : (execOp a.eval ops[k]).run P w = .ok .skip (w.putObj r (.map (es.push { key := .int .i64 n', val := a.eval v, born := clock }) (clock + 1))) := by
          simp [execOp, hop, ho, hxv, hkv', hrun, Result.andThen]
        rw [hex]
        have hpa : a.put ops[k].dst undef = a := by rw [hdst, hdn]; rfl
        show wpOpsIn (wideR ro) 0 P ops _ _ (a.put ops[k].dst undef) _
        rw [hpa]
        have hb0 : w0.heap.size ≤ r := Nat.le_trans hz hr
        refine hgo (Imm.le_refl _) ⟨?_, fun j o hj hoj => ?_⟩ ⟨_, _, World.putObj_heap_same (Array.getElem?_eq_some_iff.1 hb).1, ?_⟩ ⟨rfl, rfl⟩ (h.putMap hb hb0 _) hs
        · have := hkeep.size
          simp only [World.putObj, Array.size_setIfInBounds] at *
          omega
        · have : j < wz.heap.size := (Array.getElem?_eq_some_iff.1 hj).1
          rw [World.putObj_heap_other (by omega)]
          exact hkeep.same _ _ hj hoj
        · rw [Array.toList_push]
          exact hE.snoc rfl hvC
    · -- lookup
      rename_i t x i ok ho
      rw [ho] at hok
      simp only [Bool.and_eq_true, Bool.not_eq_true'] at hok
      obtain ⟨ht, hok1, hzr⟩ := hok
      obtain ⟨kt, et, hu, hu2⟩ := isMapT_spec ht
      subst hok1
      · obtain ⟨n', hx, hi, hs⟩ := lkC_inv hs
        obtain ⟨es, clock, hb, hE⟩ := hm
        have hxv := (ev_R h hx).inv.inv_s
        have hiv := (ev_R h hi).inv.inv_s
        have hk' : MapKept.IsKey (.int .i64) (.int .i64 n') := by simp [MapKept.IsKey]
        have hrun : ∃ v, (Instr.lookup t (.map (some r)) (.int .i64 n') false).run P w = .ok v w ∧ C I ((lkz n' l).getD (.s (ao.inf.zero.headD .nilFunc))) v := by
          cases hl : lkz n' l with
          | some p =>
            obtain ⟨j, v, h1, h2⟩ := (hE.find (n := n') 0).2 p hl
            refine ⟨v, ?_, h2⟩
            simp [Instr.lookup, run_underlying hu, MapKept.run_getObj_map hb, MapKept.run_checkKey hu2 hk', MapKept.run_findKey hu2 h1, Result.andThen]
          | none =>
            have h1 := (hE.find (n := n') 0).1 hl
            rw [hu] at hzr
            simp only at hzr
            split at hzr
            · rename_i z hz'
              have e := constEq_eq hzr
              refine ⟨z, ?_, by rw [e]; exact .s _⟩
              simp [Instr.lookup, run_underlying hu, MapKept.run_getObj_map hb, MapKept.run_checkKey hu2 hk', MapKept.run_findKey hu2 h1, run_zero_of hz', Result.andThen]
            · cases hzr
        obtain ⟨v, hrun, hC⟩ := hrun
        refine wpIn_run (by rw [hop, ho]; simp) ?_
        have hex : (execOp a.eval ops[k]).run P w = .ok (.value v) w := by
          simp [execOp, hop, ho, hxv, hiv, hrun, Result.andThen]
        rw [hex]
        have hit : (putT s ao.dst (.v ((lkz n' l).getD (.s (ao.inf.zero.headD .nilFunc))))).it = s.it := by cases ao.dst <;> rfl
        have hfin := h.putT ao.dst (.v hC)
        show wpOpsIn (wideR ro) 0 P ops _ _ (a.put ops[k].dst v) _
        rw [hdst]
        exact hgo (Imm.le_refl _) hkeep ⟨es, clock, hb, hE⟩ ⟨rfl, rfl⟩ hfin hs
    · rename_i hn1 hn2
      have hi : infOk' P ao.op ao.inf = true := by
        cases hop' : ao.op <;> rw [hop'] at hok <;> first | exact (hn1 _ _ _ _ hop').elim | exact (hn2 _ _ _ _ hop').elim | exact hok
      refine sound_exec (its := none) (w00 := w0) (I00 := I0) (Jt := Jt) hop.symm hdst.symm hi (fun _ _ e => by cases e) (fun e => by cases e) ⟨rfl, rfl⟩ h hs ?_
      intro s' a' w' J hJ hk' ⟨_, w1, I1, β1, κ1, hB1, h1⟩ hK
      obtain ⟨es, clock, hb, hE⟩ := hm
      exact hgo hJ (hkeep.trans (hk' rfl)) ⟨es, clock, (hk' rfl).same _ _ hb rfl, hE.mono hJ⟩ hB1 h1 hK

/-- Code, told in a way of its own. -/
def Told (P : Program) (code : Code) (T : (XA → St → Prop) → St → Prop) : Prop :=
  ∀ (w00 : Bs) (I00 : Imm) (Q : XA → St → Prop) (I : Imm) (w : World) (s : St) (sav : List (Array Value)) (a : Act), T Q s → Sat none (Base none w00 I00 (fun _ _ _ => True)) I s sav a w →
    code.wpIn (wideR none) 0 P (PostA none (Base none w00 I00 (fun _ _ _ => True)) I sav w Q) a w
theorem told_ac {ac : AC} {code : Code} (h : Ag P ac code) : Told P code (wpA P none ac) := fun w00 I00 Q I w s sav a hT hS =>
  sound ac code h none w00 I00 (fun _ _ _ => True) none (fun _ _ e => by cases e) (fun _ => rfl) Q I w s sav a hT (fun _ e => by cases e) hS
/-- One part behind another. -/
def thenT (T : (XA → St → Prop) → St → Prop) (Q : XA → St → Prop) : XA → St → Prop := fun e s => match e with | .normal => T Q s | .ret => Q .ret s | .exit id => Q (.exit id) s
theorem told_seq {c d : Code} {T U : (XA → St → Prop) → St → Prop} (h : Told P c T) (k : Told P d U) : Told P (.seq c d) (fun Q s => T (thenT U Q) s) := fun w00 I00 Q I w s sav a hT hS => by
  refine wpIn_seq (wpIn_mono (h w00 I00 _ I w s sav a hT hS) ?_)
  intro e a2 w2 hp
  cases e with
  | normal =>
    obtain ⟨s', J, k1, k2, k3, k4⟩ := hp
    exact wpIn_mono (k w00 I00 Q J w2 s' sav a2 k1 k4) fun e a3 w3 h => PostA.mono k2 k3 h
  | ret => exact hp
  | exit id => exact hp
  | _ => exact hp
theorem told_map {id : Nat} {ops : List Oper} {l : List (Nat × Inf)} (h : regMOk P (aoL 0 ops l) = true) : Told P (.region id ⟨ops⟩ false) (fun Q s => wpRegM P (aoL 0 ops l) s (Q .normal)) := fun w00 I00 Q I w s sav a hT hS => by
  obtain ⟨hdf, w0, I0, β, κ, ⟨rfl, rfl⟩, hS⟩ := hS
  refine wpIn_region ?_
  have hkey := aoL_keys ops 0 l
  cases ops with
  | nil => simp [aoL, regMOk] at h
  | cons o os =>
    simp only [aoL, regMOk, Bool.and_eq_true] at h
    obtain ⟨h1, h2⟩ := h
    simp only [aoL, wpRegM] at hT
    obtain ⟨odst, oop, otype, opos, oaf, og⟩ := o
    simp only [ao] at h1
    unfold isMake at h1
    split at h1
    · rename_i d0 t p0 i0 heq
      simp only [AO.mk.injEq] at heq
      obtain ⟨rfl, rfl, rfl, _, _⟩ := heq
      rw [List.range_eq_range']
      show wpOpsIn _ _ _ _ _ (List.range' 0 (os.length + 1)) a w
      rw [List.range'_succ]
      simp only [wpOpsIn]
      show (if _ then _ else _)
      rw [if_pos (by rfl)]
      refine wpIn_run (by simp) ?_
      have hrun : (execOp a.eval ⟨odst, .makeMap t none, otype, opos, oaf, none⟩).run P w = .ok (.value (.map (some w.heap.size))) (w.alloc (.map #[] 0)) := by
        simp [execOp, Instr.makeMap, Result.andThen]
      change Oper.uponIn (wideR none) 0 P (⟨odst, .makeMap t none, otype, opos, oaf, none⟩ : Oper) a _ _ ((execOp a.eval ⟨odst, .makeMap t none, otype, opos, oaf, none⟩).run P w)
      rw [hrun]
      refine sound_opsM hkey I w hS.size os.length 1 (by simp; omega) ?_ (Imm.le_refl _) (KeepsOthers.alloc _ _) (Nat.le_refl _) ⟨#[], 0, World.alloc_heap_new w _, .nil⟩ ⟨rfl, rfl⟩ ((hS.alloc (.map #[] 0)).putT odst (.v (.s _))) (hT w.heap.size)
      simpa [aoL] using h2
    · cases h1

theorem calls_told {f : FuncId} {fn : Func} {code : Code} {T : (XA → St → Prop) → St → Prop} {args : List PV} {vs : List Value} {m : Mem} {Fin : St → Prop} {L : Ending → World → Prop} (hf : P.funcs[f]? = some fn) (hb : fn.body = some code) (hag : Told P code T)
    (hg : Good I w) (hm : MemAt I m w) (hc : Cs I args vs) (hwp : T (atEnd Fin) { initS args fn.ntmps with mm := m })
    (hfin : ∀ J β κ s (a : Act) w', Fin s → Sim ⟨w, fun c => (m c).isSome⟩ I J β κ s [] a w' → ∃ u, (results fn a.tmps).run P w' = .ok u w' ∧ L (.returned u) w') : Calls P f vs.toArray w L := by
  refine (callsIn_wide (n := 0)).1 ?_
  refine (callsIn_of_wp_marks (R := L) hf hb trivial ?_ rfl)
  have hs := hag ⟨w, fun c => (m c).isSome⟩ I _ I w { initS args fn.ntmps with mm := m } [] { tmps := vs.toArray ++ Array.replicate (fn.ntmps - vs.toArray.size) undef, defers := [] } hwp
      ⟨(fun e => by cases e), ⟨w, fun c => (m c).isSome⟩, I, _, _, ⟨rfl, rfl⟩, initS_sim fn.ntmps hg hm hc⟩
  refine wpIn_mono hs ?_
  intro e a2 w2 hp
  have fin : ∀ {xa : XA}, (xa = .normal ∨ xa = .ret) → (∃ s' J, atEnd Fin xa s' ∧ I.le J ∧ (none (α := Nat × List Item) = none → KeepsOthers w w2) ∧ Sat none (Base none ⟨w, fun c => (m c).isSome⟩ I (fun _ _ _ => True)) J s' [] a2 w2) →
      LeavesInM Fence.wide 0 P fn a2.tmps L a2.defers .returning w2 := by
    rintro xa hxa ⟨s', J, hr, hle, _, _, w1, I1, β1, κ1, ⟨rfl, rfl⟩, hS⟩
    have hr' : Fin s' := by rcases hxa with rfl | rfl <;> exact hr
    obtain ⟨Ds, d1, d2, d3⟩ := hS.dfr
    obtain ⟨tms, dfs⟩ := a2
    simp only at d1
    subst d1
    exact leaves_of (fun df w' hS' => hfin J β1 κ1 s' ⟨tms, df⟩ w' hr' hS') Ds w2 d2 d3 hS
  cases e with
  | normal => exact fin (.inl rfl) hp
  | ret => exact fin (.inr rfl) hp
  | exit id => obtain ⟨s', J, hr, _⟩ := hp; exact hr.elim
  | goto _ => exact hp.elim
  | panic _ => exact hp.elim
  | outgrown => exact hp.elim
theorem ok_told {f : FuncId} {fn : Func} {code : Code} {T : (XA → St → Prop) → St → Prop} {qs : List (Bool × Nat)} {args : List PV} {r : PV} (hf : P.funcs[f]? = some fn) (hname : (fn.name == "runtime.NumGoroutine") = false) (hb : fn.body = some code) (hag : Told P code T)
    (hq : rinfOk P fn.results.toList qs = true) (hwp : T (RetQ fn.results.toList qs r) (initS args fn.ntmps)) : Ok P f args r := by
  refine ⟨enters_of hf hname hb, fun I w vs hg hc => ?_⟩
  rw [RetQ_atEnd] at hwp
  refine calls_told hf hb hag hg (noMem I w) hc hwp ?_
  intro J β κ s a w' hr hS
  obtain ⟨u, hu, hC⟩ := run_results hS hq hr
  exact ⟨u, hu, u, J, rfl, hS.below.all (fun _ => rfl), hS.ext, hS.good, hS.old, hC⟩

/-- The parts of such a function, checked. -/
def okMap (P : Program) (fn : Func) (h0 h1 h2 : Hint) (l : List (Nat × Inf)) (qs : List (Bool × Nat)) : Bool :=
  match fn.body with
  | some (.seq c0 (.seq c1 (.seq (.region _ ops false) c2))) => !(fn.name == "runtime.NumGoroutine") && rinfOk P fn.results.toList qs && (okC P h0 c0 && okC P h1 c1 && (regMOk P (aoL 0 ops.toList l) && okC P h2 c2))
  | _ => false
/-- A function with a map's literal behind two parts: its contract. -/
theorem okm3_fn (hm : P.follows .mixedOrders = true) {f : FuncId} {fn : Func} {c0 c1 c2 : Code} {id : Nat} {ops : List Oper} {h0 h1 h2 : Hint} {l : List (Nat × Inf)} {qs : List (Bool × Nat)} {args : List PV} {r : PV} (hf : P.funcs[f]? = some fn)
    (hb : fn.body = some (.seq c0 (.seq c1 (.seq (.region id ⟨ops⟩ false) c2)))) (hk : okMap P fn h0 h1 h2 l qs = true)
    (hwp : wpA P none (acOf h0 c0) (thenT (fun Q s => wpA P none (acOf h1 c1) (thenT (fun Q s => wpRegM P (aoL 0 ops l) s (thenT (wpA P none (acOf h2 c2)) Q .normal)) Q) s) (RetQ fn.results.toList qs r)) (initS args fn.ntmps)) : Ok P f args r := by
  simp only [okMap, hb, Bool.and_eq_true, Bool.not_eq_true'] at hk
  obtain ⟨⟨k1, k2⟩, ⟨k3, k4⟩, k5, k6⟩ := hk
  exact ok_told hf k1 hb (told_seq (told_ac (ag_of hm h0 c0 k3)) (told_seq (told_ac (ag_of hm h1 c1 k4)) (told_seq (told_map k5) (told_ac (ag_of hm h2 c2 k6))))) k2 hwp
/-! ### Rules -/
variable {K : St → Prop} {Q : XA → St → Prop}
theorem thenT_normal (T : (XA → St → Prop) → St → Prop) : thenT T Q .normal s = T Q s := rfl
theorem thenT_ret (T : (XA → St → Prop) → St → Prop) : thenT T Q .ret s = Q .ret s := rfl
theorem thenT_exit (T : (XA → St → Prop) → St → Prop) (id : Nat) : thenT T Q (.exit id) s = Q (.exit id) s := rfl
def opsMK (P : Program) (os : List AO) (r : Nat) (m : List (Int × PV)) (K : St → Prop) : St → Prop := fun s => wpOpsM P os r m s K
theorem opsMK_at (os : List AO) (r : Nat) (m : List (Int × PV)) : opsMK P os r m K s = wpOpsM P os r m s K := rfl
theorem regM_cons (o : Oper) (os : List Oper) (l : List (Nat × Inf)) : wpRegM P (aoL 0 (o :: os) l) s K = ∀ r, wpOpsM P (aoL 1 os l) r [] (putT s o.dst (.v (.s (.map (some r))))) K := rfl
theorem opsM_nil (k r : Nat) (l : List (Nat × Inf)) (m : List (Int × PV)) : wpOpsM P (aoL k [] l) r m s K = K s := rfl
theorem insC_some (r : Nat) (n : Int) (p : PV) (m : List (Int × PV)) (K : List (Int × PV) → Prop) : insC (some (.v (.s (.map (some r))))) (some (.v (.s (.int .i64 n)))) (some p) r m K = (lkz n m = none ∧ K (m ++ [(n, p)])) := by
  unfold insC
  simp
def opsMI (P : Program) (os : List AO) (r : Nat) (s : St) (K : St → Prop) : List (Int × PV) → Prop := fun m => wpOpsM P os r m s K
theorem opsMI_at (os : List AO) (r : Nat) (m : List (Int × PV)) : opsMI P os r s K m = wpOpsM P os r m s K := rfl
theorem opsM_ins (k r : Nat) (l : List (Nat × Inf)) (m : List (Int × PV)) (d : Option Nat) (t : TypeId) (x kk v : Operand) (ty : TypeId) (p : String) (af : Array Edge) (os : List Oper) :
    wpOpsM P (aoL k (⟨d, .insert t x kk v, ty, p, af, none⟩ :: os) l) r m s K = insC (ev s x) (ev s kk) (pv s v) r m (opsMI P (aoL (k + 1) os l) r s K) := by
  simp only [aoL, wpOpsM, ao]
  rfl
theorem lkC_some (r : Nat) (n : Int) (m : List (Int × PV)) (z : PV) (K : PV → Prop) : lkC (some (.v (.s (.map (some r))))) (some (.v (.s (.int .i64 n)))) r m z K = K ((lkz n m).getD z) := by
  unfold lkC
  simp
def opsML (P : Program) (os : List AO) (r : Nat) (m : List (Int × PV)) (s : St) (d : Option Nat) (K : St → Prop) : PV → Prop := fun p => wpOpsM P os r m (putT s d (.v p)) K
theorem opsML_at (os : List AO) (r : Nat) (m : List (Int × PV)) (d : Option Nat) (p : PV) : opsML P os r m s d K p = wpOpsM P os r m (putT s d (.v p)) K := rfl
theorem opsM_lk (k r : Nat) (l : List (Nat × Inf)) (m : List (Int × PV)) (d : Option Nat) (t : TypeId) (x i : Operand) (ok : Bool) (ty : TypeId) (p : String) (af : Array Edge) (os : List Oper) :
    wpOpsM P (aoL k (⟨d, .lookup t x i ok, ty, p, af, none⟩ :: os) l) r m s K = lkC (ev s x) (ev s i) r m (.s (((lk k l).getD {}).zero.headD .nilFunc)) (opsML P (aoL (k + 1) os l) r m s d K) := by
  simp only [aoL, wpOpsM, ao]
  rfl
def isMapOp : Op → Bool
  | .insert .. => true
  | .lookup .. => true
  | _ => false
theorem mapOp_move (x : Operand) : isMapOp (.move x) = false := rfl
theorem mapOp_assign (x : Operand) : isMapOp (.assign x) = false := rfl
theorem mapOp_load (t : TypeId) (x : Operand) : isMapOp (.load t x) = false := rfl
theorem mapOp_fieldAddr (t : TypeId) (x : Operand) (f : Nat) : isMapOp (.fieldAddr t x f) = false := rfl
theorem mapOp_binOp (o : BinOp) (t u : TypeId) (x y : Operand) : isMapOp (.binOp o t x y u) = false := rfl
theorem mapOp_buildSlice (t : TypeId) (n : Nat) (l : Array (Nat × Operand)) : isMapOp (.buildSlice t n l) = false := rfl
theorem opsM_op (k r : Nat) (l : List (Nat × Inf)) (m : List (Int × PV)) (d : Option Nat) (op : Op) (ty : TypeId) (p : String) (af : Array Edge) (os : List Oper) (h : isMapOp op = false) :
    wpOpsM P (aoL k (⟨d, op, ty, p, af, none⟩ :: os) l) r m s K = execA P none s ⟨d, op, none, [], (lk k l).getD {}⟩ (opsMK P (aoL (k + 1) os l) r m K) := by
  simp only [aoL]
  cases op <;> first | (simp [isMapOp] at h; done) | rfl

end
end Go.Proofs.YtambpjbpdackfaaGreat.A


