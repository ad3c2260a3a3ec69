import Derived.Test.YtbflmeomkfjikaaGreatM5
set_option linter.unusedVariables false
set_option linter.unusedSimpArgs false
set_option maxRecDepth 100000
namespace Go.Proofs.YtbflmeomkfjikaaGreat.A.E
open Go Go.RowKit Go.Shelf

/-! ### Rounding: what is told of a product, divided -/
theorem minus3_of (a b c : Int) (hc : c ≠ 0) : a * b = 0 ∨ minus3 a b c = decide ((if c < 0 then -(a * b) else a * b) < 0) := by
  rcases minus_mul a b with h | h
  · exact .inl h
  · by_cases h0 : a * b = 0
    · exact .inl h0
    · right
      unfold minus3
      rw [h]
      by_cases hc0 : c < 0
      · rw [if_pos hc0, decide_eq_true hc0]
        by_cases hx : a * b < 0
        · rw [decide_eq_true hx, decide_eq_false (by omega)]; rfl
        · rw [decide_eq_false hx, decide_eq_true (by omega)]; rfl
      · rw [if_neg hc0, decide_eq_false hc0]
        by_cases hx : a * b < 0
        · rw [decide_eq_true hx]; rfl
        · rw [decide_eq_false hx]; rfl
theorem md_spec {a b c mode : Int} (h : (mdF a b c mode).2 = true) : ∃ Y C : Int, 0 < C ∧ ((c = C ∧ Y = a * b) ∨ (c = -C ∧ Y = -(a * b))) ∧
    (mdF a b c mode).1 * C < Y + C ∧ Y < (mdF a b c mode).1 * C + C ∧ (mode = 1 → (mdF a b c mode).1 * C ≤ Y) ∧ (mode = 2 → Y ≤ (mdF a b c mode).1 * C) := by
  unfold mdF at h ⊢
  split at h
  · rename_i hok
    rw [if_pos hok]
    have hc : c ≠ 0 := by
      unfold mdOk at hok
      simp only [Bool.and_eq_true, decide_eq_true_eq] at hok
      exact hok.2.2.2.1
    refine ⟨if c < 0 then -(a * b) else a * b, (c.natAbs : Int), by omega, by split <;> omega, ?_⟩
    have hm := minus3_of a b c hc
    have hP : (if c < 0 then -(a * b) else a * b).natAbs = a.natAbs * b.natAbs := by
      rw [← Int.natAbs_mul]
      split <;> omega
    have h0 : a * b = 0 → (if c < 0 then -(a * b) else a * b) = 0 := fun h => by rw [h]; split <;> rfl
    generalize (if c < 0 then -(a * b) else a * b) = Y at *
    unfold mdN
    have hCp : 0 < c.natAbs := by omega
    generalize c.natAbs = C at *
    generalize a.natAbs * b.natAbs = P at *
    have hd := Nat.div_add_mod P C
    have hr := Nat.mod_lt P hCp
    have hmo : moreF mode (P / C) (P % C) C (minus3 a b c) = true → P % C ≠ 0 := fun h h0 => by
      unfold moreF at h
      rw [if_pos h0] at h
      cases h
    have hm1 : mode = 1 → moreF mode (P / C) (P % C) C (minus3 a b c) = (decide (P % C ≠ 0) && minus3 a b c) := fun h => by
      unfold moreF
      subst h
      by_cases h0 : P % C = 0
      · simp [h0]
      · simp [h0]
    have hm2 : mode = 2 → moreF mode (P / C) (P % C) C (minus3 a b c) = (decide (P % C ≠ 0) && !minus3 a b c) := fun h => by
      unfold moreF
      subst h
      by_cases h0 : P % C = 0
      · simp [h0]
      · simp [h0]
    generalize moreF mode (P / C) (P % C) C (minus3 a b c) = mo at *
    generalize minus3 a b c = mi at *
    generalize P / C = D at *
    generalize P % C = r at *
    have hT : ((D : Int)) * (C : Int) = ((C * D : Nat) : Int) := by rw [Nat.mul_comm, Int.natCast_mul]
    have hT1 : ((D : Int) + 1) * (C : Int) = ((C * D : Nat) : Int) + C := by rw [Int.add_mul, hT, Int.one_mul]
    generalize C * D = T at *
    have hmi : P = 0 ∨ mi = decide (Y < 0) := by
      rcases hm with h | h
      · have := h0 h
        left; omega
      · exact .inr h
    clear hm h0 h hok
    have hm1' : mode = 1 → (mo = true ↔ r ≠ 0 ∧ mi = true) := fun h => by rw [hm1 h]; simp
    have hm2' : mode = 2 → (mo = true ↔ r ≠ 0 ∧ mi = false) := fun h => by rw [hm2 h]; simp
    clear hm1 hm2
    have hmi' : P = 0 ∨ (mi = true ↔ Y < 0) := by
      rcases hmi with h | h
      · exact .inl h
      · right; rw [h, decide_eq_true_eq]
    clear hmi
    cases mo <;> cases mi
    all_goals simp only [if_true, if_false, Bool.false_eq_true, Nat.add_zero, Int.natCast_add, Int.natCast_one, Int.neg_mul, hT, hT1, true_iff, false_iff, reduceCtorEq, and_true, and_false, iff_true, iff_false, not_true_eq_false, not_false_eq_true, Int.natCast_zero, Int.add_zero]
    all_goals simp only [Bool.false_eq_true, reduceCtorEq, false_implies, true_implies, forall_const, true_iff, false_iff, and_true, and_false, iff_true, iff_false, not_true_eq_false, not_false_eq_true, Int.not_lt, ne_eq, Decidable.not_not, false_and, not_and, true_and] at hmo hmi' hm1' hm2'
    all_goals refine ⟨by omega, by omega, fun h => ?_, fun h => ?_⟩
    all_goals first
      | omega
      | (have := hm1' h; omega)
      | (have := hm2' h; omega)
      | exact (hm1' h).elim
      | exact (hm2' h).elim
  · cases h

/-! ### What is made of values and of pairs of bounds -/
theorem minL_foldl : ∀ (l : List Int) (x : Int), l.foldl (fun m y => if y < m then y else m) x ≤ x ∧ (∀ y ∈ l, l.foldl (fun m y => if y < m then y else m) x ≤ y) ∧ (l.foldl (fun m y => if y < m then y else m) x = x ∨ l.foldl (fun m y => if y < m then y else m) x ∈ l)
  | [], x => ⟨Int.le_refl _, by simp, .inl rfl⟩
  | z :: l, x => by
    rw [List.foldl_cons]
    have ht : (if z < x then z else x) ≤ x ∧ (if z < x then z else x) ≤ z ∧ ((if z < x then z else x) = x ∨ (if z < x then z else x) = z) := by split <;> omega
    generalize (if z < x then z else x) = t at ht ⊢
    obtain ⟨h1, h2, h3⟩ := minL_foldl l t
    refine ⟨by omega, fun y hy => ?_, ?_⟩
    · rcases List.mem_cons.1 hy with rfl | hy
      · omega
      · exact h2 y hy
    · rcases h3 with h3 | h3
      · rw [h3]
        rcases ht.2.2 with e | e
        · exact .inl e
        · right; rw [e]; simp
      · right; exact List.mem_cons_of_mem _ h3
theorem maxL_foldl : ∀ (l : List Int) (x : Int), x ≤ l.foldl (fun m y => if m < y then y else m) x ∧ (∀ y ∈ l, y ≤ l.foldl (fun m y => if m < y then y else m) x) ∧ (l.foldl (fun m y => if m < y then y else m) x = x ∨ l.foldl (fun m y => if m < y then y else m) x ∈ l)
  | [], x => ⟨Int.le_refl _, by simp, .inl rfl⟩
  | z :: l, x => by
    rw [List.foldl_cons]
    have ht : x ≤ (if x < z then z else x) ∧ z ≤ (if x < z then z else x) ∧ ((if x < z then z else x) = x ∨ (if x < z then z else x) = z) := by split <;> omega
    generalize (if x < z then z else x) = t at ht ⊢
    obtain ⟨h1, h2, h3⟩ := maxL_foldl l t
    refine ⟨by omega, fun y hy => ?_, ?_⟩
    · rcases List.mem_cons.1 hy with rfl | hy
      · omega
      · exact h2 y hy
    · rcases h3 with h3 | h3
      · rw [h3]
        rcases ht.2.2 with e | e
        · exact .inl e
        · right; rw [e]; simp
      · right; exact List.mem_cons_of_mem _ h3
theorem minL_le {l : List Int} {y : Int} (h : y ∈ l) : minL l ≤ y := by
  cases l with
  | nil => cases h
  | cons x l =>
    rcases List.mem_cons.1 h with rfl | h
    · exact (minL_foldl l y).1
    · exact (minL_foldl l x).2.1 y h
theorem le_maxL {l : List Int} {y : Int} (h : y ∈ l) : y ≤ maxL l := by
  cases l with
  | nil => cases h
  | cons x l =>
    rcases List.mem_cons.1 h with rfl | h
    · exact (maxL_foldl l y).1
    · exact (maxL_foldl l x).2.1 y h
theorem minL_mem {l : List Int} (h : l ≠ []) : minL l ∈ l := by
  cases l with
  | nil => exact absurd rfl h
  | cons x l =>
    rcases (minL_foldl l x).2.2 with e | e
    · have e' : minL (x :: l) = x := e
      rw [e']; simp
    · exact List.mem_cons_of_mem _ e
theorem maxL_mem {l : List Int} (h : l ≠ []) : maxL l ∈ l := by
  cases l with
  | nil => exact absurd rfl h
  | cons x l =>
    rcases (maxL_foldl l x).2.2 with e | e
    · have e' : maxL (x :: l) = x := e
      rw [e']; simp
    · exact List.mem_cons_of_mem _ e
theorem made_is {F : Int → Int → Int → Int × Bool} {a b : Fr} {ps : List (Int × Int)} (h : (madeE F a b ps).bad = false) : a.fine = true ∧ b.fine = true ∧ (F a.v b.v 0).2 = true ∧ (∀ p ∈ ps, (F p.1 p.2 1).2 = true ∧ (F p.1 p.2 2).2 = true) ∧
    madeE F a b ps = ⟨(F a.v b.v 0).1, minL (ps.map fun p => (F p.1 p.2 1).1), maxL (ps.map fun p => (F p.1 p.2 2).1), false⟩ := by
  unfold madeE at h ⊢
  split at h
  · rename_i hc
    rw [if_pos hc]
    obtain ⟨h1, h2, h3⟩ := hc
    rw [Bool.and_eq_true] at h1
    refine ⟨h2, h3, h1.1, fun p hp => ?_, rfl⟩
    have := List.all_eq_true.1 h1.2 p hp
    unfold okP at this
    exact Bool.and_eq_true_iff.1 this
  · cases h
theorem told_is {n : Int} {is : Bool} {l : List Int} (h : (toldF n is l).2 = true) : is = true ∧ (toldF n is l).1 = n ∧ rightX n = true := by
  unfold toldF at h ⊢
  split at h
  · rename_i hc
    rw [if_pos hc]
    exact ⟨hc.1, rfl, List.all_eq_true.1 hc.2 n (by simp)⟩
  · cases h
theorem fine_is {x : Fr} : x.fine = true ↔ x.bad = false ∧ rightX x.lo = true ∧ rightX x.hi = true ∧ x.lo ≤ x.v ∧ x.v ≤ x.hi := by
  unfold Fr.fine
  simp only [Bool.and_eq_true, Bool.not_eq_true', decide_eq_true_eq]

/-! ### To enclose -/
def Enc (x : Fr) (v : Rat) : Prop := x.fine = true ∧ (x.lo : Rat) ≤ v * 16777216 ∧ v * 16777216 ≤ (x.hi : Rat)
/-- Of what is made: every bound told is rounded to its side. -/
theorem made_enc {F : Int → Int → Int → Int × Bool} {a b : Fr} {ps : List (Int × Int)} {w : Rat} (h : (madeE F a b ps).bad = false)
    (hr : ∀ x y m, (F x y m).2 = true → rightX (F x y m).1 = true)
    (hlo : ∃ p ∈ ps, ((F p.1 p.2 1).1 : Rat) ≤ w * 16777216) (hhi : ∃ p ∈ ps, w * 16777216 ≤ ((F p.1 p.2 2).1 : Rat))
    (hlv : ∃ p ∈ ps, (F p.1 p.2 1).1 ≤ (F a.v b.v 0).1) (hvh : ∃ p ∈ ps, (F a.v b.v 0).1 ≤ (F p.1 p.2 2).1) : Enc (madeE F a b ps) w := by
  obtain ⟨h1, h2, h3, h4, h5⟩ := made_is h
  rw [h5]
  have hne : ps ≠ [] := fun e => by obtain ⟨p, hp, _⟩ := hlo; rw [e] at hp; cases hp
  have hml := minL_mem (l := ps.map fun p => (F p.1 p.2 1).1) (by simpa using hne)
  have hmh := maxL_mem (l := ps.map fun p => (F p.1 p.2 2).1) (by simpa using hne)
  have lo_le : ∀ p ∈ ps, minL (ps.map fun p => (F p.1 p.2 1).1) ≤ (F p.1 p.2 1).1 := fun p hp => minL_le (List.mem_map.2 ⟨p, hp, rfl⟩)
  have le_hi : ∀ p ∈ ps, (F p.1 p.2 2).1 ≤ maxL (ps.map fun p => (F p.1 p.2 2).1) := fun p hp => le_maxL (List.mem_map.2 ⟨p, hp, rfl⟩)
  refine ⟨fine_is.2 ⟨rfl, ?_, ?_, ?_, ?_⟩, ?_, ?_⟩
  · obtain ⟨p, hp, e⟩ := List.mem_map.1 hml
    show rightX (minL _) = true
    rw [← e]; exact hr _ _ _ (h4 p hp).1
  · obtain ⟨p, hp, e⟩ := List.mem_map.1 hmh
    show rightX (maxL _) = true
    rw [← e]; exact hr _ _ _ (h4 p hp).2
  · obtain ⟨p, hp, e⟩ := hlv
    exact Int.le_trans (lo_le p hp) e
  · obtain ⟨p, hp, e⟩ := hvh
    exact Int.le_trans e (le_hi p hp)
  · obtain ⟨p, hp, e⟩ := hlo
    exact Rat.le_trans (Rat.intCast_le_intCast.2 (lo_le p hp)) e
  · obtain ⟨p, hp, e⟩ := hhi
    exact Rat.le_trans e (Rat.intCast_le_intCast.2 (le_hi p hp))

theorem add_spec {x y : Int} (h : (addX x y).2 = true) : (addX x y).1 = x + y ∧ rightX (x + y) = true := by
  unfold addX at h ⊢
  split at h
  · rename_i hc
    rw [if_pos hc]
    exact (told_is h).2
  · cases h
theorem sub_spec {x y : Int} (h : (subX x y).2 = true) : (subX x y).1 = x - y ∧ rightX (x - y) = true := by
  unfold subX at h ⊢
  split at h
  · rename_i hc
    rw [if_pos hc]
    exact (told_is h).2
  · cases h
theorem addF_enc {a b : Fr} {v w : Rat} (ha : a.bad = false → Enc a v) (hb : b.bad = false → Enc b w) (h : (addF a b).bad = false) : Enc (addF a b) (v + w) := by
  unfold addF at h ⊢
  obtain ⟨h1, h2, h3, h4, h5⟩ := made_is h
  obtain ⟨fa, la, ua⟩ := ha (fine_is.1 h1).1
  obtain ⟨fb, lb, ub⟩ := hb (fine_is.1 h2).1
  have p1 := h4 (a.lo, b.lo) (by simp)
  have p2 := h4 (a.hi, b.hi) (by simp)
  have s1 : (addX a.lo b.lo).1 = a.lo + b.lo := (add_spec p1.1).1
  have s2 : (addX a.hi b.hi).1 = a.hi + b.hi := (add_spec p2.1).1
  have s0 : (addX a.v b.v).1 = a.v + b.v := (add_spec h3).1
  have oa := (fine_is.1 h1).2.2.2
  have ob := (fine_is.1 h2).2.2.2
  refine made_enc h (fun x y m hxy => ?_) ⟨_, List.mem_cons_self .., ?_⟩ ⟨(a.hi, b.hi), by simp, ?_⟩ ⟨(a.lo, b.lo), by simp, ?_⟩ ⟨(a.hi, b.hi), by simp, ?_⟩
  · have := add_spec hxy
    show rightX (addX x y).1 = true
    rw [this.1]; exact this.2
  · show ((addX a.lo b.lo).1 : Rat) ≤ _
    rw [s1, Rat.intCast_add]
    grind
  · show _ ≤ ((addX a.hi b.hi).1 : Rat)
    rw [s2, Rat.intCast_add]
    grind
  · show (addX a.lo b.lo).1 ≤ (addX a.v b.v).1
    omega
  · show (addX a.v b.v).1 ≤ (addX a.hi b.hi).1
    omega
theorem subF_enc {a b : Fr} {v w : Rat} (ha : a.bad = false → Enc a v) (hb : b.bad = false → Enc b w) (h : (subF a b).bad = false) : Enc (subF a b) (v - w) := by
  unfold subF at h ⊢
  obtain ⟨h1, h2, h3, h4, h5⟩ := made_is h
  obtain ⟨fa, la, ua⟩ := ha (fine_is.1 h1).1
  obtain ⟨fb, lb, ub⟩ := hb (fine_is.1 h2).1
  have p1 := h4 (a.lo, b.hi) (by simp)
  have p2 := h4 (a.hi, b.lo) (by simp)
  have s1 : (subX a.lo b.hi).1 = a.lo - b.hi := (sub_spec p1.1).1
  have s2 : (subX a.hi b.lo).1 = a.hi - b.lo := (sub_spec p2.1).1
  have s0 : (subX a.v b.v).1 = a.v - b.v := (sub_spec h3).1
  have oa := (fine_is.1 h1).2.2.2
  have ob := (fine_is.1 h2).2.2.2
  refine made_enc h (fun x y m hxy => ?_) ⟨_, List.mem_cons_self .., ?_⟩ ⟨(a.hi, b.lo), by simp, ?_⟩ ⟨(a.lo, b.hi), by simp, ?_⟩ ⟨(a.hi, b.lo), by simp, ?_⟩
  · have := sub_spec hxy
    show rightX (subX x y).1 = true
    rw [this.1]; exact this.2
  · show ((subX a.lo b.hi).1 : Rat) ≤ _
    rw [s1, Rat.intCast_sub]
    grind
  · show _ ≤ ((subX a.hi b.lo).1 : Rat)
    rw [s2, Rat.intCast_sub]
    grind
  · show (subX a.lo b.hi).1 ≤ (subX a.v b.v).1
    omega
  · show (subX a.v b.v).1 ≤ (subX a.hi b.lo).1
    omega

/-! ### Corners -/
theorem corner_lo {l h m n x y : Rat} (h1 : l ≤ x) (h2 : x ≤ h) (h3 : m ≤ y) (h4 : y ≤ n) : l * m ≤ x * y ∨ l * n ≤ x * y ∨ h * m ≤ x * y ∨ h * n ≤ x * y := by
  rcases Rat.le_total (a := 0) (b := y) with hy | hy
  · have k1 := Rat.mul_nonneg (show 0 ≤ x - l by grind) hy
    rcases Rat.le_total (a := 0) (b := l) with hl | hl
    · have k2 := Rat.mul_nonneg hl (show 0 ≤ y - m by grind)
      left; grind
    · have k2 := Rat.mul_nonneg (show 0 ≤ -l by grind) (show 0 ≤ n - y by grind)
      right; left; grind
  · have k1 := Rat.mul_nonneg (show 0 ≤ h - x by grind) (show 0 ≤ -y by grind)
    rcases Rat.le_total (a := 0) (b := h) with hl | hl
    · have k2 := Rat.mul_nonneg hl (show 0 ≤ y - m by grind)
      right; right; left; grind
    · have k2 := Rat.mul_nonneg (show 0 ≤ -h by grind) (show 0 ≤ n - y by grind)
      right; right; right; grind
theorem corner_hi {l h m n x y : Rat} (h1 : l ≤ x) (h2 : x ≤ h) (h3 : m ≤ y) (h4 : y ≤ n) : x * y ≤ l * m ∨ x * y ≤ l * n ∨ x * y ≤ h * m ∨ x * y ≤ h * n := by
  have := corner_lo (l := -h) (h := -l) (m := m) (n := n) (x := -x) (y := y) (by grind) (by grind) h3 h4
  rcases this with h | h | h | h
  · right; right; left; grind
  · right; right; right; grind
  · left; grind
  · right; left; grind

/-! ### Products and quotients -/
theorem mul_told {x y m : Int} (h : (mulX x y m).2 = true) : (mdF x y 16777216 m).2 = true ∧ (mulX x y m).1 = (mdF x y 16777216 m).1 ∧ rightX (mulX x y m).1 = true := by
  unfold mulX at h ⊢
  obtain ⟨h1, h2, h3⟩ := told_is h
  exact ⟨h1, h2, by rw [h2]; exact h3⟩
theorem mul_spec {x y m : Int} (h : (mulX x y m).2 = true) : (mulX x y m).1 * 16777216 < x * y + 16777216 ∧ x * y < (mulX x y m).1 * 16777216 + 16777216 ∧ (m = 1 → (mulX x y m).1 * 16777216 ≤ x * y) ∧ (m = 2 → x * y ≤ (mulX x y m).1 * 16777216) := by
  obtain ⟨h1, h2, h3⟩ := mul_told h
  obtain ⟨Y, C, hC, hcY, k⟩ := md_spec h1
  have : C = 16777216 ∧ Y = x * y := by
    rcases hcY with ⟨e1, e2⟩ | ⟨e1, e2⟩
    · exact ⟨e1.symm, e2⟩
    · omega
  rw [this.1, this.2] at k
  rw [h2]
  exact k
theorem corner_loI {l h m n x y : Int} (h1 : l ≤ x) (h2 : x ≤ h) (h3 : m ≤ y) (h4 : y ≤ n) : l * m ≤ x * y ∨ l * n ≤ x * y ∨ h * m ≤ x * y ∨ h * n ≤ x * y := by
  have := corner_lo (Rat.intCast_le_intCast.2 h1) (Rat.intCast_le_intCast.2 h2) (Rat.intCast_le_intCast.2 h3) (Rat.intCast_le_intCast.2 h4)
  simpa only [← Rat.intCast_mul, Rat.intCast_le_intCast] using this
theorem corner_hiI {l h m n x y : Int} (h1 : l ≤ x) (h2 : x ≤ h) (h3 : m ≤ y) (h4 : y ≤ n) : x * y ≤ l * m ∨ x * y ≤ l * n ∨ x * y ≤ h * m ∨ x * y ≤ h * n := by
  have := corner_hi (Rat.intCast_le_intCast.2 h1) (Rat.intCast_le_intCast.2 h2) (Rat.intCast_le_intCast.2 h3) (Rat.intCast_le_intCast.2 h4)
  simpa only [← Rat.intCast_mul, Rat.intCast_le_intCast] using this
theorem mulF_enc {a b : Fr} {v w : Rat} (ha : a.bad = false → Enc a v) (hb : b.bad = false → Enc b w) (h : (mulF a b).bad = false) : Enc (mulF a b) (v * w) := by
  unfold mulF at h ⊢
  obtain ⟨h1, h2, h3, h4, h5⟩ := made_is h
  obtain ⟨fa, la, ua⟩ := ha (fine_is.1 h1).1
  obtain ⟨fb, lb, ub⟩ := hb (fine_is.1 h2).1
  have oa := (fine_is.1 h1).2.2.2
  have ob := (fine_is.1 h2).2.2.2
  have s0 := mul_spec h3
  have lo : ∀ p ∈ allP a b, ((p.1 * p.2 : Int) : Rat) ≤ (v * 16777216) * (w * 16777216) → ((mulX p.1 p.2 1).1 : Rat) ≤ v * w * 16777216 := fun p hp hle => by
    have k := (mul_spec (h4 p hp).1).2.2.1 rfl
    have k' : ((mulX p.1 p.2 1).1 : Rat) * 16777216 ≤ ((p.1 * p.2 : Int) : Rat) := by
      have := Rat.intCast_le_intCast.2 k
      rw [Rat.intCast_mul] at this
      exact this
    grind
  have hi : ∀ p ∈ allP a b, (v * 16777216) * (w * 16777216) ≤ ((p.1 * p.2 : Int) : Rat) → v * w * 16777216 ≤ ((mulX p.1 p.2 2).1 : Rat) := fun p hp hle => by
    have k := (mul_spec (h4 p hp).2).2.2.2 rfl
    have k' : ((p.1 * p.2 : Int) : Rat) ≤ ((mulX p.1 p.2 2).1 : Rat) * 16777216 := by
      have := Rat.intCast_le_intCast.2 k
      rw [Rat.intCast_mul (mulX p.1 p.2 2).1 16777216] at this
      exact this
    grind
  have lv : ∀ p ∈ allP a b, p.1 * p.2 ≤ a.v * b.v → (mulX p.1 p.2 1).1 ≤ (mulX a.v b.v 0).1 := fun p hp hle => by
    have k := (mul_spec (h4 p hp).1).2.2.1 rfl
    omega
  have vh : ∀ p ∈ allP a b, a.v * b.v ≤ p.1 * p.2 → (mulX a.v b.v 0).1 ≤ (mulX p.1 p.2 2).1 := fun p hp hle => by
    have k := (mul_spec (h4 p hp).2).2.2.2 rfl
    omega
  have m1 : (a.lo, b.lo) ∈ allP a b := by simp [allP]
  have m2 : (a.lo, b.hi) ∈ allP a b := by simp [allP]
  have m3 : (a.hi, b.lo) ∈ allP a b := by simp [allP]
  have m4 : (a.hi, b.hi) ∈ allP a b := by simp [allP]
  refine made_enc h (fun x y m hxy => (mul_told hxy).2.2) ?_ ?_ ?_ ?_
  · have := corner_lo la ua lb ub
    simp only [← Rat.intCast_mul] at this
    rcases this with k | k | k | k
    · exact ⟨_, m1, lo _ m1 k⟩
    · exact ⟨_, m2, lo _ m2 k⟩
    · exact ⟨_, m3, lo _ m3 k⟩
    · exact ⟨_, m4, lo _ m4 k⟩
  · have := corner_hi la ua lb ub
    simp only [← Rat.intCast_mul] at this
    rcases this with k | k | k | k
    · exact ⟨_, m1, hi _ m1 k⟩
    · exact ⟨_, m2, hi _ m2 k⟩
    · exact ⟨_, m3, hi _ m3 k⟩
    · exact ⟨_, m4, hi _ m4 k⟩
  · rcases corner_loI oa.1 oa.2 ob.1 ob.2 with k | k | k | k
    · exact ⟨_, m1, lv _ m1 k⟩
    · exact ⟨_, m2, lv _ m2 k⟩
    · exact ⟨_, m3, lv _ m3 k⟩
    · exact ⟨_, m4, lv _ m4 k⟩
  · rcases corner_hiI oa.1 oa.2 ob.1 ob.2 with k | k | k | k
    · exact ⟨_, m1, vh _ m1 k⟩
    · exact ⟨_, m2, vh _ m2 k⟩
    · exact ⟨_, m3, vh _ m3 k⟩
    · exact ⟨_, m4, vh _ m4 k⟩

theorem inv_nn {y : Rat} (h : 0 < y) : 0 ≤ y⁻¹ := Rat.le_of_lt (Rat.inv_pos.2 h)
theorem inv_mono {m y : Rat} (h : 0 < m) (hy : m ≤ y) : y⁻¹ ≤ m⁻¹ := by
  have h1 : m * m⁻¹ = 1 := Rat.mul_inv_cancel m (by grind)
  have h2 : y * y⁻¹ = 1 := Rat.mul_inv_cancel y (by grind)
  have k := Rat.mul_nonneg (show 0 ≤ y - m by grind) (Rat.mul_nonneg (inv_nn h) (inv_nn (show 0 < y by grind)))
  have e : (y - m) * (m⁻¹ * y⁻¹) = m⁻¹ - y⁻¹ := by grind
  grind
theorem inv_neg' (y : Rat) : (-y)⁻¹ = -y⁻¹ := by
  by_cases h : y = 0
  · subst h
    simp
  · have h1 : y * y⁻¹ = 1 := Rat.mul_inv_cancel y h
    have h2 : (-y) * (-y)⁻¹ = 1 := Rat.mul_inv_cancel (-y) (by grind)
    grind
theorem inv_mono_neg {n y : Rat} (h : n < 0) (hy : y ≤ n) : n⁻¹ ≤ y⁻¹ := by
  have := inv_mono (m := -n) (y := -y) (by grind) (by grind)
  rw [inv_neg', inv_neg'] at this
  grind
theorem inv_between {m n y : Rat} (h1 : m ≤ y) (h2 : y ≤ n) (h : 0 < m ∨ n < 0) : n⁻¹ ≤ y⁻¹ ∧ y⁻¹ ≤ m⁻¹ := by
  rcases h with h | h
  · exact ⟨inv_mono (by grind) h2, inv_mono h h1⟩
  · exact ⟨inv_mono_neg h h2, inv_mono_neg (by grind) h1⟩
theorem div_told {x y m : Int} (h : (divX x y m).2 = true) : (mdF x 16777216 y m).2 = true ∧ (divX x y m).1 = (mdF x 16777216 y m).1 ∧ rightX (divX x y m).1 = true := by
  unfold divX at h ⊢
  obtain ⟨h1, h2, h3⟩ := told_is h
  exact ⟨h1, h2, by rw [h2]; exact h3⟩
theorem div_spec {s t m : Int} (h : (divX s t m).2 = true) : t ≠ 0 ∧ ((divX s t m).1 : Rat) < (s : Rat) * (t : Rat)⁻¹ * 16777216 + 1 ∧ (s : Rat) * (t : Rat)⁻¹ * 16777216 < ((divX s t m).1 : Rat) + 1 ∧
    (m = 1 → ((divX s t m).1 : Rat) ≤ (s : Rat) * (t : Rat)⁻¹ * 16777216) ∧ (m = 2 → (s : Rat) * (t : Rat)⁻¹ * 16777216 ≤ ((divX s t m).1 : Rat)) := by
  obtain ⟨h1, h2, _⟩ := div_told h
  obtain ⟨Y, C, hC, hcY, k1, k2, k3, k4⟩ := md_spec h1
  rw [← h2] at k1 k2 k3 k4
  generalize (divX s t m).1 = q at *
  have ht : t ≠ 0 := by omega
  have hC' : (0 : Rat) < (C : Rat) := by
    have := Rat.intCast_lt_intCast.2 hC
    simpa using this
  have hCi := inv_nn hC'
  have hCC : (C : Rat) * (C : Rat)⁻¹ = 1 := Rat.mul_inv_cancel _ (by grind)
  have hz : (s : Rat) * (t : Rat)⁻¹ * 16777216 = (Y : Rat) * (C : Rat)⁻¹ := by
    rcases hcY with ⟨e1, e2⟩ | ⟨e1, e2⟩
    · rw [e1, e2, Rat.intCast_mul]
      grind
    · rw [e1, e2, Rat.intCast_neg, Rat.intCast_neg, Rat.intCast_mul, inv_neg']
      grind
  rw [hz]
  have r1 := Rat.intCast_lt_intCast.2 k1
  have r2 := Rat.intCast_lt_intCast.2 k2
  rw [Rat.intCast_mul, Rat.intCast_add] at r1
  rw [Rat.intCast_add, Rat.intCast_mul] at r2
  have hCp : 0 < (C : Rat)⁻¹ := Rat.inv_pos.2 hC'
  have r3 : m = 1 → (q : Rat) * C ≤ Y := fun h => by
    have k := Rat.intCast_le_intCast.2 (k3 h)
    rwa [Rat.intCast_mul] at k
  have r4 : m = 2 → (Y : Rat) ≤ q * C := fun h => by
    have k := Rat.intCast_le_intCast.2 (k4 h)
    rwa [Rat.intCast_mul] at k
  clear hz k1 k2 k3 k4 hcY h1 h2 h
  generalize (C : Rat)⁻¹ = i at *
  generalize (C : Rat) = c at *
  generalize (Y : Rat) = y at *
  generalize (q : Rat) = Q at *
  clear hC
  refine ⟨ht, ?_, ?_, fun h => ?_, fun h => ?_⟩
  · have := Rat.mul_pos (show 0 < y + c - Q * c by grind) hCp
    have e : (y + c - Q * c) * i = y * i + c * i - Q * (c * i) := by grind
    rw [e, hCC] at this
    grind
  · have := Rat.mul_pos (show 0 < Q * c + c - y by grind) hCp
    have e : (Q * c + c - y) * i = Q * (c * i) + c * i - y * i := by grind
    rw [e, hCC] at this
    grind
  · have := Rat.mul_nonneg (show 0 ≤ y - Q * c by have := r3 h; grind) hCi
    have e : (y - Q * c) * i = y * i - Q * (c * i) := by grind
    rw [e, hCC] at this
    grind
  · have := Rat.mul_nonneg (show 0 ≤ Q * c - y by have := r4 h; grind) hCi
    have e : (Q * c - y) * i = Q * (c * i) - y * i := by grind
    rw [e, hCC] at this
    grind

theorem divF_enc {a b : Fr} {v w : Rat} (ha : a.bad = false → Enc a v) (hb : b.bad = false → Enc b w) (h : (divF a b).bad = false) : Enc (divF a b) (v / w) := by
  unfold divF at h ⊢
  split at h
  · cases h
  · rename_i h0
    rw [if_neg h0]
    obtain ⟨h1, h2, h3, h4, h5⟩ := made_is h
    obtain ⟨fa, la, ua⟩ := ha (fine_is.1 h1).1
    obtain ⟨fb, lb, ub⟩ := hb (fine_is.1 h2).1
    have oa := (fine_is.1 h1).2.2.2
    have ob := (fine_is.1 h2).2.2.2
    have hs : (0 : Rat) < (b.lo : Rat) ∨ (b.hi : Rat) < 0 := by
      by_cases hl : b.lo ≤ 0
      · right
        have : b.hi < 0 := by omega
        have := Rat.intCast_lt_intCast.2 this
        simpa using this
      · left
        have : 0 < b.lo := by omega
        have := Rat.intCast_lt_intCast.2 this
        simpa using this
    obtain ⟨n1, n2⟩ := inv_between lb ub hs
    obtain ⟨n3, n4⟩ := inv_between (Rat.intCast_le_intCast.2 ob.1) (Rat.intCast_le_intCast.2 ob.2) hs
    have hw : w ≠ 0 := fun e => by subst e; rcases hs with k | k <;> grind
    have hz : v / w * 16777216 = (v * 16777216) * (w * 16777216)⁻¹ * 16777216 := by
      have h1 : w * w⁻¹ = 1 := Rat.mul_inv_cancel w hw
      have h2 : (w * 16777216) * (w * 16777216)⁻¹ = 1 := Rat.mul_inv_cancel _ (by grind)
      rw [Rat.div_def]
      grind
    have s0 := div_spec h3
    have lo : ∀ p ∈ allP a b, (p.1 : Rat) * (p.2 : Rat)⁻¹ ≤ (v * 16777216) * (w * 16777216)⁻¹ → ((divX p.1 p.2 1).1 : Rat) ≤ v / w * 16777216 := fun p hp hle => by
      have k := (div_spec (h4 p hp).1).2.2.2.1 rfl
      rw [hz]
      grind
    have hi : ∀ p ∈ allP a b, (v * 16777216) * (w * 16777216)⁻¹ ≤ (p.1 : Rat) * (p.2 : Rat)⁻¹ → v / w * 16777216 ≤ ((divX p.1 p.2 2).1 : Rat) := fun p hp hle => by
      have k := (div_spec (h4 p hp).2).2.2.2.2 rfl
      rw [hz]
      grind
    have lv : ∀ p ∈ allP a b, (p.1 : Rat) * (p.2 : Rat)⁻¹ ≤ (a.v : Rat) * (b.v : Rat)⁻¹ → (divX p.1 p.2 1).1 ≤ (divX a.v b.v 0).1 := fun p hp hle => by
      have k := (div_spec (h4 p hp).1).2.2.2.1 rfl
      have k2 := s0.2.2.1
      have : ((divX p.1 p.2 1).1 : Rat) < (((divX a.v b.v 0).1 + 1 : Int) : Rat) := by
        rw [Rat.intCast_add]
        grind
      have := Rat.intCast_lt_intCast.1 this
      omega
    have vh : ∀ p ∈ allP a b, (a.v : Rat) * (b.v : Rat)⁻¹ ≤ (p.1 : Rat) * (p.2 : Rat)⁻¹ → (divX a.v b.v 0).1 ≤ (divX p.1 p.2 2).1 := fun p hp hle => by
      have k := (div_spec (h4 p hp).2).2.2.2.2 rfl
      have k2 := s0.2.1
      have : ((divX a.v b.v 0).1 : Rat) < (((divX p.1 p.2 2).1 + 1 : Int) : Rat) := by
        rw [Rat.intCast_add]
        grind
      have := Rat.intCast_lt_intCast.1 this
      omega
    have m1 : (a.lo, b.lo) ∈ allP a b := by simp [allP]
    have m2 : (a.lo, b.hi) ∈ allP a b := by simp [allP]
    have m3 : (a.hi, b.lo) ∈ allP a b := by simp [allP]
    have m4 : (a.hi, b.hi) ∈ allP a b := by simp [allP]
    refine made_enc h (fun x y m hxy => (div_told hxy).2.2) ?_ ?_ ?_ ?_
    · rcases corner_lo la ua n1 n2 with k | k | k | k
      · exact ⟨_, m2, lo _ m2 k⟩
      · exact ⟨_, m1, lo _ m1 k⟩
      · exact ⟨_, m4, lo _ m4 k⟩
      · exact ⟨_, m3, lo _ m3 k⟩
    · rcases corner_hi la ua n1 n2 with k | k | k | k
      · exact ⟨_, m2, hi _ m2 k⟩
      · exact ⟨_, m1, hi _ m1 k⟩
      · exact ⟨_, m4, hi _ m4 k⟩
      · exact ⟨_, m3, hi _ m3 k⟩
    · rcases corner_lo (Rat.intCast_le_intCast.2 oa.1) (Rat.intCast_le_intCast.2 oa.2) n3 n4 with k | k | k | k
      · exact ⟨_, m2, lv _ m2 k⟩
      · exact ⟨_, m1, lv _ m1 k⟩
      · exact ⟨_, m4, lv _ m4 k⟩
      · exact ⟨_, m3, lv _ m3 k⟩
    · rcases corner_hi (Rat.intCast_le_intCast.2 oa.1) (Rat.intCast_le_intCast.2 oa.2) n3 n4 with k | k | k | k
      · exact ⟨_, m2, vh _ m2 k⟩
      · exact ⟨_, m1, vh _ m1 k⟩
      · exact ⟨_, m4, vh _ m4 k⟩
      · exact ⟨_, m3, vh _ m3 k⟩
theorem whole_enc {n : Int} (h : few n) : Enc (newF n 1) (n : Rat) := by
  rw [newF_whole h]
  refine ⟨fine_whole h, ?_, ?_⟩
  · show ((n * 16777216 : Int) : Rat) ≤ _
    rw [Rat.intCast_mul]
    exact Rat.le_refl
  · show _ ≤ ((n * 16777216 : Int) : Rat)
    rw [Rat.intCast_mul]
    exact Rat.le_refl
end Go.Proofs.YtbflmeomkfjikaaGreat.A.E

set_option linter.unusedVariables false
set_option linter.unusedSimpArgs false
set_option maxRecDepth 100000
namespace Go.Proofs.YtbflmeomkfjikaaGreat.A
open Go Go.RowKit Go.Shelf

theorem Cs.mat_nil' {I : Imm} {xs ys : List PV} {vs : List Value} {ex : Bool} (h : Cs I (matNil :: xs) vs) (k : ∀ us, Cs I xs us → Cs I ys us) : Cs I (matV ex 0 0 (frs []) :: ys) vs := by
  have key : ∀ us, Cs I [num 0, num 0, .s (.slice none 0 0)] us → Cs I [num 0, num 0, .sl ex []] us := fun us h => Cs.keep h fun us h => Cs.keep h fun us h => Cs.nil_of h fun us h => h
  cases h with | cons h1 h2 => cases h1 with | agg hl => exact .cons (.agg (key _ hl)) (k _ h2)
theorem ok100_nil : Ok Tryz.prog 100 [matNil] (tru false) := (ok100 false 0 0 (frs [])).args fun I vs h => Cs.mat_nil h fun us h => h
theorem ok151_nil (i : Int) : Ok Tryz.prog 151 [matNil, num i] (.sl false []) := by
  have := (ok151 false 0 0 i []).args fun I vs h => Cs.mat_nil h fun us h => h
  have e : rowF 0 0 [] i = [] := if_neg (fun h => by simp [right] at h)
  rw [e] at this
  exact this

def colF (r c : Int) (l : List Fr) (k : Int) : List Fr := if right r c l.length = true then rowF c r (turnF r c l) k else []
theorem rowF_out {r c i : Int} {l : List Fr} (h : i < 0 ∨ r ≤ i) : rowF r c l i = [] := if_neg (fun h' => by omega)
theorem atF_out {r c i k : Int} {l : List Fr} (h : i < 0 ∨ r ≤ i ∨ k < 0 ∨ c ≤ k) : atF r c l i k = ⟨0, 0, false⟩ := if_neg (fun h' => by omega)

theorem eq_zero : cellsEq [some .i64, some .i64, none] [num 0, num 0, tru false] [num 0, num 0, tru false] = some true := rfl
theorem len_zero {l : List Fr} (h : l = []) : (((frs l).length : Int) == 0) = true := by simp [h]
theorem colF_eq {r c : Int} {l : List Fr} (h : right r c l.length = true) {k : Nat} (hk : k < c.toNat) : colF r c l k = (List.range r.toNat).map fun (j : Nat) => atF r c l (j : Int) (k : Int) := by
  unfold colF
  rw [if_pos h, rowF_eq ⟨0, 0, false⟩ (right_turn h) hk]
  apply List.map_congr_left
  intro j hj
  rw [List.mem_range] at hj
  rw [turnF_eq h, List.getD_eq_getElem?_getD, gridP_get _ _ _ _ _ hk hj, Option.getD_some]

end Go.Proofs.YtbflmeomkfjikaaGreat.A

set_option linter.unusedVariables false
set_option linter.unusedSimpArgs false
set_option maxRecDepth 100000
namespace Go.Proofs.YtbflmeomkfjikaaGreat.A
open Go Go.RowKit Go.Shelf

/-- A matrix applied to a row. -/
def applyF (r c : Int) (l v : List Fr) : List Fr := (allF r c l).map (dotF · v)

theorem ok41 (ex ev : Bool) (r c : Int) (l v : List Fr) (hv : v.length ≤ 5864062014805) : Ok Tryz.prog 41 [matV ex r c (frs l), .sl ev (frs v)]
    (if right r c l.length = true ∧ (v.length : Int) = c then .tup [.sl false (frs (applyF r c l v)), tru true] else .tup [.sl false [], tru false]) := by
  refine ok_fn mixed Tryz.func41 (code := ?_) (h := h41) ?_ k41 ?_
  rotate_left
  · exact rfl
  unfold h41 initS
  simp -implicitDefEqProofs only [rkA, rkB, stepA, valA, simprocAttr, Tryz.ntmps41, Tryz.results41]
  refine call_fn rfl rfl rfl (ok100 ex r c (frs l)) ?_
  have e : (frs l).length = l.length := by simp
  have ev' : (frs v).length = v.length := by simp
  rw [e]
  cases hr : right r c l.length with
  | false => simp -implicitDefEqProofs only [rkA, rkB, stepA, valA, simprocAttr]
  | true =>
    obtain ⟨r1, r2, c1, c2, hn⟩ := right_spec hr
    simp -implicitDefEqProofs only [ev', rkA, rkB, stepA, valA, simprocAttr]
    refine gB_bool ?_ ?_ <;> intro hb
    · have hm : ¬ (v.length : Int) = c := by simpa using hb
      simp -implicitDefEqProofs only [hm, rkA, rkB, stepA, valA, simprocAttr]
    · have hm : (v.length : Int) = c := by simpa using hb
      clear hb
      simp -implicitDefEqProofs only [hm, rkA, rkB, stepA, valA, simprocAttr]
      refine call_fn rfl rfl rfl (ok98 ex r c l) ?_
      simp -implicitDefEqProofs only [rkA, rkB, stepA, valA, simprocAttr]
      have hal : (applyF r c l v).length = r.toNat := by simp [applyF, allF]
      have hll : l.length ≤ 256 := by
        have : r * c ≤ 16 * 16 := Int.mul_le_mul r2 c2 (by omega) (by omega)
        omega
      refine wp_rf' (items := rowsF r c l) rfl (it150 ex r c l) (fun sv i s => i ≤ r.toNat ∧ s = ⟨[], [(2, [nt r, nt c, .v (.sl ex (frs l))]), (3, [.v (.sl ev (frs v))]), (6, [.acc 1006 (frs ((applyF r c l v).take i))])], [], [(4, 0), (1006, i)], sv, 0, nomem⟩) ?_ ?_ ?_
      · simp -implicitDefEqProofs only [rkA, rkB, stepA, valA, simprocAttr]
        exact Nat.zero_le _
      · rintro i x' s' R hx ⟨hi, rfl⟩ hR
        obtain ⟨hlt, rfl, hxi⟩ := rowsF_all hr hx
        refine ⟨rfl, ?_⟩
        simp -implicitDefEqProofs only [rkA, rkB, stepA, valA, simprocAttr]
        have hra := rowF_length (r := r) (c := c) (l := l) i
        refine call_fn rfl rfl rfl (ok76 false ev (rowF r c l i) v (by omega) hv) ?_
        have hfit : fits 3 24 (frs ((applyF r c l v).take i)) [frV (dotF (rowF r c l i) v)] = true := fits_frs (l := [dotF (rowF r c l i) v]) (by simp only [List.length_cons, List.length_nil, List.length_take]; omega)
        have hl : (frs ((applyF r c l v).take i)).length = i := by simp; omega
        simp -implicitDefEqProofs only [hfit, hl, rkA, rkB, stepA, valA, simprocAttr]
        refine hR _ ⟨by omega, ?_⟩
        have hai : (applyF r c l v)[i]'(by omega) = dotF (rowF r c l i) v := by simp [applyF, allF]
        rw [List.take_succ_eq_append_getElem (by omega), hai]
        simp only [frs, List.map_append, List.map_cons, List.map_nil]
      · rintro s' ⟨hi, rfl⟩
        simp -implicitDefEqProofs only [rkA, rkB, stepA, valA, simprocAttr]
        rw [rowsF_length hr, List.take_of_length_le (by omega)]

theorem applyF_get {r c : Int} {l v : List Fr} {i : Nat} (hi : i < r.toNat) : (frs (applyF r c l v))[i]? = some (frV (dotF (rowF r c l i) v)) := by
  simp [applyF, allF, hi]
theorem turn_col {c : Int} {v : List Fr} (h : right c 1 v.length = true) : rowF 1 c (turnF c 1 v) 0 = v := by
  obtain ⟨c1, c2, _, _, hn⟩ := right_spec h
  have h0 := rowF_eq ⟨0, 0, false⟩ (right_turn h) (i := 0) (by simp)
  simp only [Int.natCast_zero] at h0
  have e : ((0 : Nat) : Int) = 0 := rfl
  rw [h0, turnF_eq h]
  apply List.ext_getElem?
  intro j
  by_cases hj : j < c.toNat
  · rw [List.getElem?_map, List.getElem?_range hj, Option.map_some]
    have hg := gridP_get (fun k i => atF c 1 v (i : Int) (k : Int)) c.toNat (1 : Int).toNat 0 j (by simp) hj
    have hv := atF_eq h (i := j) (k := 0) hj (by simp)
    have hlt : j < v.length := by omega
    rw [List.getD_eq_getElem?_getD, hg, Option.getD_some, hv]
    simp [hlt]
  · rw [List.getElem?_eq_none (by simp; omega), List.getElem?_eq_none (by omega)]
theorem prod_col {r c : Int} {l v : List Fr} (h : right r c l.length = true) (hv : right c 1 v.length = true) (hz : right r 1 (prodF r c 1 l v).length = true) {i : Nat} (hi : i < r.toNat) : atF r 1 (prodF r c 1 l v) i 0 = dotF (rowF r c l i) v := by
  have e : prodF r c 1 l v = gridP (fun i k => dotF (rowF r c l (i : Int)) (rowF 1 c (turnF c 1 v) (k : Int))) (1 : Int).toNat r.toNat 0 := by
    rw [gridP_zero]
    unfold prodF allF
    rw [List.flatMap_map]
    simp
  have ha := atF_eq hz (i := i) (k := 0) hi (by simp)
  have hg := gridP_get (fun i k => dotF (rowF r c l (i : Int)) (rowF 1 c (turnF c 1 v) (k : Int))) (1 : Int).toNat r.toNat i 0 hi (by simp)
  simp only [Int.natCast_zero] at ha hg
  rw [ha, e, List.getD_eq_getElem?_getD, hg, Option.getD_some, turn_col hv]
theorem prodF_length {r m c : Int} {a b : List Fr} : (prodF r m c a b).length = r.toNat * c.toNat := by
  unfold prodF
  have : prodF r m c a b = prodP dotF (allF r m a) (allF c m (turnF m c b)) (allF r m a).length 0 := by
    rw [prodP_zero, List.take_length]
    rfl
  unfold allF
  simp only [List.length_flatMap, List.length_map, List.length_range, List.map_map]
  have e : ∀ l : List Nat, (l.map ((fun _ => c.toNat) ∘ fun (i : Nat) => rowF r m a (i : Int))).sum = l.length * c.toNat := fun l => by
    induction l with
    | nil => simp
    | cons x l ih => rw [List.map_cons, List.sum_cons, ih, List.length_cons, Nat.add_mul, Nat.one_mul, Nat.add_comm]; rfl
  rw [e, List.length_range]

end Go.Proofs.YtbflmeomkfjikaaGreat.A

set_option linter.unusedVariables false
set_option linter.unusedSimpArgs false
set_option maxRecDepth 100000
namespace Go.Proofs.YtbflmeomkfjikaaGreat.A.E
open Go Go.RowKit Go.Shelf

/-- A matrix applied to a row. -/
def applyF (r c : Int) (l v : List Fr) : List Fr := (allF r c l).map (dotF · v)

theorem ok165 (ex ev : Bool) (r c : Int) (l v : List Fr) (hv : v.length ≤ 4398046511104) : Ok Tryz.prog 165 [matV ex r c (frs l), .sl ev (frs v)]
    (if right r c l.length = true ∧ (v.length : Int) = c then .tup [.sl false (frs (applyF r c l v)), tru true] else .tup [.sl false [], tru false]) := by
  refine ok_fn mixed Tryz.func165 (code := ?_) (h := h165) ?_ k165 ?_
  rotate_left
  · exact rfl
  unfold h165 initS
  simp -implicitDefEqProofs only [rkA, rkB, stepA, valA, simprocAttr, Tryz.ntmps165, Tryz.results165]
  refine call_fn rfl rfl rfl (ok88 ex r c (frs l)) ?_
  have e : (frs l).length = l.length := by simp
  have ev' : (frs v).length = v.length := by simp
  rw [e]
  cases hr : right r c l.length with
  | false => simp -implicitDefEqProofs only [rkA, rkB, stepA, valA, simprocAttr]
  | true =>
    obtain ⟨r1, r2, c1, c2, hn⟩ := right_spec hr
    simp -implicitDefEqProofs only [ev', rkA, rkB, stepA, valA, simprocAttr]
    refine gB_bool ?_ ?_ <;> intro hb
    · have hm : ¬ (v.length : Int) = c := by simpa using hb
      simp -implicitDefEqProofs only [hm, rkA, rkB, stepA, valA, simprocAttr]
    · have hm : (v.length : Int) = c := by simpa using hb
      clear hb
      simp -implicitDefEqProofs only [hm, rkA, rkB, stepA, valA, simprocAttr]
      refine call_fn rfl rfl rfl (ok90 ex r c l) ?_
      simp -implicitDefEqProofs only [rkA, rkB, stepA, valA, simprocAttr]
      have hal : (applyF r c l v).length = r.toNat := by simp [applyF, allF]
      have hll : l.length ≤ 256 := by
        have : r * c ≤ 16 * 16 := Int.mul_le_mul r2 c2 (by omega) (by omega)
        omega
      refine wp_rf' (items := rowsF r c l) rfl (it142 ex r c l) (fun sv i s => i ≤ r.toNat ∧ s = ⟨[], [(2, [nt r, nt c, .v (.sl ex (frs l))]), (3, [.v (.sl ev (frs v))]), (6, [.acc 1006 (frs ((applyF r c l v).take i))])], [], [(4, 0), (1006, i)], sv, 0, nomem⟩) ?_ ?_ ?_
      · simp -implicitDefEqProofs only [rkA, rkB, stepA, valA, simprocAttr]
        exact Nat.zero_le _
      · rintro i x' s' R hx ⟨hi, rfl⟩ hR
        obtain ⟨hlt, rfl, hxi⟩ := rowsF_all hr hx
        refine ⟨rfl, ?_⟩
        simp -implicitDefEqProofs only [rkA, rkB, stepA, valA, simprocAttr]
        have hra := rowF_length (r := r) (c := c) (l := l) i
        refine call_fn rfl rfl rfl (ok81 false ev (rowF r c l i) v (by omega) hv) ?_
        have hfit : fits 4 32 (frs ((applyF r c l v).take i)) [frV (dotF (rowF r c l i) v)] = true := fits_frs (l := [dotF (rowF r c l i) v]) (by simp only [List.length_cons, List.length_nil, List.length_take]; omega)
        have hl : (frs ((applyF r c l v).take i)).length = i := by simp; omega
        simp -implicitDefEqProofs only [hfit, hl, rkA, rkB, stepA, valA, simprocAttr]
        refine hR _ ⟨by omega, ?_⟩
        have hai : (applyF r c l v)[i]'(by omega) = dotF (rowF r c l i) v := by simp [applyF, allF]
        rw [List.take_succ_eq_append_getElem (by omega), hai]
        simp only [frs, List.map_append, List.map_cons, List.map_nil]
      · rintro s' ⟨hi, rfl⟩
        simp -implicitDefEqProofs only [rkA, rkB, stepA, valA, simprocAttr]
        rw [rowsF_length hr, List.take_of_length_le (by omega)]

theorem applyF_get {r c : Int} {l v : List Fr} {i : Nat} (hi : i < r.toNat) : (frs (applyF r c l v))[i]? = some (frV (dotF (rowF r c l i) v)) := by
  simp [applyF, allF, hi]
theorem turn_col {c : Int} {v : List Fr} (h : right c 1 v.length = true) : rowF 1 c (turnF c 1 v) 0 = v := by
  obtain ⟨c1, c2, _, _, hn⟩ := right_spec h
  have h0 := rowF_eq ⟨0, 0, 0, false⟩ (right_turn h) (i := 0) (by simp)
  simp only [Int.natCast_zero] at h0
  have e : ((0 : Nat) : Int) = 0 := rfl
  rw [h0, turnF_eq h]
  apply List.ext_getElem?
  intro j
  by_cases hj : j < c.toNat
  · rw [List.getElem?_map, List.getElem?_range hj, Option.map_some]
    have hg := gridP_get (fun k i => atF c 1 v (i : Int) (k : Int)) c.toNat (1 : Int).toNat 0 j (by simp) hj
    have hv := atF_eq h (i := j) (k := 0) hj (by simp)
    have hlt : j < v.length := by omega
    rw [List.getD_eq_getElem?_getD, hg, Option.getD_some, hv]
    simp [hlt]
  · rw [List.getElem?_eq_none (by simp; omega), List.getElem?_eq_none (by omega)]
end Go.Proofs.YtbflmeomkfjikaaGreat.A.E

set_option linter.unusedVariables false
set_option linter.unusedSimpArgs false
set_option maxRecDepth 100000
namespace Go.Proofs.YtbflmeomkfjikaaGreat.A
open Go Go.RowKit Go.Shelf

theorem methSub : Meth Tryz.prog 32 "Sub" 218 := by
  intro v xs w
  rfl

theorem ok161 (a b : Fr) : Ok Tryz.prog 161 [frV a, frV b] (frV (addF a b)) := by
  refine ok_fn mixed Tryz.func161 (code := ?_) (h := h161) ?_ k161 ?_
  rotate_left
  · exact rfl
  unfold h161 initS
  simp -implicitDefEqProofs only [rkA, rkB, stepA, valA, simprocAttr, Tryz.ntmps161, Tryz.results161]
  refine call_meth rfl rfl methAdd (ok210 a b) ?_
  simp -implicitDefEqProofs only [rkA, rkB, stepA, valA, simprocAttr]
theorem ok180 (a b : Fr) : Ok Tryz.prog 180 [frV a, frV b] (frV (subF a b)) := by
  refine ok_fn mixed Tryz.func180 (code := ?_) (h := h180) ?_ k180 ?_
  rotate_left
  · exact rfl
  unfold h180 initS
  simp -implicitDefEqProofs only [rkA, rkB, stepA, valA, simprocAttr, Tryz.ntmps180, Tryz.results180]
  refine call_meth rfl rfl methSub (ok218 a b) ?_
  simp -implicitDefEqProofs only [rkA, rkB, stepA, valA, simprocAttr]
theorem ok122 (ea eb : Bool) (a b : List Fr) (ha : a.length ≤ 5864062014805) (hb : b.length ≤ 5864062014805) : Ok Tryz.prog 122 [.sl ea (frs a), .sl eb (frs b)] (.sl false (frs (List.zipWith addF a b))) := by
  refine ok_fn mixed Tryz.func122 (code := ?_) (h := h122) ?_ k122 ?_
  rotate_left
  · exact rfl
  unfold h122 initS
  simp -implicitDefEqProofs only [rkA, rkB, stepA, valA, simprocAttr, Tryz.ntmps122, Tryz.results122]
  refine call_fn rfl rfl rfl (ok130 161 addF ok161 ea eb a b ha hb) ?_
  simp -implicitDefEqProofs only [rkA, rkB, stepA, valA, simprocAttr]
theorem ok163 (ea eb : Bool) (a b : List Fr) (ha : a.length ≤ 5864062014805) (hb : b.length ≤ 5864062014805) : Ok Tryz.prog 163 [.sl ea (frs a), .sl eb (frs b)] (.sl false (frs (List.zipWith subF a b))) := by
  refine ok_fn mixed Tryz.func163 (code := ?_) (h := h163) ?_ k163 ?_
  rotate_left
  · exact rfl
  unfold h163 initS
  simp -implicitDefEqProofs only [rkA, rkB, stepA, valA, simprocAttr, Tryz.ntmps163, Tryz.results163]
  refine call_fn rfl rfl rfl (ok130 180 subF ok180 ea eb a b ha hb) ?_
  simp -implicitDefEqProofs only [rkA, rkB, stepA, valA, simprocAttr]

theorem right_le {r c : Int} {n : Nat} (h : right r c n = true) : n ≤ 256 := by
  obtain ⟨r1, r2, c1, c2, hn⟩ := right_spec h
  have : r * c ≤ 16 * 16 := Int.mul_le_mul r2 c2 (by omega) (by omega)
  omega

/-- Number by number. -/
theorem ok162 (k : Nat) (F : Fr → Fr → Fr) (hF : ∀ (ea eb : Bool) (a b : List Fr), a.length ≤ 5864062014805 → b.length ≤ 5864062014805 → Ok Tryz.prog k [.sl ea (frs a), .sl eb (frs b)] (.sl false (frs (List.zipWith F a b)))) (ea eb : Bool) (r c r2 c2 : Int) (a b : List Fr) :
    Ok Tryz.prog 162 [matV ea r c (frs a), matV eb r2 c2 (frs b), .fn (.func k) []] (if right r c a.length = true ∧ right r2 c2 b.length = true ∧ r = r2 ∧ c = c2 then .tup [matV false r c (frs (List.zipWith F a b)), tru true] else .tup [matNil, tru false]) := by
  refine ok_fn mixed Tryz.func162 (code := ?_) (h := h162) ?_ k162 ?_
  rotate_left
  · exact rfl
  unfold h162 initS
  simp -implicitDefEqProofs only [rkA, rkB, stepA, valA, simprocAttr, Tryz.ntmps162, Tryz.results162]
  refine call_fn rfl rfl rfl (ok100 ea r c (frs a)) ?_
  have e : (frs a).length = a.length := by simp
  have e' : (frs b).length = b.length := by simp
  rw [e]
  cases hr : right r c a.length with
  | false => simp -implicitDefEqProofs only [rkA, rkB, stepA, valA, simprocAttr]
  | true =>
    simp -implicitDefEqProofs only [rkA, rkB, stepA, valA, simprocAttr]
    refine call_fn rfl rfl rfl (ok100 eb r2 c2 (frs b)) ?_
    rw [e']
    cases hr2 : right r2 c2 b.length with
    | false => simp -implicitDefEqProofs only [rkA, rkB, stepA, valA, simprocAttr]
    | true =>
      have l1 := right_le hr
      have l2 := right_le hr2
      simp -implicitDefEqProofs only [rkA, rkB, stepA, valA, simprocAttr]
      by_cases h1 : r = r2
      · subst h1
        simp -implicitDefEqProofs only [bne_self_eq_false, rkA, rkB, stepA, valA, simprocAttr]
        by_cases h2 : c = c2
        · subst h2
          simp -implicitDefEqProofs only [bne_self_eq_false, rkA, rkB, stepA, valA, simprocAttr]
          refine call_fn rfl rfl rfl (hF ea eb a b (by omega) (by omega)) ?_
          simp -implicitDefEqProofs only [rkA, rkB, stepA, valA, simprocAttr]
        · have hne : (c != c2) = true := by simp [h2]
          simp -implicitDefEqProofs only [hne, h2, rkA, rkB, stepA, valA, simprocAttr]
      · have hne : (r != r2) = true := by simp [h1]
        simp -implicitDefEqProofs only [hne, h1, rkA, rkB, stepA, valA, simprocAttr]

theorem ok164 (ea eb : Bool) (r c r2 c2 : Int) (a b : List Fr) : Ok Tryz.prog 164 [matV ea r c (frs a), matV eb r2 c2 (frs b)]
    (if right r c a.length = true ∧ right r2 c2 b.length = true ∧ r = r2 ∧ c = c2 then .tup [matV false r c (frs (List.zipWith addF a b)), tru true] else .tup [matNil, tru false]) := by
  refine ok_fn mixed Tryz.func164 (code := ?_) (h := h164) ?_ k164 ?_
  rotate_left
  · exact rfl
  unfold h164 initS
  simp -implicitDefEqProofs only [rkA, rkB, stepA, valA, simprocAttr, Tryz.ntmps164, Tryz.results164]
  refine call_fn rfl rfl rfl (ok162 122 addF ok122 ea eb r c r2 c2 a b) ?_
  split <;> simp -implicitDefEqProofs only [rkA, rkB, stepA, valA, simprocAttr]
theorem ok126 (ea eb : Bool) (r c r2 c2 : Int) (a b : List Fr) : Ok Tryz.prog 126 [matV ea r c (frs a), matV eb r2 c2 (frs b)]
    (if right r c a.length = true ∧ right r2 c2 b.length = true ∧ r = r2 ∧ c = c2 then .tup [matV false r c (frs (List.zipWith subF a b)), tru true] else .tup [matNil, tru false]) := by
  refine ok_fn mixed Tryz.func126 (code := ?_) (h := h126) ?_ k126 ?_
  rotate_left
  · exact rfl
  unfold h126 initS
  simp -implicitDefEqProofs only [rkA, rkB, stepA, valA, simprocAttr, Tryz.ntmps126, Tryz.results126]
  refine call_fn rfl rfl rfl (ok162 163 subF ok163 ea eb r c r2 c2 a b) ?_
  split <;> simp -implicitDefEqProofs only [rkA, rkB, stepA, valA, simprocAttr]

/-! ### Beside -/
def besP (r c c2 : Int) (a b : List Fr) (n : Nat) : List Fr := (List.range n).flatMap fun (i : Nat) => rowF r c a (i : Int) ++ rowF r c2 b (i : Int)
def besF (r c c2 : Int) (a b : List Fr) : List Fr := besP r c c2 a b r.toNat
theorem besP_succ (r c c2 : Int) (a b : List Fr) (n : Nat) : besP r c c2 a b (n + 1) = besP r c c2 a b n ++ rowF r c a (n : Int) ++ rowF r c2 b (n : Int) := by
  simp [besP, List.range_succ]
theorem rowF_len {r c : Int} {l : List Fr} (h : right r c l.length = true) {i : Nat} (hi : i < r.toNat) : (rowF r c l i).length = c.toNat := by
  rw [rowF_eq ⟨0, 0, false⟩ h hi]
  simp
theorem besP_length {r c c2 : Int} {a b : List Fr} (h : right r c a.length = true) (h2 : right r c2 b.length = true) : ∀ n, n ≤ r.toNat → (besP r c c2 a b n).length = n * (c.toNat + c2.toNat)
  | 0, _ => by simp [besP]
  | n + 1, hn => by
    rw [besP_succ, List.length_append, List.length_append, besP_length h h2 n (by omega), rowF_len h (by omega), rowF_len h2 (by omega), Nat.add_mul]
    omega
theorem right_bes {r c c2 : Int} {a b : List Fr} (h : right r c a.length = true) (h2 : right r c2 b.length = true) : right r (c + c2) (besF r c c2 a b).length = decide (c + c2 ≤ 16) := by
  obtain ⟨r1, r2, c1, c3, hn⟩ := right_spec h
  obtain ⟨_, _, d1, d2, hn2⟩ := right_spec h2
  have hl := besP_length h h2 r.toNat (Nat.le_refl _)
  have e1 : ((r.toNat * (c.toNat + c2.toNat) : Nat) : Int) = r * (c + c2) := by
    rw [Int.natCast_mul, Int.natCast_add, Int.toNat_of_nonneg (by omega), Int.toNat_of_nonneg (by omega), Int.toNat_of_nonneg (by omega)]
  have e2 : (((besF r c c2 a b).length : Int) == r * (c + c2)) = true := by
    rw [besF, hl, e1]
    simp
  have e3 : decide (1 ≤ r ∧ r ≤ 16) = true := by simp; omega
  simp only [right, e2, e3, Bool.true_and, Bool.and_true]
  congr 1
  simp only [eq_iff_iff]
  omega

/-! ### Mirrored -/
def mirF (r : Int) (l : List Fr) : List Fr := gridP (fun i k => atF r r l (max i k : Nat) (min i k : Nat)) r.toNat r.toNat 0
theorem ok157 (ex : Bool) (r c : Int) (l : List Fr) : Ok Tryz.prog 157 [matV ex r c (frs l)] (if right r c l.length = true ∧ r = c then .tup [matV false r c (frs (mirF r l)), tru true] else .tup [matNil, tru false]) := by
  refine ok_fn mixed Tryz.func157 (code := ?_) (h := h157) ?_ k157 ?_
  rotate_left
  · exact rfl
  unfold h157 initS
  simp -implicitDefEqProofs only [rkA, rkB, stepA, valA, simprocAttr, Tryz.ntmps157, Tryz.results157]
  refine call_fn rfl rfl rfl (ok100 ex r c (frs l)) ?_
  have e : (frs l).length = l.length := by simp
  rw [e]
  cases hr : right r c l.length with
  | false => simp -implicitDefEqProofs only [rkA, rkB, stepA, valA, simprocAttr]
  | true =>
    obtain ⟨r1, r2, c1, c2, hn⟩ := right_spec hr
    simp -implicitDefEqProofs only [rkA, rkB, stepA, valA, simprocAttr]
    by_cases h1 : r = c
    · subst h1
      simp -implicitDefEqProofs only [bne_self_eq_false, rkA, rkB, stepA, valA, simprocAttr]
      have hlen := gridP_length (fun i k => atF r r l (max i k : Nat) (min i k : Nat)) r.toNat
      refine wp_loop (fun m s => ∃ i : Nat, i + m = r.toNat ∧ s = ⟨[jk, .ptr 1 0, .ptr 2 0, jk, .ptr 4 0, jk, jk, jk, jk, jk, jk, jk, jk, jk, jk, jk, jk, jk, jk, jk, jk, jk, jk, jk, nt r, nt i, jk, jk, jk, jk, jk, jk, jk, jk, jk, jk, jk, jk, jk, jk, jk, jk, jk, jk, jk, jk, jk, jk, jk], [(1, [nt r, nt r, .v (.sl ex (frs l))]), (2, [nt 0, nt 0, .acc 3002 []]), (4, [nt r, nt r, .acc 15004 (frs (gridP (fun i k => atF r r l (max i k : Nat) (min i k : Nat)) r.toNat i 0))])], [],
        [(3002, 0), (3004, 0), (15004, (gridP (fun i k => atF r r l (max i k : Nat) (min i k : Nat)) r.toNat i 0).length)], [], 0, nomem⟩) r.toNat ?_ ?_
      · simp -implicitDefEqProofs only [rkA, rkB, stepA, valA, simprocAttr]
        exact ⟨0, by simp, rfl⟩
      rintro m s ⟨i, hi, rfl⟩
      simp -implicitDefEqProofs only [rkA, rkB, stepA, valA, simprocAttr]
      refine gB_dec ?_ ?_ <;> intro hc <;> simp -implicitDefEqProofs only [hc, rkA, rkB, stepA, valA, simprocAttr]
      · refine wp_loop (fun m s => ∃ k : Nat, k + m = r.toNat ∧ s = ⟨[jk, .ptr 1 0, .ptr 2 0, jk, .ptr 4 0, nt i, jk, jk, jk, jk, jk, jk, jk, jk, jk, jk, jk, jk, jk, jk, jk, jk, jk, jk, nt r, nt i, jk, jk, jk, nt r, nt k, jk, jk, jk, jk, jk, jk, jk, jk, jk, jk, jk, jk, jk, jk, jk, jk, jk, jk], [(1, [nt r, nt r, .v (.sl ex (frs l))]), (2, [nt 0, nt 0, .acc 3002 []]), (4, [nt r, nt r, .acc 15004 (frs (gridP (fun i k => atF r r l (max i k : Nat) (min i k : Nat)) r.toNat i k))])], [],
          [(3002, 0), (3004, 0), (15004, (gridP (fun i k => atF r r l (max i k : Nat) (min i k : Nat)) r.toNat i k).length)], [], 0, nomem⟩) r.toNat ?_ ?_
        · simp -implicitDefEqProofs only [rkA, rkB, stepA, valA, simprocAttr]
          exact ⟨0, by simp, rfl⟩
        rintro m' s ⟨k, hk, rfl⟩
        simp -implicitDefEqProofs only [rkA, rkB, stepA, valA, simprocAttr]
        refine gB_dec ?_ ?_ <;> intro hc2 <;> simp -implicitDefEqProofs only [hc2, rkA, rkB, stepA, valA, simprocAttr]
        · have hb : i * r.toNat + k ≤ 256 := by
            have : (i + 1) * r.toNat ≤ 16 * 16 := Nat.mul_le_mul (by omega) (by omega)
            rw [Nat.add_mul] at this
            omega
          have m1 : (if (i : Int) < (k : Int) then (k : Int) else (i : Int)) = ((max i k : Nat) : Int) := by split <;> omega
          have m2 : (if (k : Int) < (i : Int) then (k : Int) else (i : Int)) = ((min i k : Nat) : Int) := by split <;> omega
          simp only [m1, m2]
          refine call_fn rfl rfl rfl (ok75 ex r r (max i k : Nat) (min i k : Nat) l) ?_
          have hl1 := hlen i k
          have hfit : fits 3 24 (frs (gridP (fun i k => atF r r l (max i k : Nat) (min i k : Nat)) r.toNat i k)) [frV (atF r r l (max i k : Nat) (min i k : Nat))] = true := fits_frs (l := [atF r r l (max i k : Nat) (min i k : Nat)]) (by simp only [List.length_cons, List.length_nil]; omega)
          have hl : (frs (gridP (fun i k => atF r r l (max i k : Nat) (min i k : Nat)) r.toNat i k)).length = (gridP (fun i k => atF r r l (max i k : Nat) (min i k : Nat)) r.toNat i k).length := by simp
          have hw := wrapped (x := (k : Int) + 1) (by omega) (by omega)
          simp -implicitDefEqProofs only [hfit, hl, hw, rkA, rkB, stepA, valA, simprocAttr]
          refine loopK_of (m' := m' - 1) (by omega) ?_
          simp -implicitDefEqProofs only [rkA, rkB, stepA, valA, simprocAttr]
          refine ⟨k + 1, by omega, ?_⟩
          rw [gridP_succ]
          simp only [frs, List.map_append, List.map_cons, List.map_nil, List.length_append, List.length_cons, List.length_nil, Int.natCast_add, Int.natCast_one]
        · have hkr : k = r.toNat := by omega
          have hw := wrapped (x := (i : Int) + 1) (by omega) (by omega)
          simp -implicitDefEqProofs only [hw, rkA, rkB, stepA, valA, simprocAttr]
          refine loopK_of (m' := m - 1) (by omega) ?_
          simp -implicitDefEqProofs only [rkA, rkB, stepA, valA, simprocAttr]
          refine ⟨i + 1, by omega, ?_⟩
          rw [hkr, gridP_next]
          simp only [Int.natCast_add, Int.natCast_one]
      · have : i = r.toNat := by omega
        subst this
        simp only [mirF]
    · have hne : (r != c) = true := by simp [h1]
      simp -implicitDefEqProofs only [hne, h1, rkA, rkB, stepA, valA, simprocAttr]

/-! ### Alike -/
end Go.Proofs.YtbflmeomkfjikaaGreat.A

set_option linter.unusedVariables false
set_option linter.unusedSimpArgs false
set_option maxRecDepth 100000
namespace Go.Proofs.YtbflmeomkfjikaaGreat.A.E
open Go Go.RowKit Go.Shelf

theorem methSub : Meth Tryz.prog 40 "Sub" 97 := by
  intro v xs w
  rfl

theorem ok159 (a b : Fr) : Ok Tryz.prog 159 [frV a, frV b] (frV (addF a b)) := by
  refine ok_fn mixed Tryz.func159 (code := ?_) (h := h159) ?_ k159 ?_
  rotate_left
  · exact rfl
  unfold h159 initS
  simp -implicitDefEqProofs only [rkA, rkB, stepA, valA, simprocAttr, Tryz.ntmps159, Tryz.results159]
  refine call_meth rfl rfl methAdd (ok227 a b) ?_
  simp -implicitDefEqProofs only [rkA, rkB, stepA, valA, simprocAttr]
theorem ok170 (a b : Fr) : Ok Tryz.prog 170 [frV a, frV b] (frV (subF a b)) := by
  refine ok_fn mixed Tryz.func170 (code := ?_) (h := h170) ?_ k170 ?_
  rotate_left
  · exact rfl
  unfold h170 initS
  simp -implicitDefEqProofs only [rkA, rkB, stepA, valA, simprocAttr, Tryz.ntmps170, Tryz.results170]
  refine call_meth rfl rfl methSub (ok97 a b) ?_
  simp -implicitDefEqProofs only [rkA, rkB, stepA, valA, simprocAttr]
theorem ok115 (ea eb : Bool) (a b : List Fr) (ha : a.length ≤ 4398046511104) (hb : b.length ≤ 4398046511104) : Ok Tryz.prog 115 [.sl ea (frs a), .sl eb (frs b)] (.sl false (frs (List.zipWith addF a b))) := by
  refine ok_fn mixed Tryz.func115 (code := ?_) (h := h115) ?_ k115 ?_
  rotate_left
  · exact rfl
  unfold h115 initS
  simp -implicitDefEqProofs only [rkA, rkB, stepA, valA, simprocAttr, Tryz.ntmps115, Tryz.results115]
  refine call_fn rfl rfl rfl (ok133 159 addF ok159 ea eb a b ha hb) ?_
  simp -implicitDefEqProofs only [rkA, rkB, stepA, valA, simprocAttr]
theorem ok144 (ea eb : Bool) (a b : List Fr) (ha : a.length ≤ 4398046511104) (hb : b.length ≤ 4398046511104) : Ok Tryz.prog 144 [.sl ea (frs a), .sl eb (frs b)] (.sl false (frs (List.zipWith subF a b))) := by
  refine ok_fn mixed Tryz.func144 (code := ?_) (h := h144) ?_ k144 ?_
  rotate_left
  · exact rfl
  unfold h144 initS
  simp -implicitDefEqProofs only [rkA, rkB, stepA, valA, simprocAttr, Tryz.ntmps144, Tryz.results144]
  refine call_fn rfl rfl rfl (ok133 170 subF ok170 ea eb a b ha hb) ?_
  simp -implicitDefEqProofs only [rkA, rkB, stepA, valA, simprocAttr]

/-- Number by number. -/
theorem ok226 (k : Nat) (F : Fr → Fr → Fr) (hF : ∀ (ea eb : Bool) (a b : List Fr), a.length ≤ 4398046511104 → b.length ≤ 4398046511104 → Ok Tryz.prog k [.sl ea (frs a), .sl eb (frs b)] (.sl false (frs (List.zipWith F a b)))) (ea eb : Bool) (r c r2 c2 : Int) (a b : List Fr) :
    Ok Tryz.prog 226 [matV ea r c (frs a), matV eb r2 c2 (frs b), .fn (.func k) []] (if right r c a.length = true ∧ right r2 c2 b.length = true ∧ r = r2 ∧ c = c2 then .tup [matV false r c (frs (List.zipWith F a b)), tru true] else .tup [matNil, tru false]) := by
  refine ok_fn mixed Tryz.func226 (code := ?_) (h := h226) ?_ k226 ?_
  rotate_left
  · exact rfl
  unfold h226 initS
  simp -implicitDefEqProofs only [rkA, rkB, stepA, valA, simprocAttr, Tryz.ntmps226, Tryz.results226]
  refine call_fn rfl rfl rfl (ok88 ea r c (frs a)) ?_
  have e : (frs a).length = a.length := by simp
  have e' : (frs b).length = b.length := by simp
  rw [e]
  cases hr : right r c a.length with
  | false => simp -implicitDefEqProofs only [rkA, rkB, stepA, valA, simprocAttr]
  | true =>
    simp -implicitDefEqProofs only [rkA, rkB, stepA, valA, simprocAttr]
    refine call_fn rfl rfl rfl (ok88 eb r2 c2 (frs b)) ?_
    rw [e']
    cases hr2 : right r2 c2 b.length with
    | false => simp -implicitDefEqProofs only [rkA, rkB, stepA, valA, simprocAttr]
    | true =>
      have l1 := right_le hr
      have l2 := right_le hr2
      simp -implicitDefEqProofs only [rkA, rkB, stepA, valA, simprocAttr]
      by_cases h1 : r = r2
      · subst h1
        simp -implicitDefEqProofs only [bne_self_eq_false, rkA, rkB, stepA, valA, simprocAttr]
        by_cases h2 : c = c2
        · subst h2
          simp -implicitDefEqProofs only [bne_self_eq_false, rkA, rkB, stepA, valA, simprocAttr]
          refine call_fn rfl rfl rfl (hF ea eb a b (by omega) (by omega)) ?_
          simp -implicitDefEqProofs only [rkA, rkB, stepA, valA, simprocAttr]
        · have hne : (c != c2) = true := by simp [h2]
          simp -implicitDefEqProofs only [hne, h2, rkA, rkB, stepA, valA, simprocAttr]
      · have hne : (r != r2) = true := by simp [h1]
        simp -implicitDefEqProofs only [hne, h1, rkA, rkB, stepA, valA, simprocAttr]

theorem ok224 (ea eb : Bool) (r c r2 c2 : Int) (a b : List Fr) : Ok Tryz.prog 224 [matV ea r c (frs a), matV eb r2 c2 (frs b)]
    (if right r c a.length = true ∧ right r2 c2 b.length = true ∧ r = r2 ∧ c = c2 then .tup [matV false r c (frs (List.zipWith addF a b)), tru true] else .tup [matNil, tru false]) := by
  refine ok_fn mixed Tryz.func224 (code := ?_) (h := h224) ?_ k224 ?_
  rotate_left
  · exact rfl
  unfold h224 initS
  simp -implicitDefEqProofs only [rkA, rkB, stepA, valA, simprocAttr, Tryz.ntmps224, Tryz.results224]
  refine call_fn rfl rfl rfl (ok226 115 addF ok115 ea eb r c r2 c2 a b) ?_
  split <;> simp -implicitDefEqProofs only [rkA, rkB, stepA, valA, simprocAttr]
theorem ok225 (ea eb : Bool) (r c r2 c2 : Int) (a b : List Fr) : Ok Tryz.prog 225 [matV ea r c (frs a), matV eb r2 c2 (frs b)]
    (if right r c a.length = true ∧ right r2 c2 b.length = true ∧ r = r2 ∧ c = c2 then .tup [matV false r c (frs (List.zipWith subF a b)), tru true] else .tup [matNil, tru false]) := by
  refine ok_fn mixed Tryz.func225 (code := ?_) (h := h225) ?_ k225 ?_
  rotate_left
  · exact rfl
  unfold h225 initS
  simp -implicitDefEqProofs only [rkA, rkB, stepA, valA, simprocAttr, Tryz.ntmps225, Tryz.results225]
  refine call_fn rfl rfl rfl (ok226 144 subF ok144 ea eb r c r2 c2 a b) ?_
  split <;> simp -implicitDefEqProofs only [rkA, rkB, stepA, valA, simprocAttr]

def besP (r c c2 : Int) (a b : List Fr) (n : Nat) : List Fr := (List.range n).flatMap fun (i : Nat) => rowF r c a (i : Int) ++ rowF r c2 b (i : Int)
def besF (r c c2 : Int) (a b : List Fr) : List Fr := besP r c c2 a b r.toNat
theorem besP_succ (r c c2 : Int) (a b : List Fr) (n : Nat) : besP r c c2 a b (n + 1) = besP r c c2 a b n ++ rowF r c a (n : Int) ++ rowF r c2 b (n : Int) := by
  simp [besP, List.range_succ]
theorem rowF_len {r c : Int} {l : List Fr} (h : right r c l.length = true) {i : Nat} (hi : i < r.toNat) : (rowF r c l i).length = c.toNat := by
  rw [rowF_eq ⟨0, 0, 0, false⟩ h hi]
  simp
theorem besP_length {r c c2 : Int} {a b : List Fr} (h : right r c a.length = true) (h2 : right r c2 b.length = true) : ∀ n, n ≤ r.toNat → (besP r c c2 a b n).length = n * (c.toNat + c2.toNat)
  | 0, _ => by simp [besP]
  | n + 1, hn => by
    rw [besP_succ, List.length_append, List.length_append, besP_length h h2 n (by omega), rowF_len h (by omega), rowF_len h2 (by omega), Nat.add_mul]
    omega
theorem right_bes {r c c2 : Int} {a b : List Fr} (h : right r c a.length = true) (h2 : right r c2 b.length = true) : right r (c + c2) (besF r c c2 a b).length = decide (c + c2 ≤ 16) := by
  obtain ⟨r1, r2, c1, c3, hn⟩ := right_spec h
  obtain ⟨_, _, d1, d2, hn2⟩ := right_spec h2
  have hl := besP_length h h2 r.toNat (Nat.le_refl _)
  have e1 : ((r.toNat * (c.toNat + c2.toNat) : Nat) : Int) = r * (c + c2) := by
    rw [Int.natCast_mul, Int.natCast_add, Int.toNat_of_nonneg (by omega), Int.toNat_of_nonneg (by omega), Int.toNat_of_nonneg (by omega)]
  have e2 : (((besF r c c2 a b).length : Int) == r * (c + c2)) = true := by
    rw [besF, hl, e1]
    simp
  have e3 : decide (1 ≤ r ∧ r ≤ 16) = true := by simp; omega
  simp only [right, e2, e3, Bool.true_and, Bool.and_true]
  congr 1
  simp only [eq_iff_iff]
  omega

theorem ok166 (ea eb : Bool) (r c r2 c2 : Int) (a b : List Fr) : Ok Tryz.prog 166 [matV ea r c (frs a), matV eb r2 c2 (frs b)]
    (if right r c a.length = true ∧ right r2 c2 b.length = true ∧ r = r2 ∧ c + c2 ≤ 16 then .tup [matV false r (c + c2) (frs (besF r c c2 a b)), tru true] else .tup [matNil, tru false]) := by
  refine ok_fn mixed Tryz.func166 (code := ?_) (h := h166) ?_ k166 ?_
  rotate_left
  · exact rfl
  unfold h166 initS
  simp -implicitDefEqProofs only [rkA, rkB, stepA, valA, simprocAttr, Tryz.ntmps166, Tryz.results166]
  refine call_fn rfl rfl rfl (ok88 ea r c (frs a)) ?_
  have e : (frs a).length = a.length := by simp
  have e' : (frs b).length = b.length := by simp
  rw [e]
  cases hr : right r c a.length with
  | false => simp -implicitDefEqProofs only [rkA, rkB, stepA, valA, simprocAttr]
  | true =>
    simp -implicitDefEqProofs only [rkA, rkB, stepA, valA, simprocAttr]
    refine call_fn rfl rfl rfl (ok88 eb r2 c2 (frs b)) ?_
    rw [e']
    cases hr2 : right r2 c2 b.length with
    | false => simp -implicitDefEqProofs only [rkA, rkB, stepA, valA, simprocAttr]
    | true =>
      have l1 := right_le hr
      have l2 := right_le hr2
      simp -implicitDefEqProofs only [rkA, rkB, stepA, valA, simprocAttr]
      by_cases h1 : r = r2
      · subst h1
        simp -implicitDefEqProofs only [bne_self_eq_false, rkA, rkB, stepA, valA, simprocAttr]
        refine call_fn rfl rfl rfl (ok90 ea r c a) ?_
        simp -implicitDefEqProofs only [rkA, rkB, stepA, valA, simprocAttr]
        obtain ⟨r1, r2, c1, c3, hn⟩ := right_spec hr
        obtain ⟨_, _, d1, d2, hn2⟩ := right_spec hr2
        have hbl : ∀ n, n ≤ r.toNat → (besP r c c2 a b n).length ≤ 512 := fun n hn => by
          rw [besP_length hr hr2 n hn]
          have : n * (c.toNat + c2.toNat) ≤ 16 * 32 := Nat.mul_le_mul (by omega) (by omega)
          omega
        refine wp_rf' (items := rowsF r c a) rfl (it142 ea r c a) (fun sv i s => i ≤ r.toNat ∧ s = ⟨[], [(2, [nt r, nt c, .v (.sl ea (frs a))]), (3, [nt r, nt c2, .v (.sl eb (frs b))]), (4, [nt 0, nt 0, .acc 3004 []]), (6, [.acc 1006 (frs (besP r c c2 a b i))])], [], [(1006, (besP r c c2 a b i).length), (3004, 0)], sv, 0, nomem⟩) ?_ ?_ ?_
        · simp -implicitDefEqProofs only [rkA, rkB, stepA, valA, simprocAttr]
          exact ⟨Nat.zero_le _, rfl⟩
        · rintro i x' s' R hx ⟨hi, rfl⟩ hR
          obtain ⟨hlt, rfl, hxi⟩ := rowsF_all hr hx
          refine ⟨rfl, ?_⟩
          simp -implicitDefEqProofs only [rkA, rkB, stepA, valA, simprocAttr]
          have k1 := rowF_len hr hlt
          have k2 := rowF_len hr2 hlt
          have k0 := hbl i hi
          have f1 : fits 4 32 (frs (besP r c c2 a b i)) (frs (rowF r c a i)) = true := fits_frs (by omega)
          have f2 : fits 4 32 (frs (besP r c c2 a b i) ++ frs (rowF r c a i)) (frs (rowF r c2 b i)) = true := by
            have : frs (besP r c c2 a b i) ++ frs (rowF r c a i) = frs (besP r c c2 a b i ++ rowF r c a i) := by simp
            rw [this]
            exact fits_frs (by simp only [List.length_append]; omega)
          have g0 : (frs (besP r c c2 a b i)).length = (besP r c c2 a b i).length := by simp
          simp -implicitDefEqProofs only [f1, g0, rkA, rkB, stepA, valA, simprocAttr]
          refine call_fn rfl rfl rfl (ok143 eb r c2 i b) ?_
          simp -implicitDefEqProofs only [f2, List.length_append, g0, rkA, rkB, stepA, valA, simprocAttr]
          refine hR _ ⟨by omega, ?_⟩
          rw [besP_succ]
          simp only [frs, List.map_append, List.length_append, List.append_assoc, List.length_map, Nat.add_assoc]
        · rintro s' ⟨hi, rfl⟩
          have w := wrapped (x := c + c2) (by omega) (by omega)
          simp -implicitDefEqProofs only [w, rkA, rkB, stepA, valA, simprocAttr]
          have hb2 := hbl r.toNat (Nat.le_refl _)
          rw [rowsF_length hr]
          refine call_fn rfl rfl rfl (ok26 r (c + c2) false (besP r c c2 a b r.toNat) (by omega)) ?_
          have hrb := right_bes hr hr2
          unfold besF at hrb ⊢
          rw [hrb]
          by_cases h16 : c + c2 ≤ 16
          · simp -implicitDefEqProofs only [h16, rkA, rkB, stepA, valA, simprocAttr]
          · simp -implicitDefEqProofs only [h16, rkA, rkB, stepA, valA, simprocAttr]
      · have hne : (r != r2) = true := by simp [h1]
        simp -implicitDefEqProofs only [hne, h1, rkA, rkB, stepA, valA, simprocAttr]

def mirF (r : Int) (l : List Fr) : List Fr := gridP (fun i k => atF r r l (max i k : Nat) (min i k : Nat)) r.toNat r.toNat 0
theorem ok108 (ex : Bool) (r c : Int) (l : List Fr) : Ok Tryz.prog 108 [matV ex r c (frs l)] (if right r c l.length = true ∧ r = c then .tup [matV false r c (frs (mirF r l)), tru true] else .tup [matNil, tru false]) := by
  refine ok_fn mixed Tryz.func108 (code := ?_) (h := h108) ?_ k108 ?_
  rotate_left
  · exact rfl
  unfold h108 initS
  simp -implicitDefEqProofs only [rkA, rkB, stepA, valA, simprocAttr, Tryz.ntmps108, Tryz.results108]
  refine call_fn rfl rfl rfl (ok88 ex r c (frs l)) ?_
  have e : (frs l).length = l.length := by simp
  rw [e]
  cases hr : right r c l.length with
  | false => simp -implicitDefEqProofs only [rkA, rkB, stepA, valA, simprocAttr]
  | true =>
    obtain ⟨r1, r2, c1, c2, hn⟩ := right_spec hr
    simp -implicitDefEqProofs only [rkA, rkB, stepA, valA, simprocAttr]
    by_cases h1 : r = c
    · subst h1
      simp -implicitDefEqProofs only [bne_self_eq_false, rkA, rkB, stepA, valA, simprocAttr]
      have hlen := gridP_length (fun i k => atF r r l (max i k : Nat) (min i k : Nat)) r.toNat
      refine wp_loop (fun m s => ∃ i : Nat, i + m = r.toNat ∧ s = ⟨[jk, .ptr 1 0, .ptr 2 0, jk, .ptr 4 0, jk, jk, jk, jk, jk, jk, jk, jk, jk, jk, jk, jk, jk, jk, jk, jk, jk, jk, jk, nt r, nt i, jk, jk, jk, jk, jk, jk, jk, jk, jk, jk, jk, jk, jk, jk, jk, jk, jk, jk, jk, jk, jk, jk, jk], [(1, [nt r, nt r, .v (.sl ex (frs l))]), (2, [nt 0, nt 0, .acc 3002 []]), (4, [nt r, nt r, .acc 15004 (frs (gridP (fun i k => atF r r l (max i k : Nat) (min i k : Nat)) r.toNat i 0))])], [],
        [(3002, 0), (3004, 0), (15004, (gridP (fun i k => atF r r l (max i k : Nat) (min i k : Nat)) r.toNat i 0).length)], [], 0, nomem⟩) r.toNat ?_ ?_
      · simp -implicitDefEqProofs only [rkA, rkB, stepA, valA, simprocAttr]
        exact ⟨0, by simp, rfl⟩
      rintro m s ⟨i, hi, rfl⟩
      simp -implicitDefEqProofs only [rkA, rkB, stepA, valA, simprocAttr]
      refine gB_dec ?_ ?_ <;> intro hc <;> simp -implicitDefEqProofs only [hc, rkA, rkB, stepA, valA, simprocAttr]
      · refine wp_loop (fun m s => ∃ k : Nat, k + m = r.toNat ∧ s = ⟨[jk, .ptr 1 0, .ptr 2 0, jk, .ptr 4 0, nt i, jk, jk, jk, jk, jk, jk, jk, jk, jk, jk, jk, jk, jk, jk, jk, jk, jk, jk, nt r, nt i, jk, jk, jk, nt r, nt k, jk, jk, jk, jk, jk, jk, jk, jk, jk, jk, jk, jk, jk, jk, jk, jk, jk, jk], [(1, [nt r, nt r, .v (.sl ex (frs l))]), (2, [nt 0, nt 0, .acc 3002 []]), (4, [nt r, nt r, .acc 15004 (frs (gridP (fun i k => atF r r l (max i k : Nat) (min i k : Nat)) r.toNat i k))])], [],
          [(3002, 0), (3004, 0), (15004, (gridP (fun i k => atF r r l (max i k : Nat) (min i k : Nat)) r.toNat i k).length)], [], 0, nomem⟩) r.toNat ?_ ?_
        · simp -implicitDefEqProofs only [rkA, rkB, stepA, valA, simprocAttr]
          exact ⟨0, by simp, rfl⟩
        rintro m' s ⟨k, hk, rfl⟩
        simp -implicitDefEqProofs only [rkA, rkB, stepA, valA, simprocAttr]
        refine gB_dec ?_ ?_ <;> intro hc2 <;> simp -implicitDefEqProofs only [hc2, rkA, rkB, stepA, valA, simprocAttr]
        · have hb : i * r.toNat + k ≤ 256 := by
            have : (i + 1) * r.toNat ≤ 16 * 16 := Nat.mul_le_mul (by omega) (by omega)
            rw [Nat.add_mul] at this
            omega
          have m1 : (if (i : Int) < (k : Int) then (k : Int) else (i : Int)) = ((max i k : Nat) : Int) := by split <;> omega
          have m2 : (if (k : Int) < (i : Int) then (k : Int) else (i : Int)) = ((min i k : Nat) : Int) := by split <;> omega
          simp only [m1, m2]
          refine call_fn rfl rfl rfl (ok35 ex r r (max i k : Nat) (min i k : Nat) l) ?_
          have hl1 := hlen i k
          have hfit : fits 4 32 (frs (gridP (fun i k => atF r r l (max i k : Nat) (min i k : Nat)) r.toNat i k)) [frV (atF r r l (max i k : Nat) (min i k : Nat))] = true := fits_frs (l := [atF r r l (max i k : Nat) (min i k : Nat)]) (by simp only [List.length_cons, List.length_nil]; omega)
          have hl : (frs (gridP (fun i k => atF r r l (max i k : Nat) (min i k : Nat)) r.toNat i k)).length = (gridP (fun i k => atF r r l (max i k : Nat) (min i k : Nat)) r.toNat i k).length := by simp
          have hw := wrapped (x := (k : Int) + 1) (by omega) (by omega)
          simp -implicitDefEqProofs only [hfit, hl, hw, rkA, rkB, stepA, valA, simprocAttr]
          refine loopK_of (m' := m' - 1) (by omega) ?_
          simp -implicitDefEqProofs only [rkA, rkB, stepA, valA, simprocAttr]
          refine ⟨k + 1, by omega, ?_⟩
          rw [gridP_succ]
          simp only [frs, List.map_append, List.map_cons, List.map_nil, List.length_append, List.length_cons, List.length_nil, Int.natCast_add, Int.natCast_one]
        · have hkr : k = r.toNat := by omega
          have hw := wrapped (x := (i : Int) + 1) (by omega) (by omega)
          simp -implicitDefEqProofs only [hw, rkA, rkB, stepA, valA, simprocAttr]
          refine loopK_of (m' := m - 1) (by omega) ?_
          simp -implicitDefEqProofs only [rkA, rkB, stepA, valA, simprocAttr]
          refine ⟨i + 1, by omega, ?_⟩
          rw [hkr, gridP_next]
          simp only [Int.natCast_add, Int.natCast_one]
      · have : i = r.toNat := by omega
        subst this
        simp only [mirF]
    · have hne : (r != c) = true := by simp [h1]
      simp -implicitDefEqProofs only [hne, h1, rkA, rkB, stepA, valA, simprocAttr]

end Go.Proofs.YtbflmeomkfjikaaGreat.A.E

set_option linter.unusedVariables false
set_option linter.unusedSimpArgs false
set_option maxRecDepth 100000
namespace Go.Proofs.YtbflmeomkfjikaaGreat.A
open Go Go.RowKit Go.Shelf

theorem grid_of {α : Type} {g : Nat → Nat → α} {n N : Nat} {l : List α} (hl : l.length = N * n) (h : ∀ i k, i < N → k < n → l[i * n + k]? = some (g i k)) : l = gridP g n N 0 := by
  have hg := gridP_length g n N 0
  apply List.ext_getElem?
  intro j
  by_cases hj : j < N * n
  · have hn : 0 < n := by
      rcases Nat.eq_zero_or_pos n with h0 | h0
      · subst h0; simp at hj
      · exact h0
    have h1 : j / n < N := Nat.div_lt_of_lt_mul (by rwa [Nat.mul_comm] at hj)
    have h2 : j % n < n := Nat.mod_lt _ hn
    have h3 : j / n * n + j % n = j := by rw [Nat.mul_comm]; exact Nat.div_add_mod j n
    have e1 := h _ _ h1 h2
    have e2 := gridP_get g n N _ _ h1 h2
    rw [h3] at e1 e2
    rw [e1, e2]
  · rw [List.getElem?_eq_none (by omega), List.getElem?_eq_none (by omega)]
theorem gridP_map {α β : Type} (f : α → β) (g : Nat → Nat → α) (n i k : Nat) : (gridP g n i k).map f = gridP (fun i k => f (g i k)) n i k := by
  simp [gridP, List.map_flatMap, Function.comp_def]
theorem gridP_congr {α : Type} {g f : Nat → Nat → α} {n N : Nat} (h : ∀ i k, i < N → k < n → g i k = f i k) : gridP g n N 0 = gridP f n N 0 := by
  rw [gridP_zero, gridP_zero]
  apply flatMap_same
  intro i hi
  apply List.map_congr_left
  intro k hk
  exact h i k (List.mem_range.1 hi) (List.mem_range.1 hk)

theorem sl_num {ex : Bool} {l : List Int} {a b : Nat} (h1 : a ≤ b) (h2 : b ≤ l.length) : sliceA 1 (l.map num) ex (some a) (some b) none = some (.sl (exA none ex b (l.map num).length) (((l.take b).drop a).map num)) := by
  unfold sliceA
  simp only [Option.getD_some]
  rw [if_pos ⟨h1, by simpa using h2, by simp, by simp [PV.cells]⟩]
  simp

section
variable (a b : List Int) (R K : Nat)
def sumI : Nat → Nat → List Int := gridP (fun i k => a.getD (i * K + k) 0 + b.getD (i * K + k) 0) K
def lessI : Nat → Nat → List Int := gridP (fun i k => a.getD (i * K + k) 0 - b.getD (i * K + k) 0) K
def mirI (i k : Nat) : List Int := if R = K then gridP (fun i k => a.getD (max i k * K + min i k) 0) K i k else []
def turI : Nat → Nat → List Int := gridP (fun k i => a.getD (i * K + k) 0) R
def rowI (l : List Int) (i : Nat) : List Int := (l.take ((i + 1) * K)).drop (i * K)
def besI (n : Nat) : List Int := (List.range n).flatMap fun i => rowI K a i ++ rowI K b i
end

section
variable {a b : List Int} {R K : Nat}
theorem besI_succ (n : Nat) : besI a b K (n + 1) = besI a b K n ++ rowI K a n ++ rowI K b n := by simp [besI, List.range_succ]
theorem rowI_length (hl : a.length = R * K) {i : Nat} (hi : i < R) : (rowI K a i).length = K := by
  have : (i + 1) * K ≤ R * K := Nat.mul_le_mul_right _ hi
  have h2 : (i + 1) * K = i * K + K := by rw [Nat.add_mul, Nat.one_mul]
  simp only [rowI, List.length_drop, List.length_take]
  omega
theorem besI_length (hl : a.length = R * K) (hb : b.length = R * K) : ∀ n, n ≤ R → (besI a b K n).length = n * (K + K)
  | 0, _ => by simp [besI]
  | n + 1, hn => by
    rw [besI_succ, List.length_append, List.length_append, besI_length hl hb n (by omega), rowI_length hl (by omega), rowI_length hb (by omega), Nat.add_mul]
    omega
theorem right_nat (hR : 1 ≤ R ∧ R ≤ 16) (hK : 1 ≤ K ∧ K ≤ 16) {n : Nat} (hl : n = R * K) : right (R : Int) (K : Int) n = true := by
  simp only [right, Bool.and_eq_true, decide_eq_true_eq, beq_iff_eq]
  refine ⟨by omega, by omega, ?_⟩
  rw [hl]
  simp
theorem getD_map {i : Nat} (h : i < a.length) : (a.map (newF · 1))[i]? = some (newF (a.getD i 0) 1) := by
  simp [h]
theorem sumI_eq (ha : a.length = R * K) (hb : b.length = R * K) (sa : small a) (sb : small b) : List.zipWith addF (a.map (newF · 1)) (b.map (newF · 1)) = (sumI a b K R 0).map (newF · 1) := by
  rw [sumI, gridP_map]
  refine grid_of (by simp [ha, hb]) fun i k hi hk => ?_
  have := at_table hi hk
  have h1 := small_get sa (i * K + k)
  have h2 := small_get sb (i * K + k)
  have f3 : few (a.getD (i * K + k) 0 + b.getD (i * K + k) 0) := by unfold few; omega
  rw [List.getElem?_zipWith, getD_map (by omega), getD_map (by omega)]
  simp only
  rw [newF_whole (few_small h1), newF_whole (few_small h2), newF_whole f3, addF_whole (few_small h1) (few_small h2) f3]
theorem lessI_eq (ha : a.length = R * K) (hb : b.length = R * K) (sa : small a) (sb : small b) : List.zipWith subF (a.map (newF · 1)) (b.map (newF · 1)) = (lessI a b K R 0).map (newF · 1) := by
  rw [lessI, gridP_map]
  refine grid_of (by simp [ha, hb]) fun i k hi hk => ?_
  have := at_table hi hk
  have h1 := small_get sa (i * K + k)
  have h2 := small_get sb (i * K + k)
  have f3 : few (a.getD (i * K + k) 0 - b.getD (i * K + k) 0) := by unfold few; omega
  rw [List.getElem?_zipWith, getD_map (by omega), getD_map (by omega)]
  simp only
  rw [newF_whole (few_small h1), newF_whole (few_small h2), newF_whole f3, subF_whole (few_small h1) (few_small h2) f3]
theorem rowI_eq (hR : 1 ≤ R ∧ R ≤ 16) (hK : 1 ≤ K ∧ K ≤ 16) (ha : a.length = R * K) {i : Nat} (hi : i < R) : rowF (R : Int) (K : Int) (a.map (newF · 1)) (i : Int) = (rowI K a i).map (newF · 1) := by
  unfold rowF rowI
  rw [if_pos ⟨right_nat hR hK (by simpa using ha), by omega, by omega⟩]
  have e1 : (((i : Int) + 1) * (K : Int)).toNat = (i + 1) * K := by
    have : ((i : Int) + 1) * (K : Int) = (((i + 1) * K : Nat) : Int) := by simp
    rw [this, Int.toNat_natCast]
  have e2 : ((i : Int) * (K : Int)).toNat = i * K := by
    have : (i : Int) * (K : Int) = ((i * K : Nat) : Int) := by simp
    rw [this, Int.toNat_natCast]
  rw [e1, e2, List.map_drop, List.map_take]
theorem besI_eq (hR : 1 ≤ R ∧ R ≤ 16) (hK : 1 ≤ K ∧ K ≤ 16) (ha : a.length = R * K) (hb : b.length = R * K) : besF (R : Int) (K : Int) (K : Int) (a.map (newF · 1)) (b.map (newF · 1)) = (besI a b K R).map (newF · 1) := by
  unfold besF besP besI
  rw [List.map_flatMap, Int.toNat_natCast]
  apply flatMap_same
  intro i hi
  rw [List.mem_range] at hi
  rw [rowI_eq hR hK ha hi, rowI_eq hR hK hb hi, List.map_append]
theorem mirI_eq (hR : 1 ≤ R ∧ R ≤ 16) (hK : 1 ≤ K ∧ K ≤ 16) (ha : a.length = R * K) (h : R = K) : mirF (R : Int) (a.map (newF · 1)) = (mirI a R K R 0).map (newF · 1) := by
  subst h
  rw [mirI, if_pos rfl, gridP_map, mirF, Int.toNat_natCast]
  refine gridP_congr fun i k hi hk => ?_
  have hr := right_nat (n := (a.map (newF · 1)).length) hR hK (by simpa using ha)
  rw [atF_eq hr (by simp; omega) (by simp; omega), Int.toNat_natCast]
  have := at_table (i := max i k) (j := min i k) (n := R) (m := R) (by omega) (by omega)
  exact getD_newF (by omega) _
theorem turI_eq (hR : 1 ≤ R ∧ R ≤ 16) (hK : 1 ≤ K ∧ K ≤ 16) (ha : a.length = R * K) : turnF (R : Int) (K : Int) (a.map (newF · 1)) = (turI a R K K 0).map (newF · 1) := by
  have hr := right_nat (n := (a.map (newF · 1)).length) hR hK (by simpa using ha)
  rw [turnF_eq hr, turI, gridP_map, Int.toNat_natCast, Int.toNat_natCast]
  refine gridP_congr fun k i hk hi => ?_
  rw [atF_eq hr (by simpa using hi) (by simpa using hk), Int.toNat_natCast]
  have := at_table (i := i) (j := k) (n := R) (m := K) hi hk
  exact getD_newF (by omega) _
end
end Go.Proofs.YtbflmeomkfjikaaGreat.A

set_option linter.unusedVariables false
set_option linter.unusedSimpArgs false
namespace Go.Proofs.YtbflmeomkfjikaaGreat.A
open Go Go.RowKit Go.Shelf

/-- All numbers of a row lie within a bound. -/
def bnd (B : Nat) (l : List Int) : Prop := ∀ x ∈ l, x.natAbs ≤ B
theorem bnd_get {B : Nat} {a : List Int} (h : bnd B a) (i : Nat) : (a.getD i 0).natAbs ≤ B := by
  rw [List.getD_eq_getElem?_getD]
  cases hi : a[i]? with
  | none => simp
  | some x => exact h x (List.mem_of_getElem? hi)
theorem small_bnd {a : List Int} (h : small a) : bnd 100 a := fun x hx => by
  have := h x hx
  omega
theorem few_of {n : Int} {B : Nat} (h : n.natAbs ≤ B) (hB : B ≤ 1073741824) : few n := by
  unfold few
  omega
theorem mul_abs {x y : Int} {B C : Nat} (hx : x.natAbs ≤ B) (hy : y.natAbs ≤ C) : (x * y).natAbs ≤ B * C := by
  rw [Int.natAbs_mul]
  exact Nat.mul_le_mul hx hy
theorem dotI_bnd {B C : Nat} {a b : List Int} (ha : bnd B a) (hb : bnd C b) (many cols i k : Nat) : ∀ j : Nat, (dotI a b many cols i k j).natAbs ≤ j * (B * C)
  | 0 => by simp [dotI]
  | j + 1 => by
    have h1 := dotI_bnd ha hb many cols i k j
    have h2 := mul_abs (bnd_get ha (i * many + j)) (bnd_get hb (j * cols + k))
    have h3 := Int.natAbs_add_le (dotI a b many cols i k j) (a.getD (i * many + j) 0 * b.getD (j * cols + k) 0)
    simp only [dotI, Nat.add_mul, Nat.one_mul]
    omega
theorem gridP_bnd {B : Nat} {g : Nat → Nat → Int} {n N : Nat} (h : ∀ i k, (g i k).natAbs ≤ B) : bnd B (gridP g n N 0) := by
  intro x hx
  rw [gridP_zero, List.mem_flatMap] at hx
  obtain ⟨i, _, hx⟩ := hx
  obtain ⟨k, _, rfl⟩ := List.mem_map.1 hx
  exact h i k
theorem mulI_bnd {B C : Nat} {a b : List Int} (ha : bnd B a) (hb : bnd C b) (rows many cols : Nat) : bnd (many * (B * C)) (mulI a b rows many cols) :=
  gridP_bnd fun i k => dotI_bnd ha hb many cols i k many
theorem sumI_bnd {B C : Nat} {a b : List Int} (ha : bnd B a) (hb : bnd C b) (R K : Nat) : bnd (B + C) (sumI a b K R 0) :=
  gridP_bnd fun i k => by
    have h1 := bnd_get ha (i * K + k)
    have h2 := bnd_get hb (i * K + k)
    have := Int.natAbs_add_le (a.getD (i * K + k) 0) (b.getD (i * K + k) 0)
    omega

theorem dotF_wholeB {B C : Nat} {a b : List Int} {many cols : Nat} (ha : bnd B a) (hb : bnd C b) (hB : B ≤ 1073741824) (hC : C ≤ 1073741824) (hBC : B * C ≤ 1073741824) (hm : many * (B * C) ≤ 1073741824) (i k : Nat) :
    dotF ((List.range many).map fun j => newF (a.getD (i * many + j) 0) 1) ((List.range many).map fun j => newF (b.getD (j * cols + k) 0) 1) = newF (dotI a b many cols i k many) 1 := by
  have hd : ∀ j, j ≤ many → few (dotI a b many cols i k j) := fun j hj => by
    have := dotI_bnd ha hb many cols i k j
    exact few_of this (Nat.le_trans (Nat.mul_le_mul_right _ hj) hm)
  unfold dotF
  rw [newF_whole (hd many (Nat.le_refl _)), List.zipWith_map, List.zipWith_self]
  have e : ∀ j, mulF (newF (a.getD (i * many + j) 0) 1) (newF (b.getD (j * cols + k) 0) 1) = whole (a.getD (i * many + j) 0 * b.getD (j * cols + k) 0) := fun j => by
    have h1 := few_of (bnd_get ha (i * many + j)) hB
    have h2 := few_of (bnd_get hb (j * cols + k)) hC
    have h3 := few_of (mul_abs (bnd_get ha (i * many + j)) (bnd_get hb (j * cols + k))) hBC
    rw [newF_whole h1, newF_whole h2, mulF_whole h1 h2 h3]
  simp only [e]
  exact sumF_whole (fun j => a.getD (i * many + j) 0 * b.getD (j * cols + k) 0) (dotI a b many cols i k) rfl (fun j => rfl) many (fun j _ => few_of (mul_abs (bnd_get ha (i * many + j)) (bnd_get hb (j * cols + k))) hBC) hd many (Nat.le_refl _)

/-- The product of whole numbers within bounds. -/
theorem prodF_wholeB {B C : Nat} {R M K : Nat} {a b : List Int} (hR : 1 ≤ R ∧ R ≤ 16) (hM : 1 ≤ M ∧ M ≤ 16) (hK : 1 ≤ K ∧ K ≤ 16) (la : a.length = R * M) (lb : b.length = M * K) (ha : bnd B a) (hb : bnd C b)
    (hB : B ≤ 1073741824) (hC : C ≤ 1073741824) (hBC : B * C ≤ 1073741824) (hm : M * (B * C) ≤ 1073741824) :
    prodF (R : Int) (M : Int) (K : Int) (a.map (newF · 1)) (b.map (newF · 1)) = (mulI a b R M K).map (newF · 1) := by
  have h1' := right_nat (n := (a.map (newF · 1)).length) hR hM (by simpa using la)
  have h2' := right_nat (n := (b.map (newF · 1)).length) hM hK (by simpa using lb)
  have h3 := right_turn h2'
  unfold prodF mulI allF
  rw [gridP_zero, List.flatMap_map, List.map_flatMap]
  simp only [Int.toNat_natCast]
  apply flatMap_same
  intro i hi
  rw [List.mem_range] at hi
  rw [List.map_map, List.map_map]
  apply List.map_congr_left
  intro k hk
  rw [List.mem_range] at hk
  simp only [Function.comp]
  have e1 : rowF (R : Int) (M : Int) (a.map (newF · 1)) i = (List.range M).map fun j => newF (a.getD (i * M + j) 0) 1 := by
    rw [rowF_eq ⟨0, 0, false⟩ h1' (by simpa using hi), Int.toNat_natCast]
    apply List.map_congr_left
    intro j hj
    rw [List.mem_range] at hj
    have := at_table hi hj
    exact getD_newF (by omega) _
  have e2 : rowF (K : Int) (M : Int) (turnF (M : Int) (K : Int) (b.map (newF · 1))) k = (List.range M).map fun j => newF (b.getD (j * K + k) 0) 1 := by
    rw [rowF_eq ⟨0, 0, false⟩ h3 (by simpa using hk), Int.toNat_natCast]
    apply List.map_congr_left
    intro j hj
    rw [List.mem_range] at hj
    rw [turnF_eq h2', List.getD_eq_getElem?_getD, Int.toNat_natCast, Int.toNat_natCast, gridP_get _ _ _ _ _ hk hj, Option.getD_some, atF_eq h2' (by simpa using hj) (by simpa using hk), Int.toNat_natCast]
    have := at_table hj hk
    exact getD_newF (by omega) _
  rw [e1, e2, dotF_wholeB ha hb hB hC hBC hm]

theorem sumI_eqB {B C : Nat} {a b : List Int} {R K : Nat} (ha : a.length = R * K) (hb : b.length = R * K) (sa : bnd B a) (sb : bnd C b) (h : B + C ≤ 1073741824) : List.zipWith addF (a.map (newF · 1)) (b.map (newF · 1)) = (sumI a b K R 0).map (newF · 1) := by
  rw [sumI, gridP_map]
  refine grid_of (by simp [ha, hb]) fun i k hi hk => ?_
  have := at_table hi hk
  have h1 := bnd_get sa (i * K + k)
  have h2 := bnd_get sb (i * K + k)
  have h3 := Int.natAbs_add_le (a.getD (i * K + k) 0) (b.getD (i * K + k) 0)
  have f1 := few_of h1 (by omega)
  have f2 := few_of h2 (by omega)
  have f3 : few (a.getD (i * K + k) 0 + b.getD (i * K + k) 0) := few_of (B := B + C) (by omega) h
  rw [List.getElem?_zipWith, getD_map (by omega), getD_map (by omega)]
  simp only
  rw [newF_whole f1, newF_whole f2, newF_whole f3, addF_whole f1 f2 f3]

theorem grid_getD {g : Nat → Nat → Int} {n N i k : Nat} (hi : i < N) (hk : k < n) : (gridP g n N 0).getD (i * n + k) 0 = g i k := by
  rw [List.getD_eq_getElem?_getD, gridP_get g n N i k hi hk, Option.getD_some]
theorem mulI_length (a b : List Int) (R M K : Nat) : (mulI a b R M K).length = R * K := by rw [mulI, gridP_length, Nat.add_zero]
theorem sumI_length (a b : List Int) (R K : Nat) : (sumI a b K R 0).length = R * K := by rw [sumI, gridP_length, Nat.add_zero]

theorem dotI_add {a s b c : List Int} {many cols i k : Nat} (h : ∀ j, j < many → s.getD (j * cols + k) 0 = b.getD (j * cols + k) 0 + c.getD (j * cols + k) 0) :
    ∀ j, j ≤ many → dotI a s many cols i k j = dotI a b many cols i k j + dotI a c many cols i k j
  | 0, _ => rfl
  | j + 1, hj => by
    simp only [dotI]
    rw [dotI_add h j (by omega), h j (by omega), Int.mul_add]
    omega
/-- A product with a sum. -/
theorem mul_sum {a b c : List Int} {R M K : Nat} : mulI a (sumI b c K M 0) R M K = sumI (mulI a b R M K) (mulI a c R M K) K R 0 := by
  unfold mulI sumI
  refine gridP_congr fun i k hi hk => ?_
  rw [grid_getD hi hk, grid_getD hi hk]
  exact dotI_add (fun j hj => grid_getD hj hk) M (Nat.le_refl _)

theorem dotI_same {a s b : List Int} {many c1 c2 i k1 k2 : Nat} (h : ∀ j, j < many → s.getD (j * c1 + k1) 0 = b.getD (j * c2 + k2) 0) :
    ∀ j, j ≤ many → dotI a s many c1 i k1 j = dotI a b many c2 i k2 j
  | 0, _ => rfl
  | j + 1, hj => by
    simp only [dotI]
    rw [dotI_same h j (by omega), h j (by omega)]
theorem besI_grid {b c : List Int} {R K : Nat} (hb : b.length = R * K) (hc : c.length = R * K) : besI b c K R = gridP (fun i k => if k < K then b.getD (i * K + k) 0 else c.getD (i * K + (k - K)) 0) (K + K) R 0 := by
  rw [gridP_zero]
  unfold besI rowI
  apply flatMap_same
  intro i hi
  rw [List.mem_range] at hi
  have : (i + 1) * K ≤ R * K := Nat.mul_le_mul_right _ hi
  rw [stretch b 0 i K (by omega), stretch c 0 i K (by omega), List.range_add, List.map_append, List.map_map]
  congr 1
  · apply List.map_congr_left
    intro k hk
    rw [List.mem_range] at hk
    rw [if_pos hk]
  · apply List.map_congr_left
    intro k hk
    simp only [Function.comp]
    rw [if_neg (by omega)]
    congr 1
    omega
/-- A product with a row beside another one. -/
theorem mul_bes {a b c : List Int} {R M K : Nat} (hb : b.length = M * K) (hc : c.length = M * K) : mulI a (besI b c K M) R M (K + K) = besI (mulI a b R M K) (mulI a c R M K) K R := by
  rw [besI_grid (mulI_length a b R M K) (mulI_length a c R M K), besI_grid hb hc]
  unfold mulI
  refine gridP_congr fun i k hi hk => ?_
  by_cases h : k < K
  · rw [if_pos h, grid_getD hi h]
    exact dotI_same (fun j hj => by rw [grid_getD hj hk, if_pos h]) M (Nat.le_refl _)
  · rw [if_neg h, grid_getD hi (show k - K < K by omega)]
    exact dotI_same (fun j hj => by rw [grid_getD hj hk, if_neg h]) M (Nat.le_refl _)
theorem besI_bnd {B : Nat} {b c : List Int} {R K : Nat} (hb : bnd B b) (hc : bnd B c) (n : Nat) : bnd B (besI b c K n) := by
  intro x hx
  unfold besI rowI at hx
  rw [List.mem_flatMap] at hx
  obtain ⟨i, _, hx⟩ := hx
  rcases List.mem_append.1 hx with hx | hx
  · exact hb x (List.mem_of_mem_take (List.mem_of_mem_drop hx))
  · exact hc x (List.mem_of_mem_take (List.mem_of_mem_drop hx))
end Go.Proofs.YtbflmeomkfjikaaGreat.A

set_option linter.unusedVariables false
set_option linter.unusedSimpArgs false
set_option maxRecDepth 100000
namespace Go.Proofs.YtbflmeomkfjikaaGreat.A
open Go Go.RowKit Go.Shelf

/-! ### The unit -/
def unitP (n k : Nat) : List Int := gridP (fun i j => if i = j ∧ i < k then 1 else 0) n n 0
theorem unitP_length (n k : Nat) : (unitP n k).length = n * n := by rw [unitP, gridP_length, Nat.add_zero]
theorem unitP_zero (n : Nat) : unitP n 0 = List.replicate (n * n) 0 := by
  refine (grid_of (by simp) fun i k hi hk => ?_).symm
  have := at_table hi hk
  rw [List.getElem?_replicate, if_pos this.1]
  simp
theorem table_inj {n i j k : Nat} (hi : i < n) (hj : j < n) (h : i * n + j = k * n + k) (hk : k < n) : i = k ∧ j = k := by
  have h1 : (i * n + j) / n = i := by rw [Nat.mul_comm, Nat.mul_add_div (by omega), Nat.div_eq_of_lt hj, Nat.add_zero]
  have h2 : (k * n + k) / n = k := by rw [Nat.mul_comm, Nat.mul_add_div (by omega), Nat.div_eq_of_lt hk, Nat.add_zero]
  rw [h, h2] at h1
  subst h1
  exact ⟨rfl, by omega⟩
theorem unitP_succ {n k : Nat} (hk : k < n) : (unitP n k).set (k * n + k) 1 = unitP n (k + 1) := by
  refine grid_of (by rw [List.length_set, unitP_length]) fun i j hi hj => ?_
  have hg : (unitP n k)[i * n + j]? = some (if i = j ∧ i < k then 1 else 0) := gridP_get _ _ _ _ _ hi hj
  rw [List.getElem?_set]
  have ht := at_table hk hk
  by_cases h : k * n + k = i * n + j
  · obtain ⟨rfl, rfl⟩ := table_inj hi hj h.symm hk
    rw [if_pos rfl, if_pos (by rw [unitP_length]; exact ht.1)]
    simp
  · rw [if_neg h, hg]
    congr 1
    by_cases h2 : i = j
    · subst h2
      have : i ≠ k := fun e => h (by rw [e])
      by_cases h3 : i < k
      · simp [h3, show i < k + 1 by omega]
      · simp [h3, show ¬ i < k + 1 by omega]
    · simp [h2]
theorem tovs_nums : ∀ (l : List Int), tovs (l.map fun z => nt z) = some (l.map num)
  | [] => rfl
  | z :: l => by
    simp only [List.map_cons, tovs, tov, tovs_nums l]
theorem one_nums (l : List Int) : (l.map num).all PV.one = true := by
  simp [PV.one]
theorem set_nums {l : List Int} {i : Nat} (h : i < l.length) (x : Int) : (l.map fun z => nt z).take i ++ (nt x :: (l.map fun z => nt z).drop (i + 1)) = (l.set i x).map fun z => nt z := by
  rw [List.map_set, List.set_eq_take_append_cons_drop, if_pos (by simpa using h)]

theorem ok124 (n : Int) : Ok Tryz.prog 124 [num n] (if 1 ≤ n ∧ n ≤ 16 then .tup [matV false n n (frs ((unitP n.toNat n.toNat).map (newF · 1))), tru true] else .tup [matNil, tru false]) := by
  refine ok_fn mixed Tryz.func124 (code := ?_) (h := h124) ?_ k124 ?_
  rotate_left
  · exact rfl
  unfold h124 initS
  simp -implicitDefEqProofs only [rkA, rkB, stepA, valA, simprocAttr, Tryz.ntmps124, Tryz.results124]
  by_cases hn : 1 ≤ n ∧ n ≤ 16
  · rw [if_pos hn]
    obtain ⟨n1, n2⟩ := hn
    obtain ⟨N, rfl⟩ := Int.eq_ofNat_of_zero_le (show 0 ≤ n by omega)
    rw [Int.toNat_natCast]
    repeat' (refine gB_dec ?_ ?_ <;> intro hc <;> first | (exfalso; omega) | simp -implicitDefEqProofs only [hc, rkA, rkB, stepA, valA, simprocAttr])
    have s := side16 (n := N) (m := N) (by omega) (by omega)
    have cN : (N : Int) * (N : Int) = ((N * N : Nat) : Int) := by simp
    have wN := wrapped (x := ((N * N : Nat) : Int)) (by omega) (by omega)
    have hc1 : (0 : Int) ≤ ((N * N : Nat) : Int) := by omega
    have hc2 : ((N * N : Nat) : Int) * (8 : Int) ≤ 140737488355328 := by omega
    have hc3 : ((N * N : Nat) : Int) ≤ 16777216 := by omega
    have hk : (List.replicate (N * N) (nt 0)).map (TV.killPtr 16) = (unitP N 0).map fun z => nt z := by
      rw [List.map_replicate, unitP_zero, List.map_replicate]
      rfl
    simp -implicitDefEqProofs only [cN, wN, hc1, hc2, hc3, Int.toNat_natCast, hk, rkA, rkB, stepA, valA, simprocAttr]
    refine wp_loop (fun m s => ∃ k : Nat, k + m = N ∧ s = ⟨[nt N, jk, .ptr 2 0, jk, .own 16 (N * N), jk, jk, jk, jk, jk, jk, jk, jk, jk, jk, jk, jk, nt N, nt k, jk, jk, jk, jk, jk, jk, jk, jk, jk, jk, jk, jk, jk, jk, jk, jk], [(2, [nt 0, nt 0, .acc 3002 []]), (16, (unitP N k).map fun z => nt z)], [], [(3002, 0)], [], 0, nomem⟩) N ?_ ?_
    · simp -implicitDefEqProofs only [rkA, rkB, stepA, valA, simprocAttr]
      exact ⟨0, by simp, rfl⟩
    rintro m s' ⟨k, hkm, rfl⟩
    simp -implicitDefEqProofs only [rkA, rkB, stepA, valA, simprocAttr]
    refine gB_dec ?_ ?_ <;> intro hc <;> simp -implicitDefEqProofs only [hc, rkA, rkB, stepA, valA, simprocAttr]
    · have tt := at_table (i := k) (j := k) (n := N) (m := N) (by omega) (by omega)
      have c2 : (k : Int) * (N : Int) = ((k * N : Nat) : Int) := by simp
      have c3 : ((k * N : Nat) : Int) + (k : Int) = ((k * N + k : Nat) : Int) := by simp
      have w2 := wrapped (x := ((k * N : Nat) : Int)) (by omega) (by omega)
      have w3 := wrapped (x := ((k * N + k : Nat) : Int)) (by omega) (by omega)
      have w4 := wrapped (x := (k : Int) + 1) (by omega) (by omega)
      have n1 : (0 : Int) ≤ ((k * N + k : Nat) : Int) := by omega
      have n2 : ((k * N + k : Nat) : Int) < ((N * N : Nat) : Int) := by omega
      have hlen : k * N + k + 1 ≤ ((unitP N k).map fun z => nt z).length := by
        rw [List.length_map, unitP_length]
        omega
      have hset := set_nums (l := unitP N k) (i := k * N + k) (by rw [unitP_length]; exact tt.1) 1
      rw [unitP_succ (by omega)] at hset
      simp -implicitDefEqProofs only [c2, w2, c3, w3, n1, n2, Int.toNat_natCast, hlen, w4, hset, rkA, rkB, stepA, valA, simprocAttr]
      refine loopK_of (m' := m - 1) (by omega) ?_
      simp -implicitDefEqProofs only [rkA, rkB, stepA, valA, simprocAttr]
      exact ⟨k + 1, by omega, by simp only [Int.natCast_add, Int.natCast_one]⟩
    · have hkN : k = N := by omega
      subst hkN
      have hl : ((unitP k k).map num).length = k * k := by rw [List.length_map, unitP_length]
      simp -implicitDefEqProofs only [tovs_nums, one_nums, hl, rkA, rkB, stepA, valA, simprocAttr]
      have h12 := ok19 (k : Int) (k : Int) true (unitP k k) (by rw [unitP_length]; omega)
      rw [if_pos (right_nat (by omega) (by omega) (unitP_length k k))] at h12
      refine call_fn rfl rfl rfl (h12) ?_
      simp -implicitDefEqProofs only [rkA, rkB, stepA, valA, simprocAttr]
  · rw [if_neg hn]
    repeat' (refine gB_dec ?_ ?_ <;> intro hc <;> first | (exfalso; omega) | simp -implicitDefEqProofs only [hc, rkA, rkB, stepA, valA, simprocAttr])
end Go.Proofs.YtbflmeomkfjikaaGreat.A

set_option linter.unusedVariables false
set_option linter.unusedSimpArgs false
set_option maxRecDepth 100000
namespace Go.Proofs.YtbflmeomkfjikaaGreat.A.E
open Go Go.RowKit Go.Shelf

end Go.Proofs.YtbflmeomkfjikaaGreat.A.E


set_option linter.unusedVariables false
set_option linter.unusedSimpArgs false
set_option maxRecDepth 100000
namespace Go.Proofs.YtbflmeomkfjikaaGreat.A
open Go Go.RowKit Go.Shelf

/-! ### Plain laws of products -/
theorem dotI_sum (a b : List Int) (many cols i k : Nat) : ∀ j, dotI a b many cols i k j = ((List.range j).map fun j => a.getD (i * many + j) 0 * b.getD (j * cols + k) 0).sum
  | 0 => rfl
  | j + 1 => by
    simp only [dotI, List.range_succ, List.map_append, List.sum_append, List.map_cons, List.map_nil, List.sum_cons, List.sum_nil]
    rw [dotI_sum a b many cols i k j]
    omega

theorem sum_congr {f g : Nat → Int} {n : Nat} (h : ∀ j, j < n → f j = g j) : ((List.range n).map f).sum = ((List.range n).map g).sum := by
  congr 1
  apply List.map_congr_left
  intro j hj
  exact h j (List.mem_range.1 hj)
theorem sum_mul (f : Nat → Int) (c : Int) : ∀ n, ((List.range n).map f).sum * c = ((List.range n).map fun j => f j * c).sum
  | 0 => by simp
  | n + 1 => by
    simp only [List.range_succ, List.map_append, List.sum_append, List.map_cons, List.map_nil, List.sum_cons, List.sum_nil, Int.add_mul]
    rw [sum_mul f c n]
    omega
theorem mul_sum' (f : Nat → Int) (c : Int) (n : Nat) : c * ((List.range n).map f).sum = ((List.range n).map fun j => c * f j).sum := by
  rw [Int.mul_comm, sum_mul]
  exact sum_congr fun j _ => Int.mul_comm _ _
theorem sum_add (f g : Nat → Int) : ∀ n, ((List.range n).map fun j => f j + g j).sum = ((List.range n).map f).sum + ((List.range n).map g).sum
  | 0 => rfl
  | n + 1 => by
    simp only [List.range_succ, List.map_append, List.sum_append, List.map_cons, List.map_nil, List.sum_cons, List.sum_nil]
    rw [sum_add f g n]
    omega
theorem sum_swap (f : Nat → Nat → Int) : ∀ n m, ((List.range n).map fun i => ((List.range m).map fun j => f i j).sum).sum = ((List.range m).map fun j => ((List.range n).map fun i => f i j).sum).sum
  | 0, m => by
    have : ∀ m : Nat, ((List.range m).map fun _ => (0 : Int)).sum = 0 := fun m => by
      induction m with
      | zero => rfl
      | succ m ih => simp [List.range_succ, ih]
    simp [this]
  | n + 1, m => by
    simp only [List.range_succ, List.map_append, List.sum_append, List.map_cons, List.map_nil, List.sum_cons, List.sum_nil, Int.add_zero]
    rw [sum_swap f n m, sum_add]

/-- Brackets do not matter. -/
theorem mul_assoc {a b c : List Int} {N : Nat} : mulI (mulI a b N N N) c N N N = mulI a (mulI b c N N N) N N N := by
  have hg : ∀ {x y : List Int} {i k : Nat}, i < N → k < N → (mulI x y N N N).getD (i * N + k) 0 = dotI x y N N i k N := fun hi hk => grid_getD hi hk
  show gridP _ N N 0 = gridP _ N N 0
  refine gridP_congr fun i k hi hk => ?_
  rw [dotI_sum, dotI_sum]
  have e1 : ((List.range N).map fun j => (mulI a b N N N).getD (i * N + j) 0 * c.getD (j * N + k) 0).sum = ((List.range N).map fun j => ((List.range N).map fun l => a.getD (i * N + l) 0 * b.getD (l * N + j) 0 * c.getD (j * N + k) 0).sum).sum :=
    sum_congr fun j hj => by rw [hg hi hj, dotI_sum, sum_mul]
  have e2 : ((List.range N).map fun l => a.getD (i * N + l) 0 * (mulI b c N N N).getD (l * N + k) 0).sum = ((List.range N).map fun l => ((List.range N).map fun j => a.getD (i * N + l) 0 * b.getD (l * N + j) 0 * c.getD (j * N + k) 0).sum).sum :=
    sum_congr fun l hl => by
      rw [hg hl hk, dotI_sum, mul_sum']
      exact sum_congr fun j _ => by rw [Int.mul_assoc]
  rw [e1, e2, sum_swap]

theorem sum_one (f : Nat → Int) {k : Nat} : ∀ n, ((List.range n).map fun j => f j * (if j = k then 1 else 0)).sum = if k < n then f k else 0
  | 0 => by simp
  | n + 1 => by
    simp only [List.range_succ, List.map_append, List.sum_append, List.map_cons, List.map_nil, List.sum_cons, List.sum_nil, Int.add_zero]
    rw [sum_one f n]
    by_cases h : n = k
    · subst h
      simp
    · by_cases h2 : k < n
      · simp [h, h2, show k < n + 1 by omega]
      · simp [h, h2, show ¬ k < n + 1 by omega]
/-- The unit changes nothing. -/
theorem mul_unit {a : List Int} {N : Nat} (ha : a.length = N * N) : mulI a (unitP N N) N N N = a := by
  refine (grid_of ha fun i k hi hk => ?_).symm
  have e : dotI a (unitP N N) N N i k N = a.getD (i * N + k) 0 := by
    rw [dotI_sum]
    have : ∀ j, j < N → a.getD (i * N + j) 0 * (unitP N N).getD (j * N + k) 0 = a.getD (i * N + j) 0 * (if j = k then 1 else 0) := fun j hj => by
      have hu : (unitP N N).getD (j * N + k) 0 = if j = k ∧ j < N then 1 else 0 := grid_getD hj hk
      rw [hu]
      simp [hj]
    rw [sum_congr this, sum_one (fun j => a.getD (i * N + j) 0) N, if_pos hk]
  rw [e]
  have := at_table hi hk
  simp [this.1, ha]

/-- Turned twice. -/
theorem tur_tur {a : List Int} {N : Nat} (ha : a.length = N * N) : turI (turI a N N N 0) N N N 0 = a := by
  refine (grid_of ha fun i k hi hk => ?_).symm
  have hg : (turI a N N N 0).getD (k * N + i) 0 = a.getD (i * N + k) 0 := grid_getD hk hi
  rw [hg]
  have := at_table hi hk
  simp [this.1, ha]
theorem turI_length (a : List Int) (N : Nat) : (turI a N N N 0).length = N * N := by rw [turI, gridP_length, Nat.add_zero]
theorem turI_bnd {B : Nat} {a : List Int} (ha : bnd B a) (N : Nat) : bnd B (turI a N N N 0) := gridP_bnd fun k i => bnd_get ha _
/-- A product, turned. -/
theorem tur_mul {a b : List Int} {N : Nat} : mulI (turI b N N N 0) (turI a N N N 0) N N N = turI (mulI a b N N N) N N N 0 := by
  show gridP _ N N 0 = gridP _ N N 0
  refine gridP_congr fun i k hi hk => ?_
  have h1 : (mulI a b N N N).getD (k * N + i) 0 = dotI a b N N k i N := grid_getD hk hi
  rw [h1, dotI_sum, dotI_sum]
  refine sum_congr fun j hj => ?_
  have h2 : (turI b N N N 0).getD (i * N + j) 0 = b.getD (j * N + i) 0 := grid_getD hi hj
  have h3 : (turI a N N N 0).getD (j * N + k) 0 = a.getD (k * N + j) 0 := grid_getD hj hk
  rw [h2, h3, Int.mul_comm]
end Go.Proofs.YtbflmeomkfjikaaGreat.A

set_option linter.unusedVariables false
set_option linter.unusedSimpArgs false
set_option maxRecDepth 100000
namespace Go.Proofs.YtbflmeomkfjikaaGreat.A
open Go Go.RowKit Go.Shelf

/-! ### Division -/
theorem methDiv : Meth Tryz.prog 32 "Div" 211 := by
  intro v xs w
  rfl

def divF (a b : Fr) : Fr := if a.fine = false ∨ b.fine = false then .wrong else newF (a.n * b.d) (a.d * b.n)
theorem ok220 (a b : Fr) (ha : a.fine = true) (hb : b.fine = true) : Ok Tryz.prog 220 [.vp [num a.n, num a.d, tru a.bad], .vp [num b.n, num b.d, tru b.bad]] (.tup [num (a.n * b.d), num (a.d * b.n)]) := by
  obtain ⟨a1, a2, a3, a4, a5⟩ := Fr.fine_spec ha
  obtain ⟨b1, b2, b3, b4, b5⟩ := Fr.fine_spec hb
  have p1 := prod_le (x := a.n) (y := b.d) ⟨a5, a4⟩ (by omega)
  have p3 := prod_le (x := a.d) (y := b.n) (by omega) ⟨b5, b4⟩
  have w1 := wrapped (x := a.n * b.d) (by omega) (by omega)
  have w3 := wrapped (x := a.d * b.n) (by omega) (by omega)
  refine ok_fn mixed Tryz.func220 (code := ?_) (h := h220) ?_ k220 ?_
  rotate_left
  · exact rfl
  unfold h220 initS
  simp -implicitDefEqProofs only [rkA, rkB, stepA, valA, simprocAttr, Tryz.ntmps220, Tryz.results220]
  simp -implicitDefEqProofs only [w1, w3, rkA, rkB, stepA, valA, simprocAttr]
theorem ok211 (a b : Fr) : Ok Tryz.prog 211 [frV a, frV b] (frV (divF a b)) := by
  refine ok_fn mixed Tryz.func211 (code := ?_) (h := h211) ?_ k211 ?_
  rotate_left
  · exact rfl
  unfold h211 initS
  simp -implicitDefEqProofs only [rkA, rkB, stepA, valA, simprocAttr, Tryz.ntmps211, Tryz.results211]
  refine call_fn rfl rfl rfl (ok219 a b 220 _ _ _ (fun ha hb => ok220 a b ha hb)) ?_
  simp -implicitDefEqProofs only [rkA, rkB, stepA, valA, simprocAttr]
  simp [divF]

/-! ### A row, scaled -/
theorem ok123 (ex : Bool) (l : List Fr) (y : Fr) (h : l.length ≤ 5864062014805) : Ok Tryz.prog 123 [.sl ex (frs l), frV y] (.sl false (frs (l.map (mulF · y)))) := by
  refine ok_fn mixed Tryz.func123 (code := ?_) (h := h123) ?_ k123 ?_
  rotate_left
  · exact rfl
  unfold h123 initS
  simp -implicitDefEqProofs only [rkA, rkB, stepA, valA, simprocAttr, Tryz.ntmps123, Tryz.results123]
  refine wp_loop (fun m s => ∃ i : Nat, i + m = l.length ∧ s = ⟨[jk, jk, jk, .ptr 3 0, jk, .acc 5 (frs ((l.take i).map (mulF · y))), jk, jk, .v (.sl ex (frs l)), nt (frs l).length, nt i, jk, jk, jk, jk, jk, jk, jk, jk, jk, jk, jk, jk], [(3, [nt y.n, nt y.d, .v (tru y.bad)])], [], [(4, 0), (5, i)], [], 0, nomem⟩) l.length ?_ ?_
  · simp -implicitDefEqProofs only [rkA, rkB, stepA, valA, simprocAttr]
    exact ⟨0, by simp, rfl⟩
  rintro m s ⟨i, hi, rfl⟩
  simp -implicitDefEqProofs only [rkA, rkB, stepA, valA, simprocAttr]
  refine gB_dec ?_ ?_ <;> intro hc <;> simp -implicitDefEqProofs only [hc, rkA, rkB, stepA, valA, simprocAttr]
  · have hlt : i < l.length := by simpa using hc
    have h0 : (0 : Int) ≤ (i : Int) := by omega
    have hg : (frs l)[i]? = some (frV l[i]) := by simp [hlt]
    simp -implicitDefEqProofs only [h0, Int.toNat_natCast, hg, rkA, rkB, stepA, valA, simprocAttr]
    refine call_meth rfl rfl methMul (ok213 l[i] y) ?_
    have hfit : fits 3 24 (frs ((l.take i).map (mulF · y))) [frV (mulF l[i] y)] = true := fits_frs (l := [mulF l[i] y]) (by simp; omega)
    have hw := wrapped (x := (i : Int) + 1) (by omega) (by omega)
    have hl : (frs ((l.take i).map (mulF · y))).length = i := by simp; omega
    simp -implicitDefEqProofs only [hfit, hl, hw, rkA, rkB, stepA, valA, simprocAttr]
    refine loopK_of (m' := m - 1) (by omega) ?_
    simp -implicitDefEqProofs only [rkA, rkB, stepA, valA, simprocAttr]
    refine ⟨i + 1, by omega, ?_⟩
    rw [List.take_succ_eq_append_getElem hlt]
    simp only [frs, List.map_append, List.map_cons, List.map_nil, Int.natCast_add, Int.natCast_one]
  · have : l.length ≤ i := by simp only [List.length_map] at hc; omega
    rw [List.take_of_length_le this]

/-! ### Squares -/
theorem ok73 (ex : Bool) (r c : Int) (l : List Fr) : Ok Tryz.prog 73 [matV ex r c (frs l)] (tru (right r c l.length && (r == c))) := by
  refine ok_fn mixed Tryz.func73 (code := ?_) (h := h73) ?_ k73 ?_
  rotate_left
  · exact rfl
  unfold h73 initS
  simp -implicitDefEqProofs only [rkA, rkB, stepA, valA, simprocAttr, Tryz.ntmps73, Tryz.results73]
  refine call_fn rfl rfl rfl (ok100 ex r c (frs l)) ?_
  have e : (frs l).length = l.length := by simp
  rw [e]
  cases hr : right r c l.length with
  | false => simp -implicitDefEqProofs only [rkA, rkB, stepA, valA, simprocAttr]
  | true => simp -implicitDefEqProofs only [rkA, rkB, stepA, valA, simprocAttr]

/-- A square. -/
def sqF (r : Int) (l : List Fr) : List Fr := mirF r (prodF r r r l (turnF r r l))
theorem prodF_len {r m c : Int} {a b : List Fr} : (prodF r m c a b).length = r.toNat * c.toNat := by
  unfold prodF
  simp only [List.length_flatMap, List.length_map, allF, List.length_range, List.map_map]
  have e : ∀ l : List Nat, (l.map ((fun _ => c.toNat) ∘ fun (i : Nat) => rowF r m a (i : Int))).sum = l.length * c.toNat := fun l => by
    induction l with
    | nil => simp
    | cons x l ih => rw [List.map_cons, List.sum_cons, ih, List.length_cons, Nat.add_mul, Nat.one_mul, Nat.add_comm]; rfl
  rw [e, List.length_range]
theorem right_sq {n : Nat} (hn : 1 ≤ n ∧ n ≤ 16) {l : List Fr} (h : l.length = n * n) : right (n : Int) (n : Int) l.length = true := right_nat hn hn h
theorem ok110 (n : Nat) (hn : 1 ≤ n ∧ n ≤ 16) (ex : Bool) (l : List Fr) (h : l.length = n * n) : Ok Tryz.prog 110 [matV ex n n (frs l)] (.tup [matV false n n (frs (sqF n l)), tru true]) := by
  have hr := right_sq hn h
  refine ok_fn mixed Tryz.func110 (code := ?_) (h := h110) ?_ k110 ?_
  rotate_left
  · exact rfl
  unfold h110 initS
  simp -implicitDefEqProofs only [rkA, rkB, stepA, valA, simprocAttr, Tryz.ntmps110, Tryz.results110]
  refine call_fn rfl rfl rfl (ok73 ex n n l) ?_
  simp -implicitDefEqProofs only [hr, beq_self_eq_true, rkA, rkB, stepA, valA, simprocAttr]
  have h25 := ok119 ex n n l
  rw [if_pos hr] at h25
  refine call_fn rfl rfl rfl (h25) ?_
  simp -implicitDefEqProofs only [rkA, rkB, stepA, valA, simprocAttr]
  have hrt := right_turn hr
  have h13 := ok125 ex false n n n n l (turnF n n l)
  rw [if_pos ⟨hr, hrt, rfl⟩] at h13
  refine call_fn rfl rfl rfl (h13) ?_
  simp -implicitDefEqProofs only [rkA, rkB, stepA, valA, simprocAttr]
  have h33 := ok157 false n n (prodF n n n l (turnF n n l))
  have hp : right (n : Int) (n : Int) (prodF n n n l (turnF n n l)).length = true := right_sq hn (by rw [prodF_len]; simp)
  rw [if_pos ⟨hp, rfl⟩] at h33
  refine call_fn rfl rfl rfl (h33) ?_
  simp -implicitDefEqProofs only [rkA, rkB, stepA, valA, simprocAttr, sqF]
end Go.Proofs.YtbflmeomkfjikaaGreat.A

set_option linter.unusedVariables false
set_option linter.unusedSimpArgs false
set_option maxRecDepth 100000
namespace Go.Proofs.YtbflmeomkfjikaaGreat.A.E
open Go Go.RowKit Go.Shelf

theorem methDiv : Meth Tryz.prog 40 "Div" 228 := by
  intro v xs w
  rfl

theorem ok116 (ex : Bool) (l : List Fr) (y : Fr) (h : l.length ≤ 4398046511104) : Ok Tryz.prog 116 [.sl ex (frs l), frV y] (.sl false (frs (l.map (mulF · y)))) := by
  refine ok_fn mixed Tryz.func116 (code := ?_) (h := h116) ?_ k116 ?_
  rotate_left
  · exact rfl
  unfold h116 initS
  simp -implicitDefEqProofs only [rkA, rkB, stepA, valA, simprocAttr, Tryz.ntmps116, Tryz.results116]
  refine wp_loop (fun m s => ∃ i : Nat, i + m = l.length ∧ s = ⟨[jk, jk, jk, .ptr 3 0, jk, .acc 5 (frs ((l.take i).map (mulF · y))), jk, jk, .v (.sl ex (frs l)), nt (frs l).length, nt i, jk, jk, jk, jk, jk, jk, jk, jk, jk, jk, jk, jk], [(3, [nt y.v, nt y.lo, nt y.hi, .v (tru y.bad)])], [], [(4, 0), (5, i)], [], 0, nomem⟩) l.length ?_ ?_
  · simp -implicitDefEqProofs only [rkA, rkB, stepA, valA, simprocAttr]
    exact ⟨0, by simp, rfl⟩
  rintro m s ⟨i, hi, rfl⟩
  simp -implicitDefEqProofs only [rkA, rkB, stepA, valA, simprocAttr]
  refine gB_dec ?_ ?_ <;> intro hc <;> simp -implicitDefEqProofs only [hc, rkA, rkB, stepA, valA, simprocAttr]
  · have hlt : i < l.length := by simpa using hc
    have h0 : (0 : Int) ≤ (i : Int) := by omega
    have hg : (frs l)[i]? = some (frV l[i]) := by simp [hlt]
    simp -implicitDefEqProofs only [h0, Int.toNat_natCast, hg, rkA, rkB, stepA, valA, simprocAttr]
    refine call_meth rfl rfl methMul (ok45 l[i] y) ?_
    have hfit : fits 4 32 (frs ((l.take i).map (mulF · y))) [frV (mulF l[i] y)] = true := fits_frs (l := [mulF l[i] y]) (by simp; omega)
    have hw := wrapped (x := (i : Int) + 1) (by omega) (by omega)
    have hl : (frs ((l.take i).map (mulF · y))).length = i := by simp; omega
    simp -implicitDefEqProofs only [hfit, hl, hw, rkA, rkB, stepA, valA, simprocAttr]
    refine loopK_of (m' := m - 1) (by omega) ?_
    simp -implicitDefEqProofs only [rkA, rkB, stepA, valA, simprocAttr]
    refine ⟨i + 1, by omega, ?_⟩
    rw [List.take_succ_eq_append_getElem hlt]
    simp only [frs, List.map_append, List.map_cons, List.map_nil, Int.natCast_add, Int.natCast_one]
  · have : l.length ≤ i := by simp only [List.length_map] at hc; omega
    rw [List.take_of_length_le this]

theorem ok79 (ex : Bool) (r c : Int) (l : List Fr) : Ok Tryz.prog 79 [matV ex r c (frs l)] (tru (right r c l.length && (r == c))) := by
  refine ok_fn mixed Tryz.func79 (code := ?_) (h := h79) ?_ k79 ?_
  rotate_left
  · exact rfl
  unfold h79 initS
  simp -implicitDefEqProofs only [rkA, rkB, stepA, valA, simprocAttr, Tryz.ntmps79, Tryz.results79]
  refine call_fn rfl rfl rfl (ok88 ex r c (frs l)) ?_
  have e : (frs l).length = l.length := by simp
  rw [e]
  cases hr : right r c l.length with
  | false => simp -implicitDefEqProofs only [rkA, rkB, stepA, valA, simprocAttr]
  | true => simp -implicitDefEqProofs only [rkA, rkB, stepA, valA, simprocAttr]

/-- A square. -/
def sqF (r : Int) (l : List Fr) : List Fr := mirF r (prodF r r r l (turnF r r l))
theorem prodF_len {r m c : Int} {a b : List Fr} : (prodF r m c a b).length = r.toNat * c.toNat := by
  unfold prodF
  simp only [List.length_flatMap, List.length_map, allF, List.length_range, List.map_map]
  have e : ∀ l : List Nat, (l.map ((fun _ => c.toNat) ∘ fun (i : Nat) => rowF r m a (i : Int))).sum = l.length * c.toNat := fun l => by
    induction l with
    | nil => simp
    | cons x l ih => rw [List.map_cons, List.sum_cons, ih, List.length_cons, Nat.add_mul, Nat.one_mul, Nat.add_comm]; rfl
  rw [e, List.length_range]
theorem right_sq {n : Nat} (hn : 1 ≤ n ∧ n ≤ 16) {l : List Fr} (h : l.length = n * n) : right (n : Int) (n : Int) l.length = true := right_nat hn hn h
theorem ok46 (n : Nat) (hn : 1 ≤ n ∧ n ≤ 16) (ex : Bool) (l : List Fr) (h : l.length = n * n) : Ok Tryz.prog 46 [matV ex n n (frs l)] (.tup [matV false n n (frs (sqF n l)), tru true]) := by
  have hr := right_sq hn h
  refine ok_fn mixed Tryz.func46 (code := ?_) (h := h46) ?_ k46 ?_
  rotate_left
  · exact rfl
  unfold h46 initS
  simp -implicitDefEqProofs only [rkA, rkB, stepA, valA, simprocAttr, Tryz.ntmps46, Tryz.results46]
  refine call_fn rfl rfl rfl (ok79 ex n n l) ?_
  simp -implicitDefEqProofs only [hr, beq_self_eq_true, rkA, rkB, stepA, valA, simprocAttr]
  have h25 := ok107 ex n n l
  rw [if_pos hr] at h25
  refine call_fn rfl rfl rfl (h25) ?_
  simp -implicitDefEqProofs only [rkA, rkB, stepA, valA, simprocAttr]
  have hrt := right_turn hr
  have h13 := ok106 ex false n n n n l (turnF n n l)
  rw [if_pos ⟨hr, hrt, rfl⟩] at h13
  refine call_fn rfl rfl rfl (h13) ?_
  simp -implicitDefEqProofs only [rkA, rkB, stepA, valA, simprocAttr]
  have h33 := ok108 false n n (prodF n n n l (turnF n n l))
  have hp : right (n : Int) (n : Int) (prodF n n n l (turnF n n l)).length = true := right_sq hn (by rw [prodF_len]; simp)
  rw [if_pos ⟨hp, rfl⟩] at h33
  refine call_fn rfl rfl rfl (h33) ?_
  simp -implicitDefEqProofs only [rkA, rkB, stepA, valA, simprocAttr, sqF]
end Go.Proofs.YtbflmeomkfjikaaGreat.A.E


set_option linter.unusedVariables false
set_option linter.unusedSimpArgs false
set_option maxRecDepth 100000
namespace Go.Proofs.YtbflmeomkfjikaaGreat.A
open Go Go.RowKit Go.Shelf

/-! ### States -/
abbrev stV (ex ep : Bool) (x : List PV) (r c : Int) (l : List PV) : PV := .agg [.sl ex x, num r, num c, .sl ep l]
abbrev stNil : PV := .agg [.s (.slice none 0 0), num 0, num 0, .s (.slice none 0 0)]
theorem Cs.st_nil {I : Imm} {xs ys : List PV} {vs : List Value} (h : Cs I (stNil :: xs) vs) (k : ∀ us, Cs I xs us → Cs I ys us) : Cs I (stV false false (frs []) 0 0 (frs []) :: ys) vs := by
  have key : ∀ us, Cs I [.s (.slice none 0 0), num 0, num 0, .s (.slice none 0 0)] us → Cs I [.sl false [], num 0, num 0, .sl false []] us := fun us h => Cs.nil_of h fun us h => Cs.keep h fun us h => Cs.keep h fun us h => Cs.nil_of h fun us h => h
  cases h with | cons h1 h2 => cases h1 with | agg hl => exact .cons (.agg (key _ hl)) (k _ h2)

def stRight (k : Nat) (r c : Int) (n : Nat) : Bool := decide (1 ≤ k ∧ k ≤ 4) && (right r c n && (r == k && c == k))
theorem ok118 (ex ep : Bool) (x l : List Fr) (r c : Int) : Ok Tryz.prog 118 [stV ex ep (frs x) r c (frs l)] (tru (stRight x.length r c l.length)) := by
  refine ok_fn mixed Tryz.func118 (code := ?_) (h := h118) ?_ k118 ?_
  rotate_left
  · exact rfl
  unfold h118 initS
  simp -implicitDefEqProofs (maxSteps := 10000000) only [rkA, rkB, stepA, valA, simprocAttr, Tryz.ntmps118, Tryz.results118]
  have e : (frs x).length = x.length := by simp
  have e' : (frs l).length = l.length := by simp
  by_cases hx : 1 ≤ x.length ∧ x.length ≤ 4
  · have h1 : (1 : Int) ≤ (x.length : Int) := by omega
    have h2 : (x.length : Int) ≤ 4 := by omega
    simp -implicitDefEqProofs (maxSteps := 10000000) only [e, h1, h2, rkA, rkB, stepA, valA, simprocAttr]
    refine call_fn rfl rfl rfl (ok100 ep r c (frs l)) ?_
    rw [e']
    cases hr : right r c l.length with
    | false => simp -implicitDefEqProofs (maxSteps := 10000000) only [stRight, hx, hr, rkA, rkB, stepA, valA, simprocAttr]
    | true =>
      simp -implicitDefEqProofs (maxSteps := 10000000) only [rkA, rkB, stepA, valA, simprocAttr]
      cases h3 : (r == (x.length : Int)) with
      | false => simp -implicitDefEqProofs (maxSteps := 10000000) only [stRight, hx, hr, h3, rkA, rkB, stepA, valA, simprocAttr]
      | true => simp -implicitDefEqProofs (maxSteps := 10000000) only [stRight, hx, hr, h3, rkA, rkB, stepA, valA, simprocAttr]
  · have hs : stRight x.length r c l.length = false := by simp -implicitDefEqProofs (maxSteps := 10000000) only [stRight, hx, rkA, rkB, stepA, valA, simprocAttr]
    rw [hs]
    by_cases h1 : 1 ≤ x.length
    · have h1' : (1 : Int) ≤ (x.length : Int) := by omega
      have h2 : ¬ (x.length : Int) ≤ 4 := by omega
      simp -implicitDefEqProofs (maxSteps := 10000000) only [e, h1', h2, rkA, rkB, stepA, valA, simprocAttr]
    · have h1' : ¬ (1 : Int) ≤ (x.length : Int) := by omega
      simp -implicitDefEqProofs (maxSteps := 10000000) only [e, h1', rkA, rkB, stepA, valA, simprocAttr]

theorem stRight_nat {k n : Nat} {m : Nat} (h : m = n * n) : stRight k n n m = decide (1 ≤ k ∧ k ≤ 4 ∧ k = n) := by
  by_cases hk : 1 ≤ k ∧ k ≤ 4
  · by_cases e : k = n
    · subst e
      have := right_nat (R := k) (K := k) (n := m) (by omega) (by omega) h
      simp [stRight, hk, this]
    · have e2 : ((n : Int) == (k : Int)) = false := by simp; omega
      simp [stRight, e2, e]
  · have : ¬ (1 ≤ k ∧ k ≤ 4 ∧ k = n) := by omega
    simp [stRight, hk, this]

theorem sqF_len (n : Nat) (l : List Fr) : (sqF n l).length = n * n := by
  rw [sqF, mirF, gridP_length]
  simp
/-! ### A new state -/
theorem ok58 (ex er : Bool) (x l : List Fr) (n : Nat) (hn : 1 ≤ n ∧ n ≤ 16) (hl : l.length = n * n) (hx : x.length ≤ 5864062014805) :
    Ok Tryz.prog 58 [.sl ex (frs x), matV er n n (frs l)] (if 1 ≤ x.length ∧ x.length ≤ 4 ∧ x.length = n then .tup [stV false false (frs x) n n (frs (sqF n l)), tru true] else .tup [stNil, tru false]) := by
  refine ok_fn mixed Tryz.func58 (code := ?_) (h := h58) ?_ k58 ?_
  rotate_left
  · exact rfl
  unfold h58 initS
  simp -implicitDefEqProofs (maxSteps := 10000000) only [rkA, rkB, stepA, valA, simprocAttr, Tryz.ntmps58, Tryz.results58]
  refine call_fn rfl rfl rfl (ok110 n hn er l hl) ?_
  simp -implicitDefEqProofs (maxSteps := 10000000) only [rkA, rkB, stepA, valA, simprocAttr]
  refine call_fn rfl rfl rfl (ok109 ex x hx) ?_
  simp -implicitDefEqProofs (maxSteps := 10000000) only [rkA, rkB, stepA, valA, simprocAttr]
  refine call_fn rfl rfl rfl (ok118 false false x (sqF n l) n n) ?_
  rw [stRight_nat (sqF_len n l)]
  by_cases h : 1 ≤ x.length ∧ x.length ≤ 4 ∧ x.length = n
  · rw [if_pos h, decide_eq_true h]
    simp -implicitDefEqProofs (maxSteps := 10000000) only [rkA, rkB, stepA, valA, simprocAttr]
  · rw [if_neg h, decide_eq_false h]
    simp -implicitDefEqProofs (maxSteps := 10000000) only [rkA, rkB, stepA, valA, simprocAttr]

/-! ### Turned -/
def turnedF (n : Nat) (m p q : List Fr) : List Fr := mirF n (List.zipWith addF (prodF n n n (prodF n n n m p) (turnF n n m)) q)
theorem turnedF_len (n : Nat) (m p q : List Fr) : (turnedF n m p q).length = n * n := by
  rw [turnedF, mirF, gridP_length]
  simp
theorem ok127 (n : Nat) (hn : 1 ≤ n ∧ n ≤ 16) (e1 e2 e3 : Bool) (m p q : List Fr) (hm : m.length = n * n) (hp : p.length = n * n) (hq : q.length = n * n) :
    Ok Tryz.prog 127 [matV e1 n n (frs m), matV e2 n n (frs p), matV e3 n n (frs q)] (.tup [matV false n n (frs (turnedF n m p q)), tru true]) := by
  have rm := right_sq hn hm
  have rp := right_sq hn hp
  have rq := right_sq hn hq
  have rt := right_turn rm
  refine ok_fn mixed Tryz.func127 (code := ?_) (h := h127) ?_ k127 ?_
  rotate_left
  · exact rfl
  unfold h127 initS
  simp -implicitDefEqProofs (maxSteps := 10000000) only [rkA, rkB, stepA, valA, simprocAttr, Tryz.ntmps127, Tryz.results127]
  have h13 := ok125 e1 e2 n n n n m p
  rw [if_pos ⟨rm, rp, rfl⟩] at h13
  refine call_fn rfl rfl rfl (h13) ?_
  simp -implicitDefEqProofs (maxSteps := 10000000) only [rkA, rkB, stepA, valA, simprocAttr]
  have h25 := ok119 e1 n n m
  rw [if_pos rm] at h25
  refine call_fn rfl rfl rfl (h25) ?_
  simp -implicitDefEqProofs (maxSteps := 10000000) only [rkA, rkB, stepA, valA, simprocAttr]
  have r1 : right (n : Int) (n : Int) (prodF n n n m p).length = true := right_sq hn (by rw [prodF_len]; simp)
  have h13' := ok125 false false n n n n (prodF n n n m p) (turnF n n m)
  rw [if_pos ⟨r1, rt, rfl⟩] at h13'
  refine call_fn rfl rfl rfl (h13') ?_
  simp -implicitDefEqProofs (maxSteps := 10000000) only [rkA, rkB, stepA, valA, simprocAttr]
  have l2 : (prodF n n n (prodF n n n m p) (turnF n n m)).length = n * n := by rw [prodF_len]; simp
  have r2 := right_sq hn l2
  have h27 := ok164 false e3 n n n n (prodF n n n (prodF n n n m p) (turnF n n m)) q
  rw [if_pos ⟨r2, rq, rfl, rfl⟩] at h27
  refine call_fn rfl rfl rfl (h27) ?_
  simp -implicitDefEqProofs (maxSteps := 10000000) only [rkA, rkB, stepA, valA, simprocAttr]
  have h33 := ok157 false n n (List.zipWith addF (prodF n n n (prodF n n n m p) (turnF n n m)) q)
  rw [if_pos ⟨right_sq hn (by rw [List.length_zipWith, l2, hq, Nat.min_self]), rfl⟩] at h33
  refine call_fn rfl rfl rfl (h33) ?_
  simp -implicitDefEqProofs (maxSteps := 10000000) only [rkA, rkB, stepA, valA, simprocAttr, turnedF]
end Go.Proofs.YtbflmeomkfjikaaGreat.A


set_option linter.unusedVariables false
set_option linter.unusedSimpArgs false
set_option maxRecDepth 100000
namespace Go.Proofs.YtbflmeomkfjikaaGreat.A.E
open Go Go.RowKit Go.Shelf

abbrev stV (ex ep : Bool) (x : List PV) (r c : Int) (l : List PV) : PV := .agg [.sl ex x, num r, num c, .sl ep l]
theorem Cs.st_nil {I : Imm} {xs ys : List PV} {vs : List Value} (h : Cs I (stNil :: xs) vs) (k : ∀ us, Cs I xs us → Cs I ys us) : Cs I (stV false false (frs []) 0 0 (frs []) :: ys) vs := by
  have key : ∀ us, Cs I [.s (.slice none 0 0), num 0, num 0, .s (.slice none 0 0)] us → Cs I [.sl false [], num 0, num 0, .sl false []] us := fun us h => Cs.nil_of h fun us h => Cs.keep h fun us h => Cs.keep h fun us h => Cs.nil_of h fun us h => h
  cases h with | cons h1 h2 => cases h1 with | agg hl => exact .cons (.agg (key _ hl)) (k _ h2)

theorem sqF_len (n : Nat) (l : List Fr) : (sqF n l).length = n * n := by
  rw [sqF, mirF, gridP_length]
  simp
def turnedF (n : Nat) (m p q : List Fr) : List Fr := mirF n (List.zipWith addF (prodF n n n (prodF n n n m p) (turnF n n m)) q)
theorem turnedF_len (n : Nat) (m p q : List Fr) : (turnedF n m p q).length = n * n := by
  rw [turnedF, mirF, gridP_length]
  simp
end Go.Proofs.YtbflmeomkfjikaaGreat.A.E


set_option linter.unusedVariables false
set_option linter.unusedSimpArgs false
set_option maxRecDepth 100000
namespace Go.Proofs.YtbflmeomkfjikaaGreat.A.E
open Go Go.RowKit Go.Shelf

theorem applyF_len (n : Nat) (l v : List Fr) : (applyF n n l v).length = n := by simp [applyF, allF]
end Go.Proofs.YtbflmeomkfjikaaGreat.A.E


set_option linter.unusedVariables false
set_option linter.unusedSimpArgs false
set_option maxRecDepth 100000
namespace Go.Proofs.YtbflmeomkfjikaaGreat.A.E
open Go Go.RowKit Go.Shelf

abbrev newsNil : PV := .agg [num 0, num 0, num 0, tru false, num 0, num 0, num 0, tru false]
abbrev newsV (e a : Fr) : PV := .agg [num e.v, num e.lo, num e.hi, tru e.bad, num a.v, num a.lo, num a.hi, tru a.bad]
section
variable (n : Nat) (x p h : List Fr) (r z : Fr)
def uF : List Fr := applyF n n p h
def spreadF : Fr := addF (dotF h (uF n p h)) r
def surpriseF : Fr := subF z (dotF h x)
def kF : List Fr := (uF n p h).map (divF · (spreadF n p h r))
def unitF : List Fr := (unitP n n).map (newF · 1)
def mF : List Fr := List.zipWith subF (unitF n) (prodF n 1 n (kF n p h r) h)
def krkF : List Fr := prodF n 1 n ((kF n p h r).map (mulF · r)) (turnF n 1 (kF n p h r))
def upP : List Fr := turnedF n (mF n p h r) p (krkF n p h r)
def upX : List Fr := List.zipWith addF x ((kF n p h r).map (mulF · (surpriseF x h z)))
end
theorem uF_len (n : Nat) (p h : List Fr) : (uF n p h).length = n := applyF_len n p h
theorem kF_len (n : Nat) (p h : List Fr) (r : Fr) : (kF n p h r).length = n := by rw [kF, List.length_map, uF_len]
end Go.Proofs.YtbflmeomkfjikaaGreat.A.E


set_option linter.unusedVariables false
set_option linter.unusedSimpArgs false
set_option maxRecDepth 100000
namespace Go.Proofs.YtbflmeomkfjikaaGreat.A
open Go Go.RowKit Go.Shelf

/-! ### Predict -/
theorem applyF_len (n : Nat) (l v : List Fr) : (applyF n n l v).length = n := by simp [applyF, allF]
theorem ok65 (ex ep ef eg : Bool) (x p f g : List Fr) (n : Nat) (hn : 1 ≤ n ∧ n ≤ 4) (hx : x.length = n) (hp : p.length = n * n) (hf : f.length = n * n) (hg : g.length = n * n) :
    Ok Tryz.prog 65 [stV ex ep (frs x) n n (frs p), matV ef n n (frs f), matV eg n n (frs g)] (.tup [stV false false (frs (applyF n n f x)) n n (frs (turnedF n f p (sqF n g))), tru true]) := by
  have hn' : 1 ≤ n ∧ n ≤ 16 := by omega
  refine ok_fn mixed Tryz.func65 (code := ?_) (h := h65) ?_ k65 ?_
  rotate_left
  · exact rfl
  unfold h65 initS
  simp -implicitDefEqProofs (maxSteps := 10000000) only [rkA, rkB, stepA, valA, simprocAttr, Tryz.ntmps65, Tryz.results65]
  refine call_fn rfl rfl rfl (ok110 n hn' eg g hg) ?_
  simp -implicitDefEqProofs (maxSteps := 10000000) only [rkA, rkB, stepA, valA, simprocAttr]
  have h22 := ok41 ef ex n n f x (by omega)
  rw [if_pos ⟨right_sq hn' hf, by simp [hx]⟩] at h22
  refine call_fn rfl rfl rfl (h22) ?_
  simp -implicitDefEqProofs (maxSteps := 10000000) only [rkA, rkB, stepA, valA, simprocAttr]
  have h6 := ok118 ex ep x p n n
  rw [stRight_nat hp, decide_eq_true (show 1 ≤ x.length ∧ x.length ≤ 4 ∧ x.length = n by omega)] at h6
  refine call_fn rfl rfl rfl (h6) ?_
  simp -implicitDefEqProofs (maxSteps := 10000000) only [rkA, rkB, stepA, valA, simprocAttr]
  refine call_fn rfl rfl rfl (ok127 n hn' ef ep false f p (sqF n g) hf hp (sqF_len n g)) ?_
  simp -implicitDefEqProofs (maxSteps := 10000000) only [rkA, rkB, stepA, valA, simprocAttr]
  have h7 := ok118 false false (applyF n n f x) (turnedF n f p (sqF n g)) n n
  rw [stRight_nat (turnedF_len n f p _), applyF_len, decide_eq_true (show 1 ≤ n ∧ n ≤ 4 ∧ n = n by omega)] at h7
  refine call_fn rfl rfl rfl (h7) ?_
  simp -implicitDefEqProofs (maxSteps := 10000000) only [rkA, rkB, stepA, valA, simprocAttr]
theorem ok65_bad (ex ep ef eg : Bool) (x p f g : List Fr) (r c : Int) (n : Nat) (hn : 1 ≤ n ∧ n ≤ 16) (hx : x.length ≤ 5864062014805) (hp : stRight x.length r c p.length = false) (hg : g.length = n * n) :
    Ok Tryz.prog 65 [stV ex ep (frs x) r c (frs p), matV ef n n (frs f), matV eg n n (frs g)] (.tup [stNil, tru false]) := by
  refine ok_fn mixed Tryz.func65 (code := ?_) (h := h65) ?_ k65 ?_
  rotate_left
  · exact rfl
  unfold h65 initS
  simp -implicitDefEqProofs (maxSteps := 10000000) only [rkA, rkB, stepA, valA, simprocAttr, Tryz.ntmps65, Tryz.results65]
  refine call_fn rfl rfl rfl (ok110 n hn eg g hg) ?_
  simp -implicitDefEqProofs (maxSteps := 10000000) only [rkA, rkB, stepA, valA, simprocAttr]
  have h6 := ok118 ex ep x p r c
  rw [hp] at h6
  have h22 := ok41 ef ex n n f x (by omega)
  split at h22
  · refine call_fn rfl rfl rfl (h22) ?_
    simp -implicitDefEqProofs (maxSteps := 10000000) only [rkA, rkB, stepA, valA, simprocAttr]
    refine call_fn rfl rfl rfl (h6) ?_
    simp -implicitDefEqProofs (maxSteps := 10000000) only [rkA, rkB, stepA, valA, simprocAttr]
  · refine call_fn rfl rfl rfl (h22) ?_
    simp -implicitDefEqProofs (maxSteps := 10000000) only [rkA, rkB, stepA, valA, simprocAttr]
    refine call_fn rfl rfl rfl (h6) ?_
    simp -implicitDefEqProofs (maxSteps := 10000000) only [rkA, rkB, stepA, valA, simprocAttr]
end Go.Proofs.YtbflmeomkfjikaaGreat.A


set_option linter.unusedVariables false
set_option linter.unusedSimpArgs false
set_option maxRecDepth 100000
namespace Go.Proofs.YtbflmeomkfjikaaGreat.A
open Go Go.RowKit Go.Shelf

/-! ### Update -/
abbrev newsNil : PV := .agg [num 0, num 0, tru false, num 0, num 0, tru false]
abbrev newsV (e a : Fr) : PV := .agg [num e.n, num e.d, tru e.bad, num a.n, num a.d, tru a.bad]
theorem ok60_bad (ex ep eh : Bool) (x p h : List Fr) (c1 c2 : Int) (r z : Fr) (hp : stRight x.length c1 c2 p.length = false) :
    Ok Tryz.prog 60 [stV ex ep (frs x) c1 c2 (frs p), .sl eh (frs h), frV r, frV z] (.tup [stNil, newsNil, tru false]) := by
  refine ok_fn mixed Tryz.func60 (code := ?_) (h := h60) ?_ k60 ?_
  rotate_left
  · exact rfl
  unfold h60 initS
  simp -implicitDefEqProofs (maxSteps := 10000000) only [rkA, rkB, stepA, valA, simprocAttr, Tryz.ntmps60, Tryz.results60]
  have h6 := ok118 ex ep x p c1 c2
  rw [hp] at h6
  refine call_fn rfl rfl rfl (h6) ?_
  simp -implicitDefEqProofs (maxSteps := 10000000) only [rkA, rkB, stepA, valA, simprocAttr]
section
variable (n : Nat) (x p h : List Fr) (r z : Fr)
def uF : List Fr := applyF n n p h
def spreadF : Fr := addF (dotF h (uF n p h)) r
def surpriseF : Fr := subF z (dotF h x)
def kF : List Fr := (uF n p h).map (divF · (spreadF n p h r))
def unitF : List Fr := (unitP n n).map (newF · 1)
def mF : List Fr := List.zipWith subF (unitF n) (prodF n 1 n (kF n p h r) h)
def krkF : List Fr := prodF n 1 n ((kF n p h r).map (mulF · r)) (turnF n 1 (kF n p h r))
def upP : List Fr := turnedF n (mF n p h r) p (krkF n p h r)
def upX : List Fr := List.zipWith addF x ((kF n p h r).map (mulF · (surpriseF x h z)))
end
theorem uF_len (n : Nat) (p h : List Fr) : (uF n p h).length = n := applyF_len n p h
theorem kF_len (n : Nat) (p h : List Fr) (r : Fr) : (kF n p h r).length = n := by rw [kF, List.length_map, uF_len]
set_option maxHeartbeats 2000000 in
theorem ok60 (ex ep eh : Bool) (n : Nat) (x p h : List Fr) (r z : Fr) (hn : 1 ≤ n ∧ n ≤ 4) (hx : x.length = n) (hp : p.length = n * n) (hh : h.length = n) :
    Ok Tryz.prog 60 [stV ex ep (frs x) n n (frs p), .sl eh (frs h), frV r, frV z] (.tup [stV false false (frs (upX n x p h r z)) n n (frs (upP n p h r)), newsV (surpriseF x h z) (spreadF n p h r), tru true]) := by
  have hn' : 1 ≤ n ∧ n ≤ 16 := by omega
  refine ok_fn mixed Tryz.func60 (code := ?_) (h := h60) ?_ k60 ?_
  rotate_left
  · exact rfl
  unfold h60 initS
  simp -implicitDefEqProofs (maxSteps := 10000000) only [rkA, rkB, stepA, valA, simprocAttr, Tryz.ntmps60, Tryz.results60]
  have h6 := ok118 ex ep x p n n
  rw [stRight_nat hp, decide_eq_true (show 1 ≤ x.length ∧ x.length ≤ 4 ∧ x.length = n by omega)] at h6
  refine call_fn rfl rfl rfl (h6) ?_
  have lx : (frs x).length = n := by simp [hx]
  have lh : (frs h).length = n := by simp [hh]
  simp -implicitDefEqProofs (maxSteps := 10000000) only [lx, lh, bne_self_eq_false, rkA, rkB, stepA, valA, simprocAttr]
  have h22 := ok41 ep eh n n p h (by omega)
  rw [if_pos ⟨right_sq hn' hp, by simp [hh]⟩] at h22
  refine call_fn rfl rfl rfl (h22) ?_
  simp -implicitDefEqProofs (maxSteps := 10000000) only [rkA, rkB, stepA, valA, simprocAttr]
  refine call_fn rfl rfl rfl (ok76 eh false h (applyF n n p h) (by omega) (by rw [applyF_len]; omega)) ?_
  simp -implicitDefEqProofs (maxSteps := 10000000) only [rkA, rkB, stepA, valA, simprocAttr]
  refine call_meth rfl rfl methAdd (ok210 (dotF h (applyF n n p h)) r) ?_
  simp -implicitDefEqProofs (maxSteps := 10000000) only [rkA, rkB, stepA, valA, simprocAttr]
  refine call_fn rfl rfl rfl (ok76 eh ex h x (by omega) (by omega)) ?_
  simp -implicitDefEqProofs (maxSteps := 10000000) only [rkA, rkB, stepA, valA, simprocAttr]
  refine call_meth rfl rfl methSub (ok218 z (dotF h x)) ?_
  simp -implicitDefEqProofs (maxSteps := 10000000) only [rkA, rkB, stepA, valA, simprocAttr]
  have hu : (frs (applyF n n p h)).length = n := by simp [applyF_len]
  have hul := applyF_len n p h
  generalize hud : applyF n n p h = u at hu hul
  generalize had : addF (dotF h u) r = a
  generalize hed : subF z (dotF h x) = e
  refine wp_loop (fun m s => ∃ i : Nat, i + m = n ∧ s = ⟨[jk, .v (.sl eh (frs h)), jk, jk, .ptr 4 0, jk, .ptr 6 0, jk, .ptr 8 0, .ptr 9 0, jk, nt n, jk, jk, .ptr 14 0, .ptr 15 0, .acc 16 (frs ((u.take i).map (divF · a))), jk, jk, jk, jk, jk, jk, jk, jk, jk, jk, jk, jk, jk, jk, jk, jk, jk, jk, jk, jk, jk, jk, jk, jk, jk, jk, jk, jk, jk, jk, jk, jk, jk, jk, jk, jk, jk, jk, jk, jk, jk, jk, jk, jk, jk, jk, jk, jk, jk, jk, jk, jk, .v (.sl false (frs u)), nt n, nt i, jk, jk, jk, jk, jk, jk, jk, jk, jk, jk, jk, jk, jk, jk, jk, jk, jk, jk, jk, jk, jk, jk, jk, jk, jk, jk, jk, jk, jk, jk, jk, jk, jk, jk, jk, jk, jk, jk, jk, jk, jk, jk, jk, jk, jk, jk, jk, jk, jk, jk, jk, jk, jk, jk, jk, jk, jk, jk, jk, jk, jk, jk, jk, jk, jk, jk, jk, jk, jk, jk, jk, jk, jk, jk, jk, jk, jk, jk],
    [(4, [.v (.sl ex (frs x)), nt n, nt n, .v (.sl ep (frs p))]), (6, [nt r.n, nt r.d, .v (tru r.bad)]), (7, [nt z.n, nt z.d, .v (tru z.bad)]), (8, [.acc 1008 [], nt 0, nt 0, .acc 4008 []]), (9, [nt 0, nt 0, .v (tru false), nt 0, nt 0, .v (tru false)]),
      (14, [nt a.n, nt a.d, .v (tru a.bad)]), (15, [nt e.n, nt e.d, .v (tru e.bad)])], [], [(16, i), (1008, 0), (4008, 0)], [], 0, nomem⟩) n ?_ ?_
  · simp -implicitDefEqProofs (maxSteps := 10000000) only [hu, rkA, rkB, stepA, valA, simprocAttr]
    exact ⟨0, by simp, rfl⟩
  rintro m s ⟨i, hi, rfl⟩
  simp -implicitDefEqProofs (maxSteps := 10000000) only [rkA, rkB, stepA, valA, simprocAttr]
  refine gB_dec ?_ ?_ <;> intro hc <;> simp -implicitDefEqProofs (maxSteps := 10000000) only [hc, rkA, rkB, stepA, valA, simprocAttr]
  · have hlt : i < u.length := by omega
    have h0 : (0 : Int) ≤ (i : Int) := by omega
    have hg : (frs u)[i]? = some (frV u[i]) := by simp [hlt]
    simp -implicitDefEqProofs (maxSteps := 10000000) only [h0, Int.toNat_natCast, hg, rkA, rkB, stepA, valA, simprocAttr]
    refine call_meth rfl rfl methDiv (ok211 u[i] a) ?_
    have hfit : fits 3 24 (frs ((u.take i).map (divF · a))) [frV (divF u[i] a)] = true := fits_frs (l := [divF u[i] a]) (by simp; omega)
    have hw := wrapped (x := (i : Int) + 1) (by omega) (by omega)
    have hl : (frs ((u.take i).map (divF · a))).length = i := by simp; omega
    simp -implicitDefEqProofs (maxSteps := 10000000) only [hfit, hl, hw, rkA, rkB, stepA, valA, simprocAttr]
    refine loopK_of (m' := m - 1) (by omega) ?_
    simp -implicitDefEqProofs (maxSteps := 10000000) only [rkA, rkB, stepA, valA, simprocAttr]
    refine ⟨i + 1, by omega, ?_⟩
    rw [List.take_succ_eq_append_getElem hlt]
    simp only [frs, List.map_append, List.map_cons, List.map_nil, Int.natCast_add, Int.natCast_one]
  · have hin : u.length ≤ i := by omega
    rw [List.take_of_length_le hin]
    have hk1 : (u.map (divF · a)).length = n := by simp [hul]
    have hkd : u.map (divF · a) = kF n p h r := by simp only [kF, spreadF, uF, hud, had]
    generalize hkk : u.map (divF · a) = k at hk1 hkd
    have hkl : (frs k).length = n := by simp [hk1]
    have rk : right (n : Int) 1 k.length = true := right_nat (R := n) (K := 1) hn' (by omega) (by omega)
    have rh : right 1 (n : Int) h.length = true := right_nat (R := 1) (K := n) (by omega) hn' (by omega)
    have h1 := ok71 n 1 false k (by omega)
    rw [if_pos rk] at h1
    refine call_fn rfl rfl rfl (h1) ?_
    simp -implicitDefEqProofs (maxSteps := 10000000) only [rkA, rkB, stepA, valA, simprocAttr]
    have h2 := ok71 1 n eh h (by omega)
    rw [if_pos rh] at h2
    refine call_fn rfl rfl rfl (h2) ?_
    simp -implicitDefEqProofs (maxSteps := 10000000) only [rkA, rkB, stepA, valA, simprocAttr]
    have h3 := ok124 n
    rw [if_pos (by omega), Int.toNat_natCast] at h3
    refine call_fn rfl rfl rfl (h3) ?_
    simp -implicitDefEqProofs (maxSteps := 10000000) only [rkA, rkB, stepA, valA, simprocAttr]
    have h4 := ok125 false false n 1 1 n k h
    rw [if_pos ⟨rk, rh, rfl⟩] at h4
    refine call_fn rfl rfl rfl (h4) ?_
    simp -implicitDefEqProofs (maxSteps := 10000000) only [rkA, rkB, stepA, valA, simprocAttr]
    have l4 : (prodF n 1 n k h).length = n * n := by rw [prodF_len]; simp
    have ru : right (n : Int) (n : Int) ((unitP n n).map (newF · 1)).length = true := right_sq hn' (by rw [List.length_map, unitP_length])
    have h5 := ok126 false false n n n n ((unitP n n).map (newF · 1)) (prodF n 1 n k h)
    rw [if_pos ⟨ru, right_sq hn' l4, rfl, rfl⟩] at h5
    refine call_fn rfl rfl rfl (h5) ?_
    simp -implicitDefEqProofs (maxSteps := 10000000) only [rkA, rkB, stepA, valA, simprocAttr]
    refine call_fn rfl rfl rfl (ok123 false k r (by omega)) ?_
    simp -implicitDefEqProofs (maxSteps := 10000000) only [rkA, rkB, stepA, valA, simprocAttr]
    have rs : right (n : Int) 1 (k.map (mulF · r)).length = true := right_nat (R := n) (K := 1) hn' (by omega) (by simp [hk1])
    have h7 := ok71 n 1 false (k.map (mulF · r)) (by simp; omega)
    rw [if_pos rs] at h7
    refine call_fn rfl rfl rfl (h7) ?_
    simp -implicitDefEqProofs (maxSteps := 10000000) only [rkA, rkB, stepA, valA, simprocAttr]
    have h8 := ok119 false n 1 k
    rw [if_pos rk] at h8
    refine call_fn rfl rfl rfl (h8) ?_
    simp -implicitDefEqProofs (maxSteps := 10000000) only [rkA, rkB, stepA, valA, simprocAttr]
    have h9 := ok125 false false n 1 1 n (k.map (mulF · r)) (turnF n 1 k)
    rw [if_pos ⟨rs, right_turn rk, rfl⟩] at h9
    refine call_fn rfl rfl rfl (h9) ?_
    simp -implicitDefEqProofs (maxSteps := 10000000) only [rkA, rkB, stepA, valA, simprocAttr]
    have l5 : (List.zipWith subF ((unitP n n).map (newF · 1)) (prodF n 1 n k h)).length = n * n := by rw [List.length_zipWith, List.length_map, unitP_length, l4, Nat.min_self]
    refine call_fn rfl rfl rfl (ok127 n hn' false ep false (List.zipWith subF ((unitP n n).map (newF · 1)) (prodF n 1 n k h)) p (prodF n 1 n (k.map (mulF · r)) (turnF n 1 k)) l5 hp (by rw [prodF_len]; simp)) ?_
    simp -implicitDefEqProofs (maxSteps := 10000000) only [rkA, rkB, stepA, valA, simprocAttr]
    refine call_fn rfl rfl rfl (ok123 false k e (by omega)) ?_
    simp -implicitDefEqProofs (maxSteps := 10000000) only [rkA, rkB, stepA, valA, simprocAttr]
    refine call_fn rfl rfl rfl (ok122 ex false x (k.map (mulF · e)) (by omega) (by simp; omega)) ?_
    simp -implicitDefEqProofs (maxSteps := 10000000) only [rkA, rkB, stepA, valA, simprocAttr]
    simp -implicitDefEqProofs (maxSteps := 10000000) only [upX, upP, mF, krkF, unitF, surpriseF, spreadF, uF, hud, had, hed, ← hkd, rkA, rkB, stepA, valA, simprocAttr]
end Go.Proofs.YtbflmeomkfjikaaGreat.A

set_option linter.unusedVariables false
set_option linter.unusedSimpArgs false
set_option maxRecDepth 100000
namespace Go.Proofs.YtbflmeomkfjikaaGreat.A
open Go Go.RowKit Go.Shelf

/-! ### Fractions as numbers -/
def Fr.val (x : Fr) : Rat := (x.n : Rat) / (x.d : Rat)
theorem cast_ne {d : Int} (h : d ≠ 0) : (d : Rat) ≠ 0 := by
  intro e
  exact h (Rat.intCast_inj.1 (by simpa using e))
theorem val_div {n d m e k : Int} (hd : d ≠ 0) (he : e ≠ 0) (h : n * e = m * d) : (n : Rat) / d = (m : Rat) / e := by
  have h1 := cast_ne hd
  have h2 := cast_ne he
  have h3 : (n : Rat) * e = (m : Rat) * d := by
    rw [← Rat.intCast_mul, ← Rat.intCast_mul, h]
  grind
theorem div_val {n d m e : Int} (hd : d ≠ 0) (he : e ≠ 0) (h : (n : Rat) / d = (m : Rat) / e) : n * e = m * d := by
  have h1 := cast_ne hd
  have h2 := cast_ne he
  have h3 : (n : Rat) * e = (m : Rat) * d := by grind
  rw [← Rat.intCast_mul, ← Rat.intCast_mul] at h3
  exact Rat.intCast_inj.1 h3

/-- What New tells, where it is not Bad. -/
theorem newF_spec {n d : Int} (h : (newF n d).bad = false) : d ≠ 0 ∧ 0 < (newF n d).d ∧ (newF n d).n * d = n * (newF n d).d ∧ Int.gcd (newF n d).n (newF n d).d = 1 ∧ (newF n d).d ≤ 1073741824 ∧ (newF n d).n ≤ 1073741824 ∧ -1073741824 ≤ (newF n d).n := by
  unfold newF at h ⊢
  by_cases h1 : n > 1152921504606846976 ∨ n < -1152921504606846976 ∨ d > 1152921504606846976 ∨ d < -1152921504606846976 ∨ d = 0
  · rw [if_pos h1] at h; cases h
  rw [if_neg h1] at h ⊢
  simp only at h ⊢
  have hd : d ≠ 0 := by omega
  have key : ∀ m e : Int, 0 < e → m * d = n * e → ∀ x : Fr, x = (if m.tdiv (Int.gcd m e : Int) > 1073741824 ∨ m.tdiv (Int.gcd m e : Int) < -1073741824 ∨ e.tdiv (Int.gcd m e : Int) > 1073741824 then Fr.wrong else ⟨m.tdiv (Int.gcd m e : Int), e.tdiv (Int.gcd m e : Int), false⟩) → x.bad = false →
      d ≠ 0 ∧ 0 < x.d ∧ x.n * d = n * x.d ∧ Int.gcd x.n x.d = 1 ∧ x.d ≤ 1073741824 ∧ x.n ≤ 1073741824 ∧ -1073741824 ≤ x.n := by
    intro m e he hme x hx hb
    have hg : 0 < Int.gcd m e := Int.gcd_pos_of_ne_zero_right m (by omega)
    obtain ⟨m', hm'⟩ := Int.gcd_dvd_left m e
    obtain ⟨e', he'⟩ := Int.gcd_dvd_right m e
    generalize hk : Int.gcd m e = k at *
    have hk0 : (k : Int) ≠ 0 := by omega
    have q1 : m.tdiv (k : Int) = m' := by rw [hm', Int.mul_tdiv_cancel_left _ hk0]
    have q2 : e.tdiv (k : Int) = e' := by rw [he', Int.mul_tdiv_cancel_left _ hk0]
    rw [q1, q2] at hx
    have hcop : Int.gcd m' e' = 1 := by
      have h3 : Int.gcd ((k : Int) * m') ((k : Int) * e') = k * Int.gcd m' e' := by
        rw [Int.gcd_mul_left]; simp
      rw [← hm', ← he', hk] at h3
      have : k * 1 = k * Int.gcd m' e' := by omega
      exact (Nat.eq_of_mul_eq_mul_left hg this).symm
    have he0 : 0 < e' := by
      have h4 : 0 < (k : Int) * e' := by rw [← he']; exact he
      exact Int.pos_of_mul_pos_right h4 (by omega)
    split at hx
    · rw [hx] at hb; cases hb
    · rename_i hns
      subst hx
      refine ⟨hd, he0, ?_, hcop, by simp only; omega, by simp only; omega, by simp only; omega⟩
      simp only
      rw [hm', he'] at hme
      have : (k : Int) * (m' * d) = (k : Int) * (n * e') := by
        rw [← Int.mul_assoc, hme, ← Int.mul_assoc, ← Int.mul_assoc, Int.mul_comm (k : Int) n]
      exact Int.eq_of_mul_eq_mul_left hk0 this
  by_cases hneg : d < 0
  · simp only [hneg, if_true] at h ⊢
    exact key (-n) (-d) (by omega) (by rw [Int.neg_mul, Int.mul_neg]) _ rfl h
  · simp only [hneg, if_false] at h ⊢
    exact key n d (by omega) rfl _ rfl h

theorem newF_low {n d : Int} (hd : 0 < d) (hg : Int.gcd n d = 1) (h1 : n ≤ 1073741824) (h2 : -1073741824 ≤ n) (h3 : d ≤ 1073741824) : newF n d = ⟨n, d, false⟩ := by
  unfold newF
  rw [if_neg (by omega)]
  simp only [show ¬ d < 0 by omega, if_false, hg]
  rw [if_neg (by simp; omega)]
  simp
theorem fine_of {x : Fr} (hb : x.bad = false) (hd : 0 < x.d) (hg : Int.gcd x.n x.d = 1) (h1 : x.n ≤ 1073741824) (h2 : -1073741824 ≤ x.n) (h3 : x.d ≤ 1073741824) : x.fine = true := by
  unfold Fr.fine
  rw [newF_low hd hg h1 h2 h3]
  simp [hb]
  omega
theorem fine_low {x : Fr} (h : x.fine = true) : x.bad = false ∧ 0 < x.d ∧ Int.gcd x.n x.d = 1 := by
  obtain ⟨h1, h2, h3, h4, h5⟩ := Fr.fine_spec h
  refine ⟨h1, by omega, ?_⟩
  have hn : newF x.n x.d = x := by
    unfold Fr.fine at h
    simp only [Bool.and_eq_true, beq_iff_eq, decide_eq_true_eq] at h
    obtain ⟨n, d, b⟩ := x
    obtain ⟨_, k1, k2, k3, _⟩ := h
    generalize newF n d = y at *
    obtain ⟨n', d', b'⟩ := y
    simp only at k1 k2 k3
    rw [k1, k2, k3]
  have hb : (newF x.n x.d).bad = false := by rw [hn]; exact h1
  obtain ⟨_, _, _, g, _⟩ := newF_spec hb
  rw [hn] at g
  exact g
theorem newF_fine {n d : Int} (h : (newF n d).bad = false) : (newF n d).fine = true ∧ (newF n d).val = (n : Rat) / (d : Rat) ∧ d ≠ 0 := by
  obtain ⟨h1, h2, h3, h4, h5, h6, h7⟩ := newF_spec h
  exact ⟨fine_of h h2 h4 h6 h7 h5, val_div (k := 0) (by omega) h1 h3, h1⟩
theorem dvd_cop {a b c : Int} (h : a ∣ b * c) (g : Int.gcd b a = 1) : a ∣ c := by
  rw [← Int.natAbs_dvd_natAbs] at h ⊢
  rw [Int.natAbs_mul] at h
  refine Nat.Coprime.dvd_of_dvd_mul_left ?_ h
  rw [Int.gcd_comm] at g
  exact g
/-- What stands for the same number is the same. -/
theorem fine_inj {a b : Fr} (ha : a.fine = true) (hb : b.fine = true) (h : a.val = b.val) : a = b := by
  obtain ⟨a1, a2, a3⟩ := fine_low ha
  obtain ⟨b1, b2, b3⟩ := fine_low hb
  have e := div_val (by omega) (by omega) h
  have c1 : a.d ∣ b.d := by
    have : a.d ∣ a.n * b.d := ⟨b.n, by rw [e, Int.mul_comm]⟩
    exact dvd_cop this a3
  have c2 : b.d ∣ a.d := by
    have : b.d ∣ b.n * a.d := ⟨a.n, by rw [← e, Int.mul_comm]⟩
    exact dvd_cop this b3
  have hd : a.d = b.d := Int.dvd_antisymm (by omega) (by omega) c1 c2
  rw [hd] at e
  have hn : a.n = b.n := Int.eq_of_mul_eq_mul_right (by omega) e
  obtain ⟨n, d, x⟩ := a
  obtain ⟨n', d', x'⟩ := b
  simp only at hd hn a1 b1
  rw [hd, hn, a1, b1]
theorem fine_bad {a : Fr} (h : a.fine = true) : a.bad = false := (Fr.fine_spec h).1

/-- x stands for the number v. -/
def Is (x : Fr) (v : Rat) : Prop := x.fine = true ∧ x.val = v
theorem Is.inj {a b : Fr} {v : Rat} (ha : Is a v) (hb : Is b v) : a = b := fine_inj ha.1 hb.1 (ha.2.trans hb.2.symm)
theorem fine_ne {a : Fr} (h : a.fine = true) : (a.d : Rat) ≠ 0 := cast_ne (by have := (Fr.fine_spec h).2.1; omega)
theorem two_fine {a b : Fr} {x : Fr} (h : (if a.fine = false ∨ b.fine = false then Fr.wrong else x).bad = false) : a.fine = true ∧ b.fine = true ∧ x.bad = false := by
  by_cases h1 : a.fine = false ∨ b.fine = false
  · rw [if_pos h1] at h; cases h
  · rw [if_neg h1] at h
    simp only [not_or, Bool.not_eq_false] at h1
    exact ⟨h1.1, h1.2, h⟩
theorem mulF_is {a b : Fr} (h : (mulF a b).bad = false) : a.fine = true ∧ b.fine = true ∧ Is (mulF a b) (a.val * b.val) := by
  have h0 := h
  unfold mulF at h
  obtain ⟨ha, hb, hx⟩ := two_fine h
  obtain ⟨f1, f2, f3⟩ := newF_fine hx
  have e : mulF a b = newF (a.n * b.n) (a.d * b.d) := by unfold mulF; rw [if_neg (by simp [ha, hb])]
  refine ⟨ha, hb, by rw [e]; exact f1, ?_⟩
  rw [e, f2]
  have h1 := fine_ne ha
  have h2 := fine_ne hb
  simp only [Fr.val, Rat.intCast_mul]
  grind
theorem divF_is {a b : Fr} (h : (divF a b).bad = false) : a.fine = true ∧ b.fine = true ∧ b.val ≠ 0 ∧ Is (divF a b) (a.val / b.val) := by
  unfold divF at h
  obtain ⟨ha, hb, hx⟩ := two_fine h
  obtain ⟨f1, f2, f3⟩ := newF_fine hx
  have e : divF a b = newF (a.n * b.d) (a.d * b.n) := by unfold divF; rw [if_neg (by simp [ha, hb])]
  have h1 := fine_ne ha
  have h2 := fine_ne hb
  have h3 : (b.n : Rat) ≠ 0 := cast_ne (fun e => f3 (by rw [e, Int.mul_zero]))
  refine ⟨ha, hb, ?_, by rw [e]; exact f1, ?_⟩
  · simp only [Fr.val]
    intro e
    apply h3
    have : (b.n : Rat) = (b.n : Rat) / (b.d : Rat) * (b.d : Rat) := by grind
    rw [this, e]
    grind
  · rw [e, f2]
    simp only [Fr.val, Rat.intCast_mul]
    grind
theorem addF_is {a b : Fr} (h : (addF a b).bad = false) : a.fine = true ∧ b.fine = true ∧ Is (addF a b) (a.val + b.val) := by
  unfold addF at h
  obtain ⟨ha, hb, hx⟩ := two_fine h
  obtain ⟨f1, f2, f3⟩ := newF_fine hx
  have e : addF a b = newF ((a.n * b.d + b.n * a.d).tdiv (Int.gcd (a.n * b.d + b.n * a.d) (a.d * b.d))) ((a.d * b.d).tdiv (Int.gcd (a.n * b.d + b.n * a.d) (a.d * b.d))) := by
    unfold addF; rw [if_neg (by simp [ha, hb])]
  have h1 := fine_ne ha
  have h2 := fine_ne hb
  refine ⟨ha, hb, by rw [e]; exact f1, ?_⟩
  rw [e, f2]
  have hd1 := (Fr.fine_spec ha).2.1
  have hd2 := (Fr.fine_spec hb).2.1
  have hdd : 0 < a.d * b.d := Int.mul_pos (by omega) (by omega)
  generalize hD : a.d * b.d = D at *
  generalize hN : a.n * b.d + b.n * a.d = Nn at *
  have hg : 0 < Int.gcd Nn D := Int.gcd_pos_of_ne_zero_right _ (by omega)
  obtain ⟨m', hm'⟩ := Int.gcd_dvd_left Nn D
  obtain ⟨e', he'⟩ := Int.gcd_dvd_right Nn D
  have hk0 : ((Int.gcd Nn D : Nat) : Int) ≠ 0 := by omega
  generalize hk : ((Int.gcd Nn D : Nat) : Int) = k at *
  have q1 : Nn.tdiv k = m' := by rw [hm', Int.mul_tdiv_cancel_left _ hk0]
  have q2 : D.tdiv k = e' := by rw [he', Int.mul_tdiv_cancel_left _ hk0]
  rw [q1, q2]
  have he0 : e' ≠ 0 := fun e0 => by rw [e0, Int.mul_zero] at he'; omega
  have h3 : (m' : Rat) / (e' : Rat) = (Nn : Rat) / (D : Rat) := by
    refine val_div (k := 0) he0 (by omega) ?_
    rw [hm', he', Int.mul_comm k e', ← Int.mul_assoc, Int.mul_comm k m']
    rw [Int.mul_assoc, Int.mul_assoc, Int.mul_comm e' k, Int.mul_comm k e']
  rw [h3, ← hN, ← hD]
  simp only [Fr.val, Rat.intCast_mul, Rat.intCast_add]
  grind
theorem negF_is {a : Fr} (h : (negF a).bad = false) : a.fine = true ∧ Is (negF a) (-a.val) := by
  unfold negF at h
  by_cases ha : a.fine = false
  · rw [if_pos ha] at h; cases h
  · rw [if_neg ha] at h
    simp only [Bool.not_eq_false] at ha
    obtain ⟨f1, f2, f3⟩ := newF_fine h
    have e : negF a = newF (-a.n) a.d := by unfold negF; rw [if_neg (by simp [ha])]
    refine ⟨ha, by rw [e]; exact f1, ?_⟩
    rw [e, f2]
    simp only [Fr.val, Rat.intCast_neg]
    grind
theorem negF_of {a : Fr} (h : a.fine = true) : Is (negF a) (-a.val) := by
  have e : negF a = newF (-a.n) a.d := by unfold negF; rw [if_neg (by simp [h])]
  obtain ⟨b1, b2, b3⟩ := fine_low h
  obtain ⟨_, _, c1, c2, c3⟩ := Fr.fine_spec h
  have : (negF a).bad = false := by rw [e, newF_low b2 (by rw [Int.neg_gcd]; exact b3) (by omega) (by omega) (by omega)]
  exact (negF_is this).2
theorem subF_is {a b : Fr} (h : (subF a b).bad = false) : a.fine = true ∧ b.fine = true ∧ Is (subF a b) (a.val - b.val) := by
  unfold subF at h
  obtain ⟨h1, h2, h3⟩ := addF_is h
  obtain ⟨h4, h5⟩ := negF_is (fine_bad h2)
  refine ⟨h1, h4, h3.1, ?_⟩
  have e : (subF a b).val = a.val + (negF b).val := h3.2
  rw [e, h5.2]
  grind
theorem whole_is {n : Int} (h : few n) : Is (newF n 1) (n : Rat) := by
  rw [newF_whole h]
  refine ⟨fine_whole h, ?_⟩
  simp only [Fr.val]
  have : ((1 : Int) : Rat) = 1 := rfl
  rw [this]
  grind
end Go.Proofs.YtbflmeomkfjikaaGreat.A

set_option linter.unusedVariables false
set_option linter.unusedSimpArgs false
set_option maxRecDepth 100000
namespace Go.Proofs.YtbflmeomkfjikaaGreat.A.E
open Go Go.RowKit Go.Shelf

/-! ### Enclosed numbers beside fractions: whatever both tell, the one encloses the other -/
def Rl (x : Fr) (y : A.Fr) : Prop := x.fine = true → y.fine = true → Enc x y.val
theorem rl_enc {x : Fr} {y : A.Fr} (h : Rl x y) (hy : y.fine = true) : x.bad = false → x.fine = true → Enc x y.val := fun _ hf => h hf hy
theorem made_fine {F : Int → Int → Int → Int × Bool} {a b : Fr} {ps : List (Int × Int)} (h : (madeE F a b ps).fine = true) : a.fine = true ∧ b.fine = true :=
  ⟨(made_is (fine_is.1 h).1).1, (made_is (fine_is.1 h).1).2.1⟩
theorem Rl.add {a b : Fr} {a' b' : A.Fr} (ha : Rl a a') (hb : Rl b b') : Rl (addF a b) (A.addF a' b') := fun hx hy => by
  obtain ⟨h1, h2⟩ := made_fine hx
  obtain ⟨k1, k2, k3⟩ := A.addF_is (fine_bad hy)
  rw [k3.2]
  exact addF_enc (fun _ => ha h1 k1) (fun _ => hb h2 k2) (fine_is.1 hx).1
theorem Rl.sub {a b : Fr} {a' b' : A.Fr} (ha : Rl a a') (hb : Rl b b') : Rl (subF a b) (A.subF a' b') := fun hx hy => by
  obtain ⟨h1, h2⟩ := made_fine hx
  obtain ⟨k1, k2, k3⟩ := A.subF_is (fine_bad hy)
  rw [k3.2]
  exact subF_enc (fun _ => ha h1 k1) (fun _ => hb h2 k2) (fine_is.1 hx).1
theorem Rl.mul {a b : Fr} {a' b' : A.Fr} (ha : Rl a a') (hb : Rl b b') : Rl (mulF a b) (A.mulF a' b') := fun hx hy => by
  obtain ⟨h1, h2⟩ := made_fine hx
  obtain ⟨k1, k2, k3⟩ := A.mulF_is (fine_bad hy)
  rw [k3.2]
  exact mulF_enc (fun _ => ha h1 k1) (fun _ => hb h2 k2) (fine_is.1 hx).1
theorem Rl.div {a b : Fr} {a' b' : A.Fr} (ha : Rl a a') (hb : Rl b b') : Rl (divF a b) (A.divF a' b') := fun hx hy => by
  have hnb := (fine_is.1 hx).1
  have hf : a.fine = true ∧ b.fine = true := by
    unfold divF at hx
    split at hx
    · exact absurd hx (by decide)
    · exact made_fine hx
  obtain ⟨k1, k2, k3, k4⟩ := A.divF_is (fine_bad hy)
  rw [k4.2]
  exact divF_enc (fun _ => ha hf.1 k1) (fun _ => hb hf.2 k2) hnb
theorem Rl.whole {n : Int} (h : few n) : Rl (newF n 1) (A.newF n 1) := fun hx hy => by
  have hf : A.few n := by unfold A.few; unfold few at h; omega
  rw [(A.whole_is hf).2]
  exact whole_enc h
theorem Rl.dz : Rl ⟨0, 0, 0, false⟩ ⟨0, 0, false⟩ := fun _ hy => absurd hy (by decide)

def RL (l : List Fr) (l' : List A.Fr) : Prop := l.length = l'.length ∧ ∀ k, Rl (l.getD k ⟨0, 0, 0, false⟩) (l'.getD k ⟨0, 0, false⟩)
theorem RL.nil : RL [] [] := ⟨rfl, fun k => Rl.dz⟩
theorem RL.cons {x : Fr} {y : A.Fr} {l : List Fr} {l' : List A.Fr} (h : Rl x y) (hl : RL l l') : RL (x :: l) (y :: l') := ⟨by simp [hl.1], fun k => by
  cases k with
  | zero => exact h
  | succ k => exact hl.2 k⟩
theorem RL.uncons {x : Fr} {y : A.Fr} {l : List Fr} {l' : List A.Fr} (h : RL (x :: l) (y :: l')) : Rl x y ∧ RL l l' := ⟨h.2 0, by simpa using h.1, fun k => h.2 (k + 1)⟩
theorem RL.induct {P : List Fr → List A.Fr → Prop} (h0 : P [] []) (hs : ∀ x y l l', Rl x y → RL l l' → P l l' → P (x :: l) (y :: l')) : ∀ {l : List Fr} {l' : List A.Fr}, RL l l' → P l l'
  | [], [], _ => h0
  | [], _ :: _, h => absurd h.1 (by simp)
  | _ :: _, [], h => absurd h.1 (by simp)
  | x :: l, y :: l', h => hs x y l l' h.uncons.1 h.uncons.2 (RL.induct h0 hs h.uncons.2)
theorem RL.map {f : Fr → Fr} {f' : A.Fr → A.Fr} (hf : ∀ x y, Rl x y → Rl (f x) (f' y)) {l : List Fr} {l' : List A.Fr} (h : RL l l') : RL (l.map f) (l'.map f') :=
  RL.induct (P := fun l l' => RL (l.map f) (l'.map f')) RL.nil (fun x y l l' h1 _ ih => RL.cons (hf x y h1) ih) h
theorem RL.zip {f : Fr → Fr → Fr} {f' : A.Fr → A.Fr → A.Fr} (hf : ∀ x y u v, Rl x y → Rl u v → Rl (f x u) (f' y v)) {l : List Fr} {l' : List A.Fr} (h : RL l l') : ∀ {m : List Fr} {m' : List A.Fr}, RL m m' → RL (List.zipWith f l m) (List.zipWith f' l' m') := by
  refine RL.induct (P := fun l l' => ∀ {m : List Fr} {m' : List A.Fr}, RL m m' → RL (List.zipWith f l m) (List.zipWith f' l' m')) (fun _ => by simpa using RL.nil) (fun x y l l' h1 _ ih m m' hm => ?_) h
  cases m with
  | nil =>
    cases m' with
    | nil => exact RL.nil
    | cons _ _ => exact absurd hm.1 (by simp)
  | cons u m =>
    cases m' with
    | nil => exact absurd hm.1 (by simp)
    | cons v m' => exact RL.cons (hf x y u v h1 hm.uncons.1) (ih hm.uncons.2)
theorem RL.range {g : Nat → Fr} {g' : Nat → A.Fr} (hg : ∀ i, Rl (g i) (g' i)) (l : List Nat) : RL (l.map g) (l.map g') := by
  induction l with
  | nil => exact RL.nil
  | cons x l ih => exact RL.cons (hg x) ih
theorem RL.append {l m : List Fr} {l' m' : List A.Fr} (h : RL l l') (hm : RL m m') : RL (l ++ m) (l' ++ m') :=
  RL.induct (P := fun l l' => RL (l ++ m) (l' ++ m')) hm (fun x y l l' h1 _ ih => RL.cons h1 ih) h
theorem RL.flatMap {g : Nat → List Fr} {g' : Nat → List A.Fr} (hg : ∀ i, RL (g i) (g' i)) (l : List Nat) : RL (l.flatMap g) (l.flatMap g') := by
  induction l with
  | nil => exact RL.nil
  | cons x l ih =>
    rw [List.flatMap_cons, List.flatMap_cons]
    exact RL.append (hg x) ih
theorem RL.take {l : List Fr} {l' : List A.Fr} (h : RL l l') : ∀ n, RL (l.take n) (l'.take n) := by
  refine RL.induct (P := fun l l' => ∀ n, RL (l.take n) (l'.take n)) (fun n => by simpa using RL.nil) (fun x y l l' h1 _ ih n => ?_) h
  cases n with
  | zero => exact RL.nil
  | succ n => exact RL.cons h1 (ih n)
theorem RL.drop {l : List Fr} {l' : List A.Fr} (h : RL l l') : ∀ n, RL (l.drop n) (l'.drop n) := by
  refine RL.induct (P := fun l l' => ∀ n, RL (l.drop n) (l'.drop n)) (fun n => by simpa using RL.nil) (fun x y l l' h1 h2 ih n => ?_) h
  cases n with
  | zero => exact RL.cons h1 h2
  | succ n => exact ih n
theorem foldl_rl {l : List Fr} {l' : List A.Fr} (h : RL l l') : ∀ {x : Fr} {y : A.Fr}, Rl x y → Rl (l.foldl addF x) (l'.foldl A.addF y) :=
  RL.induct (P := fun l l' => ∀ {x : Fr} {y : A.Fr}, Rl x y → Rl (l.foldl addF x) (l'.foldl A.addF y)) (fun h => h) (fun x y l l' h1 _ ih _ _ h => ih (h.add h1)) h
theorem sum_rl {l : List Fr} {l' : List A.Fr} (h : RL l l') : Rl (sumF l) (A.sumF l') := foldl_rl h (Rl.whole (by unfold few; omega))
theorem dot_rl {l m : List Fr} {l' m' : List A.Fr} (h : RL l l') (hm : RL m m') : Rl (dotF l m) (A.dotF l' m') := sum_rl (RL.zip (fun _ _ _ _ h1 h2 => h1.mul h2) h hm)
theorem at_rl {l : List Fr} {l' : List A.Fr} (h : RL l l') (r c i k : Int) : Rl (atF r c l i k) (A.atF r c l' i k) := by
  unfold atF A.atF
  rw [h.1]
  split
  · exact h.2 _
  · exact Rl.dz
theorem row_rl {l : List Fr} {l' : List A.Fr} (h : RL l l') (r c i : Int) : RL (rowF r c l i) (A.rowF r c l' i) := by
  unfold rowF A.rowF
  rw [h.1]
  split
  · exact RL.drop (RL.take h _) _
  · exact RL.nil
theorem turn_rl {l : List Fr} {l' : List A.Fr} (h : RL l l') (r c : Int) : RL (turnF r c l) (A.turnF r c l') := by
  unfold turnF A.turnF
  rw [h.1]
  split
  · exact RL.flatMap (fun k => RL.range (fun i => at_rl h _ _ _ _) _) _
  · exact RL.nil
theorem grid_rl {g : Nat → Nat → Fr} {g' : Nat → Nat → A.Fr} (hg : ∀ i k, Rl (g i k) (g' i k)) (n N : Nat) : RL (gridP g n N 0) (gridP g' n N 0) := by
  rw [gridP_zero, gridP_zero]
  exact RL.flatMap (fun k => RL.range (fun i => hg _ _) _) _
theorem mir_rl {l : List Fr} {l' : List A.Fr} (h : RL l l') (r : Int) : RL (mirF r l) (A.mirF r l') := grid_rl (fun i k => at_rl h _ _ _ _) _ _
theorem apply_rl {l v : List Fr} {l' v' : List A.Fr} (h : RL l l') (hv : RL v v') (r c : Int) : RL (applyF r c l v) (A.applyF r c l' v') := by
  unfold applyF A.applyF allF A.allF
  rw [List.map_map, List.map_map]
  exact RL.range (fun i => dot_rl (row_rl h _ _ _) hv) _
theorem prod_rl {a b : List Fr} {a' b' : List A.Fr} (ha : RL a a') (hb : RL b b') (r m c : Int) : RL (prodF r m c a b) (A.prodF r m c a' b') := by
  unfold prodF A.prodF allF A.allF
  rw [List.flatMap_map, List.flatMap_map]
  refine RL.flatMap (fun i => ?_) _
  rw [List.map_map, List.map_map]
  exact RL.range (fun k => dot_rl (row_rl ha _ _ _) (row_rl (turn_rl hb _ _) _ _ _)) _
theorem sq_rl {l : List Fr} {l' : List A.Fr} (h : RL l l') (r : Int) : RL (sqF r l) (A.sqF r l') := mir_rl (prod_rl h (turn_rl h _ _) _ _ _) _
theorem turned_rl {m p q : List Fr} {m' p' q' : List A.Fr} (hm : RL m m') (hp : RL p p') (hq : RL q q') (n : Nat) : RL (turnedF n m p q) (A.turnedF n m' p' q') :=
  mir_rl (RL.zip (fun _ _ _ _ h1 h2 => h1.add h2) (prod_rl (prod_rl hm hp _ _ _) (turn_rl hm _ _) _ _ _) hq) _
theorem whole_rl {l : List Int} (h : ∀ x ∈ l, few x) : RL (l.map (newF · 1)) (l.map (A.newF · 1)) := by
  induction l with
  | nil => exact RL.nil
  | cons x l ih => exact RL.cons (Rl.whole (h x (by simp))) (ih fun y hy => h y (by simp [hy]))
section
variable {n : Nat} {x p h : List Fr} {x' p' h' : List A.Fr} {r z : Fr} {r' z' : A.Fr}
theorem spread_rl (hp : RL p p') (hh : RL h h') (hr : Rl r r') : Rl (spreadF n p h r) (A.spreadF n p' h' r') := (dot_rl hh (apply_rl hp hh _ _)).add hr
theorem surprise_rl (hx : RL x x') (hh : RL h h') (hz : Rl z z') : Rl (surpriseF x h z) (A.surpriseF x' h' z') := hz.sub (dot_rl hh hx)
theorem k_rl (hp : RL p p') (hh : RL h h') (hr : Rl r r') : RL (kF n p h r) (A.kF n p' h' r') := RL.map (fun _ _ h1 => h1.div (spread_rl hp hh hr)) (apply_rl hp hh _ _)
theorem unit_rl : RL (unitF n) (A.unitF n) := by
  refine whole_rl fun x hx => ?_
  unfold unitP at hx
  rw [gridP_zero, List.mem_flatMap] at hx
  obtain ⟨i, _, hx⟩ := hx
  obtain ⟨k, _, rfl⟩ := List.mem_map.1 hx
  unfold few
  split <;> omega
theorem m_rl (hp : RL p p') (hh : RL h h') (hr : Rl r r') : RL (mF n p h r) (A.mF n p' h' r') := RL.zip (fun _ _ _ _ h1 h2 => h1.sub h2) unit_rl (prod_rl (k_rl hp hh hr) hh _ _ _)
theorem krk_rl (hp : RL p p') (hh : RL h h') (hr : Rl r r') : RL (krkF n p h r) (A.krkF n p' h' r') := prod_rl (RL.map (fun _ _ h1 => h1.mul hr) (k_rl hp hh hr)) (turn_rl (k_rl hp hh hr) _ _) _ _ _
theorem upP_rl (hp : RL p p') (hh : RL h h') (hr : Rl r r') : RL (upP n p h r) (A.upP n p' h' r') := turned_rl (m_rl hp hh hr) hp (krk_rl hp hh hr) n
theorem upX_rl (hx : RL x x') (hp : RL p p') (hh : RL h h') (hr : Rl r r') (hz : Rl z z') : RL (upX n x p h r z) (A.upX n x' p' h' r' z') :=
  RL.zip (fun _ _ _ _ h1 h2 => h1.add h2) hx (RL.map (fun _ _ h1 => h1.mul (surprise_rl hx hh hz)) (k_rl hp hh hr))
end
end Go.Proofs.YtbflmeomkfjikaaGreat.A.E


set_option linter.unusedVariables false
set_option linter.unusedSimpArgs false
set_option maxRecDepth 100000
namespace Go.Proofs.YtbflmeomkfjikaaGreat.A
open Go Go.RowKit Go.Shelf

/-! ### Products of two words, compared -/
abbrev prW (p : Nat) : PV := .agg [uw (p / 18446744073709551616), uw (p % 18446744073709551616)]
theorem eq_prW (p q : Nat) : cellsEq [some .u64, some .u64] [uw (p / 18446744073709551616), uw (p % 18446744073709551616)] [uw (q / 18446744073709551616), uw (q % 18446744073709551616)] = some (decide (p = q)) := by
  have e : (p = q) ↔ (((p / 18446744073709551616 : Nat) : Int) = ((q / 18446744073709551616 : Nat) : Int) ∧ ((p % 18446744073709551616 : Nat) : Int) = ((q % 18446744073709551616 : Nat) : Int)) := by omega
  unfold uw
  generalize ((p / 18446744073709551616 : Nat) : Int) = A at *
  generalize ((q / 18446744073709551616 : Nat) : Int) = B at *
  generalize ((p % 18446744073709551616 : Nat) : Int) = C at *
  generalize ((q % 18446744073709551616 : Nat) : Int) = D at *
  simp only [cellsEq, e]
  by_cases h1 : A = B <;> by_cases h2 : C = D <;> simp [h1, h2]
theorem ok138 (p q : Nat) : Ok Tryz.prog 138 [prW p, prW q] (tru (decide (p < q))) := by
  refine ok_fn mixed Tryz.func138 (code := ?_) (h := h138) ?_ k138 ?_
  rotate_left
  · exact rfl
  unfold h138 initS
  simp -implicitDefEqProofs (maxSteps := 10000000) only [rkA, rkB, stepA, valA, simprocAttr, Tryz.ntmps138, Tryz.results138]
  have e1 := Nat.div_add_mod p 18446744073709551616
  have e2 := Nat.div_add_mod q 18446744073709551616
  have l1 := Nat.mod_lt p (show 0 < 18446744073709551616 by omega)
  have l2 := Nat.mod_lt q (show 0 < 18446744073709551616 by omega)
  refine gB_dec ?_ ?_ <;> intro h1
  · have : p < q := by omega
    simp -implicitDefEqProofs (maxSteps := 10000000) only [this, h1, rkA, rkB, stepA, valA, simprocAttr]
  · simp -implicitDefEqProofs (maxSteps := 10000000) only [h1, rkA, rkB, stepA, valA, simprocAttr]
    refine gB_bool ?_ ?_ <;> intro h2 <;> simp -implicitDefEqProofs (maxSteps := 10000000) only [h2, rkA, rkB, stepA, valA, simprocAttr]
    · have h3 : ((p / 18446744073709551616 : Nat) : Int) = ((q / 18446744073709551616 : Nat) : Int) := by simpa using h2
      have : (((p % 18446744073709551616 : Nat) : Int) < ((q % 18446744073709551616 : Nat) : Int)) = (p < q) := by apply propext; omega
      simp only [this]
    · have h3 : ¬ ((p / 18446744073709551616 : Nat) : Int) = ((q / 18446744073709551616 : Nat) : Int) := by simpa using h2
      have : ¬ p < q := by omega
      simp -implicitDefEqProofs (maxSteps := 10000000) only [this, rkA, rkB, stepA, valA, simprocAttr]

def sgn2 (a b : Int) : Int := if a = 0 ∨ b = 0 then 0 else if (decide (a < 0) != decide (b < 0)) = true then -1 else 1
theorem ok135 (a b : Int) : Ok Tryz.prog 135 [num a, num b] (num (sgn2 a b)) := by
  refine ok_fn mixed Tryz.func135 (code := ?_) (h := h135) ?_ k135 ?_
  rotate_left
  · exact rfl
  unfold h135 initS
  simp -implicitDefEqProofs (maxSteps := 10000000) only [rkA, rkB, stepA, valA, simprocAttr, Tryz.ntmps135, Tryz.results135]
  unfold sgn2
  refine gB_bool ?_ ?_ <;> intro h1 <;> simp -implicitDefEqProofs (maxSteps := 10000000) only [h1, rkA, rkB, stepA, valA, simprocAttr]
  · have h1' : a = 0 := by simpa using h1
    rw [if_pos (.inl h1')]
  · have h1' : ¬ a = 0 := by simpa using h1
    refine gB_bool ?_ ?_ <;> intro h2 <;> simp -implicitDefEqProofs (maxSteps := 10000000) only [h2, rkA, rkB, stepA, valA, simprocAttr]
    · have h2' : b = 0 := by simpa using h2
      rw [if_pos (.inr h2')]
    · have h2' : ¬ b = 0 := by simpa using h2
      rw [if_neg (by omega)]
      refine gB_bool ?_ ?_ <;> intro h3 <;> simp -implicitDefEqProofs (maxSteps := 10000000) only [h3, rkA, rkB, stepA, valA, simprocAttr]
      · rw [show (decide (a < 0) != decide (b < 0)) = true from h3, if_pos rfl]
      · rw [show (decide (a < 0) != decide (b < 0)) = false from h3, if_neg (by simp)]

def cmpF (a b c d : Int) : Int :=
  if sgn2 a b < sgn2 c d ∨ (sgn2 a b = sgn2 c d ∧ 0 < sgn2 a b ∧ a.natAbs * b.natAbs < c.natAbs * d.natAbs) ∨ (sgn2 a b = sgn2 c d ∧ sgn2 a b < 0 ∧ c.natAbs * d.natAbs < a.natAbs * b.natAbs) then -1
  else if sgn2 c d < sgn2 a b ∨ (a.natAbs * b.natAbs ≠ c.natAbs * d.natAbs ∧ sgn2 a b ≠ 0) then 1 else 0
theorem sgn2_of (a b : Int) : (sgn2 a b = 0 ∧ a * b = 0) ∨ (sgn2 a b = 1 ∧ 0 < a * b) ∨ (sgn2 a b = -1 ∧ a * b < 0) := by
  unfold sgn2
  by_cases h0 : a = 0 ∨ b = 0
  · left
    rw [if_pos h0]
    rcases h0 with rfl | rfl <;> simp
  · rw [if_neg h0]
    right
    rcases Int.lt_or_lt_of_ne (show a ≠ 0 from fun h => h0 (.inl h)) with ha | ha <;> rcases Int.lt_or_lt_of_ne (show b ≠ 0 from fun h => h0 (.inr h)) with hb | hb
    · left
      refine ⟨?_, Int.mul_pos_of_neg_of_neg ha hb⟩
      simp [ha, hb]
    · right
      refine ⟨?_, Int.mul_neg_of_neg_of_pos ha hb⟩
      have : ¬ b < 0 := by omega
      simp [ha, this]
    · right
      refine ⟨?_, Int.mul_neg_of_pos_of_neg ha hb⟩
      have : ¬ a < 0 := by omega
      simp [hb, this]
    · left
      refine ⟨?_, Int.mul_pos ha hb⟩
      have h1 : ¬ b < 0 := by omega
      have h2 : ¬ a < 0 := by omega
      simp [h1, h2]
theorem cmpF_is (a b c d : Int) : cmpF a b c d = if a * b < c * d then -1 else if c * d < a * b then 1 else 0 := by
  unfold cmpF
  have h1 := sgn2_of a b
  have h2 := sgn2_of c d
  rw [← Int.natAbs_mul, ← Int.natAbs_mul]
  generalize a * b = X at *
  generalize c * d = Y at *
  generalize sgn2 a b = x at *
  generalize sgn2 c d = y at *
  by_cases l1 : X < Y
  · rw [if_pos l1, if_pos (by omega)]
  · rw [if_neg l1, if_neg (by omega)]
    by_cases l2 : Y < X
    · rw [if_pos l2, if_pos (by omega)]
    · rw [if_neg l2, if_neg (by omega)]
theorem natAbs_lt {n : Int} (h : rightW n = true) : n.natAbs < 18446744073709551616 := by
  unfold rightW at h
  rw [decide_eq_true_eq] at h
  omega
set_option maxHeartbeats 4000000 in
theorem ok86 (a b c d : Int) (ha : rightW a = true) (hb : rightW b = true) (hc : rightW c = true) (hd : rightW d = true) : Ok Tryz.prog 86 [num a, num b, num c, num d] (num (cmpF a b c d)) := by
  have w0 : IntKind.wrap .i64 ((0 : Int) + 1) = 1 := by decide
  have w1 : IntKind.wrap .i64 ((1 : Int) + 1) = 2 := by decide
  have w2 : IntKind.wrap .i64 ((2 : Int) + 1) = 3 := by decide
  have w3 : IntKind.wrap .i64 ((3 : Int) + 1) = 4 := by decide
  have n4 : ((4 : Nat) : Int) = 4 := rfl
  refine ok_fn mixed Tryz.func86 (code := ?_) (h := h86) ?_ k86 ?_
  rotate_left
  · exact rfl
  unfold h86 initS
  simp -implicitDefEqProofs (maxSteps := 10000000) only [rkA, rkB, stepA, valA, simprocAttr, Tryz.ntmps86, Tryz.results86]
  refine wp_loop (fun m s => ∃ k : Int, ((k = 0 ∧ m = 4) ∨ (k = 1 ∧ m = 3) ∨ (k = 2 ∧ m = 2) ∨ (k = 3 ∧ m = 1) ∨ (k = 4 ∧ m = 0)) ∧ s = ⟨[.v (num a), .v (num b), .v (num c), .v (num d), jk, jk, jk, jk, jk, jk, jk, jk, jk, jk, jk, jk, jk, jk, jk, jk, .v (.agg [num a, num b, num c, num d]), nt k, jk, jk, jk, jk, jk, jk, jk, jk, jk, jk, jk, jk, jk, jk, jk, jk, jk, jk, jk, jk, jk, jk, jk, jk, jk, jk, jk, jk, jk, jk, jk, jk, jk, jk, jk, jk, jk, jk, jk, jk, jk, jk, jk, jk, jk, jk, jk, jk, jk, jk, jk, jk, jk, jk, jk, jk, jk, jk, jk, jk, jk, jk, jk], [], [], [], [], 0, nomem⟩) 4 ?_ ?_
  · simp -implicitDefEqProofs (maxSteps := 10000000) only [rkA, rkB, stepA, valA, simprocAttr]
    exact ⟨0, by omega, rfl⟩
  rintro m s ⟨k, ⟨rfl, rfl⟩ | ⟨rfl, rfl⟩ | ⟨rfl, rfl⟩ | ⟨rfl, rfl⟩ | ⟨rfl, rfl⟩, rfl⟩
  · simp -implicitDefEqProofs (maxSteps := 10000000) only [n4, rkA, rkB, stepA, valA, simprocAttr]
    refine call_fn rfl rfl rfl (ok85' a) ?_
    simp -implicitDefEqProofs (maxSteps := 10000000) only [ha, w0, rkA, rkB, stepA, valA, simprocAttr]
    refine loopK_of (m' := 3) (by omega) ?_
    simp -implicitDefEqProofs (maxSteps := 10000000) only [rkA, rkB, stepA, valA, simprocAttr]
    exact ⟨1, by omega, rfl⟩
  · simp -implicitDefEqProofs (maxSteps := 10000000) only [n4, rkA, rkB, stepA, valA, simprocAttr]
    refine call_fn rfl rfl rfl (ok85' b) ?_
    simp -implicitDefEqProofs (maxSteps := 10000000) only [hb, w1, rkA, rkB, stepA, valA, simprocAttr]
    refine loopK_of (m' := 2) (by omega) ?_
    simp -implicitDefEqProofs (maxSteps := 10000000) only [rkA, rkB, stepA, valA, simprocAttr]
    exact ⟨2, by omega, rfl⟩
  · simp -implicitDefEqProofs (maxSteps := 10000000) only [n4, rkA, rkB, stepA, valA, simprocAttr]
    refine call_fn rfl rfl rfl (ok85' c) ?_
    simp -implicitDefEqProofs (maxSteps := 10000000) only [hc, w2, rkA, rkB, stepA, valA, simprocAttr]
    refine loopK_of (m' := 1) (by omega) ?_
    simp -implicitDefEqProofs (maxSteps := 10000000) only [rkA, rkB, stepA, valA, simprocAttr]
    exact ⟨3, by omega, rfl⟩
  · simp -implicitDefEqProofs (maxSteps := 10000000) only [n4, rkA, rkB, stepA, valA, simprocAttr]
    refine call_fn rfl rfl rfl (ok85' d) ?_
    simp -implicitDefEqProofs (maxSteps := 10000000) only [hd, w3, rkA, rkB, stepA, valA, simprocAttr]
    refine loopK_of (m' := 0) (by omega) ?_
    simp -implicitDefEqProofs (maxSteps := 10000000) only [rkA, rkB, stepA, valA, simprocAttr]
    exact ⟨4, by omega, rfl⟩
  · simp -implicitDefEqProofs (maxSteps := 10000000) only [rkA, rkB, stepA, valA, simprocAttr]
    refine call_fn rfl rfl rfl (ok135 a b) ?_
    simp -implicitDefEqProofs (maxSteps := 10000000) only [rkA, rkB, stepA, valA, simprocAttr]
    refine call_fn rfl rfl rfl (ok135 c d) ?_
    simp -implicitDefEqProofs (maxSteps := 10000000) only [rkA, rkB, stepA, valA, simprocAttr]
    refine call_fn rfl rfl rfl (ok137 a ha) ?_
    simp -implicitDefEqProofs (maxSteps := 10000000) only [rkA, rkB, stepA, valA, simprocAttr]
    refine call_fn rfl rfl rfl (ok137 b hb) ?_
    simp -implicitDefEqProofs (maxSteps := 10000000) only [rkA, rkB, stepA, valA, simprocAttr]
    refine call_fn rfl rfl rfl (ok136 _ _ (natAbs_lt ha) (natAbs_lt hb)) ?_
    simp -implicitDefEqProofs (maxSteps := 10000000) only [rkA, rkB, stepA, valA, simprocAttr]
    refine call_fn rfl rfl rfl (ok137 c hc) ?_
    simp -implicitDefEqProofs (maxSteps := 10000000) only [rkA, rkB, stepA, valA, simprocAttr]
    refine call_fn rfl rfl rfl (ok137 d hd) ?_
    simp -implicitDefEqProofs (maxSteps := 10000000) only [rkA, rkB, stepA, valA, simprocAttr]
    refine call_fn rfl rfl rfl (ok136 _ _ (natAbs_lt hc) (natAbs_lt hd)) ?_
    unfold cmpF
    generalize sgn2 a b = x
    generalize sgn2 c d = y
    generalize a.natAbs * b.natAbs = p
    generalize c.natAbs * d.natAbs = q
    generalize hF : (if x < y ∨ (x = y ∧ 0 < x ∧ p < q) ∨ (x = y ∧ x < 0 ∧ q < p) then (-1 : Int) else if y < x ∨ (p ≠ q ∧ x ≠ 0) then 1 else 0) = r
    simp -implicitDefEqProofs (maxSteps := 10000000) only [rkA, rkB, stepA, valA, simprocAttr]
    repeat' (first
      | (refine gB_bool ?_ ?_ <;> intro hx <;> simp -implicitDefEqProofs (maxSteps := 10000000) only [hx, eq_prW, rkA, rkB, stepA, valA, simprocAttr])
      | (refine call_fn rfl rfl rfl (ok138 p q) ?_; simp -implicitDefEqProofs (maxSteps := 10000000) only [rkA, rkB, stepA, valA, simprocAttr])
      | (refine call_fn rfl rfl rfl (ok138 q p) ?_; simp -implicitDefEqProofs (maxSteps := 10000000) only [rkA, rkB, stepA, valA, simprocAttr]))
    all_goals clear ha hb hc hd w0 w1 w2 w3 n4
    all_goals simp only [decide_eq_true_eq, decide_eq_false_iff_not, beq_iff_eq, beq_eq_false_iff_ne, bne_iff_ne, bne_eq_false_iff_eq, Bool.not_eq_true', Bool.not_eq_false'] at *
    all_goals first
      | (rw [← hF, if_pos (by omega)]; done)
      | (rw [← hF, if_neg (by omega), if_pos (by omega)]; done)
      | (rw [← hF, if_neg (by omega), if_neg (by omega)]; done)
      | (exfalso; omega)
end Go.Proofs.YtbflmeomkfjikaaGreat.A


set_option linter.unusedVariables false
set_option linter.unusedSimpArgs false
set_option maxRecDepth 100000
namespace Go.Proofs.YtbflmeomkfjikaaGreat.A.E
open Go Go.RowKit Go.Shelf

/-! ### Is a fraction enclosed? -/
def enclB (x : Fr) (n d : Int) : Bool := x.fine && (decide (1 ≤ d) && (rightW n && (rightW d && (decide (cmpF x.lo d n 16777216 ≤ 0) && decide (cmpF n 16777216 x.hi d ≤ 0)))))
theorem rightXW {n : Int} (h : rightX n = true) : rightW n = true := by
  unfold rightX at h
  unfold rightW
  rw [decide_eq_true_eq] at h ⊢
  omega
theorem fine_lohi {x : Fr} (h : x.fine = true) : rightX x.lo = true ∧ rightX x.hi = true := by
  unfold Fr.fine at h
  simp only [Bool.and_eq_true] at h
  exact ⟨h.2.1, h.2.2.1⟩
theorem ok25 (x : Fr) (n d : Int) : Ok Tryz.prog 25 [frV x, num n, num d] (tru (enclB x n d)) := by
  refine ok_fn mixed Tryz.func25 (code := ?_) (h := h25) ?_ k25 ?_
  rotate_left
  · exact rfl
  unfold h25 initS
  simp -implicitDefEqProofs (maxSteps := 10000000) only [rkA, rkB, stepA, valA, simprocAttr, Tryz.ntmps25, Tryz.results25]
  refine call_fn rfl rfl rfl (ok84 x) ?_
  unfold enclB
  cases hf : x.fine with
  | false => simp -implicitDefEqProofs (maxSteps := 10000000) only [rkA, rkB, stepA, valA, simprocAttr]
  | true =>
    obtain ⟨hlo, hhi⟩ := fine_lohi hf
    simp -implicitDefEqProofs (maxSteps := 10000000) only [rkA, rkB, stepA, valA, simprocAttr]
    refine gB_dec ?_ ?_ <;> intro h1
    · have : ¬ 1 ≤ d := by omega
      simp -implicitDefEqProofs (maxSteps := 10000000) only [h1, this, rkA, rkB, stepA, valA, simprocAttr]
    · have h1' : 1 ≤ d := by omega
      simp -implicitDefEqProofs (maxSteps := 10000000) only [h1, h1', rkA, rkB, stepA, valA, simprocAttr]
      refine call_fn rfl rfl rfl (ok85' n) ?_
      cases hn : rightW n with
      | false => simp -implicitDefEqProofs (maxSteps := 10000000) only [rkA, rkB, stepA, valA, simprocAttr]
      | true =>
        simp -implicitDefEqProofs (maxSteps := 10000000) only [rkA, rkB, stepA, valA, simprocAttr]
        refine call_fn rfl rfl rfl (ok85' d) ?_
        cases hd : rightW d with
        | false => simp -implicitDefEqProofs (maxSteps := 10000000) only [rkA, rkB, stepA, valA, simprocAttr]
        | true =>
          simp -implicitDefEqProofs (maxSteps := 10000000) only [rkA, rkB, stepA, valA, simprocAttr]
          refine call_fn rfl rfl rfl (ok86 x.lo d n 16777216 (rightXW hlo) hd hn (by decide)) ?_
          simp -implicitDefEqProofs (maxSteps := 10000000) only [rkA, rkB, stepA, valA, simprocAttr]
          refine gB_dec ?_ ?_ <;> intro h2 <;> simp -implicitDefEqProofs (maxSteps := 10000000) only [h2, rkA, rkB, stepA, valA, simprocAttr]
          refine call_fn rfl rfl rfl (ok86 n 16777216 x.hi d hn (by decide) (rightXW hhi) hd) ?_
          simp -implicitDefEqProofs (maxSteps := 10000000) only [rkA, rkB, stepA, valA, simprocAttr]
theorem encl_whole {n : Int} (h : few n) : enclB (whole n) n 1 = true := by
  unfold enclB
  rw [fine_whole h, cmpF_is, cmpF_is]
  unfold few at h
  have hr : rightW n = true := by unfold rightW; rw [decide_eq_true_eq]; omega
  have hr1 : rightW 1 = true := by decide
  rw [hr, hr1]
  simp

/-! ### Products of whole numbers -/
theorem getD_newF {a : List Int} {i : Nat} (h : i < a.length) (d : Fr) : (a.map (newF · 1)).getD i d = newF (a.getD i 0) 1 := by
  simp [h]
theorem sumF_whole (f : Nat → Int) (s : Nat → Int) (h0 : s 0 = 0) (hs : ∀ j, s (j + 1) = s j + f j) (N : Nat) (hf : ∀ j, j < N → few (f j)) (hb : ∀ j, j ≤ N → few (s j)) : ∀ n, n ≤ N → sumF ((List.range n).map fun j => whole (f j)) = whole (s n)
  | 0, _ => by
    have := newF_whole (n := 0) (by unfold few; omega)
    simp [sumF, this, h0]
  | n + 1, hn => by
    have ih := sumF_whole f s h0 hs N hf hb n (by omega)
    have : sumF ((List.range (n + 1)).map fun j => whole (f j)) = addF (sumF ((List.range n).map fun j => whole (f j))) (whole (f n)) := by
      unfold sumF
      rw [List.range_succ, List.map_append, List.foldl_append]
      rfl
    rw [this, ih, addF_whole (hb n (by omega)) (hf n (by omega)) (by rw [← hs]; exact hb _ hn), ← hs]
theorem few_small {x : Int} (h : -100 ≤ x ∧ x ≤ 100) : few x := by unfold few; omega
theorem dotF_whole {a b : List Int} {many cols : Nat} (ha : small a) (hb : small b) (hm : many ≤ 16) (i k : Nat) :
    dotF ((List.range many).map fun j => newF (a.getD (i * many + j) 0) 1) ((List.range many).map fun j => newF (b.getD (j * cols + k) 0) 1) = newF (dotI a b many cols i k many) 1 := by
  have hd : ∀ j, j ≤ many → few (dotI a b many cols i k j) := fun j hj => by
    have := dotI_le ha hb many cols i k j
    unfold few
    omega
  unfold dotF
  rw [newF_whole (hd many (Nat.le_refl _)), List.zipWith_map, List.zipWith_self]
  have e : ∀ j, mulF (newF (a.getD (i * many + j) 0) 1) (newF (b.getD (j * cols + k) 0) 1) = whole (a.getD (i * many + j) 0 * b.getD (j * cols + k) 0) := fun j => by
    have h1 := small_get ha (i * many + j)
    have h2 := small_get hb (j * cols + k)
    have h3 := prod_small h1 h2
    rw [newF_whole (few_small h1), newF_whole (few_small h2), mulF_whole (few_small h1) (few_small h2) (by unfold few; omega)]
  simp only [e]
  refine sumF_whole (fun j => a.getD (i * many + j) 0 * b.getD (j * cols + k) 0) (dotI a b many cols i k) rfl (fun j => rfl) many (fun j _ => ?_) hd many (Nat.le_refl _)
  have h3 := prod_small (small_get ha (i * many + j)) (small_get hb (j * cols + k))
  unfold few
  omega
/-- The product of whole numbers is the document's. -/
theorem prodF_whole {r m c : Int} {a b : List Int} (h1 : right r m a.length = true) (h2 : right m c b.length = true) (ha : small a) (hb : small b) :
    prodF r m c (a.map (newF · 1)) (b.map (newF · 1)) = (mulI a b r.toNat m.toNat c.toNat).map (newF · 1) := by
  obtain ⟨r1, r2, m1, m2, hn⟩ := right_spec h1
  obtain ⟨_, _, c1, c2, hn2⟩ := right_spec h2
  have h1' : right r m (a.map (newF · 1)).length = true := by simpa using h1
  have h2' : right m c (b.map (newF · 1)).length = true := by simpa using h2
  have h3 := right_turn h2'
  have la : a.length = r.toNat * m.toNat := by
    have : ((r.toNat * m.toNat : Nat) : Int) = a.length := by rw [Int.natCast_mul, Int.toNat_of_nonneg (by omega), Int.toNat_of_nonneg (by omega), hn]
    omega
  have lb : b.length = m.toNat * c.toNat := by
    have : ((m.toNat * c.toNat : Nat) : Int) = b.length := by rw [Int.natCast_mul, Int.toNat_of_nonneg (by omega), Int.toNat_of_nonneg (by omega), hn2]
    omega
  unfold prodF mulI allF
  rw [gridP_zero, List.flatMap_map, List.map_flatMap]
  apply flatMap_same
  intro i hi
  rw [List.mem_range] at hi
  rw [List.map_map, List.map_map]
  apply List.map_congr_left
  intro k hk
  rw [List.mem_range] at hk
  simp only [Function.comp]
  have e1 : rowF r m (a.map (newF · 1)) i = (List.range m.toNat).map fun j => newF (a.getD (i * m.toNat + j) 0) 1 := by
    rw [rowF_eq ⟨0, 0, 0, false⟩ h1' hi]
    apply List.map_congr_left
    intro j hj
    rw [List.mem_range] at hj
    have := at_table hi hj
    exact getD_newF (by omega) _
  have e2 : rowF c m (turnF m c (b.map (newF · 1))) k = (List.range m.toNat).map fun j => newF (b.getD (j * c.toNat + k) 0) 1 := by
    rw [rowF_eq ⟨0, 0, 0, false⟩ h3 hk]
    apply List.map_congr_left
    intro j hj
    rw [List.mem_range] at hj
    rw [turnF_eq h2', List.getD_eq_getElem?_getD, gridP_get _ _ _ _ _ hk hj, Option.getD_some, atF_eq h2' hj hk]
    have := at_table hj hk
    exact getD_newF (by omega) _
  rw [e1, e2, dotF_whole ha hb (by omega)]
end Go.Proofs.YtbflmeomkfjikaaGreat.A.E


set_option linter.unusedVariables false
set_option linter.unusedSimpArgs false
set_option maxRecDepth 100000
namespace Go.Proofs.YtbflmeomkfjikaaGreat.A.E
open Go Go.RowKit Go.Shelf

/-! ### What is not Bad is fine -/
def SndE (x : Fr) : Prop := x.bad = false → x.fine = true
def SndA (y : A.Fr) : Prop := y.bad = false → y.fine = true
theorem self_enc {a : Fr} (h : a.fine = true) : Enc a ((a.v : Rat) / 16777216) := by
  have o := (fine_is.1 h).2.2.2
  have e : ((a.v : Rat) / 16777216) * 16777216 = (a.v : Rat) := by grind
  refine ⟨h, ?_, ?_⟩
  · rw [e]; exact Rat.intCast_le_intCast.2 o.1
  · rw [e]; exact Rat.intCast_le_intCast.2 o.2
theorem addF_snd (a b : Fr) : SndE (addF a b) := fun h => by
  have k := made_is h
  exact (addF_enc (fun _ => self_enc k.1) (fun _ => self_enc k.2.1) h).1
theorem subF_snd (a b : Fr) : SndE (subF a b) := fun h => by
  have k := made_is h
  exact (subF_enc (fun _ => self_enc k.1) (fun _ => self_enc k.2.1) h).1
theorem addA_snd (a b : A.Fr) : SndA (A.addF a b) := fun h => (A.addF_is h).2.2.1
theorem subA_snd (a b : A.Fr) : SndA (A.subF a b) := fun h => (A.subF_is h).2.2.1
theorem dot_snd (l m : List Fr) : SndE (dotF l m) := by
  unfold dotF sumF
  generalize List.zipWith mulF l m = z
  have : ∀ (z : List Fr) (x : Fr), SndE x → SndE (z.foldl addF x) := fun z => by
    induction z with
    | nil => exact fun x h => h
    | cons y z ih => exact fun x _ => ih _ (addF_snd _ _)
  refine this z _ fun _ => ?_
  rw [newF_whole (by unfold few; omega)]
  exact fine_whole (by unfold few; omega)
theorem dotA_snd (l m : List A.Fr) : SndA (A.dotF l m) := by
  unfold A.dotF A.sumF
  generalize List.zipWith A.mulF l m = z
  have : ∀ (z : List A.Fr) (x : A.Fr), SndA x → SndA (z.foldl A.addF x) := fun z => by
    induction z with
    | nil => exact fun x h => h
    | cons y z ih => exact fun x _ => ih _ (addA_snd _ _)
  refine this z _ fun _ => ?_
  have := A.whole_is (n := 0) (by unfold A.few; omega)
  exact this.1
theorem zip_mem {α β γ : Type} {f : α → β → γ} {P : γ → Prop} (hf : ∀ u v, P (f u v)) : ∀ (a : List α) (b : List β), ∀ y ∈ List.zipWith f a b, P y
  | [], b, y, h => by simp at h
  | x :: a, [], y, h => by simp at h
  | x :: a, z :: b, y, h => by
    rw [List.zipWith_cons_cons] at h
    rcases List.mem_cons.1 h with rfl | h
    · exact hf _ _
    · exact zip_mem hf a b y h
theorem grid_mem {α : Type} {g : Nat → Nat → α} {n N : Nat} {y : α} (h : y ∈ gridP g n N 0) : ∃ i k, i < N ∧ k < n ∧ y = g i k := by
  rw [gridP_zero, List.mem_flatMap] at h
  obtain ⟨i, hi, h⟩ := h
  obtain ⟨k, hk, rfl⟩ := List.mem_map.1 h
  exact ⟨i, k, List.mem_range.1 hi, List.mem_range.1 hk, rfl⟩
theorem getD_mem {α : Type} {l : List α} {k : Nat} {d : α} (h : k < l.length) : l.getD k d ∈ l := by
  rw [List.getD_eq_getElem?_getD, List.getElem?_eq_getElem h, Option.getD_some]
  exact List.getElem_mem h
theorem mir_mem {n : Nat} {l : List Fr} (hn : 1 ≤ n ∧ n ≤ 16) (hl : l.length = n * n) : ∀ y ∈ mirF n l, y ∈ l := fun y hy => by
  unfold mirF at hy
  rw [Int.toNat_natCast] at hy
  obtain ⟨i, k, hi, hk, rfl⟩ := grid_mem hy
  rw [atF_eq (right_nat hn hn hl) (by simp; omega) (by simp; omega), Int.toNat_natCast]
  have := at_table (i := max i k) (j := min i k) (n := n) (m := n) (by omega) (by omega)
  exact getD_mem (by omega)
theorem mirA_mem {n : Nat} {l : List A.Fr} (hn : 1 ≤ n ∧ n ≤ 16) (hl : l.length = n * n) : ∀ y ∈ A.mirF n l, y ∈ l := fun y hy => by
  unfold A.mirF at hy
  rw [Int.toNat_natCast] at hy
  obtain ⟨i, k, hi, hk, rfl⟩ := grid_mem hy
  rw [A.atF_eq (right_nat hn hn hl) (by simp; omega) (by simp; omega), Int.toNat_natCast]
  have := at_table (i := max i k) (j := min i k) (n := n) (m := n) (by omega) (by omega)
  exact getD_mem (by omega)

/-! ### Enclosed numbers that enclose -/
theorem encl_of {x : Fr} {y : A.Fr} (h : Enc x y.val) (hy : y.fine = true) : enclB x y.n y.d = true := by
  obtain ⟨f, l, u⟩ := h
  obtain ⟨_, d1, d2, n1, n2⟩ := A.Fr.fine_spec hy
  unfold enclB
  rw [f, cmpF_is, cmpF_is]
  have hn : rightW y.n = true := by unfold rightW; rw [decide_eq_true_eq]; omega
  have hd : rightW y.d = true := by unfold rightW; rw [decide_eq_true_eq]; omega
  rw [hn, hd]
  have hdp : (0 : Rat) < (y.d : Rat) := by
    have := Rat.intCast_lt_intCast.2 (show 0 < y.d by omega)
    simpa using this
  have hv : y.val * (y.d : Rat) = (y.n : Rat) := by
    unfold A.Fr.val
    have := Rat.mul_inv_cancel (y.d : Rat) (by grind)
    rw [Rat.div_def]
    grind
  have k1 : x.lo * y.d ≤ y.n * 16777216 := by
    have k := Rat.mul_nonneg (show 0 ≤ y.val * 16777216 - (x.lo : Rat) by grind) (Rat.le_of_lt hdp)
    have : ((x.lo * y.d : Int) : Rat) ≤ ((y.n * 16777216 : Int) : Rat) := by
      rw [Rat.intCast_mul, Rat.intCast_mul y.n, ← hv]
      grind
    exact Rat.intCast_le_intCast.1 this
  have k2 : y.n * 16777216 ≤ x.hi * y.d := by
    have k := Rat.mul_nonneg (show 0 ≤ (x.hi : Rat) - y.val * 16777216 by grind) (Rat.le_of_lt hdp)
    have : ((y.n * 16777216 : Int) : Rat) ≤ ((x.hi * y.d : Int) : Rat) := by
      rw [Rat.intCast_mul y.n, Rat.intCast_mul, ← hv]
      grind
    exact Rat.intCast_le_intCast.1 this
  have a1 : decide (1 ≤ y.d) = true := decide_eq_true (by omega)
  rw [a1]
  have a2 : decide ((if x.lo * y.d < y.n * 16777216 then (-1 : Int) else if y.n * 16777216 < x.lo * y.d then 1 else 0) ≤ 0) = true := by
    rw [decide_eq_true_eq]
    split
    · omega
    · rw [if_neg (by omega)]; omega
  have a3 : decide ((if y.n * 16777216 < x.hi * y.d then (-1 : Int) else if x.hi * y.d < y.n * 16777216 then 1 else 0) ≤ 0) = true := by
    rw [decide_eq_true_eq]
    split
    · omega
    · rw [if_neg (by omega)]; omega
  rw [a2, a3]
  rfl
/-- One list encloses another. -/
def Wth (a : List Fr) (b : List A.Fr) : Prop := a.length = b.length ∧ ∀ (k : Nat) (h1 : k < a.length) (h2 : k < b.length), b[k].bad = false → a[k].bad = false → enclB a[k] b[k].n b[k].d = true
theorem wth_of {a : List Fr} {b : List A.Fr} (h : RL a b) (ha : ∀ x ∈ a, SndE x) (hb : ∀ y ∈ b, SndA y) : Wth a b := by
  refine ⟨h.1, fun k h1 h2 hy hx => ?_⟩
  have hk := h.2 k
  rw [List.getD_eq_getElem?_getD, List.getD_eq_getElem?_getD, List.getElem?_eq_getElem h1, List.getElem?_eq_getElem h2, Option.getD_some, Option.getD_some] at hk
  have fy := hb _ (List.getElem_mem h2) hy
  exact encl_of (hk (ha _ (List.getElem_mem h1) hx) fy) fy
theorem ok67 (ea eb : Bool) (a : List Fr) (b : List A.Fr) (h : Wth a b) (hs : a.length ≤ 1000) : Ok Tryz.prog 67 [.sl ea (frs a), .sl eb (A.frs b)] (tru true) := by
  have la : (frs a).length = a.length := by simp
  have lb : (A.frs b).length = a.length := by rw [h.1]; simp
  refine ok_fn mixed Tryz.func67 (code := ?_) (h := h67) ?_ k67 ?_
  rotate_left
  · exact rfl
  unfold h67 initS
  simp -implicitDefEqProofs (maxSteps := 10000000) only [rkA, rkB, stepA, valA, simprocAttr, Tryz.ntmps67, Tryz.results67]
  simp -implicitDefEqProofs (maxSteps := 10000000) only [la, lb, bne_self_eq_false, rkA, rkB, stepA, valA, simprocAttr]
  refine wp_loop (fun m s => ∃ k : Nat, k + m = a.length ∧ s = ⟨[.v (.sl ea (frs a)), jk, jk, jk, jk, jk, jk, jk, jk, jk, jk, jk, .v (.sl eb (A.frs b)), nt a.length, nt k, jk, jk, jk, jk, jk, jk, jk, jk, jk, jk, jk, jk, jk, jk, jk, jk, jk, jk, jk, jk, jk, jk, jk, jk, jk, jk, jk, jk], [], [], [], [], 0, nomem⟩) a.length ?_ ?_
  · simp -implicitDefEqProofs (maxSteps := 10000000) only [rkA, rkB, stepA, valA, simprocAttr]
    exact ⟨0, by omega, rfl⟩
  rintro m s ⟨k, hk, rfl⟩
  simp -implicitDefEqProofs (maxSteps := 10000000) only [rkA, rkB, stepA, valA, simprocAttr]
  refine gB_dec ?_ ?_ <;> intro hc <;> simp -implicitDefEqProofs (maxSteps := 10000000) only [hc, rkA, rkB, stepA, valA, simprocAttr]
  have h0 : (0 : Int) ≤ (k : Int) := by omega
  have h1 : k < a.length := by omega
  have h2 : k < b.length := by have := h.1; omega
  have hg : (A.frs b)[k]? = some (A.frV b[k]) := by simp [h2]
  have hga : (frs a)[k]? = some (frV a[k]) := by simp [h1]
  have hw := wrapped (x := (k : Int) + 1) (by omega) (by omega)
  have hen := h.2 k h1 h2
  simp -implicitDefEqProofs (maxSteps := 10000000) only [h0, Int.toNat_natCast, hg, rkA, rkB, stepA, valA, simprocAttr]
  cases hb : b[k].bad with
  | true =>
    simp -implicitDefEqProofs (maxSteps := 10000000) only [hw, rkA, rkB, stepA, valA, simprocAttr]
    refine loopK_of (m' := m - 1) (by omega) ?_
    simp -implicitDefEqProofs (maxSteps := 10000000) only [rkA, rkB, stepA, valA, simprocAttr]
    exact ⟨k + 1, by omega, by simp only [Int.natCast_add, Int.natCast_one]⟩
  | false =>
    simp -implicitDefEqProofs (maxSteps := 10000000) only [h0, Int.toNat_natCast, hga, rkA, rkB, stepA, valA, simprocAttr]
    cases ha : a[k].bad with
    | true =>
      simp -implicitDefEqProofs (maxSteps := 10000000) only [hw, rkA, rkB, stepA, valA, simprocAttr]
      refine loopK_of (m' := m - 1) (by omega) ?_
      simp -implicitDefEqProofs (maxSteps := 10000000) only [rkA, rkB, stepA, valA, simprocAttr]
      exact ⟨k + 1, by omega, by simp only [Int.natCast_add, Int.natCast_one]⟩
    | false =>
      simp -implicitDefEqProofs (maxSteps := 10000000) only [h0, Int.toNat_natCast, hga, rkA, rkB, stepA, valA, simprocAttr]
      have hcall := ok25 a[k] b[k].n b[k].d
      rw [hen hb ha] at hcall
      refine call_fn rfl rfl rfl (hcall) ?_
      simp -implicitDefEqProofs (maxSteps := 10000000) only [hw, rkA, rkB, stepA, valA, simprocAttr]
      refine loopK_of (m' := m - 1) (by omega) ?_
      simp -implicitDefEqProofs (maxSteps := 10000000) only [rkA, rkB, stepA, valA, simprocAttr]
      exact ⟨k + 1, by omega, by simp only [Int.natCast_add, Int.natCast_one]⟩
end Go.Proofs.YtbflmeomkfjikaaGreat.A.E

set_option linter.unusedVariables false
set_option linter.unusedSimpArgs false
set_option maxRecDepth 100000
namespace Go.Proofs.YtbflmeomkfjikaaGreat.A
open Go Go.RowKit Go.Shelf

/-! ### Sums of numbers -/
def sumR : Nat → (Nat → Rat) → Rat
  | 0, _ => 0
  | n + 1, f => sumR n f + f n
theorem sumR_congr {f g : Nat → Rat} : ∀ {n : Nat}, (∀ j, j < n → f j = g j) → sumR n f = sumR n g
  | 0, _ => rfl
  | n + 1, h => by rw [sumR, sumR, sumR_congr fun j hj => h j (by omega), h n (by omega)]
theorem sumR_add (f g : Nat → Rat) : ∀ n, sumR n (fun j => f j + g j) = sumR n f + sumR n g
  | 0 => by simp only [sumR]; grind
  | n + 1 => by simp only [sumR, sumR_add f g n]; grind
theorem sumR_sub (f g : Nat → Rat) : ∀ n, sumR n (fun j => f j - g j) = sumR n f - sumR n g
  | 0 => by simp only [sumR]; grind
  | n + 1 => by simp only [sumR, sumR_sub f g n]; grind
theorem sumR_mul (c : Rat) (f : Nat → Rat) : ∀ n, sumR n (fun j => c * f j) = c * sumR n f
  | 0 => by simp only [sumR]; grind
  | n + 1 => by simp only [sumR, sumR_mul c f n]; grind
theorem sumR_zero : ∀ n, sumR n (fun _ => 0) = 0
  | 0 => rfl
  | n + 1 => by simp only [sumR, sumR_zero n]; grind
theorem sumR_one (f : Nat → Rat) {i : Nat} : ∀ {n : Nat}, i < n → sumR n (fun j => (if i = j then 1 else 0) * f j) = f i
  | n + 1, h => by
    simp only [sumR]
    by_cases e : i = n
    · subst e
      have : sumR i (fun j => (if i = j then 1 else 0) * f j) = sumR i (fun _ => 0) := sumR_congr fun j hj => by
        rw [if_neg (by omega)]; grind
      rw [this, sumR_zero, if_pos rfl]
      grind
    · rw [sumR_one f (show i < n by omega), if_neg e]
      grind
theorem sumR_swap (f : Nat → Nat → Rat) (m : Nat) : ∀ n, sumR n (fun i => sumR m (f i)) = sumR m (fun j => sumR n (fun i => f i j))
  | 0 => by simp only [sumR]; exact (sumR_zero m).symm
  | n + 1 => by simp only [sumR, sumR_swap f m n]; exact (sumR_add _ _ m).symm

/-! ### Dots -/
abbrev dz : Fr := ⟨0, 0, false⟩
theorem sum_is (f : Nat → Fr) : ∀ n, (sumF ((List.range n).map f)).bad = false → (∀ j, j < n → (f j).fine = true) ∧ Is (sumF ((List.range n).map f)) (sumR n fun j => (f j).val)
  | 0, _ => by
    refine ⟨fun j hj => by omega, ?_⟩
    have := whole_is (n := 0) (by unfold few; omega)
    exact this
  | n + 1, h => by
    have e : sumF ((List.range (n + 1)).map f) = addF (sumF ((List.range n).map f)) (f n) := by
      unfold sumF
      rw [List.range_succ, List.map_append, List.foldl_append]
      rfl
    rw [e] at h ⊢
    obtain ⟨h1, h2, h3⟩ := addF_is h
    obtain ⟨k1, k2⟩ := sum_is f n (fine_bad h1)
    refine ⟨fun j hj => ?_, h3.1, ?_⟩
    · by_cases e : j = n
      · rw [e]; exact h2
      · exact k1 j (by omega)
    · rw [h3.2, k2.2]; rfl
theorem dot_is (f g : Nat → Fr) (n : Nat) (h : (dotF ((List.range n).map f) ((List.range n).map g)).bad = false) :
    (∀ j, j < n → (f j).fine = true ∧ (g j).fine = true) ∧ Is (dotF ((List.range n).map f) ((List.range n).map g)) (sumR n fun j => (f j).val * (g j).val) := by
  have e : dotF ((List.range n).map f) ((List.range n).map g) = sumF ((List.range n).map fun j => mulF (f j) (g j)) := by
    unfold dotF
    rw [List.zipWith_map, List.zipWith_self]
  rw [e] at h ⊢
  obtain ⟨h1, h2⟩ := sum_is _ n h
  have h3 := fun j hj => mulF_is (fine_bad (h1 j hj))
  refine ⟨fun j hj => ⟨(h3 j hj).1, (h3 j hj).2.1⟩, h2.1, ?_⟩
  rw [h2.2]
  exact sumR_congr fun j hj => (h3 j hj).2.2.2

/-! ### Products, entry by entry -/
theorem list_range {l : List Fr} {n : Nat} (h : l.length = n) : l = (List.range n).map fun j => l.getD j dz := by
  apply List.ext_getElem
  · simp [h]
  · intro j h1 h2
    simp [h1]
theorem prodF_grid {R M K : Nat} {a b : List Fr} (hR : 1 ≤ R ∧ R ≤ 16) (hM : 1 ≤ M ∧ M ≤ 16) (hK : 1 ≤ K ∧ K ≤ 16) (la : a.length = R * M) (lb : b.length = M * K) :
    prodF R M K a b = gridP (fun i k => dotF ((List.range M).map fun j => a.getD (i * M + j) dz) ((List.range M).map fun j => b.getD (j * K + k) dz)) K R 0 := by
  have h1 := right_nat (n := a.length) hR hM la
  have h2 := right_nat (n := b.length) hM hK lb
  have h3 := right_turn h2
  unfold prodF allF
  rw [gridP_zero, List.flatMap_map, Int.toNat_natCast, Int.toNat_natCast]
  apply flatMap_same
  intro i hi
  rw [List.mem_range] at hi
  rw [List.map_map]
  apply List.map_congr_left
  intro k hk
  rw [List.mem_range] at hk
  simp only [Function.comp]
  rw [rowF_eq dz h1 (by simpa using hi), rowF_eq dz h3 (by simpa using hk), Int.toNat_natCast]
  congr 1
  apply List.map_congr_left
  intro j hj
  rw [List.mem_range] at hj
  rw [turnF_eq h2, Int.toNat_natCast, Int.toNat_natCast, List.getD_eq_getElem?_getD, gridP_get _ _ _ _ _ hk hj, Option.getD_some, atF_eq h2 (by simpa using hj) (by simpa using hk), Int.toNat_natCast]
theorem grid_at {g : Nat → Nat → Fr} {n N i k : Nat} (hi : i < N) (hk : k < n) : (gridP g n N 0).getD (i * n + k) dz = g i k := by
  rw [List.getD_eq_getElem?_getD, gridP_get _ _ _ _ _ hi hk, Option.getD_some]
theorem prod_at {R M K : Nat} {a b : List Fr} (hR : 1 ≤ R ∧ R ≤ 16) (hM : 1 ≤ M ∧ M ≤ 16) (hK : 1 ≤ K ∧ K ≤ 16) (la : a.length = R * M) (lb : b.length = M * K) {i k : Nat} (hi : i < R) (hk : k < K)
    (h : ((prodF R M K a b).getD (i * K + k) dz).bad = false) : (∀ j, j < M → (a.getD (i * M + j) dz).fine = true ∧ (b.getD (j * K + k) dz).fine = true) ∧
      Is ((prodF R M K a b).getD (i * K + k) dz) (sumR M fun j => (a.getD (i * M + j) dz).val * (b.getD (j * K + k) dz).val) := by
  rw [prodF_grid hR hM hK la lb, grid_at hi hk] at h ⊢
  exact dot_is _ _ M h
theorem turn_at {R K : Nat} {l : List Fr} (hR : 1 ≤ R ∧ R ≤ 16) (hK : 1 ≤ K ∧ K ≤ 16) (hl : l.length = R * K) {i k : Nat} (hi : i < R) (hk : k < K) : (turnF R K l).getD (k * R + i) dz = l.getD (i * K + k) dz := by
  have h := right_nat (n := l.length) hR hK hl
  rw [turnF_eq h, Int.toNat_natCast, Int.toNat_natCast, grid_at hk hi, atF_eq h (by simpa using hi) (by simpa using hk), Int.toNat_natCast]
theorem turnF_len {R K : Nat} {l : List Fr} (hR : 1 ≤ R ∧ R ≤ 16) (hK : 1 ≤ K ∧ K ≤ 16) (hl : l.length = R * K) : (turnF R K l).length = K * R := by
  rw [turnF_length (right_nat hR hK hl)]; simp
theorem mir_at {n : Nat} {l : List Fr} (hn : 1 ≤ n ∧ n ≤ 16) (hl : l.length = n * n) {i k : Nat} (hi : i < n) (hk : k < n) : (mirF n l).getD (i * n + k) dz = l.getD (max i k * n + min i k) dz := by
  have h := right_nat (n := l.length) hn hn hl
  rw [mirF, Int.toNat_natCast, grid_at hi hk, atF_eq h (by simp; omega) (by simp; omega), Int.toNat_natCast]
theorem zip_at {f : Fr → Fr → Fr} {a b : List Fr} {j : Nat} (ha : j < a.length) (hb : j < b.length) : (List.zipWith f a b).getD j dz = f (a.getD j dz) (b.getD j dz) := by
  rw [List.getD_eq_getElem?_getD, List.getElem?_zipWith]
  simp [List.getElem?_eq_getElem ha, List.getElem?_eq_getElem hb]
theorem map_at {f : Fr → Fr} {a : List Fr} {j : Nat} (ha : j < a.length) : (a.map f).getD j dz = f (a.getD j dz) := by
  simp [List.getElem?_eq_getElem ha]
theorem apply_at {n : Nat} {l v : List Fr} (hn : 1 ≤ n ∧ n ≤ 16) (hl : l.length = n * n) {i : Nat} (hi : i < n) : (applyF n n l v).getD i dz = dotF ((List.range n).map fun j => l.getD (i * n + j) dz) v := by
  have h := right_nat (n := l.length) hn hn hl
  unfold applyF allF
  rw [List.map_map, Int.toNat_natCast]
  simp [hi]
  rw [rowF_eq dz h (by simpa using hi), Int.toNat_natCast]
  simp
end Go.Proofs.YtbflmeomkfjikaaGreat.A

set_option linter.unusedVariables false
set_option linter.unusedSimpArgs false
set_option maxRecDepth 100000
namespace Go.Proofs.YtbflmeomkfjikaaGreat.A
open Go Go.RowKit Go.Shelf

/-! ### One column folded, in numbers -/
theorem sumR_pick (f : Nat → Rat) {k : Nat} : ∀ {n : Nat}, k < n → sumR n (fun j => if j = k then f j else 0) = f k
  | n + 1, h => by
    simp only [sumR]
    by_cases e : k = n
    · subst e
      have : sumR k (fun j => if j = k then f j else 0) = sumR k (fun _ => 0) := sumR_congr fun j hj => by rw [if_neg (by omega)]
      rw [this, sumR_zero, if_pos rfl]
      grind
    · rw [sumR_pick f (show k < n by omega), if_neg (by omega)]
      grind
def gramR (m : Nat) (A : Nat → Nat → Rat) (i l : Nat) : Rat := sumR m fun j => A i j * A l j
theorem gramR_comm (m : Nat) (A : Nat → Nat → Rat) (i l : Nat) : gramR m A i l = gramR m A l i := sumR_congr fun j _ => by grind
/-- The mirror's normal. -/
def vR (A : Nat → Nat → Rat) (k : Nat) (p : Rat) (c : Nat) : Rat := if c < k then 0 else if c = k then A k k - p else A k c
/-- The row that is folded, behind it. -/
def xR (A : Nat → Nat → Rat) (k : Nat) (p : Rat) (c : Nat) : Rat := if c < k then A k c else if c = k then p else 0
def qR (m : Nat) (A : Nat → Nat → Rat) (k : Nat) (p : Rat) : Rat := sumR m fun c => vR A k p c * vR A k p c
def dR (m : Nat) (A : Nat → Nat → Rat) (k : Nat) (p : Rat) (i : Nat) : Rat := sumR m fun c => A i c * vR A k p c
def tR (m : Nat) (A : Nat → Nat → Rat) (k : Nat) (p : Rat) (i : Nat) : Rat := (dR m A k p i + dR m A k p i) / qR m A k p
def foldR (m : Nat) (A : Nat → Nat → Rat) (k : Nat) (p : Rat) (i c : Nat) : Rat := if i < k then A i c else if i = k then xR A k p c else A i c - vR A k p c * tR m A k p i
/-- By how much p misses the row's length, squared. -/
def epsR (m : Nat) (A : Nat → Nat → Rat) (k : Nat) (p : Rat) : Rat := sumR m (fun c => if c < k then 0 else A k c * A k c) - p * p
theorem row_split (A : Nat → Nat → Rat) (k : Nat) (p : Rat) (c : Nat) : A k c = xR A k p c + vR A k p c := by
  unfold xR vR
  by_cases h : c < k
  · simp only [h, if_true]; grind
  · by_cases e : c = k
    · subst e; simp only [h, if_false, if_true]; grind
    · simp only [h, e, if_false]; grind
theorem xv_pick (A : Nat → Nat → Rat) (k : Nat) (p : Rat) (c : Nat) : xR A k p c * vR A k p c = if c = k then p * (A k k - p) else 0 := by
  unfold xR vR
  by_cases h : c < k
  · rw [if_pos h, if_pos h, if_neg (by omega)]; grind
  · by_cases e : c = k
    · subst e; simp only [h, if_false, if_true]
    · simp only [h, e, if_false]; grind
theorem xv_sum {m : Nat} (A : Nat → Nat → Rat) {k : Nat} (hk : k < m) (p : Rat) : sumR m (fun c => xR A k p c * vR A k p c) = p * (A k k - p) := by
  rw [sumR_congr (fun c _ => xv_pick A k p c)]
  exact sumR_pick (fun _ => p * (A k k - p)) hk
theorem eps_is {m : Nat} (A : Nat → Nat → Rat) {k : Nat} (hk : k < m) (p : Rat) : epsR m A k p = qR m A k p + (p * (A k k - p) + p * (A k k - p)) := by
  have e : sumR m (fun c => if c < k then 0 else A k c * A k c) = sumR m (fun c => vR A k p c * vR A k p c + ((if c = k then p * (A k k - p) + p * (A k k - p) + p * p else 0))) := sumR_congr fun c _ => by
    unfold vR
    by_cases h : c < k
    · rw [if_pos h, if_pos h, if_neg (by omega)]; grind
    · by_cases e : c = k
      · subst e; simp only [h, if_false, if_true]; grind
      · simp only [h, e, if_false]; grind
  unfold epsR qR
  rw [e, sumR_add, sumR_pick (fun _ => p * (A k k - p) + p * (A k k - p) + p * p) hk]
  grind
section
variable {m : Nat} {A : Nat → Nat → Rat} {k : Nat} {p : Rat}
theorem t_q (hq : qR m A k p ≠ 0) (i : Nat) : tR m A k p i * qR m A k p = dR m A k p i + dR m A k p i := by
  unfold tR
  grind
theorem gram_below (hq : qR m A k p ≠ 0) {i l : Nat} (hi : k < i) (hl : k < l) : gramR m (foldR m A k p) i l = gramR m A i l := by
  have e : gramR m (foldR m A k p) i l = sumR m (fun c => A i c * A l c - (tR m A k p l * (A i c * vR A k p c) + tR m A k p i * (A l c * vR A k p c)) + (tR m A k p i * tR m A k p l) * (vR A k p c * vR A k p c)) := sumR_congr fun c _ => by
    unfold foldR
    simp only [show ¬ i < k by omega, show ¬ i = k by omega, show ¬ l < k by omega, show ¬ l = k by omega, if_false]
    grind
  rw [e, sumR_add, sumR_sub, sumR_add, sumR_mul, sumR_mul, sumR_mul]
  have h1 := t_q hq i
  have h2 := t_q hq l
  unfold gramR
  simp only [dR, qR] at *
  grind
theorem gram_at (hk : k < m) (hq : qR m A k p ≠ 0) {i : Nat} (hi : k < i) : gramR m (foldR m A k p) i k = gramR m A i k - tR m A k p i * epsR m A k p / 2 := by
  have e : gramR m (foldR m A k p) i k = sumR m (fun c => A i c * A k c - (A i c * vR A k p c + tR m A k p i * (xR A k p c * vR A k p c))) := sumR_congr fun c _ => by
    unfold foldR
    simp only [show ¬ i < k by omega, show ¬ i = k by omega, show ¬ k < k by omega, if_false, if_true]
    have := row_split A k p c
    generalize xR A k p c = x at *
    generalize vR A k p c = v at *
    grind
  rw [e, sumR_sub, sumR_add, sumR_mul, xv_sum A hk]
  have h1 := t_q hq i
  have h2 := eps_is A hk p
  unfold gramR
  simp only [dR] at *
  generalize epsR m A k p = x at *
  generalize qR m A k p = q at *
  generalize tR m A k p i = t at *
  grind
theorem gram_kk (hk : k < m) : gramR m (foldR m A k p) k k = gramR m A k k - epsR m A k p := by
  have e : gramR m (foldR m A k p) k k = sumR m (fun c => A k c * A k c - (vR A k p c * vR A k p c + 2 * (xR A k p c * vR A k p c))) := sumR_congr fun c _ => by
    unfold foldR
    simp only [show ¬ k < k by omega, if_false, if_true]
    have := row_split A k p c
    generalize xR A k p c = x at *
    generalize vR A k p c = v at *
    grind
  rw [e, sumR_sub, sumR_add, sumR_mul, xv_sum A hk, eps_is A hk p]
  unfold gramR qR
  grind
theorem gram_above {i l : Nat} (hi : i < k) (hz : ∀ c, k ≤ c → A i c = 0) : gramR m (foldR m A k p) i l = gramR m A i l := by
  refine sumR_congr fun c _ => ?_
  have hv : A i c * vR A k p c = 0 := by
    unfold vR
    by_cases h : c < k
    · rw [if_pos h]; grind
    · rw [hz c (by omega)]; grind
  unfold foldR
  simp only [hi, if_true]
  by_cases h1 : l < k
  · simp only [h1, if_true]
  · by_cases h2 : l = k
    · subst h2
      simp only [h1, if_false, if_true]
      have := row_split A l p c
      generalize xR A l p c = x at *
      generalize vR A l p c = v at *
      grind
    · simp only [h1, h2, if_false]
      generalize vR A k p c = v at *
      grind
end
/-- All columns folded. -/
def foldsR (m : Nat) (P : Nat → Rat) (A : Nat → Nat → Rat) : Nat → Nat → Nat → Rat
  | 0 => A
  | k + 1 => foldR m (foldsR m P A k) k (P k)
theorem folds_zero (m : Nat) (P : Nat → Rat) (A : Nat → Nat → Rat) : ∀ k i c, i < k → i < c → foldsR m P A k i c = 0
  | k + 1, i, c, hi, hc => by
    rw [foldsR, foldR]
    by_cases h : i < k
    · rw [if_pos h]
      exact folds_zero m P A k i c h hc
    · have e : i = k := by omega
      rw [if_neg h, if_pos e, xR, if_neg (by omega), if_neg (by omega)]
theorem abs_add {a b x y : Rat} (h1 : -a ≤ x ∧ x ≤ a) (h2 : -b ≤ y ∧ y ≤ b) : -(a + b) ≤ x + y ∧ x + y ≤ a + b := by grind
theorem abs_mul {a b x y : Rat} (h1 : -a ≤ x ∧ x ≤ a) (h2 : -b ≤ y ∧ y ≤ b) : -(a * b) ≤ x * y ∧ x * y ≤ a * b := by
  have k1 : 0 ≤ (a - x) * (b + y) := Rat.mul_nonneg (by grind) (by grind)
  have k2 : 0 ≤ (a + x) * (b - y) := Rat.mul_nonneg (by grind) (by grind)
  have k3 : 0 ≤ (a - x) * (b - y) := Rat.mul_nonneg (by grind) (by grind)
  have k4 : 0 ≤ (a + x) * (b + y) := Rat.mul_nonneg (by grind) (by grind)
  constructor <;> grind
/-- What is folded keeps all rows' products, as well as all lengths are met. -/
theorem folds_gram {m n : Nat} (hn : n ≤ m) {P : Nat → Rat} {A : Nat → Nat → Rat} {T e : Rat} (hT : 0 ≤ T) (he : 0 ≤ e)
    (hq : ∀ k, k + 1 < n → qR m (foldsR m P A k) k (P k) ≠ 0)
    (ht : ∀ k i, k < i → i < n → -T ≤ tR m (foldsR m P A k) k (P k) i ∧ tR m (foldsR m P A k) k (P k) i ≤ T)
    (hp : ∀ k, k < n → -e ≤ epsR m (foldsR m P A k) k (P k) ∧ epsR m (foldsR m P A k) k (P k) ≤ e) :
    ∀ k, k ≤ n → ∀ i l, i < n → l < n → -((k : Rat) * (e * (T + 1))) ≤ gramR m (foldsR m P A k) i l - gramR m A i l ∧ gramR m (foldsR m P A k) i l - gramR m A i l ≤ (k : Rat) * (e * (T + 1))
  | 0, _, i, l, hi, hl => by rw [foldsR]; grind
  | k + 1, hk, i, l, hi, hl => by
    have ih := folds_gram hn hT he hq ht hp k (by omega) i l hi hl
    have hB : 0 ≤ e * T := Rat.mul_nonneg he hT
    have key : -(e * (T + 1)) ≤ gramR m (foldsR m P A (k + 1)) i l - gramR m (foldsR m P A k) i l ∧ gramR m (foldsR m P A (k + 1)) i l - gramR m (foldsR m P A k) i l ≤ e * (T + 1) := by
      rw [foldsR]
      have two : ∀ i, k < i → i < n → -(e * (T + 1)) ≤ gramR m (foldR m (foldsR m P A k) k (P k)) i k - gramR m (foldsR m P A k) i k ∧ gramR m (foldR m (foldsR m P A k) k (P k)) i k - gramR m (foldsR m P A k) i k ≤ e * (T + 1) := fun i h1 h2 => by
        rw [gram_at (by omega) (hq k (by omega)) h1]
        have := abs_mul (ht k i h1 h2) (hp k (by omega))
        grind
      have hz : ∀ i, i < k → ∀ c, k ≤ c → foldsR m P A k i c = 0 := fun i h c hc => folds_zero m P A k i c h (by omega)
      by_cases h1 : i < k
      · rw [gram_above h1 (hz i h1)]; grind
      by_cases h2 : l < k
      · rw [gramR_comm, gram_above h2 (hz l h2), gramR_comm]; grind
      by_cases h3 : i = k
      · subst h3
        by_cases h4 : l = i
        · subst h4
          rw [gram_kk (by omega)]
          have := hp l (by omega)
          grind
        · rw [gramR_comm, gramR_comm m (foldsR m P A i)]
          exact two l (by omega) hl
      · by_cases h4 : l = k
        · subst h4
          exact two i (by omega) hi
        · rw [gram_below (hq k (by omega)) (by omega) (by omega)]; grind
    have ek : ((k + 1 : Nat) : Rat) = (k : Rat) + 1 := by simp [Rat.natCast_add]
    rw [ek]
    grind
theorem folds_exact {m n : Nat} (hn : n ≤ m) {P : Nat → Rat} {A : Nat → Nat → Rat}
    (hq : ∀ k, k + 1 < n → qR m (foldsR m P A k) k (P k) ≠ 0) (hp : ∀ k, k < n → epsR m (foldsR m P A k) k (P k) = 0) :
    ∀ k, k ≤ n → ∀ i l, i < n → l < n → gramR m (foldsR m P A k) i l = gramR m A i l
  | 0, _, i, l, hi, hl => rfl
  | k + 1, hk, i, l, hi, hl => by
    refine Eq.trans ?_ (folds_exact hn hq hp k (by omega) i l hi hl)
    rw [foldsR]
    have two : ∀ i, k < i → i < n → gramR m (foldR m (foldsR m P A k) k (P k)) i k = gramR m (foldsR m P A k) i k := fun i h1 h2 => by
      rw [gram_at (by omega) (hq k (by omega)) h1, hp k (by omega)]
      grind
    have hz : ∀ i, i < k → ∀ c, k ≤ c → foldsR m P A k i c = 0 := fun i h c hc => folds_zero m P A k i c h (by omega)
    by_cases h1 : i < k
    · rw [gram_above h1 (hz i h1)]
    by_cases h2 : l < k
    · rw [gramR_comm, gram_above h2 (hz l h2), gramR_comm]
    by_cases h3 : i = k
    · subst h3
      by_cases h4 : l = i
      · subst h4
        rw [gram_kk (by omega), hp l (by omega)]
        grind
      · rw [gramR_comm, gramR_comm m (foldsR m P A i)]
        exact two l (by omega) hl
    · by_cases h4 : l = k
      · subst h4
        exact two i (by omega) hi
      · rw [gram_below (hq k (by omega)) (by omega) (by omega)]
end Go.Proofs.YtbflmeomkfjikaaGreat.A

set_option linter.unusedVariables false
set_option linter.unusedSimpArgs false
set_option maxRecDepth 100000
namespace Go.Proofs.YtbflmeomkfjikaaGreat.A
open Go Go.RowKit Go.Shelf

/-! ### Numbers that tend to one -/
def Tends (s : Nat → Rat) (v : Rat) : Prop := ∀ e : Rat, 0 < e → ∃ N : Nat, ∀ m, N ≤ m → -e < s m - v ∧ s m - v < e
theorem Tends.const (v : Rat) : Tends (fun _ => v) v := fun e he => ⟨0, fun m _ => by grind⟩
theorem Tends.add {s t : Nat → Rat} {v w : Rat} (h : Tends s v) (k : Tends t w) : Tends (fun m => s m + t m) (v + w) := fun e he => by
  obtain ⟨N, hN⟩ := h (e / 2) (by grind)
  obtain ⟨M, hM⟩ := k (e / 2) (by grind)
  refine ⟨max N M, fun m hm => ?_⟩
  have h1 := hN m (by omega)
  have h2 := hM m (by omega)
  grind
theorem Tends.neg {s : Nat → Rat} {v : Rat} (h : Tends s v) : Tends (fun m => - s m) (-v) := fun e he => by
  obtain ⟨N, hN⟩ := h e he
  exact ⟨N, fun m hm => by have := hN m hm; grind⟩
theorem Tends.sub {s t : Nat → Rat} {v w : Rat} (h : Tends s v) (k : Tends t w) : Tends (fun m => s m - t m) (v - w) := by
  have := h.add k.neg
  have e : (fun m => s m + - t m) = fun m => s m - t m := by funext m; grind
  rw [e] at this
  have e2 : v + -w = v - w := by grind
  rwa [e2] at this
/-- Bounded, and behind some number. -/
def BndS (s : Nat → Rat) : Prop := ∃ B : Rat, 0 < B ∧ ∃ N : Nat, ∀ m, N ≤ m → -B ≤ s m ∧ s m ≤ B
theorem rat_abs (v : Rat) : ∃ B : Rat, 0 < B ∧ -B ≤ v ∧ v ≤ B := by
  by_cases h : 0 ≤ v
  · exact ⟨v + 1, by grind, by grind, by grind⟩
  · exact ⟨-v + 1, by grind, by grind, by grind⟩
theorem Tends.bnd {s : Nat → Rat} {v : Rat} (h : Tends s v) : BndS s := by
  obtain ⟨B, hB, h1, h2⟩ := rat_abs v
  obtain ⟨N, hN⟩ := h 1 (by decide)
  exact ⟨B + 1, by grind, N, fun m hm => by have := hN m hm; grind⟩
theorem mul_small {x y e B : Rat} (hB : 0 < B) (hx : -B ≤ x ∧ x ≤ B) (hy : -(e / B) < y ∧ y < e / B) (he : 0 < e) : -e ≤ x * y ∧ x * y ≤ e := by
  have h1 := abs_mul hx (b := e / B) ⟨Rat.le_of_lt hy.1, Rat.le_of_lt hy.2⟩
  have e1 : B * (e / B) = e := by grind
  rwa [e1] at h1
theorem div_pos' {e B : Rat} (he : 0 < e) (hB : 0 < B) : 0 < e / B := by
  rw [Rat.div_def]
  exact Rat.mul_pos he (Rat.inv_pos.2 hB)
theorem Tends.null_mul {s t : Nat → Rat} (h : BndS s) (k : Tends t 0) : Tends (fun m => s m * t m) 0 := fun e he => by
  obtain ⟨B, hB, N, hN⟩ := h
  obtain ⟨M, hM⟩ := k (e / 2 / B) (div_pos' (by grind) hB)
  refine ⟨max N M, fun m hm => ?_⟩
  have h1 := hN m (by omega)
  have h2 := hM m (by omega)
  have h3 := mul_small (x := s m) (y := t m) hB h1 (by grind) (by grind : 0 < e / 2)
  grind
theorem Tends.zero_iff {s : Nat → Rat} {v : Rat} : Tends s v ↔ Tends (fun m => s m - v) 0 := by
  unfold Tends
  constructor
  · intro h e he
    obtain ⟨N, hN⟩ := h e he
    exact ⟨N, fun m hm => by have := hN m hm; grind⟩
  · intro h e he
    obtain ⟨N, hN⟩ := h e he
    exact ⟨N, fun m hm => by have := hN m hm; grind⟩
theorem Tends.mul {s t : Nat → Rat} {v w : Rat} (h : Tends s v) (k : Tends t w) : Tends (fun m => s m * t m) (v * w) := by
  rw [Tends.zero_iff]
  have h1 := Tends.null_mul h.bnd (Tends.zero_iff.1 k)
  have h2 := Tends.null_mul (Tends.const w).bnd (Tends.zero_iff.1 h)
  have h3 := h1.add h2
  have e : (fun m => s m * (t m - w) + w * (s m - v)) = fun m => s m * t m - v * w := by funext m; grind
  rw [e] at h3
  have e2 : (0 : Rat) + 0 = 0 := by grind
  rwa [e2] at h3
theorem Tends.inv {s : Nat → Rat} {v : Rat} (h : Tends s v) (hv : v ≠ 0) : Tends (fun m => (s m)⁻¹) v⁻¹ := by
  -- away from 0
  have hb : ∃ c : Rat, 0 < c ∧ ∃ N : Nat, ∀ m, N ≤ m → s m ≠ 0 ∧ -c ≤ (s m)⁻¹ ∧ (s m)⁻¹ ≤ c := by
    by_cases hp : 0 < v
    · obtain ⟨N, hN⟩ := h (v / 2) (by grind)
      refine ⟨(v / 2)⁻¹, Rat.inv_pos.2 (by grind), N, fun m hm => ?_⟩
      have h1 := hN m hm
      have h2 : 0 < s m := by grind
      have h3 : 0 < (s m)⁻¹ := Rat.inv_pos.2 h2
      have h4 : 0 < (v / 2)⁻¹ := Rat.inv_pos.2 (by grind)
      refine ⟨by grind, by grind, ?_⟩
      have h5 : 0 ≤ (s m - v / 2) * ((s m)⁻¹ * (v / 2)⁻¹) := Rat.mul_nonneg (by grind) (Rat.le_of_lt (Rat.mul_pos h3 h4))
      have e1 : (s m - v / 2) * ((s m)⁻¹ * (v / 2)⁻¹) = (v / 2)⁻¹ - (s m)⁻¹ := by
        have a1 : s m * (s m)⁻¹ = 1 := Rat.mul_inv_cancel _ (by grind)
        have a2 : (v / 2) * (v / 2)⁻¹ = 1 := Rat.mul_inv_cancel _ (by grind)
        generalize (s m)⁻¹ = a at *
        generalize (v / 2)⁻¹ = b at *
        grind
      grind
    · have hn : v < 0 := by grind
      obtain ⟨N, hN⟩ := h (-v / 2) (by grind)
      refine ⟨(-v / 2)⁻¹, Rat.inv_pos.2 (by grind), N, fun m hm => ?_⟩
      have h1 := hN m hm
      have h2 : 0 < - s m := by grind
      have h3 : 0 < (- s m)⁻¹ := Rat.inv_pos.2 h2
      have h4 : 0 < (-v / 2)⁻¹ := Rat.inv_pos.2 (by grind)
      have h6 : (s m)⁻¹ = -(- s m)⁻¹ := by
        have a1 : s m * (s m)⁻¹ = 1 := Rat.mul_inv_cancel _ (by grind)
        have a2 : (- s m) * (- s m)⁻¹ = 1 := Rat.mul_inv_cancel _ (by grind)
        generalize (s m)⁻¹ = a at *
        generalize (- s m)⁻¹ = b at *
        have : s m * a = s m * (-b) := by grind
        have h0 : s m ≠ 0 := by grind
        grind
      have h5 : 0 ≤ (- s m - -v / 2) * ((- s m)⁻¹ * (-v / 2)⁻¹) := Rat.mul_nonneg (by grind) (Rat.le_of_lt (Rat.mul_pos h3 h4))
      have e1 : (- s m - -v / 2) * ((- s m)⁻¹ * (-v / 2)⁻¹) = (-v / 2)⁻¹ - (- s m)⁻¹ := by
        have a1 : - s m * (- s m)⁻¹ = 1 := Rat.mul_inv_cancel _ (by grind)
        have a2 : (-v / 2) * (-v / 2)⁻¹ = 1 := Rat.mul_inv_cancel _ (by grind)
        generalize (- s m)⁻¹ = a at *
        generalize (-v / 2)⁻¹ = b at *
        grind
      refine ⟨by grind, by grind, by grind⟩
  obtain ⟨c, hc, N, hN⟩ := hb
  rw [Tends.zero_iff]
  have h2 : Tends (fun m => (s m)⁻¹ * (v⁻¹ * (v - s m))) 0 := by
    refine Tends.null_mul ⟨c, hc, N, fun m hm => (hN m hm).2⟩ ?_
    refine Tends.null_mul (Tends.const v⁻¹).bnd ?_
    have := (Tends.const v).sub h
    have e2 : v - v = 0 := by grind
    rwa [e2] at this
  intro e he
  obtain ⟨M, hM⟩ := h2 e he
  refine ⟨max N M, fun m hm => ?_⟩
  have h3 : -e < (s m)⁻¹ * (v⁻¹ * (v - s m)) - 0 ∧ (s m)⁻¹ * (v⁻¹ * (v - s m)) - 0 < e := hM m (by omega)
  have h4 := (hN m (by omega)).1
  have e1 : (s m)⁻¹ * (v⁻¹ * (v - s m)) = (s m)⁻¹ - v⁻¹ := by
    have a1 : s m * (s m)⁻¹ = 1 := Rat.mul_inv_cancel _ h4
    have a2 : v * v⁻¹ = 1 := Rat.mul_inv_cancel _ hv
    generalize (s m)⁻¹ = a at *
    generalize v⁻¹ = b at *
    grind
  rw [e1] at h3
  exact ⟨by grind, by grind⟩
theorem Tends.div {s t : Nat → Rat} {v w : Rat} (h : Tends s v) (k : Tends t w) (hw : w ≠ 0) : Tends (fun m => s m / t m) (v / w) := by
  have := h.mul (k.inv hw)
  simp only [← Rat.div_def] at this
  exact this
theorem Tends.sum {s : Nat → Nat → Rat} {v : Nat → Rat} (h : ∀ j, Tends (fun m => s m j) (v j)) : ∀ n, Tends (fun m => sumR n (s m)) (sumR n v)
  | 0 => Tends.const 0
  | n + 1 => (Tends.sum h n).add (h n)
theorem Tends.sum' {s : Nat → Nat → Rat} {v : Nat → Rat} {n : Nat} (h : ∀ j, j < n → Tends (fun m => s m j) (v j)) : Tends (fun m => sumR n (s m)) (sumR n v) := by
  have := Tends.sum (s := fun m j => if j < n then s m j else 0) (v := fun j => if j < n then v j else 0) (fun j => by
    by_cases e : j < n
    · simp only [e, if_true]; exact h j e
    · simp only [e, if_false]; exact Tends.const 0) n
  have e1 : (fun m => sumR n fun j => if j < n then s m j else 0) = fun m => sumR n (s m) := by
    funext m
    exact sumR_congr fun j hj => by rw [if_pos hj]
  have e2 : (sumR n fun j => if j < n then v j else 0) = sumR n v := sumR_congr fun j hj => by rw [if_pos hj]
  rwa [e1, e2] at this
/-- What stays below a bound has its limit there. -/
theorem Tends.le {s : Nat → Rat} {v b : Rat} (h : Tends s v) (hb : ∀ m, s m ≤ b) : v ≤ b := by
  by_cases hv : v ≤ b
  · exact hv
  · obtain ⟨N, hN⟩ := h (v - b) (by grind)
    have h1 := hN N (Nat.le_refl _)
    have h2 := hb N
    grind
theorem Tends.ge {s : Nat → Rat} {v b : Rat} (h : Tends s v) (hb : ∀ m, b ≤ s m) : b ≤ v := by
  have := h.neg.le (b := -b) (fun m => by have := hb m; grind)
  grind
theorem Tends.congr {s t : Nat → Rat} {v : Rat} (h : Tends s v) (k : ∀ m, s m = t m) : Tends t v := by
  have : s = t := funext k
  rwa [← this]
/-- What is within e / (m + 1) of one tends to it. -/
theorem Tends.near {s t : Nat → Rat} {v c : Rat} (h : Tends t v) (hc : 0 ≤ c) (k : ∀ m : Nat, -(c / ((m : Rat) + 1)) ≤ s m - t m ∧ s m - t m ≤ c / ((m : Rat) + 1)) : Tends s v := by
  have h0 : Tends (fun m => s m - t m) 0 := fun e he => by
    obtain ⟨N, hN⟩ : ∃ N : Nat, c / e < (N : Rat) := by
      refine ⟨((c / e).floor + 1).toNat, ?_⟩
      have h1 : c / e < ((c / e).floor + 1 : Int) := Rat.lt_floor_add_one _
      have h2 : ((c / e).floor + 1 : Int) ≤ (((c / e).floor + 1).toNat : Int) := Int.self_le_toNat _
      have h3 := Rat.intCast_le_intCast.2 h2
      rw [Rat.intCast_natCast] at h3
      grind
    refine ⟨N, fun m hm => ?_⟩
    have h1 := k m
    have hm' : (N : Rat) ≤ (m : Rat) := by exact_mod_cast hm
    have h2 : c < e * ((m : Rat) + 1) := by
      have h3 : c = e * (c / e) := by grind
      have h4 : 0 ≤ e * ((m : Rat) - c / e) := Rat.mul_nonneg (Rat.le_of_lt he) (by grind)
      grind
    have hm0 : 0 < (m : Rat) + 1 := by
      have : (0 : Rat) ≤ (N : Rat) := by exact_mod_cast Nat.zero_le N
      grind
    have h5 : c / ((m : Rat) + 1) < e := by
      have h6 : 0 < (e * ((m : Rat) + 1) - c) * ((m : Rat) + 1)⁻¹ := Rat.mul_pos (by grind) (Rat.inv_pos.2 hm0)
      have h7 : ((m : Rat) + 1) * ((m : Rat) + 1)⁻¹ = 1 := Rat.mul_inv_cancel _ (by grind)
      rw [Rat.div_def]
      generalize ((m : Rat) + 1)⁻¹ = a at *
      have h8 : (e * ((m : Rat) + 1) - c) * a = e * (((m : Rat) + 1) * a) - c * a := by grind
      rw [h8, h7] at h6
      grind
    constructor <;> grind
  have := h0.add h
  have e1 : (fun m => s m - t m + t m) = s := by funext m; grind
  have e2 : (0 : Rat) + v = v := by grind
  rwa [e1, e2] at this
/-! ### Roots, as near as is asked -/
theorem bisect {v L H : Rat} (hL : 0 ≤ L) (h1 : L * L ≤ v) (h2 : v ≤ H * H) (h3 : L ≤ H) : ∀ n : Nat, ∃ p q : Rat, L ≤ p ∧ p ≤ q ∧ q ≤ H ∧ p * p ≤ v ∧ v ≤ q * q ∧ (q - p) * (2 ^ n : Rat) = H - L
  | 0 => ⟨L, H, by grind, h3, by grind, h1, h2, by grind⟩
  | n + 1 => by
    obtain ⟨p, q, a1, a2, a3, a4, a5, a6⟩ := bisect hL h1 h2 h3 n
    have e : (2 : Rat) ^ (n + 1) = 2 ^ n * 2 := Rat.pow_succ _ _
    rw [e]
    generalize (2 : Rat) ^ n = w at *
    by_cases h : ((p + q) / 2) * ((p + q) / 2) ≤ v
    · exact ⟨(p + q) / 2, q, by grind, by grind, a3, h, a5, by grind⟩
    · exact ⟨p, (p + q) / 2, a1, by grind, by grind, a4, by grind, by grind⟩
theorem pow_big (n : Nat) : (n : Rat) ≤ 2 ^ n := by
  induction n with
  | zero => decide
  | succ n ih =>
    rw [Rat.pow_succ]
    have e : ((n + 1 : Nat) : Rat) = (n : Rat) + 1 := by simp [Rat.natCast_add]
    have : (1 : Rat) ≤ 2 ^ n := by
      have h1 : 1 ≤ 2 ^ n := Nat.one_le_two_pow
      have h2 : ((1 : Nat) : Rat) ≤ ((2 ^ n : Nat) : Rat) := by exact_mod_cast h1
      simpa using h2
    rw [e]
    generalize (2 : Rat) ^ n = w at *
    grind
theorem above_rat (c : Rat) : ∃ N : Nat, c < (N : Rat) := by
  refine ⟨(c.floor + 1).toNat, ?_⟩
  have h1 : c < (c.floor + 1 : Int) := Rat.lt_floor_add_one _
  have h3 := Rat.intCast_le_intCast.2 (Int.self_le_toNat (c.floor + 1))
  rw [Rat.intCast_natCast] at h3
  grind
theorem root_near {v L H e : Rat} (hL : 0 ≤ L) (h1 : L * L ≤ v) (h2 : v ≤ H * H) (h3 : L ≤ H) (he : 0 < e) : ∃ r : Rat, L ≤ r ∧ r ≤ H ∧ -e ≤ v - r * r ∧ v - r * r ≤ e := by
  obtain ⟨n, hn⟩ := above_rat ((H - L) * (2 * H) / e)
  obtain ⟨p, q, a1, a2, a3, a4, a5, a6⟩ := bisect hL h1 h2 h3 n
  refine ⟨p, a1, by grind, by grind, ?_⟩
  have hb := pow_big n
  have hw : (H - L) * (2 * H) < e * 2 ^ n := by
    have k1 : (H - L) * (2 * H) / e < 2 ^ n := by grind
    generalize (2 : Rat) ^ n = w at *
    have k2 : 0 < e * (w - (H - L) * (2 * H) / e) := Rat.mul_pos he (by grind)
    have k3 : e * ((H - L) * (2 * H) / e) = (H - L) * (2 * H) := by grind
    grind
  have hpos : (0 : Rat) < 2 ^ n := Rat.pow_pos (by decide)
  generalize (2 : Rat) ^ n = w at *
  have k4 : v - p * p ≤ (q - p) * (2 * H) := by
    have b1 : 0 ≤ (q - p) * (2 * H - (q + p)) := Rat.mul_nonneg (by grind) (by grind)
    grind
  have k5 : (q - p) * (2 * H) * w = (H - L) * (2 * H) := by rw [← a6]; grind
  have k6 : (q - p) * (2 * H) < e := by
    by_cases hh : (q - p) * (2 * H) < e
    · exact hh
    · have := Rat.mul_nonneg (a := (q - p) * (2 * H) - e) (b := w) (by grind) (Rat.le_of_lt hpos)
      grind
  grind
end Go.Proofs.YtbflmeomkfjikaaGreat.A

set_option linter.unusedVariables false
set_option linter.unusedSimpArgs false
set_option maxRecDepth 100000
namespace Go.Proofs.YtbflmeomkfjikaaGreat.A.E
open Go Go.RowKit Go.Shelf

/-! ### Enclosed numbers beside numbers: where it is fine, it encloses -/
def Rq (x : Fr) (v : Rat) : Prop := x.fine = true → Enc x v
theorem Rq.add {a b : Fr} {v w : Rat} (ha : Rq a v) (hb : Rq b w) : Rq (addF a b) (v + w) := fun hx =>
  addF_enc (fun _ => ha (made_fine hx).1) (fun _ => hb (made_fine hx).2) (fine_is.1 hx).1
theorem Rq.sub {a b : Fr} {v w : Rat} (ha : Rq a v) (hb : Rq b w) : Rq (subF a b) (v - w) := fun hx =>
  subF_enc (fun _ => ha (made_fine hx).1) (fun _ => hb (made_fine hx).2) (fine_is.1 hx).1
theorem Rq.mul {a b : Fr} {v w : Rat} (ha : Rq a v) (hb : Rq b w) : Rq (mulF a b) (v * w) := fun hx =>
  mulF_enc (fun _ => ha (made_fine hx).1) (fun _ => hb (made_fine hx).2) (fine_is.1 hx).1
theorem div_fine {a b : Fr} (h : (divF a b).fine = true) : a.fine = true ∧ b.fine = true ∧ ¬ (b.lo ≤ 0 ∧ b.hi ≥ 0) := by
  unfold divF at h
  split at h
  · exact absurd h (by decide)
  · rename_i hc
    exact ⟨(made_fine h).1, (made_fine h).2, hc⟩
theorem Rq.div {a b : Fr} {v w : Rat} (ha : Rq a v) (hb : Rq b w) : Rq (divF a b) (v / w) := fun hx =>
  divF_enc (fun _ => ha (div_fine hx).1) (fun _ => hb (div_fine hx).2.1) (fine_is.1 hx).1
theorem Rq.whole {n : Int} (h : few n) : Rq (newF n 1) (n : Rat) := fun _ => whole_enc h
theorem Rq.zero : Rq (newF 0 1) 0 := by
  have := Rq.whole (n := 0) (by unfold few; omega)
  simpa using this
theorem Enc.ne {b : Fr} {w : Rat} (h : Enc b w) (hb : ¬ (b.lo ≤ 0 ∧ b.hi ≥ 0)) : w ≠ 0 := fun e => by
  subst e
  obtain ⟨_, h1, h2⟩ := h
  have e0 : (0 : Rat) * 16777216 = ((0 : Int) : Rat) := by simp
  rw [e0] at h1 h2
  exact hb ⟨Rat.intCast_le_intCast.1 h1, Rat.intCast_le_intCast.1 h2⟩
theorem div_ne {a b : Fr} {w : Rat} (h : (divF a b).fine = true) (hb : Rq b w) : w ≠ 0 := (hb (div_fine h).2.1).ne (div_fine h).2.2
theorem rightX_le {n : Int} (h : rightX n = true) : -1125899906842624 ≤ n ∧ n ≤ 1125899906842624 := by
  unfold rightX at h
  exact of_decide_eq_true h
/-- What is enclosed is not great. -/
theorem Enc.bnd {x : Fr} {v : Rat} (h : Enc x v) : -67108864 ≤ v ∧ v ≤ 67108864 := by
  obtain ⟨hf, h1, h2⟩ := h
  obtain ⟨_, k1, k2, _, _⟩ := fine_is.1 hf
  have a1 := Rat.intCast_le_intCast.2 (rightX_le k1).1
  have a2 := Rat.intCast_le_intCast.2 (rightX_le k2).2
  have e1 : ((-1125899906842624 : Int) : Rat) = -1125899906842624 := by decide +kernel
  have e2 : ((1125899906842624 : Int) : Rat) = 1125899906842624 := by decide +kernel
  rw [e1] at a1
  rw [e2] at a2
  grind
theorem sumF_succ (f : Nat → Fr) (n : Nat) : sumF ((List.range (n + 1)).map f) = addF (sumF ((List.range n).map f)) (f n) := by
  unfold sumF
  rw [List.range_succ, List.map_append, List.foldl_append]
  rfl
theorem Rq.sum {f : Nat → Fr} {v : Nat → Rat} : ∀ {n : Nat}, (∀ j, j < n → Rq (f j) (v j)) → Rq (sumF ((List.range n).map f)) (sumR n v)
  | 0, _ => Rq.zero
  | n + 1, h => by
    rw [sumF_succ]
    exact Rq.add (Rq.sum fun j hj => h j (by omega)) (h n (by omega))
theorem sum_fine {f : Nat → Fr} : ∀ {n : Nat}, (sumF ((List.range n).map f)).fine = true → ∀ j, j < n → (f j).fine = true
  | 0, _, j, hj => by omega
  | n + 1, h, j, hj => by
    rw [sumF_succ] at h
    have := made_fine h
    by_cases e : j = n
    · rw [e]; exact this.2
    · exact sum_fine this.1 j (by omega)
theorem dotF_range (f g : Nat → Fr) (n : Nat) : dotF ((List.range n).map f) ((List.range n).map g) = sumF ((List.range n).map fun j => mulF (f j) (g j)) := by
  unfold dotF
  rw [List.zipWith_map, List.zipWith_self]
theorem Rq.dot {f g : Nat → Fr} {v w : Nat → Rat} {n : Nat} (hf : ∀ j, j < n → Rq (f j) (v j)) (hg : ∀ j, j < n → Rq (g j) (w j)) : Rq (dotF ((List.range n).map f) ((List.range n).map g)) (sumR n fun j => v j * w j) := by
  rw [dotF_range]
  exact Rq.sum fun j hj => (hf j hj).mul (hg j hj)
theorem dot_fine {f g : Nat → Fr} {n : Nat} (h : (dotF ((List.range n).map f) ((List.range n).map g)).fine = true) : ∀ j, j < n → (f j).fine = true ∧ (g j).fine = true := fun j hj => by
  rw [dotF_range] at h
  exact made_fine (sum_fine h j hj)
/-- Limits of what is enclosed are enclosed. -/
theorem Enc.lim {x : Fr} {s : Nat → Rat} {v : Rat} (h : ∀ m, Enc x (s m)) (ht : Tends s v) : Enc x v := by
  refine ⟨(h 0).1, ?_, ?_⟩
  · exact Tends.ge (ht.mul (Tends.const 16777216)) fun m => (h m).2.1
  · exact Tends.le (ht.mul (Tends.const 16777216)) fun m => (h m).2.2
end Go.Proofs.YtbflmeomkfjikaaGreat.A.E

