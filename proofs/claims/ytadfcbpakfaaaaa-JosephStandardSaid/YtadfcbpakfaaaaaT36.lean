import Derived.Test.YtadfcbpakfaaaaaT35
set_option linter.unusedVariables false
set_option linter.unusedSimpArgs false
set_option maxRecDepth 100000
namespace Go.Proofs.Ytadfcbpakfaaaaa.A
open Go Go.RowKit Go.Shelf

/-! ### Plain laws of what stays -/
theorem applyF_prod {n : Nat} (hn : 1 ≤ n ∧ n ≤ 16) {l v : List Fr} (hv : v.length = n) : applyF n n l v = prodF n n 1 l v := by
  have h : right (n : Int) 1 v.length = true := right_nat (R := n) (K := 1) hn (by omega) (by omega)
  have h0 := turn_col h
  have e : allF 1 n (turnF n 1 v) = [v] := by
    simp [allF, h0]
  unfold applyF prodF
  rw [e]
  simp only [List.map_cons, List.map_nil]
  induction allF n n l with
  | nil => rfl
  | cons x xs ih => rw [List.map_cons, List.flatMap_cons, ih]; rfl

theorem bnd_mono {B C : Nat} {l : List Int} (h : bnd B l) (hBC : B ≤ C) : bnd C l := fun x hx => Nat.le_trans (h x hx) hBC
theorem mirI_length (p : List Int) (n : Nat) : (mirI p n n n 0).length = n * n := by rw [mirI, if_pos rfl, gridP_length, Nat.add_zero]
theorem mirI_same (p : List Int) (n : Nat) : mirI (mirI p n n n 0) n n n 0 = mirI p n n n 0 := by
  have e : ∀ q : List Int, mirI q n n n 0 = gridP (fun i k => q.getD (max i k * n + min i k) 0) n n 0 := fun q => if_pos rfl
  rw [e (mirI p n n n 0), e p]
  refine gridP_congr fun i k hi hk => ?_
  have := grid_getD (g := fun i k => p.getD (max i k * n + min i k) 0) (n := n) (N := n) (i := max i k) (k := min i k) (by omega) (by omega)
  rw [this]
  congr 1
  congr 1
  · congr 1
    omega
  · omega
theorem sqF_whole {n : Nat} (hn : 1 ≤ n ∧ n ≤ 3) {a : List Int} (la : a.length = n * n) (ha : bnd 5 a) :
    ∃ p : List Int, p.length = n * n ∧ bnd 75 p ∧ mirI p n n n 0 = p ∧ sqF n (a.map (newF · 1)) = p.map (newF · 1) := by
  have hn' : 1 ≤ n ∧ n ≤ 16 := by omega
  have hb : bnd 75 (mulI a (turI a n n n 0) n n n) := bnd_mono (mulI_bnd ha (turI_bnd ha n) n n n) (by omega)
  refine ⟨mirI (mulI a (turI a n n n 0) n n n) n n n 0, mirI_length _ n, ?_, mirI_same _ n, ?_⟩
  · rw [mirI, if_pos rfl]
    exact gridP_bnd fun i k => bnd_get hb _
  · rw [sqF, turI_eq hn' hn' la, prodF_wholeB hn' hn' hn' la (turI_length a n) ha (turI_bnd ha n) (by omega) (by omega) (by omega) (by omega), mirI_eq hn' hn' (mulI_length _ _ _ _ _) rfl]

theorem unit_mul {a : List Int} {N c : Nat} (ha : a.length = N * c) : mulI (unitP N N) a N N c = a := by
  refine (grid_of ha fun i k hi hk => ?_).symm
  have e : dotI (unitP N N) a N c i k N = a.getD (i * c + k) 0 := by
    rw [dotI_sum]
    have : ∀ j, j < N → (unitP N N).getD (i * N + j) 0 * a.getD (j * c + k) 0 = a.getD (j * c + k) 0 * (if j = i then 1 else 0) := fun j hj => by
      have hu : (unitP N N).getD (i * N + j) 0 = if i = j ∧ i < N then 1 else 0 := grid_getD hi hj
      rw [hu, Int.mul_comm]
      congr 1
      by_cases h : i = j
      · subst h; simp [hi]
      · simp [h, Ne.symm h]
    rw [sum_congr this, sum_one (fun j => a.getD (j * c + k) 0) N, if_pos hi]
  rw [e]
  have := at_table hi hk
  simp [this.1, ha]
theorem tur_unit (n : Nat) : turI (unitP n n) n n n 0 = unitP n n := by
  show gridP _ n n 0 = gridP _ n n 0
  refine gridP_congr fun k i hk hi => ?_
  have hu : (unitP n n).getD (i * n + k) 0 = if i = k ∧ i < n then 1 else 0 := grid_getD hi hk
  rw [hu]
  by_cases h : i = k
  · subst h; simp
  · simp [h, Ne.symm h]
theorem unit_bnd (n : Nat) : bnd 1 (unitP n n) := gridP_bnd fun i k => by split <;> simp
theorem zero_bnd (n : Nat) : bnd 0 (List.replicate n 0) := fun x hx => by rw [List.mem_replicate] at hx; simp [hx.2]
theorem sum_zero {p : List Int} {n : Nat} (hp : p.length = n * n) : sumI p (List.replicate (n * n) 0) n n 0 = p := by
  refine (grid_of hp fun i k hi hk => ?_).symm
  have := at_table hi hk
  have e : (List.replicate (n * n) (0 : Int)).getD (i * n + k) 0 = 0 := by
    rw [List.getD_eq_getElem?_getD, List.getElem?_replicate, if_pos this.1]; rfl
  rw [e]
  simp [this.1, hp]
theorem turnedF_unit {n : Nat} (hn : 1 ≤ n ∧ n ≤ 3) {p : List Int} (lp : p.length = n * n) (hp : bnd 75 p) (hm : mirI p n n n 0 = p) :
    turnedF n ((unitP n n).map (newF · 1)) (p.map (newF · 1)) ((List.replicate (n * n) 0).map (newF · 1)) = p.map (newF · 1) := by
  have hn' : 1 ≤ n ∧ n ≤ 16 := by omega
  have lu := unitP_length n n
  rw [turnedF, prodF_wholeB hn' hn' hn' lu lp (unit_bnd n) hp (by omega) (by omega) (by omega) (by omega), unit_mul lp, turI_eq hn' hn' lu, tur_unit,
    prodF_wholeB hn' hn' hn' lp lu hp (unit_bnd n) (by omega) (by omega) (by omega) (by omega), mul_unit lp, sumI_eqB lp (by simp) hp (zero_bnd _) (by omega), sum_zero lp, mirI_eq hn' hn' lp rfl, hm]
theorem applyF_unit {n : Nat} (hn : 1 ≤ n ∧ n ≤ 3) {x : List Int} (lx : x.length = n) (hx : bnd 5 x) : applyF n n ((unitP n n).map (newF · 1)) (x.map (newF · 1)) = x.map (newF · 1) := by
  have hn' : 1 ≤ n ∧ n ≤ 16 := by omega
  have h := prodF_wholeB (K := 1) hn' hn' (by omega) (unitP_length n n) (show x.length = n * 1 by omega) (unit_bnd n) hx (by omega) (by omega) (by omega) (by omega)
  rw [Int.natCast_one] at h
  rw [applyF_prod hn' (by rw [List.length_map, lx]), h, unit_mul (by omega)]
theorem applyF_zero {n : Nat} (hn : 1 ≤ n ∧ n ≤ 3) {p : List Int} (lp : p.length = n * n) (hp : bnd 75 p) : applyF n n (p.map (newF · 1)) ((List.replicate n 0).map (newF · 1)) = (List.replicate n 0).map (newF · 1) := by
  have hn' : 1 ≤ n ∧ n ≤ 16 := by omega
  have h := prodF_wholeB (K := 1) (b := List.replicate n 0) hn' hn' (by omega) lp (by simp) hp (zero_bnd n) (by omega) (by omega) (by omega) (by omega)
  rw [Int.natCast_one] at h
  rw [applyF_prod hn' (by simp), h]
  congr 1
  refine (grid_of (by simp) fun i k hi hk => ?_).symm
  have hk0 : k = 0 := by omega
  subst hk0
  have e : dotI p (List.replicate n 0) n 1 i 0 n = 0 := by
    rw [dotI_sum]
    have : ∀ j, j < n → p.getD (i * n + j) 0 * (List.replicate n (0 : Int)).getD (j * 1 + 0) 0 = 0 * 0 := fun j hj => by
      have e : (List.replicate n (0 : Int)).getD (j * 1 + 0) 0 = 0 := by
        rw [List.getD_eq_getElem?_getD, List.getElem?_replicate, if_pos (by omega)]; rfl
      rw [e]
      simp
    rw [sum_congr this, ← sum_mul]
    simp
  rw [e, List.getElem?_replicate, if_pos (by omega)]

theorem few5 {x : Int} (h : -5 ≤ x ∧ x ≤ 5) : few x := by unfold few; omega
theorem three {n : Nat} (hn : 1 ≤ n ∧ n ≤ 3) : n = 1 ∨ n = 2 ∨ n = 3 := by omega
theorem five {r : Int} (hr : 1 ≤ r ∧ r ≤ 5) : r = 1 ∨ r = 2 ∨ r = 3 ∨ r = 4 ∨ r = 5 := by omega
theorem sqF_zero {n : Nat} (hn : 1 ≤ n ∧ n ≤ 3) : sqF n ((List.replicate (n * n) 0).map (newF · 1)) = (List.replicate (n * n) 0).map (newF · 1) := by
  rcases three hn with rfl | rfl | rfl <;> decide +kernel
theorem still_k {n : Nat} {r : Int} (hr : 1 ≤ r ∧ r ≤ 5) : ((List.replicate n 0).map (newF · 1)).map (divF · (newF r 1)) = (List.replicate n 0).map (newF · 1) := by
  have e : divF (newF 0 1) (newF r 1) = newF 0 1 := by rcases five hr with rfl | rfl | rfl | rfl | rfl <;> decide +kernel
  rw [List.map_replicate, List.map_replicate, e]
theorem still_m {n : Nat} (hn : 1 ≤ n ∧ n ≤ 3) : List.zipWith subF (unitF n) (prodF n 1 n ((List.replicate n 0).map (newF · 1)) ((List.replicate n 0).map (newF · 1))) = unitF n := by
  rcases three hn with rfl | rfl | rfl <;> decide +kernel
theorem still_krk {n : Nat} {r : Int} (hn : 1 ≤ n ∧ n ≤ 3) (hr : 1 ≤ r ∧ r ≤ 5) :
    prodF n 1 n (((List.replicate n 0).map (newF · 1)).map (mulF · (newF r 1))) (turnF n 1 ((List.replicate n 0).map (newF · 1))) = (List.replicate (n * n) 0).map (newF · 1) := by
  have e : mulF (newF 0 1) (newF r 1) = newF 0 1 := by rcases five hr with rfl | rfl | rfl | rfl | rfl <;> decide +kernel
  rw [List.map_replicate, List.map_replicate, e]
  rcases three hn with rfl | rfl | rfl <;> decide +kernel
theorem still_dot {n : Nat} (hn : 1 ≤ n ∧ n ≤ 3) {x : List Int} (lx : x.length = n) (hx : bnd 5 x) : dotF ((List.replicate n 0).map (newF · 1)) (x.map (newF · 1)) = newF 0 1 := by
  have e : ∀ {x : List Int}, bnd 5 x → List.zipWith mulF ((List.replicate x.length 0).map (newF · 1)) (x.map (newF · 1)) = List.replicate x.length (newF 0 1) := by
    intro x
    induction x with
    | nil => intro _; rfl
    | cons y x ih =>
      intro h
      have hy : -5 ≤ y ∧ y ≤ 5 := by have := h y (by simp); omega
      have e : mulF (newF 0 1) (newF y 1) = newF 0 1 := by
        rw [newF_whole (few5 hy), newF_whole (few5 (by omega)), mulF_whole (few5 (by omega)) (few5 hy) (by rw [Int.zero_mul]; exact few5 (by omega)), Int.zero_mul]
      simp only [List.length_cons, List.replicate_succ, List.map_cons, List.zipWith_cons_cons, e]
      rw [ih fun z hz => h z (by simp [hz])]
  unfold dotF
  have := e hx
  rw [lx] at this
  rw [this]
  rcases three hn with rfl | rfl | rfl <;> decide +kernel
theorem still_x {n : Nat} {x : List Int} (lx : x.length = n) (hx : bnd 5 x) {z : Int} (hz : -5 ≤ z ∧ z ≤ 5) :
    List.zipWith addF (x.map (newF · 1)) (((List.replicate n 0).map (newF · 1)).map (mulF · (newF z 1))) = x.map (newF · 1) := by
  have e : mulF (newF 0 1) (newF z 1) = newF 0 1 := by
    rw [newF_whole (few5 hz), newF_whole (few5 (by omega)), mulF_whole (few5 (by omega)) (few5 hz) (by rw [Int.zero_mul]; exact few5 (by omega)), Int.zero_mul]
  rw [List.map_replicate, List.map_replicate, e]
  clear e
  subst lx
  induction x with
  | nil => rfl
  | cons y x ih =>
    have hy : -5 ≤ y ∧ y ≤ 5 := by have := hx y (by simp); omega
    have e : addF (newF y 1) (newF 0 1) = newF y 1 := by
      rw [newF_whole (few5 hy), newF_whole (few5 (by omega)), addF_whole (few5 hy) (few5 (by omega)) (by rw [Int.add_zero]; exact few5 hy), Int.add_zero]
    simp only [List.length_cons, List.replicate_succ, List.map_cons, List.zipWith_cons_cons, e]
    rw [ih fun z hz => hx z (by simp [hz])]

/-- An update by a measurement of nothing. -/
theorem still_up {n : Nat} (hn : 1 ≤ n ∧ n ≤ 3) {x p : List Int} {r z : Int} (lx : x.length = n) (hx : bnd 5 x) (lp : p.length = n * n) (hp : bnd 75 p) (hm : mirI p n n n 0 = p) (hr : 1 ≤ r ∧ r ≤ 5) (hz : -5 ≤ z ∧ z ≤ 5) :
    upX n (x.map (newF · 1)) (p.map (newF · 1)) ((List.replicate n 0).map (newF · 1)) (newF r 1) (newF z 1) = x.map (newF · 1) ∧
    upP n (p.map (newF · 1)) ((List.replicate n 0).map (newF · 1)) (newF r 1) = p.map (newF · 1) ∧
    spreadF n (p.map (newF · 1)) ((List.replicate n 0).map (newF · 1)) (newF r 1) = newF r 1 ∧
    surpriseF (x.map (newF · 1)) ((List.replicate n 0).map (newF · 1)) (newF z 1) = newF z 1 := by
  have u : uF n (p.map (newF · 1)) ((List.replicate n 0).map (newF · 1)) = (List.replicate n 0).map (newF · 1) := applyF_zero hn lp hp
  have a : spreadF n (p.map (newF · 1)) ((List.replicate n 0).map (newF · 1)) (newF r 1) = newF r 1 := by
    rw [spreadF, u, still_dot hn (x := List.replicate n 0) (by simp) (bnd_mono (zero_bnd n) (by omega)), newF_whole (few5 (show -5 ≤ r ∧ r ≤ 5 by omega)), newF_whole (few5 (by omega)), addF_whole (few5 (by omega)) (few5 (by omega)) (by rw [Int.zero_add]; exact few5 (by omega)), Int.zero_add]
  have s : surpriseF (x.map (newF · 1)) ((List.replicate n 0).map (newF · 1)) (newF z 1) = newF z 1 := by
    rw [surpriseF, still_dot hn lx hx, newF_whole (few5 hz), newF_whole (few5 (by omega)), subF_whole (few5 hz) (few5 (by omega)) (by rw [Int.sub_zero]; exact few5 hz), Int.sub_zero]
  have k : kF n (p.map (newF · 1)) ((List.replicate n 0).map (newF · 1)) (newF r 1) = (List.replicate n 0).map (newF · 1) := by
    rw [kF, u, a, still_k hr]
  refine ⟨?_, ?_, a, s⟩
  · rw [upX, k, s, still_x lx hx hz]
  · rw [upP, mF, krkF, k, still_m hn, still_krk hn hr, unitF, turnedF_unit hn lp hp hm]
end Go.Proofs.Ytadfcbpakfaaaaa.A
