import Derived.Test.YtadfcbpakfaaaaaT11
set_option linter.unusedVariables false
set_option linter.unusedSimpArgs false
set_option maxRecDepth 100000
namespace Go.Proofs.Ytadfcbpakfaaaaa.A
open Go Go.RowKit Go.Shelf

theorem Cs.mat_nil' {I : Imm} {xs ys : List PV} {vs : List Value} {ex : Bool} (h : Cs I (matNil :: xs) vs) (k : ∀ us, Cs I xs us → Cs I ys us) : Cs I (matV ex 0 0 (frs []) :: ys) vs := by
  have key : ∀ us, Cs I [num 0, num 0, .s (.slice none 0 0)] us → Cs I [num 0, num 0, .sl ex []] us := fun us h => Cs.keep h fun us h => Cs.keep h fun us h => Cs.nil_of h fun us h => h
  cases h with | cons h1 h2 => cases h1 with | agg hl => exact .cons (.agg (key _ hl)) (k _ h2)
theorem ok54_nil : Ok Try.prog 54 [matNil] (tru false) := (ok54 false 0 0 (frs [])).args fun I vs h => Cs.mat_nil h fun us h => h
theorem ok31_nil (i : Int) : Ok Try.prog 31 [matNil, num i] (.sl false []) := by
  have := (ok31 false 0 0 i []).args fun I vs h => Cs.mat_nil h fun us h => h
  have e : rowF 0 0 [] i = [] := if_neg (fun h => by simp [right] at h)
  rw [e] at this
  exact this

def colF (r c : Int) (l : List Fr) (k : Int) : List Fr := if right r c l.length = true then rowF c r (turnF r c l) k else []
theorem rowF_out {r c i : Int} {l : List Fr} (h : i < 0 ∨ r ≤ i) : rowF r c l i = [] := if_neg (fun h' => by omega)
theorem atF_out {r c i k : Int} {l : List Fr} (h : i < 0 ∨ r ≤ i ∨ k < 0 ∨ c ≤ k) : atF r c l i k = ⟨0, 0, false⟩ := if_neg (fun h' => by omega)

theorem eq_zero : cellsEq [some .i64, some .i64, none] [num 0, num 0, tru false] [num 0, num 0, tru false] = some true := rfl
theorem len_zero {l : List Fr} (h : l = []) : (((frs l).length : Int) == 0) = true := by simp [h]
theorem colF_eq {r c : Int} {l : List Fr} (h : right r c l.length = true) {k : Nat} (hk : k < c.toNat) : colF r c l k = (List.range r.toNat).map fun (j : Nat) => atF r c l (j : Int) (k : Int) := by
  unfold colF
  rw [if_pos h, rowF_eq ⟨0, 0, false⟩ (right_turn h) hk]
  apply List.map_congr_left
  intro j hj
  rw [List.mem_range] at hj
  rw [turnF_eq h, List.getD_eq_getElem?_getD, gridP_get _ _ _ _ _ hk hj, Option.getD_some]

end Go.Proofs.Ytadfcbpakfaaaaa.A
