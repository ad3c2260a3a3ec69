import Derived.Test.YtadfcbpakfaaaaaT10
set_option linter.unusedVariables false
set_option linter.unusedSimpArgs false
set_option maxRecDepth 100000
namespace Go.Proofs.Ytadfcbpakfaaaaa.A
open Go Go.RowKit Go.Shelf

theorem fewB_spec {a : List Int} (h : fewB a = true) : a.length ≤ 256 ∧ small a :=
  (of_decide_eq_true h : a.length ≤ 256 ∧ ∀ x ∈ a, -100 ≤ x ∧ x ≤ 100)
theorem Cs.keep {I : Imm} {x : PV} {xs ys : List PV} {vs : List Value} (h : Cs I (x :: xs) vs) (k : ∀ us, Cs I xs us → Cs I ys us) : Cs I (x :: ys) vs := by
  cases h with | cons h1 h2 => exact .cons h1 (k _ h2)
theorem Cs.mat_nil {I : Imm} {xs ys : List PV} {vs : List Value} (h : Cs I (matNil :: xs) vs) (k : ∀ us, Cs I xs us → Cs I ys us) : Cs I (matV false 0 0 (frs []) :: ys) vs := by
  have key : ∀ us, Cs I [num 0, num 0, .s (.slice none 0 0)] us → Cs I [num 0, num 0, .sl false []] us := fun us h => Cs.keep h fun us h => Cs.keep h fun us h => Cs.nil_of h fun us h => h
  cases h with | cons h1 h2 => cases h1 with | agg hl => exact .cons (.agg (key _ hl)) (k _ h2)

theorem ok34_nil : Ok Try.prog 34 [matNil, num 0, num 0, .s (.slice none 0 0)] (tru true) :=
  (ok34 false false 0 0 [] [] (by simp) rfl).args fun I vs h => Cs.mat_nil h fun us h => Cs.keep h fun us h => Cs.keep h fun us h => Cs.nil_of h fun us h => h
theorem ok47_nil1 {eb : Bool} {m2 c : Int} {b : List Fr} : Ok Try.prog 47 [matNil, matV eb m2 c (frs b)] (.tup [matNil, tru false]) := by
  have := (ok47 false eb 0 0 m2 c [] b).args fun I vs h => Cs.mat_nil h fun us h => h
  rw [if_neg (by simp [right])] at this
  exact this
theorem ok47_nil2 {ea : Bool} {r m : Int} {a : List Fr} : Ok Try.prog 47 [matV ea r m (frs a), matNil] (.tup [matNil, tru false]) := by
  have := (ok47 ea false r m 0 0 a []).args fun I vs h => Cs.keep h fun us h => Cs.mat_nil h fun us h => h
  rw [if_neg (by simp [right])] at this
  exact this
theorem ok47_nil : Ok Try.prog 47 [matNil, matNil] (.tup [matNil, tru false]) :=
  (ok47_nil1 (eb := false) (m2 := 0) (c := 0) (b := [])).args fun I vs h => Cs.keep h fun us h => Cs.mat_nil h fun us h => h

end Go.Proofs.Ytadfcbpakfaaaaa.A
