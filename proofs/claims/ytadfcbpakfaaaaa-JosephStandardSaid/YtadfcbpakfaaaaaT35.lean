import Derived.Test.YtadfcbpakfaaaaaT34

set_option linter.unusedVariables false
set_option linter.unusedSimpArgs false
set_option maxRecDepth 100000
namespace Go.Proofs.Ytadfcbpakfaaaaa.A
open Go Go.RowKit Go.Shelf

theorem ok13_nil (eh : Bool) (h : List Fr) (r z : Fr) : Ok Try.prog 13 [stNil, .sl eh (frs h), frV r, frV z] (.tup [stNil, newsNil, tru false]) :=
  (ok13_bad false false eh [] [] h 0 0 r z (by decide)).args fun I vs h => Cs.st_nil h fun us h => h
theorem ok44_nil : Ok Try.prog 44 [stNil] (tru false) :=
  (ok44 false false [] [] 0 0).args fun I vs h => Cs.st_nil h fun us h => h

/-! ### The function JosephWrong -/
end Go.Proofs.Ytadfcbpakfaaaaa.A
