import Derived.Test.YtadfcbpakfaaaaaT31
import Derived.Test.YtadfcbpakfaaaaaT13

set_option linter.unusedVariables false
set_option linter.unusedSimpArgs false
set_option maxRecDepth 100000
namespace Go.Proofs.Ytadfcbpakfaaaaa.A
open Go Go.RowKit Go.Shelf

/-! ### Predict -/
theorem applyF_len (n : Nat) (l v : List Fr) : (applyF n n l v).length = n := by simp [applyF, allF]
end Go.Proofs.Ytadfcbpakfaaaaa.A
