/-
  No cell of these rows narrows 'for every input' (looked for: loops, veiled, ifaces, maps, wideKeys, modest, calm, conditions, laid).
  DERIVED. THE GIVEN ROWS OF THIS SEAT. 5 by the template 'for every input the law returns true; each argument reads behind the call as it read before'; 0 by the template 'total and deterministic' (their statements: YtbflmeomkfjikaaTotals.lean).
  GIVEN WITH THE SEED: the statements are not yours to turn. If you find one false, say at which input.
  Laid BY PROGRAM, IN A SANDBOX (cutbox-rows.mjs): the forced cells as the released guide's own fill.sh prints them over the translation 2570544aaa206372… (all of the seat's roots in one cut). By AI agents, Wed Nov 11 2026. No macro, syntax, notation, axiom, sorry.
-/
import Derived.Test.YtbflmeomkfjikaaChecked
import GoSem.Claim
import GoSem.ClaimJoined
import GoSem.ClaimMapViews
import Derived.JoinedTies
import Derived.KernelRfl
namespace Go.Proofs.Ytbflmeomkfjikaa
/- THE CELL 'sum', in the pinned program and in every row, IS THE sha256 OF THE DUMP (.gsa) THAT YtbflmeomkfjikaaProg.lean LOADS. Nothing in Lean hashes anything: it is a label: what it is worth is what the hold of that sum in a sandbox is worth. -/
noncomputable def Try.pinned : Pinned := { name := "ytbflmeomkfjikaa", sum := "2570544aaa206372201f2b483e1404d201b29659b1b4f41622ed07d731fa407e", checked := Try.checked }
namespace Rows
def none {H : Type} : Left H := { results := [], args := [] }

/-- 'coupletlaw07.TriClears': WHATEVER THE INPUT: true; the input reads as it did. -/
def triClearsSpec : ChangeSpec := { name := "triClears", fn := fun _ => fun
  | [d1, d2] => { results := [.lit (.bool true)], args := [d1, d2] }
  | _ => none }
def triClearsRow : OpenClaim := { program := "ytbflmeomkfjikaa", sum := "2570544aaa206372201f2b483e1404d201b29659b1b4f41622ed07d731fa407e", func := "couplet/coupletlaw07.TriClears", spec := "triClears", unfollowed := true, recurses := true, apart := false }
def TriClearsSaid : Prop := triClearsRow.holds Try.pinned (OpenSpec.ofChange triClearsSpec)

/-- ITS FALSE NEIGHBOUR: 'it returns false'. Refute it at one input. -/
def triClearsWrong : ChangeSpec := { name := "triClears", fn := fun _ => fun
  | [d1, d2] => { results := [.lit (.bool false)], args := [d1, d2] }
  | _ => none }
def TriClearsWrongFalsely : Prop := triClearsRow.holds Try.pinned (OpenSpec.ofChange triClearsWrong)

/-- 'coupletlaw07.TriRound': WHATEVER THE INPUT: true; the input reads as it did. -/
def triRoundSpec : ChangeSpec := { name := "triRound", fn := fun _ => fun
  | [d1, d2] => { results := [.lit (.bool true)], args := [d1, d2] }
  | _ => none }
def triRoundRow : OpenClaim := { program := "ytbflmeomkfjikaa", sum := "2570544aaa206372201f2b483e1404d201b29659b1b4f41622ed07d731fa407e", func := "couplet/coupletlaw07.TriRound", spec := "triRound", unfollowed := true, recurses := true, apart := false }
def TriRoundSaid : Prop := triRoundRow.holds Try.pinned (OpenSpec.ofChange triRoundSpec)

/-- ITS FALSE NEIGHBOUR: 'it returns false'. Refute it at one input. -/
def triRoundWrong : ChangeSpec := { name := "triRound", fn := fun _ => fun
  | [d1, d2] => { results := [.lit (.bool false)], args := [d1, d2] }
  | _ => none }
def TriRoundWrongFalsely : Prop := triRoundRow.holds Try.pinned (OpenSpec.ofChange triRoundWrong)

/-- 'coupletlaw07.TriSquares': WHATEVER THE INPUT: true; the input reads as it did. -/
def triSquaresSpec : ChangeSpec := { name := "triSquares", fn := fun _ => fun
  | [d1, d2] => { results := [.lit (.bool true)], args := [d1, d2] }
  | _ => none }
def triSquaresRow : OpenClaim := { program := "ytbflmeomkfjikaa", sum := "2570544aaa206372201f2b483e1404d201b29659b1b4f41622ed07d731fa407e", func := "couplet/coupletlaw07.TriSquares", spec := "triSquares", unfollowed := true, recurses := true, apart := false }
def TriSquaresSaid : Prop := triSquaresRow.holds Try.pinned (OpenSpec.ofChange triSquaresSpec)

/-- ITS FALSE NEIGHBOUR: 'it returns false'. Refute it at one input. -/
def triSquaresWrong : ChangeSpec := { name := "triSquares", fn := fun _ => fun
  | [d1, d2] => { results := [.lit (.bool false)], args := [d1, d2] }
  | _ => none }
def TriSquaresWrongFalsely : Prop := triSquaresRow.holds Try.pinned (OpenSpec.ofChange triSquaresWrong)

/-- 'coupletlaw07.TriTells': WHATEVER THE INPUT: true; the input reads as it did. -/
def triTellsSpec : ChangeSpec := { name := "triTells", fn := fun _ => fun
  | [d1, d2, d3] => { results := [.lit (.bool true)], args := [d1, d2, d3] }
  | _ => none }
def triTellsRow : OpenClaim := { program := "ytbflmeomkfjikaa", sum := "2570544aaa206372201f2b483e1404d201b29659b1b4f41622ed07d731fa407e", func := "couplet/coupletlaw07.TriTells", spec := "triTells", unfollowed := true, recurses := true, apart := false }
def TriTellsSaid : Prop := triTellsRow.holds Try.pinned (OpenSpec.ofChange triTellsSpec)

/-- ITS FALSE NEIGHBOUR: 'it returns false'. Refute it at one input. -/
def triTellsWrong : ChangeSpec := { name := "triTells", fn := fun _ => fun
  | [d1, d2, d3] => { results := [.lit (.bool false)], args := [d1, d2, d3] }
  | _ => none }
def TriTellsWrongFalsely : Prop := triTellsRow.holds Try.pinned (OpenSpec.ofChange triTellsWrong)

/-- 'coupletlaw08.HouseExact': WHATEVER THE INPUT: true; the input reads as it did. -/
def houseExactSpec : ChangeSpec := { name := "houseExact", fn := fun _ => fun
  | [d1, d2, d3] => { results := [.lit (.bool true)], args := [d1, d2, d3] }
  | _ => none }
def houseExactRow : OpenClaim := { program := "ytbflmeomkfjikaa", sum := "2570544aaa206372201f2b483e1404d201b29659b1b4f41622ed07d731fa407e", func := "couplet/coupletlaw08.HouseExact", spec := "houseExact", unfollowed := true, recurses := true, apart := false }
def HouseExactSaid : Prop := houseExactRow.holds Try.pinned (OpenSpec.ofChange houseExactSpec)

/-- ITS FALSE NEIGHBOUR: 'it returns false'. Refute it at one input. -/
def houseExactWrong : ChangeSpec := { name := "houseExact", fn := fun _ => fun
  | [d1, d2, d3] => { results := [.lit (.bool false)], args := [d1, d2, d3] }
  | _ => none }
def HouseExactWrongFalsely : Prop := houseExactRow.holds Try.pinned (OpenSpec.ofChange houseExactWrong)

/- THE SECOND FORM. 'bulk': how many values and letters a reading holds, each counted each time it is reached (what is shared counts as often as it is met; a slice's spare places count too). A statement '..UptoSaid' is the law's where the arguments, and the package variables that the reading takes, are together of bulk at most 1048576: NARROWER than '..Said'. Prove '..Said' where nothing that the law and all that it calls make is longer than what came in: it says more and counts as full. Else prove '..UptoSaid'. A law counts once. -/
mutual
def uptoBulk {H : Type} : DataW H → Nat
  | .lit (.string bytes) => bytes.length + 1
  | .lit _ => 1
  | .nil => 1
  | .ptr d => uptoBulk d + 1
  | .slice elems spare => uptoBulkAll elems + uptoBulkAll spare + 1
  | .agg parts => uptoBulkAll parts + 1
  | .iface _ d => uptoBulk d + 1
  | .map entries => uptoBulkEntries entries + 1
  | .held _ => 1
def uptoBulkAll {H : Type} : List (DataW H) → Nat
  | [] => 0
  | d :: r => uptoBulk d + uptoBulkAll r
def uptoBulkEntries {H : Type} : List (Lit × DataW H) → Nat
  | [] => 0
  | x :: r => uptoBulkEntry x + uptoBulkEntries r
def uptoBulkEntry {H : Type} : Lit × DataW H → Nat
  | (.string bytes, d) => bytes.length + uptoBulk d + 1
  | (_, d) => uptoBulk d + 1
 end
def uptoSmall : (H : Type) → List (DataW H) → Bool := fun _ ds => decide (uptoBulkAll ds ≤ 1048576)
def OpenSpec.upto (s : _root_.Go.ChangeSpec) : _root_.Go.OpenSpec := { _root_.Go.OpenSpec.ofChange s with cond := some uptoSmall }

/-- 'coupletlaw07.TriClears', WHERE WHAT IT READS IS OF BULK AT MOST 1048576: true; the input reads as it did. -/
def triClearsUptoRow : OpenClaim := { program := "ytbflmeomkfjikaa", sum := "2570544aaa206372201f2b483e1404d201b29659b1b4f41622ed07d731fa407e", func := "couplet/coupletlaw07.TriClears", spec := "triClears", unfollowed := true, recurses := true, apart := false, narrowed := true }
def TriClearsUptoSaid : Prop := triClearsUptoRow.holds Try.pinned (OpenSpec.upto triClearsSpec)

/-- 'coupletlaw07.TriRound', WHERE WHAT IT READS IS OF BULK AT MOST 1048576: true; the input reads as it did. -/
def triRoundUptoRow : OpenClaim := { program := "ytbflmeomkfjikaa", sum := "2570544aaa206372201f2b483e1404d201b29659b1b4f41622ed07d731fa407e", func := "couplet/coupletlaw07.TriRound", spec := "triRound", unfollowed := true, recurses := true, apart := false, narrowed := true }
def TriRoundUptoSaid : Prop := triRoundUptoRow.holds Try.pinned (OpenSpec.upto triRoundSpec)

/-- 'coupletlaw07.TriSquares', WHERE WHAT IT READS IS OF BULK AT MOST 1048576: true; the input reads as it did. -/
def triSquaresUptoRow : OpenClaim := { program := "ytbflmeomkfjikaa", sum := "2570544aaa206372201f2b483e1404d201b29659b1b4f41622ed07d731fa407e", func := "couplet/coupletlaw07.TriSquares", spec := "triSquares", unfollowed := true, recurses := true, apart := false, narrowed := true }
def TriSquaresUptoSaid : Prop := triSquaresUptoRow.holds Try.pinned (OpenSpec.upto triSquaresSpec)

/-- 'coupletlaw07.TriTells', WHERE WHAT IT READS IS OF BULK AT MOST 1048576: true; the input reads as it did. -/
def triTellsUptoRow : OpenClaim := { program := "ytbflmeomkfjikaa", sum := "2570544aaa206372201f2b483e1404d201b29659b1b4f41622ed07d731fa407e", func := "couplet/coupletlaw07.TriTells", spec := "triTells", unfollowed := true, recurses := true, apart := false, narrowed := true }
def TriTellsUptoSaid : Prop := triTellsUptoRow.holds Try.pinned (OpenSpec.upto triTellsSpec)

/-- 'coupletlaw08.HouseExact', WHERE WHAT IT READS IS OF BULK AT MOST 1048576: true; the input reads as it did. -/
def houseExactUptoRow : OpenClaim := { program := "ytbflmeomkfjikaa", sum := "2570544aaa206372201f2b483e1404d201b29659b1b4f41622ed07d731fa407e", func := "couplet/coupletlaw08.HouseExact", spec := "houseExact", unfollowed := true, recurses := true, apart := false, narrowed := true }
def HouseExactUptoSaid : Prop := houseExactUptoRow.holds Try.pinned (OpenSpec.upto houseExactSpec)

end Rows
end Go.Proofs.Ytbflmeomkfjikaa
