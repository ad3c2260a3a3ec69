/-
  No cell of these rows narrows 'for every input' (looked for: loops, veiled, ifaces, maps, wideKeys, modest, calm, conditions, laid).
  DERIVED. THE GIVEN ROWS OF THIS SEAT. 13 by the template 'for every input the law returns true; each argument reads behind the call as it read before'; 0 by the template 'total and deterministic' (their statements: YtbflmeomkfjikaaGreatTotals.lean).
  GIVEN WITH THE SEED: the statements are not yours to turn. If you find one false, say at which input.
  Laid BY PROGRAM, IN A SANDBOX (cutbox-rows.mjs): the forced cells as the released guide's own fill.sh prints them over the translation ba3031f91ac2009c… (all of the seat's roots in one cut). By AI agents, Wed Nov 11 2026. No macro, syntax, notation, axiom, sorry.
-/
import Derived.Test.YtbflmeomkfjikaaGreatChecked
import GoSem.Claim
import GoSem.ClaimJoined
import GoSem.ClaimMapViews
import Derived.JoinedTies
import Derived.KernelRfl
namespace Go.Proofs.YtbflmeomkfjikaaGreat
/- THE CELL 'sum', in the pinned program and in every row, IS THE sha256 OF THE DUMP (.gsa) THAT YtbflmeomkfjikaaGreatProg.lean LOADS. Nothing in Lean hashes anything: it is a label: what it is worth is what the hold of that sum in a sandbox is worth. -/
noncomputable def Tryz.pinned : Pinned := { name := "ytbflmeomkfjikaagreat", sum := "ba3031f91ac2009cdfdec27fb45966bd1e196a537782a9b45b0de43071b46e75", checked := Tryz.checked }
namespace Rows
def none {H : Type} : Left H := { results := [], args := [] }

/-- 'coupletlaw07.TriRoots': WHATEVER THE INPUT: true; the input reads as it did. -/
def triRootsSpec : ChangeSpec := { name := "triRoots", fn := fun _ => fun
  | [d1, d2] => { results := [.lit (.bool true)], args := [d1, d2] }
  | _ => none }
def triRootsRow : OpenClaim := { program := "ytbflmeomkfjikaagreat", sum := "ba3031f91ac2009cdfdec27fb45966bd1e196a537782a9b45b0de43071b46e75", func := "couplet/coupletlaw07.TriRoots", spec := "triRoots", unfollowed := true, recurses := true, apart := false }
def TriRootsSaid : Prop := triRootsRow.holds Tryz.pinned (OpenSpec.ofChange triRootsSpec)

/-- ITS FALSE NEIGHBOUR: 'it returns false'. Refute it at one input. -/
def triRootsWrong : ChangeSpec := { name := "triRoots", fn := fun _ => fun
  | [d1, d2] => { results := [.lit (.bool false)], args := [d1, d2] }
  | _ => none }
def TriRootsWrongFalsely : Prop := triRootsRow.holds Tryz.pinned (OpenSpec.ofChange triRootsWrong)

/-- 'coupletlaw08.HouseFolds': WHATEVER THE INPUT: true; the input reads as it did. -/
def houseFoldsSpec : ChangeSpec := { name := "houseFolds", fn := fun _ => fun
  | [d1, d2, d3] => { results := [.lit (.bool true)], args := [d1, d2, d3] }
  | _ => none }
def houseFoldsRow : OpenClaim := { program := "ytbflmeomkfjikaagreat", sum := "ba3031f91ac2009cdfdec27fb45966bd1e196a537782a9b45b0de43071b46e75", func := "couplet/coupletlaw08.HouseFolds", spec := "houseFolds", unfollowed := true, recurses := true, apart := false }
def HouseFoldsSaid : Prop := houseFoldsRow.holds Tryz.pinned (OpenSpec.ofChange houseFoldsSpec)

/-- ITS FALSE NEIGHBOUR: 'it returns false'. Refute it at one input. -/
def houseFoldsWrong : ChangeSpec := { name := "houseFolds", fn := fun _ => fun
  | [d1, d2, d3] => { results := [.lit (.bool false)], args := [d1, d2, d3] }
  | _ => none }
def HouseFoldsWrongFalsely : Prop := houseFoldsRow.holds Tryz.pinned (OpenSpec.ofChange houseFoldsWrong)

/-- 'coupletlaw08.HouseSigns': WHATEVER THE INPUT: true; the input reads as it did. -/
def houseSignsSpec : ChangeSpec := { name := "houseSigns", fn := fun _ => fun
  | [d1, d2] => { results := [.lit (.bool true)], args := [d1, d2] }
  | _ => none }
def houseSignsRow : OpenClaim := { program := "ytbflmeomkfjikaagreat", sum := "ba3031f91ac2009cdfdec27fb45966bd1e196a537782a9b45b0de43071b46e75", func := "couplet/coupletlaw08.HouseSigns", spec := "houseSigns", unfollowed := true, recurses := true, apart := false }
def HouseSignsSaid : Prop := houseSignsRow.holds Tryz.pinned (OpenSpec.ofChange houseSignsSpec)

/-- ITS FALSE NEIGHBOUR: 'it returns false'. Refute it at one input. -/
def houseSignsWrong : ChangeSpec := { name := "houseSigns", fn := fun _ => fun
  | [d1, d2] => { results := [.lit (.bool false)], args := [d1, d2] }
  | _ => none }
def HouseSignsWrongFalsely : Prop := houseSignsRow.holds Tryz.pinned (OpenSpec.ofChange houseSignsWrong)

/-- 'coupletlaw07.TriSolves': WHATEVER THE INPUT: true; the input reads as it did. -/
def triSolvesSpec : ChangeSpec := { name := "triSolves", fn := fun _ => fun
  | [d1, d2, d3] => { results := [.lit (.bool true)], args := [d1, d2, d3] }
  | _ => none }
def triSolvesRow : OpenClaim := { program := "ytbflmeomkfjikaagreat", sum := "ba3031f91ac2009cdfdec27fb45966bd1e196a537782a9b45b0de43071b46e75", func := "couplet/coupletlaw07.TriSolves", spec := "triSolves", unfollowed := true, recurses := true, apart := false }
def TriSolvesSaid : Prop := triSolvesRow.holds Tryz.pinned (OpenSpec.ofChange triSolvesSpec)

/-- ITS FALSE NEIGHBOUR: 'it returns false'. Refute it at one input. -/
def triSolvesWrong : ChangeSpec := { name := "triSolves", fn := fun _ => fun
  | [d1, d2, d3] => { results := [.lit (.bool false)], args := [d1, d2, d3] }
  | _ => none }
def TriSolvesWrongFalsely : Prop := triSolvesRow.holds Tryz.pinned (OpenSpec.ofChange triSolvesWrong)

/-- 'coupletlaw08.HouseRow': WHATEVER THE INPUT: true; the input reads as it did. -/
def houseRowSpec : ChangeSpec := { name := "houseRow", fn := fun _ => fun
  | [d] => { results := [.lit (.bool true)], args := [d] }
  | _ => none }
def houseRowRow : OpenClaim := { program := "ytbflmeomkfjikaagreat", sum := "ba3031f91ac2009cdfdec27fb45966bd1e196a537782a9b45b0de43071b46e75", func := "couplet/coupletlaw08.HouseRow", spec := "houseRow", unfollowed := true, recurses := true, named := ["math/bits.divideError", "math/bits.overflowError"], apart := false }
def HouseRowSaid : Prop := houseRowRow.holds Tryz.pinned (OpenSpec.ofChange houseRowSpec)

/-- ITS FALSE NEIGHBOUR: 'it returns false'. Refute it at one input. -/
def houseRowWrong : ChangeSpec := { name := "houseRow", fn := fun _ => fun
  | [d] => { results := [.lit (.bool false)], args := [d] }
  | _ => none }
def HouseRowWrongFalsely : Prop := houseRowRow.holds Tryz.pinned (OpenSpec.ofChange houseRowWrong)

/-- 'coupletlaw08.HouseTwice': WHATEVER THE INPUT: true; the input reads as it did. -/
def houseTwiceSpec : ChangeSpec := { name := "houseTwice", fn := fun _ => fun
  | [d1, d2] => { results := [.lit (.bool true)], args := [d1, d2] }
  | _ => none }
def houseTwiceRow : OpenClaim := { program := "ytbflmeomkfjikaagreat", sum := "ba3031f91ac2009cdfdec27fb45966bd1e196a537782a9b45b0de43071b46e75", func := "couplet/coupletlaw08.HouseTwice", spec := "houseTwice", unfollowed := true, recurses := true, apart := false }
def HouseTwiceSaid : Prop := houseTwiceRow.holds Tryz.pinned (OpenSpec.ofChange houseTwiceSpec)

/-- ITS FALSE NEIGHBOUR: 'it returns false'. Refute it at one input. -/
def houseTwiceWrong : ChangeSpec := { name := "houseTwice", fn := fun _ => fun
  | [d1, d2] => { results := [.lit (.bool false)], args := [d1, d2] }
  | _ => none }
def HouseTwiceWrongFalsely : Prop := houseTwiceRow.holds Tryz.pinned (OpenSpec.ofChange houseTwiceWrong)

/-- 'coupletlaw08.HouseSquares': WHATEVER THE INPUT: true; the input reads as it did. -/
def houseSquaresSpec : ChangeSpec := { name := "houseSquares", fn := fun _ => fun
  | [d1, d2, d3] => { results := [.lit (.bool true)], args := [d1, d2, d3] }
  | _ => none }
def houseSquaresRow : OpenClaim := { program := "ytbflmeomkfjikaagreat", sum := "ba3031f91ac2009cdfdec27fb45966bd1e196a537782a9b45b0de43071b46e75", func := "couplet/coupletlaw08.HouseSquares", spec := "houseSquares", unfollowed := true, recurses := true, apart := false }
def HouseSquaresSaid : Prop := houseSquaresRow.holds Tryz.pinned (OpenSpec.ofChange houseSquaresSpec)

/-- ITS FALSE NEIGHBOUR: 'it returns false'. Refute it at one input. -/
def houseSquaresWrong : ChangeSpec := { name := "houseSquares", fn := fun _ => fun
  | [d1, d2, d3] => { results := [.lit (.bool false)], args := [d1, d2, d3] }
  | _ => none }
def HouseSquaresWrongFalsely : Prop := houseSquaresRow.holds Tryz.pinned (OpenSpec.ofChange houseSquaresWrong)

/-- 'coupletlaw10.RootNew': WHATEVER THE INPUT: true; the input reads as it did. -/
def rootNewSpec : ChangeSpec := { name := "rootNew", fn := fun _ => fun
  | [d1, d2, d3] => { results := [.lit (.bool true)], args := [d1, d2, d3] }
  | _ => none }
def rootNewRow : OpenClaim := { program := "ytbflmeomkfjikaagreat", sum := "ba3031f91ac2009cdfdec27fb45966bd1e196a537782a9b45b0de43071b46e75", func := "couplet/coupletlaw10.RootNew", spec := "rootNew", unfollowed := true, recurses := true, apart := false }
def RootNewSaid : Prop := rootNewRow.holds Tryz.pinned (OpenSpec.ofChange rootNewSpec)

/-- ITS FALSE NEIGHBOUR: 'it returns false'. Refute it at one input. -/
def rootNewWrong : ChangeSpec := { name := "rootNew", fn := fun _ => fun
  | [d1, d2, d3] => { results := [.lit (.bool false)], args := [d1, d2, d3] }
  | _ => none }
def RootNewWrongFalsely : Prop := rootNewRow.holds Tryz.pinned (OpenSpec.ofChange rootNewWrong)

/-- 'coupletlaw10.RootStill': WHATEVER THE INPUT: true; the input reads as it did. -/
def rootStillSpec : ChangeSpec := { name := "rootStill", fn := fun _ => fun
  | [d] => { results := [.lit (.bool true)], args := [d] }
  | _ => none }
def rootStillRow : OpenClaim := { program := "ytbflmeomkfjikaagreat", sum := "ba3031f91ac2009cdfdec27fb45966bd1e196a537782a9b45b0de43071b46e75", func := "couplet/coupletlaw10.RootStill", spec := "rootStill", unfollowed := true, recurses := true, named := ["math/bits.divideError", "math/bits.overflowError"], apart := false }
def RootStillSaid : Prop := rootStillRow.holds Tryz.pinned (OpenSpec.ofChange rootStillSpec)

/-- ITS FALSE NEIGHBOUR: 'it returns false'. Refute it at one input. -/
def rootStillWrong : ChangeSpec := { name := "rootStill", fn := fun _ => fun
  | [d] => { results := [.lit (.bool false)], args := [d] }
  | _ => none }
def RootStillWrongFalsely : Prop := rootStillRow.holds Tryz.pinned (OpenSpec.ofChange rootStillWrong)

/-- 'coupletlaw10.RootOne': WHATEVER THE INPUT: true; the input reads as it did. -/
def rootOneSpec : ChangeSpec := { name := "rootOne", fn := fun _ => fun
  | [d1, d2, d3] => { results := [.lit (.bool true)], args := [d1, d2, d3] }
  | _ => none }
def rootOneRow : OpenClaim := { program := "ytbflmeomkfjikaagreat", sum := "ba3031f91ac2009cdfdec27fb45966bd1e196a537782a9b45b0de43071b46e75", func := "couplet/coupletlaw10.RootOne", spec := "rootOne", unfollowed := true, recurses := true, named := ["math/bits.divideError", "math/bits.overflowError"], apart := false }
def RootOneSaid : Prop := rootOneRow.holds Tryz.pinned (OpenSpec.ofChange rootOneSpec)

/-- ITS FALSE NEIGHBOUR: 'it returns false'. Refute it at one input. -/
def rootOneWrong : ChangeSpec := { name := "rootOne", fn := fun _ => fun
  | [d1, d2, d3] => { results := [.lit (.bool false)], args := [d1, d2, d3] }
  | _ => none }
def RootOneWrongFalsely : Prop := rootOneRow.holds Tryz.pinned (OpenSpec.ofChange rootOneWrong)

/-- 'coupletlaw10.RootExact': WHATEVER THE INPUT: true; the input reads as it did. -/
def rootExactSpec : ChangeSpec := { name := "rootExact", fn := fun _ => fun
  | [d] => { results := [.lit (.bool true)], args := [d] }
  | _ => none }
def rootExactRow : OpenClaim := { program := "ytbflmeomkfjikaagreat", sum := "ba3031f91ac2009cdfdec27fb45966bd1e196a537782a9b45b0de43071b46e75", func := "couplet/coupletlaw10.RootExact", spec := "rootExact", unfollowed := true, recurses := true, apart := false }
def RootExactSaid : Prop := rootExactRow.holds Tryz.pinned (OpenSpec.ofChange rootExactSpec)

/-- ITS FALSE NEIGHBOUR: 'it returns false'. Refute it at one input. -/
def rootExactWrong : ChangeSpec := { name := "rootExact", fn := fun _ => fun
  | [d] => { results := [.lit (.bool false)], args := [d] }
  | _ => none }
def RootExactWrongFalsely : Prop := rootExactRow.holds Tryz.pinned (OpenSpec.ofChange rootExactWrong)

/-- 'coupletlaw10.RootStays': WHATEVER THE INPUT: true; the input reads as it did. -/
def rootStaysSpec : ChangeSpec := { name := "rootStays", fn := fun _ => fun
  | [d] => { results := [.lit (.bool true)], args := [d] }
  | _ => none }
def rootStaysRow : OpenClaim := { program := "ytbflmeomkfjikaagreat", sum := "ba3031f91ac2009cdfdec27fb45966bd1e196a537782a9b45b0de43071b46e75", func := "couplet/coupletlaw10.RootStays", spec := "rootStays", unfollowed := true, recurses := true, named := ["math/bits.divideError", "math/bits.overflowError"], apart := false }
def RootStaysSaid : Prop := rootStaysRow.holds Tryz.pinned (OpenSpec.ofChange rootStaysSpec)

/-- ITS FALSE NEIGHBOUR: 'it returns false'. Refute it at one input. -/
def rootStaysWrong : ChangeSpec := { name := "rootStays", fn := fun _ => fun
  | [d] => { results := [.lit (.bool false)], args := [d] }
  | _ => none }
def RootStaysWrongFalsely : Prop := rootStaysRow.holds Tryz.pinned (OpenSpec.ofChange rootStaysWrong)

/-- 'coupletlaw10.RootEncloses': WHATEVER THE INPUT: true; the input reads as it did. -/
def rootEnclosesSpec : ChangeSpec := { name := "rootEncloses", fn := fun _ => fun
  | [d] => { results := [.lit (.bool true)], args := [d] }
  | _ => none }
def rootEnclosesRow : OpenClaim := { program := "ytbflmeomkfjikaagreat", sum := "ba3031f91ac2009cdfdec27fb45966bd1e196a537782a9b45b0de43071b46e75", func := "couplet/coupletlaw10.RootEncloses", spec := "rootEncloses", unfollowed := true, recurses := true, named := ["math/bits.divideError", "math/bits.overflowError"], apart := false }
def RootEnclosesSaid : Prop := rootEnclosesRow.holds Tryz.pinned (OpenSpec.ofChange rootEnclosesSpec)

/-- ITS FALSE NEIGHBOUR: 'it returns false'. Refute it at one input. -/
def rootEnclosesWrong : ChangeSpec := { name := "rootEncloses", fn := fun _ => fun
  | [d] => { results := [.lit (.bool false)], args := [d] }
  | _ => none }
def RootEnclosesWrongFalsely : Prop := rootEnclosesRow.holds Tryz.pinned (OpenSpec.ofChange rootEnclosesWrong)

/- THE SECOND FORM. 'bulk': how many values and letters a reading holds, each counted each time it is reached (what is shared counts as often as it is met; a slice's spare places count too). A statement '..UptoSaid' is the law's where the arguments, and the package variables that the reading takes, are together of bulk at most 1048576: NARROWER than '..Said'. Prove '..Said' where nothing that the law and all that it calls make is longer than what came in: it says more and counts as full. Else prove '..UptoSaid'. A law counts once. -/
mutual
def uptoBulk {H : Type} : DataW H → Nat
  | .lit (.string bytes) => bytes.length + 1
  | .lit _ => 1
  | .nil => 1
  | .ptr d => uptoBulk d + 1
  | .slice elems spare => uptoBulkAll elems + uptoBulkAll spare + 1
  | .agg parts => uptoBulkAll parts + 1
  | .iface _ d => uptoBulk d + 1
  | .map entries => uptoBulkEntries entries + 1
  | .held _ => 1
def uptoBulkAll {H : Type} : List (DataW H) → Nat
  | [] => 0
  | d :: r => uptoBulk d + uptoBulkAll r
def uptoBulkEntries {H : Type} : List (Lit × DataW H) → Nat
  | [] => 0
  | x :: r => uptoBulkEntry x + uptoBulkEntries r
def uptoBulkEntry {H : Type} : Lit × DataW H → Nat
  | (.string bytes, d) => bytes.length + uptoBulk d + 1
  | (_, d) => uptoBulk d + 1
 end
def uptoSmall : (H : Type) → List (DataW H) → Bool := fun _ ds => decide (uptoBulkAll ds ≤ 1048576)
def OpenSpec.upto (s : _root_.Go.ChangeSpec) : _root_.Go.OpenSpec := { _root_.Go.OpenSpec.ofChange s with cond := some uptoSmall }

/-- 'coupletlaw07.TriRoots', WHERE WHAT IT READS IS OF BULK AT MOST 1048576: true; the input reads as it did. -/
def triRootsUptoRow : OpenClaim := { program := "ytbflmeomkfjikaagreat", sum := "ba3031f91ac2009cdfdec27fb45966bd1e196a537782a9b45b0de43071b46e75", func := "couplet/coupletlaw07.TriRoots", spec := "triRoots", unfollowed := true, recurses := true, apart := false, narrowed := true }
def TriRootsUptoSaid : Prop := triRootsUptoRow.holds Tryz.pinned (OpenSpec.upto triRootsSpec)

/-- 'coupletlaw08.HouseFolds', WHERE WHAT IT READS IS OF BULK AT MOST 1048576: true; the input reads as it did. -/
def houseFoldsUptoRow : OpenClaim := { program := "ytbflmeomkfjikaagreat", sum := "ba3031f91ac2009cdfdec27fb45966bd1e196a537782a9b45b0de43071b46e75", func := "couplet/coupletlaw08.HouseFolds", spec := "houseFolds", unfollowed := true, recurses := true, apart := false, narrowed := true }
def HouseFoldsUptoSaid : Prop := houseFoldsUptoRow.holds Tryz.pinned (OpenSpec.upto houseFoldsSpec)

/-- 'coupletlaw08.HouseSigns', WHERE WHAT IT READS IS OF BULK AT MOST 1048576: true; the input reads as it did. -/
def houseSignsUptoRow : OpenClaim := { program := "ytbflmeomkfjikaagreat", sum := "ba3031f91ac2009cdfdec27fb45966bd1e196a537782a9b45b0de43071b46e75", func := "couplet/coupletlaw08.HouseSigns", spec := "houseSigns", unfollowed := true, recurses := true, apart := false, narrowed := true }
def HouseSignsUptoSaid : Prop := houseSignsUptoRow.holds Tryz.pinned (OpenSpec.upto houseSignsSpec)

/-- 'coupletlaw07.TriSolves', WHERE WHAT IT READS IS OF BULK AT MOST 1048576: true; the input reads as it did. -/
def triSolvesUptoRow : OpenClaim := { program := "ytbflmeomkfjikaagreat", sum := "ba3031f91ac2009cdfdec27fb45966bd1e196a537782a9b45b0de43071b46e75", func := "couplet/coupletlaw07.TriSolves", spec := "triSolves", unfollowed := true, recurses := true, apart := false, narrowed := true }
def TriSolvesUptoSaid : Prop := triSolvesUptoRow.holds Tryz.pinned (OpenSpec.upto triSolvesSpec)

/-- 'coupletlaw08.HouseRow', WHERE WHAT IT READS IS OF BULK AT MOST 1048576: true; the input reads as it did. -/
def houseRowUptoRow : OpenClaim := { program := "ytbflmeomkfjikaagreat", sum := "ba3031f91ac2009cdfdec27fb45966bd1e196a537782a9b45b0de43071b46e75", func := "couplet/coupletlaw08.HouseRow", spec := "houseRow", unfollowed := true, recurses := true, named := ["math/bits.divideError", "math/bits.overflowError"], apart := false, narrowed := true }
def HouseRowUptoSaid : Prop := houseRowUptoRow.holds Tryz.pinned (OpenSpec.upto houseRowSpec)

/-- 'coupletlaw08.HouseTwice', WHERE WHAT IT READS IS OF BULK AT MOST 1048576: true; the input reads as it did. -/
def houseTwiceUptoRow : OpenClaim := { program := "ytbflmeomkfjikaagreat", sum := "ba3031f91ac2009cdfdec27fb45966bd1e196a537782a9b45b0de43071b46e75", func := "couplet/coupletlaw08.HouseTwice", spec := "houseTwice", unfollowed := true, recurses := true, apart := false, narrowed := true }
def HouseTwiceUptoSaid : Prop := houseTwiceUptoRow.holds Tryz.pinned (OpenSpec.upto houseTwiceSpec)

/-- 'coupletlaw08.HouseSquares', WHERE WHAT IT READS IS OF BULK AT MOST 1048576: true; the input reads as it did. -/
def houseSquaresUptoRow : OpenClaim := { program := "ytbflmeomkfjikaagreat", sum := "ba3031f91ac2009cdfdec27fb45966bd1e196a537782a9b45b0de43071b46e75", func := "couplet/coupletlaw08.HouseSquares", spec := "houseSquares", unfollowed := true, recurses := true, apart := false, narrowed := true }
def HouseSquaresUptoSaid : Prop := houseSquaresUptoRow.holds Tryz.pinned (OpenSpec.upto houseSquaresSpec)

/-- 'coupletlaw10.RootNew', WHERE WHAT IT READS IS OF BULK AT MOST 1048576: true; the input reads as it did. -/
def rootNewUptoRow : OpenClaim := { program := "ytbflmeomkfjikaagreat", sum := "ba3031f91ac2009cdfdec27fb45966bd1e196a537782a9b45b0de43071b46e75", func := "couplet/coupletlaw10.RootNew", spec := "rootNew", unfollowed := true, recurses := true, apart := false, narrowed := true }
def RootNewUptoSaid : Prop := rootNewUptoRow.holds Tryz.pinned (OpenSpec.upto rootNewSpec)

/-- 'coupletlaw10.RootStill', WHERE WHAT IT READS IS OF BULK AT MOST 1048576: true; the input reads as it did. -/
def rootStillUptoRow : OpenClaim := { program := "ytbflmeomkfjikaagreat", sum := "ba3031f91ac2009cdfdec27fb45966bd1e196a537782a9b45b0de43071b46e75", func := "couplet/coupletlaw10.RootStill", spec := "rootStill", unfollowed := true, recurses := true, named := ["math/bits.divideError", "math/bits.overflowError"], apart := false, narrowed := true }
def RootStillUptoSaid : Prop := rootStillUptoRow.holds Tryz.pinned (OpenSpec.upto rootStillSpec)

/-- 'coupletlaw10.RootOne', WHERE WHAT IT READS IS OF BULK AT MOST 1048576: true; the input reads as it did. -/
def rootOneUptoRow : OpenClaim := { program := "ytbflmeomkfjikaagreat", sum := "ba3031f91ac2009cdfdec27fb45966bd1e196a537782a9b45b0de43071b46e75", func := "couplet/coupletlaw10.RootOne", spec := "rootOne", unfollowed := true, recurses := true, named := ["math/bits.divideError", "math/bits.overflowError"], apart := false, narrowed := true }
def RootOneUptoSaid : Prop := rootOneUptoRow.holds Tryz.pinned (OpenSpec.upto rootOneSpec)

/-- 'coupletlaw10.RootExact', WHERE WHAT IT READS IS OF BULK AT MOST 1048576: true; the input reads as it did. -/
def rootExactUptoRow : OpenClaim := { program := "ytbflmeomkfjikaagreat", sum := "ba3031f91ac2009cdfdec27fb45966bd1e196a537782a9b45b0de43071b46e75", func := "couplet/coupletlaw10.RootExact", spec := "rootExact", unfollowed := true, recurses := true, apart := false, narrowed := true }
def RootExactUptoSaid : Prop := rootExactUptoRow.holds Tryz.pinned (OpenSpec.upto rootExactSpec)

/-- 'coupletlaw10.RootStays', WHERE WHAT IT READS IS OF BULK AT MOST 1048576: true; the input reads as it did. -/
def rootStaysUptoRow : OpenClaim := { program := "ytbflmeomkfjikaagreat", sum := "ba3031f91ac2009cdfdec27fb45966bd1e196a537782a9b45b0de43071b46e75", func := "couplet/coupletlaw10.RootStays", spec := "rootStays", unfollowed := true, recurses := true, named := ["math/bits.divideError", "math/bits.overflowError"], apart := false, narrowed := true }
def RootStaysUptoSaid : Prop := rootStaysUptoRow.holds Tryz.pinned (OpenSpec.upto rootStaysSpec)

/-- 'coupletlaw10.RootEncloses', WHERE WHAT IT READS IS OF BULK AT MOST 1048576: true; the input reads as it did. -/
def rootEnclosesUptoRow : OpenClaim := { program := "ytbflmeomkfjikaagreat", sum := "ba3031f91ac2009cdfdec27fb45966bd1e196a537782a9b45b0de43071b46e75", func := "couplet/coupletlaw10.RootEncloses", spec := "rootEncloses", unfollowed := true, recurses := true, named := ["math/bits.divideError", "math/bits.overflowError"], apart := false, narrowed := true }
def RootEnclosesUptoSaid : Prop := rootEnclosesUptoRow.holds Tryz.pinned (OpenSpec.upto rootEnclosesSpec)

end Rows
end Go.Proofs.YtbflmeomkfjikaaGreat
