/-
  No cell of these rows narrows 'for every input' (looked for: loops, veiled, ifaces, maps, wideKeys, modest, calm, conditions, laid).
  DERIVED. THE GIVEN ROWS OF THIS SEAT. 14 by the template 'for every input the law returns true; each argument reads behind the call as it read before'; 0 by the template 'total and deterministic' (their statements: YtambpjbpdackfaaGreatTotals.lean).
  GIVEN WITH THE SEED: the statements are not yours to turn. If you find one false, say at which input.
  Laid BY PROGRAM, IN A SANDBOX (cutbox-rows.mjs): the forced cells as the released guide's own fill.sh prints them over the translation ea59674c78376d13… (all of the seat's roots in one cut). By AI agents, Wed Nov 11 2026. No macro, syntax, notation, axiom, sorry.
-/
import Derived.Test.YtambpjbpdackfaaGreatChecked
import GoSem.Claim
import GoSem.ClaimJoined
import GoSem.ClaimMapViews
import Derived.JoinedTies
import Derived.KernelRfl
namespace Go.Proofs.YtambpjbpdackfaaGreat
/- THE CELL 'sum', in the pinned program and in every row, IS THE sha256 OF THE DUMP (.gsa) THAT YtambpjbpdackfaaGreatProg.lean LOADS. Nothing in Lean hashes anything: it is a label: what it is worth is what the hold of that sum in a sandbox is worth. -/
noncomputable def Tryz.pinned : Pinned := { name := "ytambpjbpdackfaagreat", sum := "ea59674c78376d13fa9ec0b1364d27636480f3c2039555994699ffb0a18a8ab9", checked := Tryz.checked }
namespace Rows
def none {H : Type} : Left H := { results := [], args := [] }

/-- 'coupletlaw08.HouseFolds': WHATEVER THE INPUT: true; the input reads as it did. -/
def houseFoldsSpec : ChangeSpec := { name := "houseFolds", fn := fun _ => fun
  | [d1, d2, d3] => { results := [.lit (.bool true)], args := [d1, d2, d3] }
  | _ => none }
def houseFoldsRow : OpenClaim := { program := "ytambpjbpdackfaagreat", sum := "ea59674c78376d13fa9ec0b1364d27636480f3c2039555994699ffb0a18a8ab9", func := "couplet/coupletlaw08.HouseFolds", spec := "houseFolds", unfollowed := true, recurses := true, apart := false }
def HouseFoldsSaid : Prop := houseFoldsRow.holds Tryz.pinned (OpenSpec.ofChange houseFoldsSpec)

/-- ITS FALSE NEIGHBOUR: 'it returns false'. Refute it at one input. -/
def houseFoldsWrong : ChangeSpec := { name := "houseFolds", fn := fun _ => fun
  | [d1, d2, d3] => { results := [.lit (.bool false)], args := [d1, d2, d3] }
  | _ => none }
def HouseFoldsWrongFalsely : Prop := houseFoldsRow.holds Tryz.pinned (OpenSpec.ofChange houseFoldsWrong)

/-- 'coupletlaw10.RootEncloses': WHATEVER THE INPUT: true; the input reads as it did. -/
def rootEnclosesSpec : ChangeSpec := { name := "rootEncloses", fn := fun _ => fun
  | [d] => { results := [.lit (.bool true)], args := [d] }
  | _ => none }
def rootEnclosesRow : OpenClaim := { program := "ytambpjbpdackfaagreat", sum := "ea59674c78376d13fa9ec0b1364d27636480f3c2039555994699ffb0a18a8ab9", func := "couplet/coupletlaw10.RootEncloses", spec := "rootEncloses", unfollowed := true, recurses := true, named := ["math/bits.divideError", "math/bits.overflowError"], apart := false }
def RootEnclosesSaid : Prop := rootEnclosesRow.holds Tryz.pinned (OpenSpec.ofChange rootEnclosesSpec)

/-- ITS FALSE NEIGHBOUR: 'it returns false'. Refute it at one input. -/
def rootEnclosesWrong : ChangeSpec := { name := "rootEncloses", fn := fun _ => fun
  | [d] => { results := [.lit (.bool false)], args := [d] }
  | _ => none }
def RootEnclosesWrongFalsely : Prop := rootEnclosesRow.holds Tryz.pinned (OpenSpec.ofChange rootEnclosesWrong)

/-- 'coupletlaw16.CompareBounds': WHATEVER THE INPUT: true; the input reads as it did. -/
def compareBoundsSpec : ChangeSpec := { name := "compareBounds", fn := fun _ => fun
  | [d1, d2, d3, d4] => { results := [.lit (.bool true)], args := [d1, d2, d3, d4] }
  | _ => none }
def compareBoundsRow : OpenClaim := { program := "ytambpjbpdackfaagreat", sum := "ea59674c78376d13fa9ec0b1364d27636480f3c2039555994699ffb0a18a8ab9", func := "couplet/coupletlaw16.CompareBounds", spec := "compareBounds", unfollowed := true, recurses := true, named := ["math/bits.divideError", "math/bits.overflowError"], apart := false }
def CompareBoundsSaid : Prop := compareBoundsRow.holds Tryz.pinned (OpenSpec.ofChange compareBoundsSpec)

/-- ITS FALSE NEIGHBOUR: 'it returns false'. Refute it at one input. -/
def compareBoundsWrong : ChangeSpec := { name := "compareBounds", fn := fun _ => fun
  | [d1, d2, d3, d4] => { results := [.lit (.bool false)], args := [d1, d2, d3, d4] }
  | _ => none }
def CompareBoundsWrongFalsely : Prop := compareBoundsRow.holds Tryz.pinned (OpenSpec.ofChange compareBoundsWrong)

/-- 'coupletlaw15.LanesBegin': WHATEVER THE INPUT: true; the input reads as it did. -/
def lanesBeginSpec : ChangeSpec := { name := "lanesBegin", fn := fun _ => fun
  | [d] => { results := [.lit (.bool true)], args := [d] }
  | _ => none }
def lanesBeginRow : OpenClaim := { program := "ytambpjbpdackfaagreat", sum := "ea59674c78376d13fa9ec0b1364d27636480f3c2039555994699ffb0a18a8ab9", func := "couplet/coupletlaw15.LanesBegin", spec := "lanesBegin", unfollowed := true, recurses := true, apart := false }
def LanesBeginSaid : Prop := lanesBeginRow.holds Tryz.pinned (OpenSpec.ofChange lanesBeginSpec)

/-- ITS FALSE NEIGHBOUR: 'it returns false'. Refute it at one input. -/
def lanesBeginWrong : ChangeSpec := { name := "lanesBegin", fn := fun _ => fun
  | [d] => { results := [.lit (.bool false)], args := [d] }
  | _ => none }
def LanesBeginWrongFalsely : Prop := lanesBeginRow.holds Tryz.pinned (OpenSpec.ofChange lanesBeginWrong)

/-- 'coupletlaw15.LanesStep': WHATEVER THE INPUT: true; the input reads as it did. -/
def lanesStepSpec : ChangeSpec := { name := "lanesStep", fn := fun _ => fun
  | [d1, d2] => { results := [.lit (.bool true)], args := [d1, d2] }
  | _ => none }
def lanesStepRow : OpenClaim := { program := "ytambpjbpdackfaagreat", sum := "ea59674c78376d13fa9ec0b1364d27636480f3c2039555994699ffb0a18a8ab9", func := "couplet/coupletlaw15.LanesStep", spec := "lanesStep", unfollowed := true, recurses := true, apart := false }
def LanesStepSaid : Prop := lanesStepRow.holds Tryz.pinned (OpenSpec.ofChange lanesStepSpec)

/-- ITS FALSE NEIGHBOUR: 'it returns false'. Refute it at one input. -/
def lanesStepWrong : ChangeSpec := { name := "lanesStep", fn := fun _ => fun
  | [d1, d2] => { results := [.lit (.bool false)], args := [d1, d2] }
  | _ => none }
def LanesStepWrongFalsely : Prop := lanesStepRow.holds Tryz.pinned (OpenSpec.ofChange lanesStepWrong)

/-- 'coupletlaw15.LanesNews': WHATEVER THE INPUT: true; the input reads as it did. -/
def lanesNewsSpec : ChangeSpec := { name := "lanesNews", fn := fun _ => fun
  | [d1, d2] => { results := [.lit (.bool true)], args := [d1, d2] }
  | _ => none }
def lanesNewsRow : OpenClaim := { program := "ytambpjbpdackfaagreat", sum := "ea59674c78376d13fa9ec0b1364d27636480f3c2039555994699ffb0a18a8ab9", func := "couplet/coupletlaw15.LanesNews", spec := "lanesNews", unfollowed := true, recurses := true, apart := false }
def LanesNewsSaid : Prop := lanesNewsRow.holds Tryz.pinned (OpenSpec.ofChange lanesNewsSpec)

/-- ITS FALSE NEIGHBOUR: 'it returns false'. Refute it at one input. -/
def lanesNewsWrong : ChangeSpec := { name := "lanesNews", fn := fun _ => fun
  | [d1, d2] => { results := [.lit (.bool false)], args := [d1, d2] }
  | _ => none }
def LanesNewsWrongFalsely : Prop := lanesNewsRow.holds Tryz.pinned (OpenSpec.ofChange lanesNewsWrong)

/-- 'coupletlaw15.LanesOwn': WHATEVER THE INPUT: true; the input reads as it did. -/
def lanesOwnSpec : ChangeSpec := { name := "lanesOwn", fn := fun _ => fun
  | [d] => { results := [.lit (.bool true)], args := [d] }
  | _ => none }
def lanesOwnRow : OpenClaim := { program := "ytambpjbpdackfaagreat", sum := "ea59674c78376d13fa9ec0b1364d27636480f3c2039555994699ffb0a18a8ab9", func := "couplet/coupletlaw15.LanesOwn", spec := "lanesOwn", unfollowed := true, recurses := true, apart := false }
def LanesOwnSaid : Prop := lanesOwnRow.holds Tryz.pinned (OpenSpec.ofChange lanesOwnSpec)

/-- ITS FALSE NEIGHBOUR: 'it returns false'. Refute it at one input. -/
def lanesOwnWrong : ChangeSpec := { name := "lanesOwn", fn := fun _ => fun
  | [d] => { results := [.lit (.bool false)], args := [d] }
  | _ => none }
def LanesOwnWrongFalsely : Prop := lanesOwnRow.holds Tryz.pinned (OpenSpec.ofChange lanesOwnWrong)

/-- 'coupletlaw15.LanesWords': WHATEVER THE INPUT: true; the input reads as it did. -/
def lanesWordsSpec : ChangeSpec := { name := "lanesWords", fn := fun _ => fun
  | [d1, d2] => { results := [.lit (.bool true)], args := [d1, d2] }
  | _ => none }
def lanesWordsRow : OpenClaim := { program := "ytambpjbpdackfaagreat", sum := "ea59674c78376d13fa9ec0b1364d27636480f3c2039555994699ffb0a18a8ab9", func := "couplet/coupletlaw15.LanesWords", spec := "lanesWords", unfollowed := true, recurses := true, apart := false }
def LanesWordsSaid : Prop := lanesWordsRow.holds Tryz.pinned (OpenSpec.ofChange lanesWordsSpec)

/-- ITS FALSE NEIGHBOUR: 'it returns false'. Refute it at one input. -/
def lanesWordsWrong : ChangeSpec := { name := "lanesWords", fn := fun _ => fun
  | [d1, d2] => { results := [.lit (.bool false)], args := [d1, d2] }
  | _ => none }
def LanesWordsWrongFalsely : Prop := lanesWordsRow.holds Tryz.pinned (OpenSpec.ofChange lanesWordsWrong)

/-- 'coupletlaw16.CompareCalm': WHATEVER THE INPUT: true; the input reads as it did. -/
def compareCalmSpec : ChangeSpec := { name := "compareCalm", fn := fun _ => fun
  | [d] => { results := [.lit (.bool true)], args := [d] }
  | _ => none }
def compareCalmRow : OpenClaim := { program := "ytambpjbpdackfaagreat", sum := "ea59674c78376d13fa9ec0b1364d27636480f3c2039555994699ffb0a18a8ab9", func := "couplet/coupletlaw16.CompareCalm", spec := "compareCalm", unfollowed := true, recurses := true, apart := false }
def CompareCalmSaid : Prop := compareCalmRow.holds Tryz.pinned (OpenSpec.ofChange compareCalmSpec)

/-- ITS FALSE NEIGHBOUR: 'it returns false'. Refute it at one input. -/
def compareCalmWrong : ChangeSpec := { name := "compareCalm", fn := fun _ => fun
  | [d] => { results := [.lit (.bool false)], args := [d] }
  | _ => none }
def CompareCalmWrongFalsely : Prop := compareCalmRow.holds Tryz.pinned (OpenSpec.ofChange compareCalmWrong)

/-- 'coupletlaw15.LanesMeet': WHATEVER THE INPUT: true; the input reads as it did. -/
def lanesMeetSpec : ChangeSpec := { name := "lanesMeet", fn := fun _ => fun
  | [d] => { results := [.lit (.bool true)], args := [d] }
  | _ => none }
def lanesMeetRow : OpenClaim := { program := "ytambpjbpdackfaagreat", sum := "ea59674c78376d13fa9ec0b1364d27636480f3c2039555994699ffb0a18a8ab9", func := "couplet/coupletlaw15.LanesMeet", spec := "lanesMeet", unfollowed := true, recurses := true, apart := false }
def LanesMeetSaid : Prop := lanesMeetRow.holds Tryz.pinned (OpenSpec.ofChange lanesMeetSpec)

/-- ITS FALSE NEIGHBOUR: 'it returns false'. Refute it at one input. -/
def lanesMeetWrong : ChangeSpec := { name := "lanesMeet", fn := fun _ => fun
  | [d] => { results := [.lit (.bool false)], args := [d] }
  | _ => none }
def LanesMeetWrongFalsely : Prop := lanesMeetRow.holds Tryz.pinned (OpenSpec.ofChange lanesMeetWrong)

/-- 'coupletlaw15.LanesFault': WHATEVER THE INPUT: true; the input reads as it did. -/
def lanesFaultSpec : ChangeSpec := { name := "lanesFault", fn := fun _ => fun
  | [d1, d2, d3, d4] => { results := [.lit (.bool true)], args := [d1, d2, d3, d4] }
  | _ => none }
def lanesFaultRow : OpenClaim := { program := "ytambpjbpdackfaagreat", sum := "ea59674c78376d13fa9ec0b1364d27636480f3c2039555994699ffb0a18a8ab9", func := "couplet/coupletlaw15.LanesFault", spec := "lanesFault", unfollowed := true, recurses := true, apart := false }
def LanesFaultSaid : Prop := lanesFaultRow.holds Tryz.pinned (OpenSpec.ofChange lanesFaultSpec)

/-- ITS FALSE NEIGHBOUR: 'it returns false'. Refute it at one input. -/
def lanesFaultWrong : ChangeSpec := { name := "lanesFault", fn := fun _ => fun
  | [d1, d2, d3, d4] => { results := [.lit (.bool false)], args := [d1, d2, d3, d4] }
  | _ => none }
def LanesFaultWrongFalsely : Prop := lanesFaultRow.holds Tryz.pinned (OpenSpec.ofChange lanesFaultWrong)

/-- 'coupletlaw16.CompareRows': WHATEVER THE INPUT: true; the input reads as it did. -/
def compareRowsSpec : ChangeSpec := { name := "compareRows", fn := fun _ => fun
  | [d1, d2, d3, d4, d5] => { results := [.lit (.bool true)], args := [d1, d2, d3, d4, d5] }
  | _ => none }
def compareRowsRow : OpenClaim := { program := "ytambpjbpdackfaagreat", sum := "ea59674c78376d13fa9ec0b1364d27636480f3c2039555994699ffb0a18a8ab9", func := "couplet/coupletlaw16.CompareRows", spec := "compareRows", unfollowed := true, recurses := true, apart := false }
def CompareRowsSaid : Prop := compareRowsRow.holds Tryz.pinned (OpenSpec.ofChange compareRowsSpec)

/-- ITS FALSE NEIGHBOUR: 'it returns false'. Refute it at one input. -/
def compareRowsWrong : ChangeSpec := { name := "compareRows", fn := fun _ => fun
  | [d1, d2, d3, d4, d5] => { results := [.lit (.bool false)], args := [d1, d2, d3, d4, d5] }
  | _ => none }
def CompareRowsWrongFalsely : Prop := compareRowsRow.holds Tryz.pinned (OpenSpec.ofChange compareRowsWrong)

/-- 'coupletlaw16.CompareTrips': WHATEVER THE INPUT: true; the input reads as it did. -/
def compareTripsSpec : ChangeSpec := { name := "compareTrips", fn := fun _ => fun
  | [d1, d2, d3, d4] => { results := [.lit (.bool true)], args := [d1, d2, d3, d4] }
  | _ => none }
def compareTripsRow : OpenClaim := { program := "ytambpjbpdackfaagreat", sum := "ea59674c78376d13fa9ec0b1364d27636480f3c2039555994699ffb0a18a8ab9", func := "couplet/coupletlaw16.CompareTrips", spec := "compareTrips", unfollowed := true, recurses := true, apart := false }
def CompareTripsSaid : Prop := compareTripsRow.holds Tryz.pinned (OpenSpec.ofChange compareTripsSpec)

/-- ITS FALSE NEIGHBOUR: 'it returns false'. Refute it at one input. -/
def compareTripsWrong : ChangeSpec := { name := "compareTrips", fn := fun _ => fun
  | [d1, d2, d3, d4] => { results := [.lit (.bool false)], args := [d1, d2, d3, d4] }
  | _ => none }
def CompareTripsWrongFalsely : Prop := compareTripsRow.holds Tryz.pinned (OpenSpec.ofChange compareTripsWrong)

/-- 'coupletlaw15.LanesSeed': WHATEVER THE INPUT: true; the input reads as it did. -/
def lanesSeedSpec : ChangeSpec := { name := "lanesSeed", fn := fun _ => fun
  | [d1, d2] => { results := [.lit (.bool true)], args := [d1, d2] }
  | _ => none }
def lanesSeedRow : OpenClaim := { program := "ytambpjbpdackfaagreat", sum := "ea59674c78376d13fa9ec0b1364d27636480f3c2039555994699ffb0a18a8ab9", func := "couplet/coupletlaw15.LanesSeed", spec := "lanesSeed", unfollowed := true, recurses := true, apart := false }
def LanesSeedSaid : Prop := lanesSeedRow.holds Tryz.pinned (OpenSpec.ofChange lanesSeedSpec)

/-- ITS FALSE NEIGHBOUR: 'it returns false'. Refute it at one input. -/
def lanesSeedWrong : ChangeSpec := { name := "lanesSeed", fn := fun _ => fun
  | [d1, d2] => { results := [.lit (.bool false)], args := [d1, d2] }
  | _ => none }
def LanesSeedWrongFalsely : Prop := lanesSeedRow.holds Tryz.pinned (OpenSpec.ofChange lanesSeedWrong)

/- THE SECOND FORM. 'bulk': how many values and letters a reading holds, each counted each time it is reached (what is shared counts as often as it is met; a slice's spare places count too). A statement '..UptoSaid' is the law's where the arguments, and the package variables that the reading takes, are together of bulk at most 1048576: NARROWER than '..Said'. Prove '..Said' where nothing that the law and all that it calls make is longer than what came in: it says more and counts as full. Else prove '..UptoSaid'. A law counts once. -/
mutual
def uptoBulk {H : Type} : DataW H → Nat
  | .lit (.string bytes) => bytes.length + 1
  | .lit _ => 1
  | .nil => 1
  | .ptr d => uptoBulk d + 1
  | .slice elems spare => uptoBulkAll elems + uptoBulkAll spare + 1
  | .agg parts => uptoBulkAll parts + 1
  | .iface _ d => uptoBulk d + 1
  | .map entries => uptoBulkEntries entries + 1
  | .held _ => 1
def uptoBulkAll {H : Type} : List (DataW H) → Nat
  | [] => 0
  | d :: r => uptoBulk d + uptoBulkAll r
def uptoBulkEntries {H : Type} : List (Lit × DataW H) → Nat
  | [] => 0
  | x :: r => uptoBulkEntry x + uptoBulkEntries r
def uptoBulkEntry {H : Type} : Lit × DataW H → Nat
  | (.string bytes, d) => bytes.length + uptoBulk d + 1
  | (_, d) => uptoBulk d + 1
 end
def uptoSmall : (H : Type) → List (DataW H) → Bool := fun _ ds => decide (uptoBulkAll ds ≤ 1048576)
def OpenSpec.upto (s : _root_.Go.ChangeSpec) : _root_.Go.OpenSpec := { _root_.Go.OpenSpec.ofChange s with cond := some uptoSmall }

/-- 'coupletlaw08.HouseFolds', WHERE WHAT IT READS IS OF BULK AT MOST 1048576: true; the input reads as it did. -/
def houseFoldsUptoRow : OpenClaim := { program := "ytambpjbpdackfaagreat", sum := "ea59674c78376d13fa9ec0b1364d27636480f3c2039555994699ffb0a18a8ab9", func := "couplet/coupletlaw08.HouseFolds", spec := "houseFolds", unfollowed := true, recurses := true, apart := false, narrowed := true }
def HouseFoldsUptoSaid : Prop := houseFoldsUptoRow.holds Tryz.pinned (OpenSpec.upto houseFoldsSpec)

/-- 'coupletlaw10.RootEncloses', WHERE WHAT IT READS IS OF BULK AT MOST 1048576: true; the input reads as it did. -/
def rootEnclosesUptoRow : OpenClaim := { program := "ytambpjbpdackfaagreat", sum := "ea59674c78376d13fa9ec0b1364d27636480f3c2039555994699ffb0a18a8ab9", func := "couplet/coupletlaw10.RootEncloses", spec := "rootEncloses", unfollowed := true, recurses := true, named := ["math/bits.divideError", "math/bits.overflowError"], apart := false, narrowed := true }
def RootEnclosesUptoSaid : Prop := rootEnclosesUptoRow.holds Tryz.pinned (OpenSpec.upto rootEnclosesSpec)

/-- 'coupletlaw16.CompareBounds', WHERE WHAT IT READS IS OF BULK AT MOST 1048576: true; the input reads as it did. -/
def compareBoundsUptoRow : OpenClaim := { program := "ytambpjbpdackfaagreat", sum := "ea59674c78376d13fa9ec0b1364d27636480f3c2039555994699ffb0a18a8ab9", func := "couplet/coupletlaw16.CompareBounds", spec := "compareBounds", unfollowed := true, recurses := true, named := ["math/bits.divideError", "math/bits.overflowError"], apart := false, narrowed := true }
def CompareBoundsUptoSaid : Prop := compareBoundsUptoRow.holds Tryz.pinned (OpenSpec.upto compareBoundsSpec)

/-- 'coupletlaw15.LanesBegin', WHERE WHAT IT READS IS OF BULK AT MOST 1048576: true; the input reads as it did. -/
def lanesBeginUptoRow : OpenClaim := { program := "ytambpjbpdackfaagreat", sum := "ea59674c78376d13fa9ec0b1364d27636480f3c2039555994699ffb0a18a8ab9", func := "couplet/coupletlaw15.LanesBegin", spec := "lanesBegin", unfollowed := true, recurses := true, apart := false, narrowed := true }
def LanesBeginUptoSaid : Prop := lanesBeginUptoRow.holds Tryz.pinned (OpenSpec.upto lanesBeginSpec)

/-- 'coupletlaw15.LanesStep', WHERE WHAT IT READS IS OF BULK AT MOST 1048576: true; the input reads as it did. -/
def lanesStepUptoRow : OpenClaim := { program := "ytambpjbpdackfaagreat", sum := "ea59674c78376d13fa9ec0b1364d27636480f3c2039555994699ffb0a18a8ab9", func := "couplet/coupletlaw15.LanesStep", spec := "lanesStep", unfollowed := true, recurses := true, apart := false, narrowed := true }
def LanesStepUptoSaid : Prop := lanesStepUptoRow.holds Tryz.pinned (OpenSpec.upto lanesStepSpec)

/-- 'coupletlaw15.LanesNews', WHERE WHAT IT READS IS OF BULK AT MOST 1048576: true; the input reads as it did. -/
def lanesNewsUptoRow : OpenClaim := { program := "ytambpjbpdackfaagreat", sum := "ea59674c78376d13fa9ec0b1364d27636480f3c2039555994699ffb0a18a8ab9", func := "couplet/coupletlaw15.LanesNews", spec := "lanesNews", unfollowed := true, recurses := true, apart := false, narrowed := true }
def LanesNewsUptoSaid : Prop := lanesNewsUptoRow.holds Tryz.pinned (OpenSpec.upto lanesNewsSpec)

/-- 'coupletlaw15.LanesOwn', WHERE WHAT IT READS IS OF BULK AT MOST 1048576: true; the input reads as it did. -/
def lanesOwnUptoRow : OpenClaim := { program := "ytambpjbpdackfaagreat", sum := "ea59674c78376d13fa9ec0b1364d27636480f3c2039555994699ffb0a18a8ab9", func := "couplet/coupletlaw15.LanesOwn", spec := "lanesOwn", unfollowed := true, recurses := true, apart := false, narrowed := true }
def LanesOwnUptoSaid : Prop := lanesOwnUptoRow.holds Tryz.pinned (OpenSpec.upto lanesOwnSpec)

/-- 'coupletlaw15.LanesWords', WHERE WHAT IT READS IS OF BULK AT MOST 1048576: true; the input reads as it did. -/
def lanesWordsUptoRow : OpenClaim := { program := "ytambpjbpdackfaagreat", sum := "ea59674c78376d13fa9ec0b1364d27636480f3c2039555994699ffb0a18a8ab9", func := "couplet/coupletlaw15.LanesWords", spec := "lanesWords", unfollowed := true, recurses := true, apart := false, narrowed := true }
def LanesWordsUptoSaid : Prop := lanesWordsUptoRow.holds Tryz.pinned (OpenSpec.upto lanesWordsSpec)

/-- 'coupletlaw16.CompareCalm', WHERE WHAT IT READS IS OF BULK AT MOST 1048576: true; the input reads as it did. -/
def compareCalmUptoRow : OpenClaim := { program := "ytambpjbpdackfaagreat", sum := "ea59674c78376d13fa9ec0b1364d27636480f3c2039555994699ffb0a18a8ab9", func := "couplet/coupletlaw16.CompareCalm", spec := "compareCalm", unfollowed := true, recurses := true, apart := false, narrowed := true }
def CompareCalmUptoSaid : Prop := compareCalmUptoRow.holds Tryz.pinned (OpenSpec.upto compareCalmSpec)

/-- 'coupletlaw15.LanesMeet', WHERE WHAT IT READS IS OF BULK AT MOST 1048576: true; the input reads as it did. -/
def lanesMeetUptoRow : OpenClaim := { program := "ytambpjbpdackfaagreat", sum := "ea59674c78376d13fa9ec0b1364d27636480f3c2039555994699ffb0a18a8ab9", func := "couplet/coupletlaw15.LanesMeet", spec := "lanesMeet", unfollowed := true, recurses := true, apart := false, narrowed := true }
def LanesMeetUptoSaid : Prop := lanesMeetUptoRow.holds Tryz.pinned (OpenSpec.upto lanesMeetSpec)

/-- 'coupletlaw15.LanesFault', WHERE WHAT IT READS IS OF BULK AT MOST 1048576: true; the input reads as it did. -/
def lanesFaultUptoRow : OpenClaim := { program := "ytambpjbpdackfaagreat", sum := "ea59674c78376d13fa9ec0b1364d27636480f3c2039555994699ffb0a18a8ab9", func := "couplet/coupletlaw15.LanesFault", spec := "lanesFault", unfollowed := true, recurses := true, apart := false, narrowed := true }
def LanesFaultUptoSaid : Prop := lanesFaultUptoRow.holds Tryz.pinned (OpenSpec.upto lanesFaultSpec)

/-- 'coupletlaw16.CompareRows', WHERE WHAT IT READS IS OF BULK AT MOST 1048576: true; the input reads as it did. -/
def compareRowsUptoRow : OpenClaim := { program := "ytambpjbpdackfaagreat", sum := "ea59674c78376d13fa9ec0b1364d27636480f3c2039555994699ffb0a18a8ab9", func := "couplet/coupletlaw16.CompareRows", spec := "compareRows", unfollowed := true, recurses := true, apart := false, narrowed := true }
def CompareRowsUptoSaid : Prop := compareRowsUptoRow.holds Tryz.pinned (OpenSpec.upto compareRowsSpec)

/-- 'coupletlaw16.CompareTrips', WHERE WHAT IT READS IS OF BULK AT MOST 1048576: true; the input reads as it did. -/
def compareTripsUptoRow : OpenClaim := { program := "ytambpjbpdackfaagreat", sum := "ea59674c78376d13fa9ec0b1364d27636480f3c2039555994699ffb0a18a8ab9", func := "couplet/coupletlaw16.CompareTrips", spec := "compareTrips", unfollowed := true, recurses := true, apart := false, narrowed := true }
def CompareTripsUptoSaid : Prop := compareTripsUptoRow.holds Tryz.pinned (OpenSpec.upto compareTripsSpec)

/-- 'coupletlaw15.LanesSeed', WHERE WHAT IT READS IS OF BULK AT MOST 1048576: true; the input reads as it did. -/
def lanesSeedUptoRow : OpenClaim := { program := "ytambpjbpdackfaagreat", sum := "ea59674c78376d13fa9ec0b1364d27636480f3c2039555994699ffb0a18a8ab9", func := "couplet/coupletlaw15.LanesSeed", spec := "lanesSeed", unfollowed := true, recurses := true, apart := false, narrowed := true }
def LanesSeedUptoSaid : Prop := lanesSeedUptoRow.holds Tryz.pinned (OpenSpec.upto lanesSeedSpec)

end Rows
end Go.Proofs.YtambpjbpdackfaaGreat
