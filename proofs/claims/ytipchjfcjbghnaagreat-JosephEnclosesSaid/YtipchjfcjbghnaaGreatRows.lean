/-
  No cell of these rows narrows 'for every input' (looked for: loops, veiled, ifaces, maps, wideKeys, modest, calm, conditions, laid).
  DERIVED. THE GIVEN ROWS OF THIS SEAT. 4 by the template 'for every input the law returns true; each argument reads behind the call as it read before'; 0 by the template 'total and deterministic' (their statements: YtipchjfcjbghnaaGreatTotals.lean).
  GIVEN WITH THE SEED: the statements are not yours to turn. If you find one false, say at which input.
  Laid BY PROGRAM, IN A SANDBOX (cutbox-rows.mjs): the forced cells as the released guide's own fill.sh prints them over the translation 72cd0012ebc2545e… (all of the seat's roots in one cut). By AI agents, Wed Nov 11 2026. No macro, syntax, notation, axiom, sorry.
-/
import Derived.Test.YtipchjfcjbghnaaGreatChecked
import GoSem.Claim
import GoSem.ClaimJoined
import GoSem.ClaimMapViews
import Derived.JoinedTies
import Derived.KernelRfl
namespace Go.Proofs.YtipchjfcjbghnaaGreat
/- THE CELL 'sum', in the pinned program and in every row, IS THE sha256 OF THE DUMP (.gsa) THAT YtipchjfcjbghnaaGreatProg.lean LOADS. Nothing in Lean hashes anything: it is a label: what it is worth is what the hold of that sum in a sandbox is worth. -/
noncomputable def Tryz.pinned : Pinned := { name := "ytipchjfcjbghnaagreat", sum := "72cd0012ebc2545ede12b3aa0f4808511d62e0226874cf00309499035f604d0b", checked := Tryz.checked }
namespace Rows
def none {H : Type} : Left H := { results := [], args := [] }

/-- 'coupletlaw09.JosephUpdates': WHATEVER THE INPUT: true; the input reads as it did. -/
def josephUpdatesSpec : ChangeSpec := { name := "josephUpdates", fn := fun _ => fun
  | [d1, d2, d3, d4, d5, d6] => { results := [.lit (.bool true)], args := [d1, d2, d3, d4, d5, d6] }
  | _ => none }
def josephUpdatesRow : OpenClaim := { program := "ytipchjfcjbghnaagreat", sum := "72cd0012ebc2545ede12b3aa0f4808511d62e0226874cf00309499035f604d0b", func := "couplet/coupletlaw09.JosephUpdates", spec := "josephUpdates", unfollowed := true, recurses := true, apart := false }
def JosephUpdatesSaid : Prop := josephUpdatesRow.holds Tryz.pinned (OpenSpec.ofChange josephUpdatesSpec)

/-- ITS FALSE NEIGHBOUR: 'it returns false'. Refute it at one input. -/
def josephUpdatesWrong : ChangeSpec := { name := "josephUpdates", fn := fun _ => fun
  | [d1, d2, d3, d4, d5, d6] => { results := [.lit (.bool false)], args := [d1, d2, d3, d4, d5, d6] }
  | _ => none }
def JosephUpdatesWrongFalsely : Prop := josephUpdatesRow.holds Tryz.pinned (OpenSpec.ofChange josephUpdatesWrong)

/-- 'coupletlaw09.JosephPredicts': WHATEVER THE INPUT: true; the input reads as it did. -/
def josephPredictsSpec : ChangeSpec := { name := "josephPredicts", fn := fun _ => fun
  | [d1, d2, d3, d4, d5] => { results := [.lit (.bool true)], args := [d1, d2, d3, d4, d5] }
  | _ => none }
def josephPredictsRow : OpenClaim := { program := "ytipchjfcjbghnaagreat", sum := "72cd0012ebc2545ede12b3aa0f4808511d62e0226874cf00309499035f604d0b", func := "couplet/coupletlaw09.JosephPredicts", spec := "josephPredicts", unfollowed := true, recurses := true, apart := false }
def JosephPredictsSaid : Prop := josephPredictsRow.holds Tryz.pinned (OpenSpec.ofChange josephPredictsSpec)

/-- ITS FALSE NEIGHBOUR: 'it returns false'. Refute it at one input. -/
def josephPredictsWrong : ChangeSpec := { name := "josephPredicts", fn := fun _ => fun
  | [d1, d2, d3, d4, d5] => { results := [.lit (.bool false)], args := [d1, d2, d3, d4, d5] }
  | _ => none }
def JosephPredictsWrongFalsely : Prop := josephPredictsRow.holds Tryz.pinned (OpenSpec.ofChange josephPredictsWrong)

/-- 'coupletlaw09.JosephMirrors': WHATEVER THE INPUT: true; the input reads as it did. -/
def josephMirrorsSpec : ChangeSpec := { name := "josephMirrors", fn := fun _ => fun
  | [d] => { results := [.lit (.bool true)], args := [d] }
  | _ => none }
def josephMirrorsRow : OpenClaim := { program := "ytipchjfcjbghnaagreat", sum := "72cd0012ebc2545ede12b3aa0f4808511d62e0226874cf00309499035f604d0b", func := "couplet/coupletlaw09.JosephMirrors", spec := "josephMirrors", unfollowed := true, recurses := true, named := ["math/bits.divideError", "math/bits.overflowError"], apart := false }
def JosephMirrorsSaid : Prop := josephMirrorsRow.holds Tryz.pinned (OpenSpec.ofChange josephMirrorsSpec)

/-- ITS FALSE NEIGHBOUR: 'it returns false'. Refute it at one input. -/
def josephMirrorsWrong : ChangeSpec := { name := "josephMirrors", fn := fun _ => fun
  | [d] => { results := [.lit (.bool false)], args := [d] }
  | _ => none }
def JosephMirrorsWrongFalsely : Prop := josephMirrorsRow.holds Tryz.pinned (OpenSpec.ofChange josephMirrorsWrong)

/-- 'coupletlaw09.JosephEncloses': WHATEVER THE INPUT: true; the input reads as it did. -/
def josephEnclosesSpec : ChangeSpec := { name := "josephEncloses", fn := fun _ => fun
  | [d] => { results := [.lit (.bool true)], args := [d] }
  | _ => none }
def josephEnclosesRow : OpenClaim := { program := "ytipchjfcjbghnaagreat", sum := "72cd0012ebc2545ede12b3aa0f4808511d62e0226874cf00309499035f604d0b", func := "couplet/coupletlaw09.JosephEncloses", spec := "josephEncloses", unfollowed := true, recurses := true, named := ["math/bits.divideError", "math/bits.overflowError"], apart := false }
def JosephEnclosesSaid : Prop := josephEnclosesRow.holds Tryz.pinned (OpenSpec.ofChange josephEnclosesSpec)

/-- ITS FALSE NEIGHBOUR: 'it returns false'. Refute it at one input. -/
def josephEnclosesWrong : ChangeSpec := { name := "josephEncloses", fn := fun _ => fun
  | [d] => { results := [.lit (.bool false)], args := [d] }
  | _ => none }
def JosephEnclosesWrongFalsely : Prop := josephEnclosesRow.holds Tryz.pinned (OpenSpec.ofChange josephEnclosesWrong)

/- THE SECOND FORM. 'bulk': how many values and letters a reading holds, each counted each time it is reached (what is shared counts as often as it is met; a slice's spare places count too). A statement '..UptoSaid' is the law's where the arguments, and the package variables that the reading takes, are together of bulk at most 1048576: NARROWER than '..Said'. Prove '..Said' where nothing that the law and all that it calls make is longer than what came in: it says more and counts as full. Else prove '..UptoSaid'. A law counts once. -/
mutual
def uptoBulk {H : Type} : DataW H → Nat
  | .lit (.string bytes) => bytes.length + 1
  | .lit _ => 1
  | .nil => 1
  | .ptr d => uptoBulk d + 1
  | .slice elems spare => uptoBulkAll elems + uptoBulkAll spare + 1
  | .agg parts => uptoBulkAll parts + 1
  | .iface _ d => uptoBulk d + 1
  | .map entries => uptoBulkEntries entries + 1
  | .held _ => 1
def uptoBulkAll {H : Type} : List (DataW H) → Nat
  | [] => 0
  | d :: r => uptoBulk d + uptoBulkAll r
def uptoBulkEntries {H : Type} : List (Lit × DataW H) → Nat
  | [] => 0
  | x :: r => uptoBulkEntry x + uptoBulkEntries r
def uptoBulkEntry {H : Type} : Lit × DataW H → Nat
  | (.string bytes, d) => bytes.length + uptoBulk d + 1
  | (_, d) => uptoBulk d + 1
 end
def uptoSmall : (H : Type) → List (DataW H) → Bool := fun _ ds => decide (uptoBulkAll ds ≤ 1048576)
def OpenSpec.upto (s : _root_.Go.ChangeSpec) : _root_.Go.OpenSpec := { _root_.Go.OpenSpec.ofChange s with cond := some uptoSmall }

/-- 'coupletlaw09.JosephUpdates', WHERE WHAT IT READS IS OF BULK AT MOST 1048576: true; the input reads as it did. -/
def josephUpdatesUptoRow : OpenClaim := { program := "ytipchjfcjbghnaagreat", sum := "72cd0012ebc2545ede12b3aa0f4808511d62e0226874cf00309499035f604d0b", func := "couplet/coupletlaw09.JosephUpdates", spec := "josephUpdates", unfollowed := true, recurses := true, apart := false, narrowed := true }
def JosephUpdatesUptoSaid : Prop := josephUpdatesUptoRow.holds Tryz.pinned (OpenSpec.upto josephUpdatesSpec)

/-- 'coupletlaw09.JosephPredicts', WHERE WHAT IT READS IS OF BULK AT MOST 1048576: true; the input reads as it did. -/
def josephPredictsUptoRow : OpenClaim := { program := "ytipchjfcjbghnaagreat", sum := "72cd0012ebc2545ede12b3aa0f4808511d62e0226874cf00309499035f604d0b", func := "couplet/coupletlaw09.JosephPredicts", spec := "josephPredicts", unfollowed := true, recurses := true, apart := false, narrowed := true }
def JosephPredictsUptoSaid : Prop := josephPredictsUptoRow.holds Tryz.pinned (OpenSpec.upto josephPredictsSpec)

/-- 'coupletlaw09.JosephMirrors', WHERE WHAT IT READS IS OF BULK AT MOST 1048576: true; the input reads as it did. -/
def josephMirrorsUptoRow : OpenClaim := { program := "ytipchjfcjbghnaagreat", sum := "72cd0012ebc2545ede12b3aa0f4808511d62e0226874cf00309499035f604d0b", func := "couplet/coupletlaw09.JosephMirrors", spec := "josephMirrors", unfollowed := true, recurses := true, named := ["math/bits.divideError", "math/bits.overflowError"], apart := false, narrowed := true }
def JosephMirrorsUptoSaid : Prop := josephMirrorsUptoRow.holds Tryz.pinned (OpenSpec.upto josephMirrorsSpec)

/-- 'coupletlaw09.JosephEncloses', WHERE WHAT IT READS IS OF BULK AT MOST 1048576: true; the input reads as it did. -/
def josephEnclosesUptoRow : OpenClaim := { program := "ytipchjfcjbghnaagreat", sum := "72cd0012ebc2545ede12b3aa0f4808511d62e0226874cf00309499035f604d0b", func := "couplet/coupletlaw09.JosephEncloses", spec := "josephEncloses", unfollowed := true, recurses := true, named := ["math/bits.divideError", "math/bits.overflowError"], apart := false, narrowed := true }
def JosephEnclosesUptoSaid : Prop := josephEnclosesUptoRow.holds Tryz.pinned (OpenSpec.upto josephEnclosesSpec)

end Rows
end Go.Proofs.YtipchjfcjbghnaaGreat
