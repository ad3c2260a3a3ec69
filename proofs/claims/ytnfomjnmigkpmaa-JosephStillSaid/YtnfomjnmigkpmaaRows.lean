/-
  No cell of these rows narrows 'for every input' (looked for: loops, veiled, ifaces, maps, wideKeys, modest, calm, conditions, laid).
  DERIVED. THE GIVEN ROWS OF THIS SEAT. 2 by the template 'for every input the law returns true; each argument reads behind the call as it read before'; 0 by the template 'total and deterministic' (their statements: YtnfomjnmigkpmaaTotals.lean).
  GIVEN WITH THE SEED: the statements are not yours to turn. If you find one false, say at which input.
  Laid BY PROGRAM, IN A SANDBOX (cutbox-rows.mjs): the forced cells as the released guide's own fill.sh prints them over the translation 4e277c36a61099b3… (all of the seat's roots in one cut). By AI agents, Wed Nov 11 2026. No macro, syntax, notation, axiom, sorry.
-/
import Derived.Test.YtnfomjnmigkpmaaChecked
import GoSem.Claim
import GoSem.ClaimJoined
import GoSem.ClaimMapViews
import Derived.JoinedTies
import Derived.KernelRfl
namespace Go.Proofs.Ytnfomjnmigkpmaa
/- THE CELL 'sum', in the pinned program and in every row, IS THE sha256 OF THE DUMP (.gsa) THAT YtnfomjnmigkpmaaProg.lean LOADS. Nothing in Lean hashes anything: it is a label: what it is worth is what the hold of that sum in a sandbox is worth. -/
noncomputable def Try.pinned : Pinned := { name := "ytnfomjnmigkpmaa", sum := "4e277c36a61099b3a74be48940212c4858fd262c20defa05aa1116556c5768a6", checked := Try.checked }
namespace Rows
def none {H : Type} : Left H := { results := [], args := [] }

/-- 'coupletlaw09.JosephWrong': WHATEVER THE INPUT: true; the input reads as it did. -/
def josephWrongSpec : ChangeSpec := { name := "josephWrong", fn := fun _ => fun
  | [d1, d2] => { results := [.lit (.bool true)], args := [d1, d2] }
  | _ => none }
def josephWrongRow : OpenClaim := { program := "ytnfomjnmigkpmaa", sum := "4e277c36a61099b3a74be48940212c4858fd262c20defa05aa1116556c5768a6", func := "couplet/coupletlaw09.JosephWrong", spec := "josephWrong", unfollowed := true, recurses := true, apart := false }
def JosephWrongSaid : Prop := josephWrongRow.holds Try.pinned (OpenSpec.ofChange josephWrongSpec)

/-- ITS FALSE NEIGHBOUR: 'it returns false'. Refute it at one input. -/
def josephWrongWrong : ChangeSpec := { name := "josephWrong", fn := fun _ => fun
  | [d1, d2] => { results := [.lit (.bool false)], args := [d1, d2] }
  | _ => none }
def JosephWrongWrongFalsely : Prop := josephWrongRow.holds Try.pinned (OpenSpec.ofChange josephWrongWrong)

/-- 'coupletlaw09.JosephStill': WHATEVER THE INPUT: true; the input reads as it did. -/
def josephStillSpec : ChangeSpec := { name := "josephStill", fn := fun _ => fun
  | [d] => { results := [.lit (.bool true)], args := [d] }
  | _ => none }
def josephStillRow : OpenClaim := { program := "ytnfomjnmigkpmaa", sum := "4e277c36a61099b3a74be48940212c4858fd262c20defa05aa1116556c5768a6", func := "couplet/coupletlaw09.JosephStill", spec := "josephStill", unfollowed := true, recurses := true, apart := false }
def JosephStillSaid : Prop := josephStillRow.holds Try.pinned (OpenSpec.ofChange josephStillSpec)

/-- ITS FALSE NEIGHBOUR: 'it returns false'. Refute it at one input. -/
def josephStillWrong : ChangeSpec := { name := "josephStill", fn := fun _ => fun
  | [d] => { results := [.lit (.bool false)], args := [d] }
  | _ => none }
def JosephStillWrongFalsely : Prop := josephStillRow.holds Try.pinned (OpenSpec.ofChange josephStillWrong)

/- THE SECOND FORM. 'bulk': how many values and letters a reading holds, each counted each time it is reached (what is shared counts as often as it is met; a slice's spare places count too). A statement '..UptoSaid' is the law's where the arguments, and the package variables that the reading takes, are together of bulk at most 1048576: NARROWER than '..Said'. Prove '..Said' where nothing that the law and all that it calls make is longer than what came in: it says more and counts as full. Else prove '..UptoSaid'. A law counts once. -/
mutual
def uptoBulk {H : Type} : DataW H → Nat
  | .lit (.string bytes) => bytes.length + 1
  | .lit _ => 1
  | .nil => 1
  | .ptr d => uptoBulk d + 1
  | .slice elems spare => uptoBulkAll elems + uptoBulkAll spare + 1
  | .agg parts => uptoBulkAll parts + 1
  | .iface _ d => uptoBulk d + 1
  | .map entries => uptoBulkEntries entries + 1
  | .held _ => 1
def uptoBulkAll {H : Type} : List (DataW H) → Nat
  | [] => 0
  | d :: r => uptoBulk d + uptoBulkAll r
def uptoBulkEntries {H : Type} : List (Lit × DataW H) → Nat
  | [] => 0
  | x :: r => uptoBulkEntry x + uptoBulkEntries r
def uptoBulkEntry {H : Type} : Lit × DataW H → Nat
  | (.string bytes, d) => bytes.length + uptoBulk d + 1
  | (_, d) => uptoBulk d + 1
 end
def uptoSmall : (H : Type) → List (DataW H) → Bool := fun _ ds => decide (uptoBulkAll ds ≤ 1048576)
def OpenSpec.upto (s : _root_.Go.ChangeSpec) : _root_.Go.OpenSpec := { _root_.Go.OpenSpec.ofChange s with cond := some uptoSmall }

/-- 'coupletlaw09.JosephWrong', WHERE WHAT IT READS IS OF BULK AT MOST 1048576: true; the input reads as it did. -/
def josephWrongUptoRow : OpenClaim := { program := "ytnfomjnmigkpmaa", sum := "4e277c36a61099b3a74be48940212c4858fd262c20defa05aa1116556c5768a6", func := "couplet/coupletlaw09.JosephWrong", spec := "josephWrong", unfollowed := true, recurses := true, apart := false, narrowed := true }
def JosephWrongUptoSaid : Prop := josephWrongUptoRow.holds Try.pinned (OpenSpec.upto josephWrongSpec)

/-- 'coupletlaw09.JosephStill', WHERE WHAT IT READS IS OF BULK AT MOST 1048576: true; the input reads as it did. -/
def josephStillUptoRow : OpenClaim := { program := "ytnfomjnmigkpmaa", sum := "4e277c36a61099b3a74be48940212c4858fd262c20defa05aa1116556c5768a6", func := "couplet/coupletlaw09.JosephStill", spec := "josephStill", unfollowed := true, recurses := true, apart := false, narrowed := true }
def JosephStillUptoSaid : Prop := josephStillUptoRow.holds Try.pinned (OpenSpec.upto josephStillSpec)

end Rows
end Go.Proofs.Ytnfomjnmigkpmaa
