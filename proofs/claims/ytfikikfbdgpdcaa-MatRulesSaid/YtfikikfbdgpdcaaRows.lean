/-
  No cell of these rows narrows 'for every input' (looked for: loops, veiled, ifaces, maps, wideKeys, modest, calm, conditions, laid).
  DERIVED. THE GIVEN ROWS OF THIS SEAT. 7 by the template 'for every input the law returns true; each argument reads behind the call as it read before'; 0 by the template 'total and deterministic' (their statements: YtfikikfbdgpdcaaTotals.lean).
  GIVEN WITH THE SEED: the statements are not yours to turn. If you find one false, say at which input.
  Laid BY PROGRAM, IN A SANDBOX (cutbox-rows.mjs): the forced cells as the released guide's own fill.sh prints them over the translation bf6b5e5fafcbd6b9… (all of the seat's roots in one cut). By AI agents, Wed Nov 11 2026. No macro, syntax, notation, axiom, sorry.
-/
import Derived.Test.YtfikikfbdgpdcaaChecked
import GoSem.Claim
import GoSem.ClaimJoined
import GoSem.ClaimMapViews
import Derived.JoinedTies
import Derived.KernelRfl
namespace Go.Proofs.Ytfikikfbdgpdcaa
/- THE CELL 'sum', in the pinned program and in every row, IS THE sha256 OF THE DUMP (.gsa) THAT YtfikikfbdgpdcaaProg.lean LOADS. Nothing in Lean hashes anything: it is a label: what it is worth is what the hold of that sum in a sandbox is worth. -/
noncomputable def Try.pinned : Pinned := { name := "ytfikikfbdgpdcaa", sum := "bf6b5e5fafcbd6b9e6f78831084668f339a7847052233ffc0d0399b1a6dff1bf", checked := Try.checked }
namespace Rows
def none {H : Type} : Left H := { results := [], args := [] }

/-- 'coupletlaw06.MatMul': WHATEVER THE INPUT: true; the input reads as it did. -/
def matMulSpec : ChangeSpec := { name := "matMul", fn := fun _ => fun
  | [d1, d2, d3, d4, d5] => { results := [.lit (.bool true)], args := [d1, d2, d3, d4, d5] }
  | _ => none }
def matMulRow : OpenClaim := { program := "ytfikikfbdgpdcaa", sum := "bf6b5e5fafcbd6b9e6f78831084668f339a7847052233ffc0d0399b1a6dff1bf", func := "couplet/coupletlaw06.MatMul", spec := "matMul", unfollowed := true, recurses := true, apart := false }
def MatMulSaid : Prop := matMulRow.holds Try.pinned (OpenSpec.ofChange matMulSpec)

/-- ITS FALSE NEIGHBOUR: 'it returns false'. Refute it at one input. -/
def matMulWrong : ChangeSpec := { name := "matMul", fn := fun _ => fun
  | [d1, d2, d3, d4, d5] => { results := [.lit (.bool false)], args := [d1, d2, d3, d4, d5] }
  | _ => none }
def MatMulWrongFalsely : Prop := matMulRow.holds Try.pinned (OpenSpec.ofChange matMulWrong)

/-- 'coupletlaw06.MatNew': WHATEVER THE INPUT: true; the input reads as it did. -/
def matNewSpec : ChangeSpec := { name := "matNew", fn := fun _ => fun
  | [d1, d2, d3, d4, d5] => { results := [.lit (.bool true)], args := [d1, d2, d3, d4, d5] }
  | _ => none }
def matNewRow : OpenClaim := { program := "ytfikikfbdgpdcaa", sum := "bf6b5e5fafcbd6b9e6f78831084668f339a7847052233ffc0d0399b1a6dff1bf", func := "couplet/coupletlaw06.MatNew", spec := "matNew", unfollowed := true, recurses := true, apart := false }
def MatNewSaid : Prop := matNewRow.holds Try.pinned (OpenSpec.ofChange matNewSpec)

/-- ITS FALSE NEIGHBOUR: 'it returns false'. Refute it at one input. -/
def matNewWrong : ChangeSpec := { name := "matNew", fn := fun _ => fun
  | [d1, d2, d3, d4, d5] => { results := [.lit (.bool false)], args := [d1, d2, d3, d4, d5] }
  | _ => none }
def MatNewWrongFalsely : Prop := matNewRow.holds Try.pinned (OpenSpec.ofChange matNewWrong)

/-- 'coupletlaw06.MatApplies': WHATEVER THE INPUT: true; the input reads as it did. -/
def matAppliesSpec : ChangeSpec := { name := "matApplies", fn := fun _ => fun
  | [d1, d2, d3, d4, d5] => { results := [.lit (.bool true)], args := [d1, d2, d3, d4, d5] }
  | _ => none }
def matAppliesRow : OpenClaim := { program := "ytfikikfbdgpdcaa", sum := "bf6b5e5fafcbd6b9e6f78831084668f339a7847052233ffc0d0399b1a6dff1bf", func := "couplet/coupletlaw06.MatApplies", spec := "matApplies", unfollowed := true, recurses := true, apart := false }
def MatAppliesSaid : Prop := matAppliesRow.holds Try.pinned (OpenSpec.ofChange matAppliesSpec)

/-- ITS FALSE NEIGHBOUR: 'it returns false'. Refute it at one input. -/
def matAppliesWrong : ChangeSpec := { name := "matApplies", fn := fun _ => fun
  | [d1, d2, d3, d4, d5] => { results := [.lit (.bool false)], args := [d1, d2, d3, d4, d5] }
  | _ => none }
def MatAppliesWrongFalsely : Prop := matAppliesRow.holds Try.pinned (OpenSpec.ofChange matAppliesWrong)

/-- 'coupletlaw06.MatRules': WHATEVER THE INPUT: true; the input reads as it did. -/
def matRulesSpec : ChangeSpec := { name := "matRules", fn := fun _ => fun
  | [d1, d2, d3, d4] => { results := [.lit (.bool true)], args := [d1, d2, d3, d4] }
  | _ => none }
def matRulesRow : OpenClaim := { program := "ytfikikfbdgpdcaa", sum := "bf6b5e5fafcbd6b9e6f78831084668f339a7847052233ffc0d0399b1a6dff1bf", func := "couplet/coupletlaw06.MatRules", spec := "matRules", unfollowed := true, recurses := true, apart := false }
def MatRulesSaid : Prop := matRulesRow.holds Try.pinned (OpenSpec.ofChange matRulesSpec)

/-- ITS FALSE NEIGHBOUR: 'it returns false'. Refute it at one input. -/
def matRulesWrong : ChangeSpec := { name := "matRules", fn := fun _ => fun
  | [d1, d2, d3, d4] => { results := [.lit (.bool false)], args := [d1, d2, d3, d4] }
  | _ => none }
def MatRulesWrongFalsely : Prop := matRulesRow.holds Try.pinned (OpenSpec.ofChange matRulesWrong)

/-- 'coupletlaw06.MatSpreads': WHATEVER THE INPUT: true; the input reads as it did. -/
def matSpreadsSpec : ChangeSpec := { name := "matSpreads", fn := fun _ => fun
  | [d1, d2, d3, d4] => { results := [.lit (.bool true)], args := [d1, d2, d3, d4] }
  | _ => none }
def matSpreadsRow : OpenClaim := { program := "ytfikikfbdgpdcaa", sum := "bf6b5e5fafcbd6b9e6f78831084668f339a7847052233ffc0d0399b1a6dff1bf", func := "couplet/coupletlaw06.MatSpreads", spec := "matSpreads", unfollowed := true, recurses := true, apart := false }
def MatSpreadsSaid : Prop := matSpreadsRow.holds Try.pinned (OpenSpec.ofChange matSpreadsSpec)

/-- ITS FALSE NEIGHBOUR: 'it returns false'. Refute it at one input. -/
def matSpreadsWrong : ChangeSpec := { name := "matSpreads", fn := fun _ => fun
  | [d1, d2, d3, d4] => { results := [.lit (.bool false)], args := [d1, d2, d3, d4] }
  | _ => none }
def MatSpreadsWrongFalsely : Prop := matSpreadsRow.holds Try.pinned (OpenSpec.ofChange matSpreadsWrong)

/-- 'coupletlaw06.MatEncloses': WHATEVER THE INPUT: true; the input reads as it did. -/
def matEnclosesSpec : ChangeSpec := { name := "matEncloses", fn := fun _ => fun
  | [d1, d2, d3, d4, d5] => { results := [.lit (.bool true)], args := [d1, d2, d3, d4, d5] }
  | _ => none }
def matEnclosesRow : OpenClaim := { program := "ytfikikfbdgpdcaa", sum := "bf6b5e5fafcbd6b9e6f78831084668f339a7847052233ffc0d0399b1a6dff1bf", func := "couplet/coupletlaw06.MatEncloses", spec := "matEncloses", unfollowed := true, recurses := true, apart := false }
def MatEnclosesSaid : Prop := matEnclosesRow.holds Try.pinned (OpenSpec.ofChange matEnclosesSpec)

/-- ITS FALSE NEIGHBOUR: 'it returns false'. Refute it at one input. -/
def matEnclosesWrong : ChangeSpec := { name := "matEncloses", fn := fun _ => fun
  | [d1, d2, d3, d4, d5] => { results := [.lit (.bool false)], args := [d1, d2, d3, d4, d5] }
  | _ => none }
def MatEnclosesWrongFalsely : Prop := matEnclosesRow.holds Try.pinned (OpenSpec.ofChange matEnclosesWrong)

/-- 'coupletlaw06.MatSums': WHATEVER THE INPUT: true; the input reads as it did. -/
def matSumsSpec : ChangeSpec := { name := "matSums", fn := fun _ => fun
  | [d1, d2, d3, d4] => { results := [.lit (.bool true)], args := [d1, d2, d3, d4] }
  | _ => none }
def matSumsRow : OpenClaim := { program := "ytfikikfbdgpdcaa", sum := "bf6b5e5fafcbd6b9e6f78831084668f339a7847052233ffc0d0399b1a6dff1bf", func := "couplet/coupletlaw06.MatSums", spec := "matSums", unfollowed := true, recurses := true, apart := false }
def MatSumsSaid : Prop := matSumsRow.holds Try.pinned (OpenSpec.ofChange matSumsSpec)

/-- ITS FALSE NEIGHBOUR: 'it returns false'. Refute it at one input. -/
def matSumsWrong : ChangeSpec := { name := "matSums", fn := fun _ => fun
  | [d1, d2, d3, d4] => { results := [.lit (.bool false)], args := [d1, d2, d3, d4] }
  | _ => none }
def MatSumsWrongFalsely : Prop := matSumsRow.holds Try.pinned (OpenSpec.ofChange matSumsWrong)

/- THE SECOND FORM. 'bulk': how many values and letters a reading holds, each counted each time it is reached (what is shared counts as often as it is met; a slice's spare places count too). A statement '..UptoSaid' is the law's where the arguments, and the package variables that the reading takes, are together of bulk at most 1048576: NARROWER than '..Said'. Prove '..Said' where nothing that the law and all that it calls make is longer than what came in: it says more and counts as full. Else prove '..UptoSaid'. A law counts once. -/
mutual
def uptoBulk {H : Type} : DataW H → Nat
  | .lit (.string bytes) => bytes.length + 1
  | .lit _ => 1
  | .nil => 1
  | .ptr d => uptoBulk d + 1
  | .slice elems spare => uptoBulkAll elems + uptoBulkAll spare + 1
  | .agg parts => uptoBulkAll parts + 1
  | .iface _ d => uptoBulk d + 1
  | .map entries => uptoBulkEntries entries + 1
  | .held _ => 1
def uptoBulkAll {H : Type} : List (DataW H) → Nat
  | [] => 0
  | d :: r => uptoBulk d + uptoBulkAll r
def uptoBulkEntries {H : Type} : List (Lit × DataW H) → Nat
  | [] => 0
  | x :: r => uptoBulkEntry x + uptoBulkEntries r
def uptoBulkEntry {H : Type} : Lit × DataW H → Nat
  | (.string bytes, d) => bytes.length + uptoBulk d + 1
  | (_, d) => uptoBulk d + 1
 end
def uptoSmall : (H : Type) → List (DataW H) → Bool := fun _ ds => decide (uptoBulkAll ds ≤ 1048576)
def OpenSpec.upto (s : _root_.Go.ChangeSpec) : _root_.Go.OpenSpec := { _root_.Go.OpenSpec.ofChange s with cond := some uptoSmall }

/-- 'coupletlaw06.MatMul', WHERE WHAT IT READS IS OF BULK AT MOST 1048576: true; the input reads as it did. -/
def matMulUptoRow : OpenClaim := { program := "ytfikikfbdgpdcaa", sum := "bf6b5e5fafcbd6b9e6f78831084668f339a7847052233ffc0d0399b1a6dff1bf", func := "couplet/coupletlaw06.MatMul", spec := "matMul", unfollowed := true, recurses := true, apart := false, narrowed := true }
def MatMulUptoSaid : Prop := matMulUptoRow.holds Try.pinned (OpenSpec.upto matMulSpec)

/-- 'coupletlaw06.MatNew', WHERE WHAT IT READS IS OF BULK AT MOST 1048576: true; the input reads as it did. -/
def matNewUptoRow : OpenClaim := { program := "ytfikikfbdgpdcaa", sum := "bf6b5e5fafcbd6b9e6f78831084668f339a7847052233ffc0d0399b1a6dff1bf", func := "couplet/coupletlaw06.MatNew", spec := "matNew", unfollowed := true, recurses := true, apart := false, narrowed := true }
def MatNewUptoSaid : Prop := matNewUptoRow.holds Try.pinned (OpenSpec.upto matNewSpec)

/-- 'coupletlaw06.MatApplies', WHERE WHAT IT READS IS OF BULK AT MOST 1048576: true; the input reads as it did. -/
def matAppliesUptoRow : OpenClaim := { program := "ytfikikfbdgpdcaa", sum := "bf6b5e5fafcbd6b9e6f78831084668f339a7847052233ffc0d0399b1a6dff1bf", func := "couplet/coupletlaw06.MatApplies", spec := "matApplies", unfollowed := true, recurses := true, apart := false, narrowed := true }
def MatAppliesUptoSaid : Prop := matAppliesUptoRow.holds Try.pinned (OpenSpec.upto matAppliesSpec)

/-- 'coupletlaw06.MatRules', WHERE WHAT IT READS IS OF BULK AT MOST 1048576: true; the input reads as it did. -/
def matRulesUptoRow : OpenClaim := { program := "ytfikikfbdgpdcaa", sum := "bf6b5e5fafcbd6b9e6f78831084668f339a7847052233ffc0d0399b1a6dff1bf", func := "couplet/coupletlaw06.MatRules", spec := "matRules", unfollowed := true, recurses := true, apart := false, narrowed := true }
def MatRulesUptoSaid : Prop := matRulesUptoRow.holds Try.pinned (OpenSpec.upto matRulesSpec)

/-- 'coupletlaw06.MatSpreads', WHERE WHAT IT READS IS OF BULK AT MOST 1048576: true; the input reads as it did. -/
def matSpreadsUptoRow : OpenClaim := { program := "ytfikikfbdgpdcaa", sum := "bf6b5e5fafcbd6b9e6f78831084668f339a7847052233ffc0d0399b1a6dff1bf", func := "couplet/coupletlaw06.MatSpreads", spec := "matSpreads", unfollowed := true, recurses := true, apart := false, narrowed := true }
def MatSpreadsUptoSaid : Prop := matSpreadsUptoRow.holds Try.pinned (OpenSpec.upto matSpreadsSpec)

/-- 'coupletlaw06.MatEncloses', WHERE WHAT IT READS IS OF BULK AT MOST 1048576: true; the input reads as it did. -/
def matEnclosesUptoRow : OpenClaim := { program := "ytfikikfbdgpdcaa", sum := "bf6b5e5fafcbd6b9e6f78831084668f339a7847052233ffc0d0399b1a6dff1bf", func := "couplet/coupletlaw06.MatEncloses", spec := "matEncloses", unfollowed := true, recurses := true, apart := false, narrowed := true }
def MatEnclosesUptoSaid : Prop := matEnclosesUptoRow.holds Try.pinned (OpenSpec.upto matEnclosesSpec)

/-- 'coupletlaw06.MatSums', WHERE WHAT IT READS IS OF BULK AT MOST 1048576: true; the input reads as it did. -/
def matSumsUptoRow : OpenClaim := { program := "ytfikikfbdgpdcaa", sum := "bf6b5e5fafcbd6b9e6f78831084668f339a7847052233ffc0d0399b1a6dff1bf", func := "couplet/coupletlaw06.MatSums", spec := "matSums", unfollowed := true, recurses := true, apart := false, narrowed := true }
def MatSumsUptoSaid : Prop := matSumsUptoRow.holds Try.pinned (OpenSpec.upto matSumsSpec)

end Rows
end Go.Proofs.Ytfikikfbdgpdcaa
