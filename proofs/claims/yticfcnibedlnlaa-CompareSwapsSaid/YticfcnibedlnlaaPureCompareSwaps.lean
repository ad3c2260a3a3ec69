/- The law CompareSwaps as a function of numbers: it is true of any two numbers. -/
import Derived.Test.YticfcnibedlnlaaPCompareSwapsx1
namespace Go.Proofs.Yticfcnibedlnlaa.Pure
open Go.RowKit Go.Proofs.Yticfcnibedlnlaa.PCompareSwaps Go.Proofs.YticfcnibedlnlaaW.PrintWords

theorem awakeS : coupletlaw16_awake.f = some true := by
  unfold coupletlaw16_awake.f compare_Gap.f env_Num_Fine.f fx_Right.f
  decide +kernel

theorem fineS (v l h : Int) (b : Bool) : ∃ r, env_Num_Fine.f v l h b = some r ∧ (r = true → -1125899906842624 ≤ l ∧ l ≤ v ∧ v ≤ h ∧ h ≤ 1125899906842624) := by
  unfold env_Num_Fine.f fx_Right.f
  repeat' split
  all_goals (try simp only [Option.bind_some])
  all_goals (repeat' split)
  all_goals (refine ⟨_, rfl, ?_⟩; intro hr; simp_all)

theorem CompareSwaps_f (a0 a1 a2 : Int) (a3 : Bool) (b0 b1 b2 : Int) (b3 : Bool) : coupletlaw16_CompareSwaps.f 1 a0 a1 a2 a3 b0 b1 b2 b3 = some true := by
  obtain ⟨r, hr, hr1⟩ := fineS a0 a1 a2 a3
  obtain ⟨s, hs, hs1⟩ := fineS b0 b1 b2 b3
  unfold coupletlaw16_CompareSwaps.f compare_Gap.f
  rw [hr, hs]
  simp only [Option.bind_some]
  cases r <;> cases s <;> simp [coupletlaw16_CompareSwaps.j0, awakeS]
  have h1 := hr1 rfl
  have h2 := hs1 rfl
  have w1 : wrap64 (a1 - b2) = a1 - b2 := by unfold wrap64; omega
  have w2 : wrap64 (b1 - a2) = b1 - a2 := by unfold wrap64; omega
  have w3 : wrap64 (a0 - b0) = a0 - b0 := by unfold wrap64; omega
  have w4 : wrap64 (b0 - a0) = b0 - a0 := by unfold wrap64; omega
  rw [w1, w2, w3, w4]
  unfold mx
  omega

theorem CompareSwaps_calls (a0 a1 a2 : Int) (a3 : Bool) (b0 b1 b2 : Int) (b3 : Bool) (w : World) (_ : (Lit.int .i64 a0).wf = true) (_ : (Lit.int .i64 a1).wf = true) (_ : (Lit.int .i64 a2).wf = true)
    (_ : (Lit.int .i64 b0).wf = true) (_ : (Lit.int .i64 b1).wf = true) (_ : (Lit.int .i64 b2).wf = true) :
    Calls Try.prog 3 #[.agg #[.int .i64 a0, .int .i64 a1, .int .i64 a2, .bool a3], .agg #[.int .i64 b0, .int .i64 b1, .int .i64 b2, .bool b3]] w fun e w' => e = .returned (.bool true) ∧ Below w.heap.size w w' :=
  coupletlaw16_CompareSwaps.calls 1 a0 a1 a2 a3 b0 b1 b2 b3 true w (CompareSwaps_f a0 a1 a2 a3 b0 b1 b2 b3)

end Go.Proofs.Yticfcnibedlnlaa.Pure
