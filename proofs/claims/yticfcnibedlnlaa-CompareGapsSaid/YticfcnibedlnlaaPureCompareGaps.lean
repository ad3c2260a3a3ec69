/- The law CompareGaps as a function of numbers: it is true of any two numbers. -/
import Derived.Test.YticfcnibedlnlaaPCompareGapsx2
namespace Go.Proofs.Yticfcnibedlnlaa.Pure
open Go.RowKit Go.Proofs.Yticfcnibedlnlaa.PCompareGaps Go.Proofs.YticfcnibedlnlaaW.PrintWords

theorem awakeG : coupletlaw16_awake.f = some true := by
  unfold coupletlaw16_awake.f compare_Gap.f env_Num_Fine.f fx_Right.f
  decide +kernel

theorem refFine (v l h : Int) (b : Bool) : coupletref03_Fine.f v l h b = env_Num_Fine.f v l h b := rfl

theorem fineG (v l h : Int) (b : Bool) : ∃ r, env_Num_Fine.f v l h b = some r ∧ (r = true → b = false ∧ -1125899906842624 ≤ l ∧ l ≤ v ∧ v ≤ h ∧ h ≤ 1125899906842624) := by
  unfold env_Num_Fine.f fx_Right.f
  repeat' split
  all_goals (try simp only [Option.bind_some])
  all_goals (repeat' split)
  all_goals (refine ⟨_, rfl, ?_⟩; intro hr; simp_all)

theorem CompareGaps_f (a0 a1 a2 : Int) (a3 : Bool) (b0 b1 b2 : Int) (b3 : Bool) : coupletlaw16_CompareGaps.f 1 a0 a1 a2 a3 b0 b1 b2 b3 = some true := by
  obtain ⟨r, hr, hr1⟩ := fineG a0 a1 a2 a3
  obtain ⟨s, hs, hs1⟩ := fineG b0 b1 b2 b3
  unfold coupletlaw16_CompareGaps.f compare_Gap.f coupletlaw03_Given.f coupletref16_Gap.f
  simp only [refFine, Option.bind_some]
  rw [hr, hs]
  simp only [Option.bind_some]
  cases r <;> cases s
  · simp [coupletlaw16_CompareGaps.j0, coupletref16_Gap.j0, awakeG, hr, hs]
  · simp [coupletlaw16_CompareGaps.j0, coupletref16_Gap.j0, awakeG, hr, hs]
  · simp [coupletlaw16_CompareGaps.j0, coupletref16_Gap.j0, awakeG, hr, hs]
  · have h1 := hr1 rfl
    have h2 := hs1 rfl
    obtain ⟨rfl, h1⟩ := h1
    obtain ⟨rfl, h2⟩ := h2
    have w1 : wrap64 (a1 - b2) = a1 - b2 := by unfold wrap64; omega
    have w2 : wrap64 (b1 - a2) = b1 - a2 := by unfold wrap64; omega
    have e1 : mx (mx (b1 - a2) (a1 - b2)) 0 = mx (mx (a1 - b2) (b1 - a2)) 0 := by unfold mx; omega
    have e0 : ¬ (mx (mx (a1 - b2) (b1 - a2)) 0 < 0) := by unfold mx; omega
    have em : decide (mx a1 b1 ≤ mn a2 b2) = (mx (mx (a1 - b2) (b1 - a2)) 0 == 0) := by
      rw [Bool.eq_iff_iff]
      simp only [decide_eq_true_eq, beq_iff_eq]
      unfold mx mn
      omega
    have er : (if a1 > b2 then some (wrap64 (a1 - b2)) else if b1 > a2 then some (wrap64 (b1 - a2)) else some 0) = some (mx (mx (a1 - b2) (b1 - a2)) 0) := by
      rw [w1, w2]
      unfold mx
      split
      · congr 1; omega
      · split <;> (congr 1; omega)
    simp only [if_true, Bool.not_true, Bool.false_eq_true, if_false, coupletref16_Gap.j0]
    rw [er, w1, w2]
    simp only [Option.bind_some, if_true, e1, coupletlaw16_CompareGaps.j0, decide_eq_false e0, hr, hs, env_Meet.f, em, awakeG, Bool.false_eq_true, if_false]
    simp

theorem CompareGaps_calls (a0 a1 a2 : Int) (a3 : Bool) (b0 b1 b2 : Int) (b3 : Bool) (w : World) (_ : (Lit.int .i64 a0).wf = true) (_ : (Lit.int .i64 a1).wf = true) (_ : (Lit.int .i64 a2).wf = true)
    (_ : (Lit.int .i64 b0).wf = true) (_ : (Lit.int .i64 b1).wf = true) (_ : (Lit.int .i64 b2).wf = true) :
    Calls Try.prog 4 #[.agg #[.int .i64 a0, .int .i64 a1, .int .i64 a2, .bool a3], .agg #[.int .i64 b0, .int .i64 b1, .int .i64 b2, .bool b3]] w fun e w' => e = .returned (.bool true) ∧ Below w.heap.size w w' :=
  coupletlaw16_CompareGaps.calls 1 a0 a1 a2 a3 b0 b1 b2 b3 true w (CompareGaps_f a0 a1 a2 a3 b0 b1 b2 b3)

end Go.Proofs.Yticfcnibedlnlaa.Pure
