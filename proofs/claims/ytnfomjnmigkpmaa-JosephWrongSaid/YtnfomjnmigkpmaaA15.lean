/- The law of 'stepA'. -/
import Derived.Test.YtnfomjnmigkpmaaA14
set_option linter.unusedVariables false
set_option linter.unusedSimpArgs false
namespace Go.Proofs.Ytnfomjnmigkpmaa.A
open Go Go.RowKit

section
variable {P : Program} {w0 w w' : World} {I0 I J : Imm} {β : Nat → Nat} {κ : Nat → Nat × Nat × Nat} {s s' : St} {sav : List (Array Value)} {a : Act} {tk : Nat → Nat}

theorem goes_call {o : Oper} {i : Inf} {c : Call} (ho : o.op = .call c) (h : Sim w0 I0 I β κ s sav a w) (hi : infOk' P o.op i = true) (hs : stepA s o.dst o.op i = some s') : Goes P w0 I0 I sav o a w s' := by
  obtain ⟨callee, args, argTypes⟩ := c
  rw [ho] at hi hs
  by_cases hap : callee = .builtin .append
  · subst hap
    simp only [infOk'] at hi
    simp only [stepA] at hs
    split at hs
    · rename_i x y d hc hargs hd
      split at hs
      · rename_i tv ys hx hy
        obtain ⟨p, hp, hr⟩ := Option.bind_eq_some_iff.1 hy
        split at hi
        · rename_i t t' _ hts
          split at hi
          · rename_i e he
            simp only [Bool.and_eq_true, beq_iff_eq, bne_iff_ne, ne_eq] at hi
            obtain ⟨⟨⟨⟨h1, h2⟩, h3⟩, h4⟩, h5⟩ := hi
            split at h5
            · rename_i z hz
              simp only [beq_iff_eq] at h5
              obtain ⟨ti, hti, hzz⟩ := Option.bind_eq_some_iff.1 hz
              have T : AppTy P t t' e z ti i.n i.t :=
                { te := he, te' := Option.isSome_iff_exists.1 h1, info := hti, size := by simpa [tSize, hti] using h2, bts := by simpa [hti] using h4, zero := hzz, zsize := h5, pos := h3 }
              obtain ⟨v, w', J, β', κ', hrun, hIJ, hk, hsim⟩ := app_sound (ty := o.type) T h hx hp hr hs
              have ha : args = #[x, y] := by obtain ⟨args⟩ := args; simpa using hargs
              have hat : argTypes = #[t, t'] := by obtain ⟨argTypes⟩ := argTypes; simpa using hts
              subst ha
              subst hat
              exact ⟨v, w', J, β', κ', .inl (by simp [execOp, ho, resolve, invoke, builtin, hrun]), hIJ, hk, by rw [hd]; exact hsim⟩
            · cases h5
          · cases hi
        · cases hi
        · simp_all
      · cases hs
    · exfalso
      obtain ⟨tv, h1, _⟩ := Option.map_eq_some_iff.1 hs
      simp [valA] at h1
  · have e1 : stepA s o.dst (.call ⟨callee, args, argTypes⟩) i = (valA s (.call ⟨callee, args, argTypes⟩) i).map (putT s o.dst) := by
      simp only [stepA]
      split <;> simp_all
    have e2 : infOk' P (.call ⟨callee, args, argTypes⟩) i = infOk P (.call ⟨callee, args, argTypes⟩) i := by
      simp only [infOk']
      split <;> simp_all
    rw [e1] at hs
    rw [e2] at hi
    exact goes_map (o := o) (i := i) h (by rw [ho]; exact hi) (by rw [ho]; exact hs)

theorem goes_step {o : Oper} {i : Inf} (h : Sim w0 I0 I β κ s sav a w) (hi : infOk' P o.op i = true) (hs : stepA s o.dst o.op i = some s') : Goes P w0 I0 I sav o a w s' := by
  cases ho : o.op with
  | alloc t => exact goes_alloc ho h hi hs
  | box t x => exact goes_box ho h hs
  | makeSlice t l c => exact goes_make ho h hi hs
  | store t x y => exact goes_store ho h hi hs
  | buildSlice t len parts => exact goes_lit ho h hi hs
  | call c => exact goes_call ho h hi hs
  | assign x =>
    by_cases hx : x = .const (.slice none 0 0)
    · subst hx; exact goes_nilAcc ho h hs
    · rw [ho] at hi hs
      refine goes_map (o := o) (i := i) h (by rw [ho]; exact hi) ?_
      rw [ho]
      unfold stepA at hs
      split at hs <;> first | exact hs | (rename_i e; cases e) | skip
      · exact absurd rfl hx
  | _ =>
    rw [ho] at hi hs
    exact goes_map (o := o) (i := i) h (by rw [ho]; exact hi) (by rw [ho]; exact hs)

end
end Go.Proofs.Ytnfomjnmigkpmaa.A
