/- What 'valA' tells, the model tells. -/
import Derived.Test.YtnfomjnmigkpmaaA9
set_option linter.unusedVariables false
set_option linter.unusedSimpArgs false
namespace Go.Proofs.Ytnfomjnmigkpmaa.A
open Go Go.RowKit

section
variable {P : Program} {w0 w : World} {I0 I : Imm} {β : Nat → Nat} {κ : Nat → Nat × Nat × Nat} {s : St} {sav : List (Array Value)} {a : Act} {tk : Nat → Nat}

theorem R.inv {x : PV} {u : Value} (h : R I β κ tk (.v x) u) : C I x u := by cases h with | v h => exact h
theorem C.inv_s {v u : Value} (h : C I (.s v) u) : u = v := by cases h; rfl
theorem C.inv_agg {l : List PV} {u : Value} (h : C I (.agg l) u) : ∃ arr, u = .agg arr ∧ Cs I l arr.toList := by cases h with | agg h => exact ⟨_, rfl, h⟩
theorem C.inv_fn {f : Fn} {l : List PV} {u : Value} (h : C I (.fn f l) u) : ∃ arr, u = .func f #[] arr ∧ Cs I l arr.toList := by cases h with | fn h => exact ⟨_, rfl, h⟩

theorem eqIn_slice_nil (d : Nat) {t e : TypeId} (h : P.underlying t = some (.slice e)) (x : Addr) (n c n' c' : Nat) (w : World) : (Op.equalIn (d + 1) t (.slice (some x) n c) (.slice none n' c')).run P w = .ok false w := by
  simp only [Op.equalIn, Sem.run_bind, run_underlying h, Result.andThen_ok]; rfl
theorem eqIn_nil_slice (d : Nat) {t e : TypeId} (h : P.underlying t = some (.slice e)) (x : Option Addr) (n c n' c' : Nat) (w : World) : (Op.equalIn (d + 1) t (.slice none n c) (.slice x n' c')).run P w = .ok x.isNone w := by
  simp only [Op.equalIn, Sem.run_bind, run_underlying h, Result.andThen_ok]; rfl
theorem eqIn_func_nil (d : Nat) {t : TypeId} {p q : Array TypeId} {vr : Bool} (h : P.underlying t = some (.func p q vr)) (f : Fn) (x y : Array Value) (w : World) : (Op.equalIn (d + 1) t (.func f x y) .nilFunc).run P w = .ok false w := by
  simp only [Op.equalIn, Sem.run_bind, run_underlying h, Result.andThen_ok]; rfl
theorem eqIn_nil_nil (d : Nat) {t : TypeId} {p q : Array TypeId} {vr : Bool} (h : P.underlying t = some (.func p q vr)) (w : World) : (Op.equalIn (d + 1) t .nilFunc .nilFunc).run P w = .ok true w := by
  simp only [Op.equalIn, Sem.run_bind, run_underlying h, Result.andThen_ok]; rfl

/-- What the types of an equality are. -/
def eqTy (P : Program) (t : TypeId) (i : Inf) : Bool :=
  match P.underlying t with
  | some .bool => i.n == 1
  | some (.struct fs) => i.n == 2 && eqKinds P 0 fs.toList i.ks && !P.stoodInHeld t && !P.eqGuardType P.depth t
  | some (.slice _) => i.n == 3
  | some (.func _ _ _) => i.n == 4
  | some (.int _) => i.n == 0
  | _ => false

theorem eqTy_bool {t : TypeId} {i : Inf} (h : eqTy P t i = true) (hn : i.n = 1) : P.underlying t = some .bool := by
  unfold eqTy at h
  split at h <;> simp_all
theorem eqTy_struct {t : TypeId} {i : Inf} (h : eqTy P t i = true) (hn : i.n = 2) : ∃ fs, P.underlying t = some (.struct fs) ∧ eqKinds P 0 fs.toList i.ks = true ∧ P.stoodInHeld t = false ∧ P.eqGuardType P.depth t = false := by
  unfold eqTy at h
  split at h <;> first
    | (simp [hn] at h; done)
    | (rename_i fs hu
       simp only [Bool.and_eq_true, Bool.not_eq_true'] at h
       exact ⟨fs, hu, h.1.1.2, h.1.2, h.2⟩)
    | simp_all
theorem eqTy_slice {t : TypeId} {i : Inf} (h : eqTy P t i = true) (hn : i.n = 3) : ∃ e, P.underlying t = some (.slice e) := by
  unfold eqTy at h
  split at h <;> simp_all
theorem eqTy_func {t : TypeId} {i : Inf} (h : eqTy P t i = true) (hn : i.n = 4) : ∃ p q v, P.underlying t = some (.func p q v) := by
  unfold eqTy at h
  split at h <;> simp_all

/-- Neither a number, nor a string, ..: '==' is asked of the type. -/
def beyond (u : Value) : Prop := (∀ k m, u ≠ .int k m) ∧ (∀ k m, u ≠ .float k m) ∧ (∀ k m m', u ≠ .complex k m m') ∧ (∀ z, u ≠ .string z) ∧ u ≠ .nilIface

theorem run_equal_kind {t : TypeId} {x y : TV} {u v : Value} {i : Inf} {r : Bool} (hx : R I β κ tk x u) (hy : R I β κ tk y v) (h : eqA i x y = some r) (hi : eqTy P t i = true) :
    (Op.equal t u v).run P w = .ok r w ∧ ((∀ l, u ≠ .agg l) ∨ P.eqGuardType P.depth t = false) ∧ beyond u := by
  unfold eqA at h
  split at h
  · split at h
    · rename_i hn
      cases h
      obtain rfl := hx.inv.inv_s
      obtain rfl := hy.inv.inv_s
      exact ⟨run_equalIn_bool' w 9999 t _ _ (eqTy_bool hi hn), .inl (by simp), by simp [beyond]⟩
    · cases h
  · split at h
    · rename_i x y hn
      obtain ⟨xs, rfl, hxs⟩ := hx.inv.inv_agg
      obtain ⟨ys, rfl, hys⟩ := hy.inv.inv_agg
      obtain ⟨fs, hu, hk, hp, hg⟩ := eqTy_struct hi hn
      have hf : P.fieldsOf t = fs := by simp [Program.fieldsOf, hu]
      refine ⟨?_, .inr hg, by simp [beyond]⟩
      show (Op.equalIn (9999 + 1) t (.agg xs) (.agg ys)).run P w = _
      rw [run_equalIn_struct w _ t _ _ (by rw [hf]; exact hu) hp, hf]
      exact run_eqFields 9998 _ _ w fs.toList i.ks 0 _ _ r hk (by simpa using hxs) (by simpa using hys) h
    · cases h
  · split at h
    · rename_i t' els hn
      cases h
      obtain ⟨e, hu⟩ := eqTy_slice hi hn
      obtain rfl := hy.inv.inv_s
      cases hx with
      | acc0 => exact ⟨eqIn_nil_slice 9999 hu _ _ _ _ _ w, .inl (by simp), by simp [beyond]⟩
      | acc h1 =>
        refine ⟨?_, .inl (by simp), by simp [beyond]⟩
        have : els.isEmpty = false := by cases els <;> simp_all
        rw [this]
        exact eqIn_slice_nil 9999 hu _ _ _ _ _ w
    · cases h
  · split at h
    · rename_i ex els hn
      cases h
      obtain ⟨e, hu⟩ := eqTy_slice hi hn.1
      obtain rfl := hy.inv.inv_s
      cases hx.inv with
      | sl0 => simp at hn
      | sle => simp at hn
      | sl => exact ⟨eqIn_slice_nil 9999 hu _ _ _ _ _ w, .inl (by simp), by simp [beyond]⟩
    · cases h
  · split at h
    · rename_i hn
      cases h
      obtain ⟨e, hu⟩ := eqTy_slice hi hn
      obtain rfl := hx.inv.inv_s
      obtain rfl := hy.inv.inv_s
      exact ⟨eqIn_nil_slice 9999 hu _ _ _ _ _ w, .inl (by simp), by simp [beyond]⟩
    · cases h
  · split at h
    · rename_i hn
      cases h
      obtain ⟨p, q, e, hu⟩ := eqTy_func hi hn
      obtain ⟨arr, rfl, _⟩ := hx.inv.inv_fn
      obtain rfl := hy.inv.inv_s
      exact ⟨eqIn_func_nil 9999 hu _ _ _ w, .inl (by simp), by simp [beyond]⟩
    · cases h
  · split at h
    · rename_i hn
      cases h
      obtain ⟨p, q, e, hu⟩ := eqTy_func hi hn
      obtain rfl := hx.inv.inv_s
      obtain rfl := hy.inv.inv_s
      exact ⟨eqIn_nil_nil 9999 hu w, .inl (by simp), by simp [beyond]⟩
    · cases h
  · cases h

theorem run_eqGuard_struct {op : BinOp} {t : TypeId} {x y : Operand} {u v : Value} (hg : P.eqGuardType P.depth t = false) (hu : u ≠ .nilIface) (w : World) : (eqGuard op t x y u v).run P w = .ok () w := by
  cases u <;> first
    | exact absurd rfl hu
    | (cases op <;> simp [eqGuard]; done)
    | (cases v <;> cases op <;> simp [eqGuard, hg])

theorem run_bin {op : BinOp} {t yt : TypeId} {x y : Operand} {p q tv : TV} {u v : Value} {i : Inf} (hx : R I β κ tk p u) (hy : R I β κ tk q v) (h : binA op i p q = some tv) (hi : infOk P (.binOp op t x y yt) i = true) :
    ∃ r, (eqGuard op t x y u v).run P w = .ok () w ∧ (binOp op t u v).run P w = .ok r w ∧ R I β κ tk tv r := by
  unfold binA at h
  split at h
  · rename_i r hr
    cases h
    unfold num2 at hr
    split at hr
    · obtain rfl := hx.inv.inv_s
      obtain rfl := hy.inv.inv_s
      obtain ⟨h1, h2⟩ := binV_left hr
      exact ⟨r, run_eqGuard_num h1 h2 w, run_binV hr w, .v (.s r)⟩
    · cases hr
  · split at h
    · obtain ⟨b, hb, rfl⟩ := Option.map_eq_some_iff.1 h
      obtain ⟨g1, g2, g3, g4, g5, g6, g7⟩ := run_equal_kind (w := w) hx hy hb (t := t) hi
      have e : binOp .eql t u v = (do pure (.bool (← Op.equal t u v))) := by
        cases u <;> first | exact absurd rfl (g3 _ _) | exact absurd rfl (g4 _ _) | exact absurd rfl (g5 _ _ _) | exact absurd rfl (g6 _) | (cases v <;> rfl)
      refine ⟨.bool b, ?_, by rw [e]; simp [g1], .v (.s _)⟩
      rcases g2 with g2 | g2
      · exact run_eqGuard_num g2 g7 w
      · exact run_eqGuard_struct g2 g7 w
    · obtain ⟨b, hb, rfl⟩ := Option.map_eq_some_iff.1 h
      obtain ⟨g1, g2, g3, g4, g5, g6, g7⟩ := run_equal_kind (w := w) hx hy hb (t := t) hi
      have e : binOp .neq t u v = (do pure (.bool (!(← Op.equal t u v)))) := by
        cases u <;> first | exact absurd rfl (g3 _ _) | exact absurd rfl (g4 _ _) | exact absurd rfl (g5 _ _ _) | exact absurd rfl (g6 _) | (cases v <;> rfl)
      refine ⟨.bool (!b), ?_, by rw [e]; simp [g1], .v (.s _)⟩
      rcases g2 with g2 | g2
      · exact run_eqGuard_num g2 g7 w
      · exact run_eqGuard_struct g2 g7 w
    · cases h

end
end Go.Proofs.Ytnfomjnmigkpmaa.A
