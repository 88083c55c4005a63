/-
  The abstract layer, part 18: all operations (no calls) together.
-/
import Derived.Test.YtoiceinjademgaaDoorB8
namespace Go.Proofs.YtoiceinjademgaaDoor
open Go.RowKit
set_option linter.unusedVariables false
set_option linter.unusedSimpArgs false

def LOp.loud : LOp → Bool
  | .load .. | .alloc _ | .box _ | .store .. | .bslice .. | .mkSlice .. | .append .. | .appendS .. | .copy .. | .toStr _ | .mkMap | .lookup .. | .mapSet .. | .len .map _ | .range _ | .next _ => true
  | _ => false

/-- Operations that read memory at most. -/
def LOp.reads : LOp → Bool
  | .load .. | .lookup .. | .len .map _ => true
  | .alloc _ | .box _ | .store .. | .bslice .. | .mkSlice .. | .append .. | .appendS .. | .copy .. | .toStr _ | .mkMap | .mapSet .. | .range _ | .next _ => false
  | .call .. | .bad => false
  | _ => true

theorem stepL_quiet {op : LOp} (h : op.loud = false) (σ : AS) : stepL op σ = (pureStep op (ev σ.t)).map fun v => (v, σ.H) := by
  cases op <;> first | rfl | (simp [LOp.loud] at h; done) | skip
  rename_i k x
  cases k <;> first | rfl | (simp [LOp.loud] at h; done)

section
variable {P : Program} {c : Cx} {ρ : Operand → Value} {t : Tm}

theorem does_pure (hρ : ∀ x, RepV c (ev t (lowX x)) (ρ x)) (hH : RepH c) {o : Oper} (hq : (lowOp P o).loud = false) {v : AV} {H' : List AObj} (h : stepL (lowOp P o) ⟨t, c.H⟩ = some (v, H')) : H' = c.H ∧ ∃ u, RepV c v u ∧ Gives P ρ o u := by
  rw [stepL_quiet hq] at h
  simp only [Option.map_eq_some_iff, Prod.mk.injEq] at h
  obtain ⟨v', hv, rfl, rfl⟩ := h
  exact ⟨rfl, pure_sound hρ hv⟩

theorem does_same (hH : RepH c) {o : Oper} {v : AV} {H' : List AObj} (h : H' = c.H ∧ ∃ u, RepV c v u ∧ (execOp ρ o).run P c.w = .ok (.value u) c.w) : Does P ρ o c v H' := by
  obtain ⟨rfl, u, hu, hr⟩ := h
  exact ⟨c.ι, c.w, .value u, u, hr, .inl rfl, hH, Fr.refl c, hu⟩

theorem step_sound (hH : RepH c) (hρ : ∀ x, RepV c (ev t (lowX x)) (ρ x)) {o : Oper} {v : AV} {H' : List AObj} (h : stepL (lowOp P o) ⟨t, c.H⟩ = some (v, H')) : Does P ρ o c v H' := by
  have quiet : (lowOp P o).loud = false → Does P ρ o c v H' := fun hq => by
    obtain ⟨h1, u, h2, h3⟩ := does_pure hρ hH hq h
    exact does_same hH ⟨h1, u, h2, h3 c.w⟩
  have nope : stepL .bad ⟨t, c.H⟩ = some (v, H') → Does P ρ o c v H' := fun h => by simp [stepL, pureStep] at h
  cases hop : o.op with
  | alloc ty =>
    simp only [lowOp, hop] at h
    split at h
    · rename_i z hz
      split at h
      · rename_i hl
        simp only [stepL, Option.some.injEq, Prod.mk.injEq] at h
        obtain ⟨rfl, rfl⟩ := h
        exact s_alloc hH hop hz hl
      · exact nope h
    · exact nope h
  | box ty x => simp only [lowOp, hop] at h; exact s_box hH hρ hop h
  | buildSlice ty len parts =>
    simp only [lowOp, hop] at h
    split at h
    · rename_i e ht
      split at h
      · rename_i z hz
        split at h
        · rename_i hc
          simp only [Bool.and_eq_true, decide_eq_true_eq, beq_iff_eq] at hc
          exact s_bslice hH hρ hop ht hz hc.1.1 hc.1.2 hc.2 h
        · exact nope h
      · exact nope h
    · exact nope h
  | load ty a =>
    simp only [lowOp, hop] at h
    split at h
    · rename_i ht
      exact does_same hH (s_load hH hρ hop ht h)
    · exact nope h
  | store ty a x =>
    simp only [lowOp, hop] at h
    split at h
    · rename_i ht
      exact s_store hH hρ hop ht h
    · exact nope h
  | convert s d x =>
    simp only [lowOp, hop] at h
    split at h
    · exact quiet (by simp only [lowOp, hop, *]; rfl)
    · rename_i e hs hd
      split at h
      · rename_i he
        exact s_toStr hH hρ hop hs hd he h
      · exact nope h
    · split at h
      · simp [stepL, pureStep] at h
      · exact nope h
    · exact nope h
  | makeMap ty r =>
    cases r with
    | none =>
      simp only [lowOp, hop, stepL, Option.some.injEq, Prod.mk.injEq] at h
      obtain ⟨rfl, rfl⟩ := h
      exact s_mkMap hH hop
    | some r => simp only [lowOp, hop] at h; exact nope h
  | makeSlice ty l m =>
    simp only [lowOp, hop] at h
    split at h
    · rename_i e ht
      split at h
      · rename_i z hz
        split at h
        · rename_i hc
          simp only [Bool.and_eq_true, decide_eq_true_eq, beq_iff_eq] at hc
          exact s_mkSlice hH hρ hop ht hz hc.1 hc.2 h
        · exact nope h
      · exact nope h
    · exact nope h
  | lookup ty x k ok =>
    simp only [lowOp, hop] at h
    split at h
    · rename_i kt et ht
      split at h
      · rename_i kd z hk hz
        exact does_same hH (s_lookup hH hρ hop ht hk hz h)
      · exact nope h
    · exact nope h
  | mapUpdate ty m k x =>
    simp only [lowOp, hop] at h
    split at h
    · rename_i kt et ht
      split at h
      · rename_i kd hk
        exact s_mapSet hH hρ (.inl hop) ht hk h
      · exact nope h
    · exact nope h
  | insert ty m k x =>
    simp only [lowOp, hop] at h
    split at h
    · rename_i kt et ht
      split at h
      · rename_i kd hk
        exact s_mapSet hH hρ (.inr hop) ht hk h
      · exact nope h
    · exact nope h
  | range ty x =>
    simp only [lowOp, hop] at h
    split at h
    · rename_i ht
      exact s_range hH hρ hop ht h
    · exact nope h
  | next it b =>
    cases b with
    | true => simp only [lowOp, hop] at h; exact s_next hH hρ hop h
    | false => simp only [lowOp, hop] at h; exact nope h
  | call cl =>
    simp only [lowOp, hop] at h
    split at h
    · simp [stepL, pureStep] at h
    · rename_i hc
      split at h
      · exact quiet (by simp only [lowOp, hop, *]; rfl)
      · exact quiet (by simp only [lowOp, hop, *]; rfl)
      · rename_i kt et x ht ha
        exact does_same hH (s_lenM hH hρ hop hc (by simpa using congrArg List.toArray ha) ht h)
      · exact nope h
    · exact quiet (by simp only [lowOp, hop, *]; rfl)
    · exact quiet (by simp only [lowOp, hop, *]; rfl)
    · rename_i hc
      split at h
      · rename_i e e' s x h0 h1 ha
        split at h
        · rename_i hcond
          simp only [Bool.and_eq_true, decide_eq_true_eq, beq_iff_eq] at hcond
          exact s_append hH hρ hop hc (by simpa using congrArg List.toArray ha) h0 h1 hcond.1 hcond.2 h
        · exact nope h
      · rename_i e s x h0 h1 ha
        split at h
        · rename_i hcond
          simp only [Bool.and_eq_true, beq_iff_eq] at hcond
          exact s_appendS hH hρ hop hc (by simpa using congrArg List.toArray ha) h0 h1 hcond.1.1.1 hcond.1.1.2 hcond.2 h
        · exact nope h
      · exact nope h
    · rename_i hc
      split at h
      · rename_i e e' d s h0 h1 ha
        split at h
        · rename_i hcond
          simp only [beq_iff_eq] at hcond
          exact s_copy hH hρ hop hc (by simpa using congrArg List.toArray ha) h0 h1 hcond h
        · exact nope h
      · exact nope h
    · exact nope h
  | unOp op ty x => cases op <;> exact quiet (by simp only [lowOp, hop]; rfl)
  | slice ty x lo hi mx => exact quiet (by cases mx <;> simp only [lowOp, hop] <;> (repeat' split) <;> rfl)
  | build ty parts => exact quiet (by simp only [lowOp, hop]; (repeat' split) <;> rfl)
  | makeInterface ty x => exact quiet (by simp only [lowOp, hop]; (repeat' split) <;> rfl)
  | fieldAddr ty x i => exact quiet (by simp only [lowOp, hop]; (repeat' split) <;> rfl)
  | field ty x i => exact quiet (by simp only [lowOp, hop]; (repeat' split) <;> rfl)
  | indexAddr ty x i => exact quiet (by simp only [lowOp, hop]; (repeat' split) <;> rfl)
  | index ty x i => exact quiet (by simp only [lowOp, hop]; (repeat' split) <;> rfl)
  | _ => exact quiet (by simp only [lowOp, hop]; rfl)

end
end Go.Proofs.YtoiceinjademgaaDoor
