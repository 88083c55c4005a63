/-
  The abstract layer, part 10: all quiet operations together.
-/
import Derived.Test.YtoiceinjademgaaDoorA9
namespace Go.Proofs.YtoiceinjademgaaDoor
open Go.RowKit

theorem pure_sound {P : Program} {c : Cx} {ρ : Operand → Value} {e : Opd → AV} (hρ : ∀ x, RepV c (e (lowX x)) (ρ x)) {o : Oper} {v : AV} (h : pureStep (lowOp P o) e = some v) : ∃ u, RepV c v u ∧ Gives P ρ o u := by
  have nope : pureStep .bad e = some v → ∃ u, RepV c v u ∧ Gives P ρ o u := fun h => by simp [pureStep] at h
  cases hop : o.op with
  | move x =>
    simp only [lowOp, hop, pureStep, Option.some.injEq] at h
    subst h
    exact ⟨_, hρ x, fun w => by simp [execOp, hop]⟩
  | assign x =>
    simp only [lowOp, hop, pureStep, Option.some.injEq] at h
    subst h
    exact ⟨_, hρ x, fun w => by simp [execOp, hop]⟩
  | pick a b d =>
    simp only [lowOp, hop, pureStep] at h
    split at h
    · rename_i t ht
      simp only [Option.some.injEq] at h
      subst h
      have hx := hρ a
      rw [ht] at hx
      have := hx.bool_inv
      refine ⟨if t then ρ b else ρ d, ?_, fun w => by cases t <;> simp [execOp, hop, asBool, this]⟩
      cases t
      · exact hρ d
      · exact hρ b
    · simp at h
  | box t x => simp [lowOp, hop, pureStep] at h
  | alloc t => simp only [lowOp, hop] at h; split at h <;> (try split at h) <;> simp [pureStep] at h
  | build t parts =>
    simp only [lowOp, hop] at h
    split at h
    · rename_i z fs hz hu
      split at h
      · rename_i ps hps
        split at h
        · rename_i hall
          exact p_buildS hρ hop hu hz hps hall h
        · exact nope h
      · exact nope h
    · rename_i z n et hz hu
      split at h
      · rename_i hi
        exact p_buildA hρ hop hu hz hi h
      · exact nope h
    · exact nope h
  | buildSlice t n ps => simp only [lowOp, hop] at h; split at h <;> (try split at h) <;> (try split at h) <;> simp [pureStep] at h
  | load t a => simp only [lowOp, hop] at h; split at h <;> simp [pureStep] at h
  | store t a x => simp only [lowOp, hop] at h; split at h <;> simp [pureStep] at h
  | nilCheck x =>
    simp only [lowOp, hop, pureStep] at h
    have hx := hρ x
    generalize hv : ρ x = vx at hx
    split at h
    · rename_i k n i off hs
      rw [hs] at hx h
      simp only [Option.some.injEq] at h
      subst h
      cases hx with
      | ptr _ _ _ _ b0 o0 h1 h2 h3 => exact ⟨_, .ptr _ _ _ _ b0 o0 h1 h2 h3, fun w => by simp [execOp, hop, hv]⟩
    · rename_i row off hs
      rw [hs] at hx h
      simp only [Option.some.injEq] at h
      subst h
      cases hx with
      | lptr _ _ b o1 cs h0 hw hst hc hr => exact ⟨_, .lptr _ _ b o1 cs h0 hw hst hc hr, fun w => by simp [execOp, hop, hv]⟩
    · rename_i f a b hs
      rw [hs] at hx h
      simp only [Option.some.injEq] at h
      subst h
      cases hx with
      | fn _ _ _ us vs h1 h2 h3 h4 => exact ⟨_, .fn _ _ _ us vs h1 h2 h3 h4, fun w => by simp [execOp, hop, hv]⟩
    · simp at h
  | binOp op t x y yt =>
    simp only [lowOp, hop] at h
    exact p_bin hρ hop h
  | unOp op t x =>
    cases op with
    | not =>
      simp only [lowOp, hop, pureStep] at h
      split at h
      · rename_i b hb
        simp only [Option.some.injEq] at h
        subst h
        have hx := hρ x
        rw [hb] at hx
        exact ⟨_, .bool _, fun w => by simp [execOp, hop, Op.unary, hx.bool_inv]⟩
      · simp at h
    | neg =>
      simp only [lowOp, hop, pureStep] at h
      split at h
      · rename_i k n hb
        simp only [Option.some.injEq] at h
        subst h
        have hx := hρ x
        rw [hb] at hx
        exact ⟨_, .int _ _, fun w => by simp [execOp, hop, Op.unary, hx.int_inv, Op.intArith]⟩
      · simp at h
    | xor => simp only [lowOp, hop] at h; exact nope h
    | plus => simp only [lowOp, hop] at h; exact nope h
  | convert s d x =>
    simp only [lowOp, hop] at h
    split at h
    · rename_i k0 k hs hd
      simp only [pureStep] at h
      split at h
      · rename_i k' n hb
        simp only [Option.some.injEq] at h
        subst h
        have hx := hρ x
        rw [hb] at hx
        exact ⟨_, .int _ _, fun w => by simp [execOp, hop, convert, run_underlying hs, run_underlying hd, hx.int_inv, Conv.intToInt]⟩
      · simp at h
    · split at h <;> simp [pureStep] at h
    · split at h <;> simp [pureStep] at h
    · exact nope h
  | makeInterface t x =>
    simp only [lowOp, hop] at h
    split at h
    · exact nope h
    · exact nope h
    · rename_i h1 h2
      simp only [pureStep, Option.some.injEq] at h
      subst h
      cases hu : P.underlying t with
      | none => exact absurd hu h2
      | some d =>
        refine ⟨_, .iface t _ _ (hρ x), fun w => ?_⟩
        cases d with
        | interface ms => exact absurd hu (h1 ms)
        | _ => simp [execOp, hop, Instr.makeInterface, run_underlying hu]
  | makeFunc f a b =>
    simp only [lowOp, hop] at h
    exact p_mkFn hρ hop h
  | makeMap t r => cases r <;> simp only [lowOp, hop] at h <;> simp [pureStep] at h
  | makeSlice t l m => simp only [lowOp, hop] at h; split at h <;> (try split at h) <;> (try split at h) <;> simp [pureStep] at h
  | slice t x lo hi mx =>
    cases mx with
    | none =>
      simp only [lowOp, hop] at h
      split at h
      · rename_i hu _
        exact p_sliceS hρ hop hu h
      · rename_i et _ hu
        split at h
        · rename_i hi
          exact p_slice hρ hop hu hi h
        · exact nope h
      · split at h <;> simp [pureStep] at h
      · exact nope h
    | some m =>
      simp only [lowOp, hop] at h
      split at h
      · rename_i heq
        simp at heq
      · split at h
        · simp [pureStep] at h
        · exact nope h
      · rename_i heq
        simp at heq
      · exact nope h
  | fieldAddr t x i =>
    simp only [lowOp, hop] at h
    split at h
    · rename_i fs hu
      split at h
      · rename_i f hf
        split at h
        · rename_i hs
          exact p_faddr hρ hop hu hf hs h
        · exact nope h
      · exact nope h
    · exact nope h
  | field t x i =>
    simp only [lowOp, hop] at h
    split at h
    · rename_i fs hu
      split at h
      · rename_i f hf
        split at h
        · rename_i hs
          exact p_field hρ hop hu hf hs h
        · exact nope h
      · exact nope h
    · exact nope h
  | indexAddr t x i =>
    simp only [lowOp, hop] at h
    split at h
    · rename_i et hu
      split at h
      · rename_i hi
        exact p_iaddrS hρ hop hu hi h
      · exact nope h
    · rename_i n et hu
      split at h
      · rename_i hi
        exact p_iaddrA hρ hop hu hi h
      · exact nope h
    · exact nope h
  | index t x i =>
    simp only [lowOp, hop] at h
    split at h
    · rename_i hu
      exact p_idxS hρ hop hu h
    · rename_i n et hu
      split at h
      · rename_i hi
        exact p_idxA hρ hop hu hi h
      · exact nope h
    · exact nope h
  | lookup t x k ok => simp only [lowOp, hop] at h; split at h <;> (try split at h) <;> simp [pureStep] at h
  | mapUpdate t m k x => simp only [lowOp, hop] at h; split at h <;> (try split at h) <;> simp [pureStep] at h
  | insert t m k x => simp only [lowOp, hop] at h; split at h <;> (try split at h) <;> simp [pureStep] at h
  | range t x => simp only [lowOp, hop] at h; split at h <;> simp [pureStep] at h
  | next it b => cases b <;> simp only [lowOp, hop] at h <;> simp [pureStep] at h
  | extract x i =>
    simp only [lowOp, hop, pureStep] at h
    split at h
    · rename_i vs hvs
      have hx := hρ x
      rw [hvs] at hx
      obtain ⟨us, hv, hs, hr⟩ := hx.tup_inv
      obtain ⟨u, hu, hrep⟩ := RepVs_get hs hr h
      exact ⟨u, hrep, fun w => by simp [execOp, hop, Instr.extract, hv, hu]⟩
    · simp at h
  | call cl =>
    simp only [lowOp, hop] at h
    split at h
    · simp [pureStep] at h
    · rename_i hc
      split at h
      · rename_i x ht ha
        exact p_lenT hρ hop hc (by simpa using congrArg List.toArray ha) ht h
      · rename_i et x ht ha
        exact p_lenS hρ hop hc (by simpa using congrArg List.toArray ha) ht h
      · simp [pureStep] at h
      · exact nope h
    · rename_i hc
      exact p_min hρ hop hc h
    · rename_i hc
      exact p_max hρ hop hc h
    · split at h
      · split at h <;> simp [pureStep] at h
      · split at h <;> simp [pureStep] at h
      · simp [pureStep] at h
    · split at h <;> (try split at h) <;> simp [pureStep] at h
    · exact nope h
  | _ => simp only [lowOp, hop] at h; exact nope h

end Go.Proofs.YtoiceinjademgaaDoor
