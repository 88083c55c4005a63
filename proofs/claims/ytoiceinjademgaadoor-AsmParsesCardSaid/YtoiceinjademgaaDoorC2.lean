/-
  The abstract layer, part 20: regions whose order is open; the rules of code.
-/
import Derived.Test.YtoiceinjademgaaDoorC1
import Derived.Deep.Quiet
import Derived.Deep.LoopGhost
namespace Go.Proofs.YtoiceinjademgaaDoor
open Go.RowKit
set_option linter.unusedVariables false
set_option linter.unusedSimpArgs false

section
variable {P : Program} {N : Nat}

theorem reads_sound {c : Cx} {ρ : Operand → Value} {t : Tm} (hH : RepH c) (hρ : ∀ x, RepV c (ev t (lowX x)) (ρ x)) {o : Oper} (hr : (lowOp P o).reads = true) {v : AV} {H' : List AObj} (h : stepL (lowOp P o) ⟨t, c.H⟩ = some (v, H')) :
    H' = c.H ∧ ∃ u, RepV c v u ∧ (execOp ρ o).run P c.w = .ok (.value u) c.w := by
  by_cases hq : (lowOp P o).loud = false
  · obtain ⟨h1, u, h2, h3⟩ := does_pure hρ hH hq h
    exact ⟨h1, u, h2, h3 c.w⟩
  · cases hop : o.op with
    | load ty a =>
      simp only [lowOp, hop] at h hr
      split at h
      · rename_i ht
        exact s_load hH hρ hop ht h
      · simp [stepL, pureStep] at h
    | lookup ty x k ok =>
      simp only [lowOp, hop] at h
      split at h
      · rename_i kt et ht
        split at h
        · rename_i kd z hk hz
          exact s_lookup hH hρ hop ht hk hz h
        · simp [stepL, pureStep] at h
      · simp [stepL, pureStep] at h
    | call cl =>
      simp only [lowOp, hop] at h hr
      split at h
      · simp [stepL, pureStep] at h
      · rename_i hc
        split at h
        · rename_i h1 h2; exact absurd (by simp only [lowOp, hop, hc, h1, h2]; rfl) hq
        · rename_i h1 h2; exact absurd (by simp only [lowOp, hop, hc, h1, h2]; rfl) hq
        · rename_i kt et x ht ha
          exact s_lenM hH hρ hop hc (by simpa using congrArg List.toArray ha) ht h
        · simp [stepL, pureStep] at h
      · rename_i hc; exact absurd (by simp only [lowOp, hop, hc]; rfl) hq
      · rename_i hc; exact absurd (by simp only [lowOp, hop, hc]; rfl) hq
      · rename_i hc
        rw [hc] at hr
        simp only at hr
        exfalso
        split at hr
        · split at hr <;> simp [LOp.reads] at hr
        · split at hr <;> simp [LOp.reads] at hr
        · simp [LOp.reads] at hr
      · rename_i hc
        rw [hc] at hr
        simp only at hr
        exfalso
        split at hr
        · split at hr <;> simp [LOp.reads] at hr
        · simp [LOp.reads] at hr
      · simp [stepL, pureStep] at h
    | unOp op ty x => cases op <;> exact absurd (by simp only [lowOp, hop]; rfl) hq
    | makeMap ty r => cases r <;> simp [lowOp, hop, LOp.reads] at hr
    | next it b => cases b <;> simp [lowOp, hop, LOp.reads] at hr
    | box ty x => exfalso; simp [lowOp, hop, LOp.reads] at hr
    | alloc ty => exfalso; simp only [lowOp, hop] at hr; (repeat' split at hr) <;> simp [LOp.reads] at hr
    | buildSlice ty n ps => exfalso; simp only [lowOp, hop] at hr; (repeat' split at hr) <;> simp [LOp.reads] at hr
    | store ty a x => exfalso; simp only [lowOp, hop] at hr; (repeat' split at hr) <;> simp [LOp.reads] at hr
    | makeSlice ty l m => exfalso; simp only [lowOp, hop] at hr; (repeat' split at hr) <;> simp [LOp.reads] at hr
    | mapUpdate ty m k x => exfalso; simp only [lowOp, hop] at hr; (repeat' split at hr) <;> simp [LOp.reads] at hr
    | insert ty m k x => exfalso; simp only [lowOp, hop] at hr; (repeat' split at hr) <;> simp [LOp.reads] at hr
    | range ty x => exfalso; simp only [lowOp, hop] at hr; (repeat' split at hr) <;> simp [LOp.reads] at hr
    | convert s d x =>
      simp only [lowOp, hop] at h hr
      split at hr
      · rename_i h1 h2; exact absurd (by simp only [lowOp, hop, h1, h2]; rfl) hq
      · split at hr <;> simp [LOp.reads] at hr
      · exfalso
        split at hr
        · rename_i h1 h2 h3
          simp only [h1, h2, h3, if_true] at h
          simp [stepL, pureStep] at h
        · simp [LOp.reads] at hr
      · simp [LOp.reads] at hr
    | slice ty x lo hi mx => exact absurd (by cases mx <;> simp only [lowOp, hop] <;> (repeat' split) <;> rfl) hq
    | build ty parts => exact absurd (by simp only [lowOp, hop]; (repeat' split) <;> rfl) hq
    | makeInterface ty x => exact absurd (by simp only [lowOp, hop]; (repeat' split) <;> rfl) hq
    | fieldAddr ty x i => exact absurd (by simp only [lowOp, hop]; (repeat' split) <;> rfl) hq
    | field ty x i => exact absurd (by simp only [lowOp, hop]; (repeat' split) <;> rfl) hq
    | indexAddr ty x i => exact absurd (by simp only [lowOp, hop]; (repeat' split) <;> rfl) hq
    | index ty x i => exact absurd (by simp only [lowOp, hop]; (repeat' split) <;> rfl) hq
    | _ => exact absurd (by simp only [lowOp, hop]; rfl) hq

/-! ### Regions that only read -/
theorem wanted_none {ops : Array Oper} {o : Oper} {tm : Array Value} (hg : o.guard = none) : Region.wanted o (yielded ops tm) = true := by simp [Region.wanted, hg]

theorem yielded_bool {c : Cx} {N : Nat} {t : Tm} {a : Act} (h : RepT c N t a) {ops : Array Oper} {j g : Nat} (hj : (ops[j]?).bind (·.dst) = some g) {x : Bool} (hx : t g = .bool x) : yielded ops a.tmps j = some x := by
  have := h.val g
  rw [hx] at this
  have hv := this.bool_inv
  unfold yielded
  rw [hj]
  simp only [Option.bind_some]
  have hlt : g < a.tmps.size := by
    rcases Nat.lt_or_ge g a.tmps.size with h' | h'
    · exact h'
    · simp [Array.getD_eq_getD_getElem?, Array.getElem?_eq_none h', undef] at hv
  simp only [Array.getD_eq_getD_getElem?, Array.getElem?_eq_getElem hlt, Option.getD_some] at hv
  rw [Array.getElem?_eq_getElem hlt, hv]

theorem yielded_none {c : Cx} {N : Nat} {t : Tm} {a : Act} (h : RepT c N t a) {ops : Array Oper} {j g : Nat} (hj : (ops[j]?).bind (·.dst) = some g) (hx : t g = .imm undef) : yielded ops a.tmps j = none := by
  have hv := h.val g
  rw [hx] at hv
  have hv := hv.imm_inv
  unfold yielded
  rw [hj]
  simp only [Option.bind_some]
  rcases Nat.lt_or_ge g a.tmps.size with hlt | hge
  · simp only [Array.getD_eq_getD_getElem?, Array.getElem?_eq_getElem hlt, Option.getD_some] at hv
    rw [Array.getElem?_eq_getElem hlt, hv]
    rfl
  · rw [Array.getElem?_eq_none hge]

/-- What the lowering says of an operation that means something. -/
theorem low_spec {ops : Array Oper} {o : Oper} (h : (lowOperN P N ops o).op ≠ .bad) : (∀ n, o.dst = some n → n < N) ∧ (lowOperN P N ops o).dst = o.dst ∧ (lowOperN P N ops o).op = lowOp P o ∧
    ((o.guard = none ∧ (lowOperN P N ops o).guard = none) ∨ ∃ j b g, o.guard = some (j, b) ∧ (ops[j]?).bind (·.dst) = some g ∧ (lowOperN P N ops o).guard = some (g, b)) := by
  have h1 : ∀ n, o.dst = some n → n < N := fun n hn => by
    unfold lowOperN at h
    rw [hn] at h
    simp only at h
    split at h
    · assumption
    · exact absurd rfl h
  have hlow : lowOperN P N ops o = lowOper P ops o := by
    unfold lowOperN
    split
    · rename_i d hd'
      rw [if_pos (h1 d hd')]
    · rfl
  rw [hlow] at h ⊢
  refine ⟨h1, ?_⟩
  unfold lowOper at h ⊢
  split
  · rename_i hg
    exact ⟨rfl, rfl, .inl ⟨hg, rfl⟩⟩
  · rename_i j b hg
    rw [hg] at h
    simp only at h
    split
    · rename_i g hgt
      exact ⟨rfl, rfl, .inr ⟨j, b, g, hg, hgt, rfl⟩⟩
    · rename_i hgt
      rw [hgt] at h
      exact absurd rfl h

theorem wpO_reads {o : LOper} (hr : o.op.reads = true) {K : AS → Prop} {σ : AS} (h : wpO P o K σ) : ∃ v H', stepL o.op σ = some (v, H') ∧ K ⟨σ.t.put o.dst v, H'⟩ := by
  unfold wpO at h
  split at h
  · rename_i hop; rw [hop] at hr; simp [LOp.reads] at hr
  · split at h
    · exact ⟨_, _, by assumption, h⟩
    · exact h.elim

theorem wpL_quiet {ops : Array Oper} {K : AS → Prop} : ∀ (l : List Oper) (σ : AS) (ι : Nat → Option Nat) (a : Act) (w : World), (∀ o ∈ l, (lowOperN P N ops o).op.reads = true) → wpL P (l.map (lowOperN P N ops)) K σ → RepS N ι σ a w →
    wpQuiet P ops (fun w' => w' = w) (fun a' => ∃ σ', RepS N ι σ' a' w ∧ Fr ⟨ι, σ.H, w⟩ ⟨ι, σ'.H, w⟩ ∧ K σ') l a
  | [], σ, ι, a, w, _, h, hs => ⟨σ, hs, Fr.refl _, h⟩
  | o :: l, σ, ι, a, w, hr, h, hs => by
    simp only [List.map_cons, wpL] at h
    have hro := hr o (by simp)
    obtain ⟨hd, e1, e2, hg⟩ := low_spec (P := P) (N := N) (ops := ops) (o := o) (fun e => by rw [e] at hro; simp [LOp.reads] at hro)
    have run : wpO P (lowOperN P N ops o) (wpL P (l.map (lowOperN P N ops)) K) σ → ∃ v, (∀ w', w' = w → o.quietAt P a (fun w' => w' = w) w' v) ∧ wpQuiet P ops (fun w' => w' = w) (fun a' => ∃ σ', RepS N ι σ' a' w ∧ Fr ⟨ι, σ.H, w⟩ ⟨ι, σ'.H, w⟩ ∧ K σ') l (a.put o.dst v) := fun ho => by
      obtain ⟨v, H', h1, h2⟩ := wpO_reads hro ho
      rw [e2] at h1 hro
      obtain ⟨rfl, u, hu, hrun⟩ := reads_sound (c := ⟨ι, σ.H, w⟩) (ρ := a.eval) (t := σ.t) hs.h (hs.t.eval hs.h.glob) hro h1
      refine ⟨u, fun w' hw' => ?_, ?_⟩
      · subst hw'
        unfold Oper.quietAt
        rw [hrun]
        exact ⟨rfl, rfl⟩
      · rw [e1] at h2
        exact wpL_quiet l ⟨σ.t.put o.dst v, σ.H⟩ ι _ w (fun o ho => hr o (by simp [ho])) h2 ⟨hs.h, hs.t.put hd hu⟩
    unfold wpQuiet
    rcases hg with ⟨hg1, hg2⟩ | ⟨j, b, g, hg1, hg2, hg3⟩
    · rw [if_pos (wanted_none hg1)]
      simp only [wpG, hg2] at h
      exact run h
    · simp only [wpG, hg3] at h
      split at h
      · rename_i x hx
        have hy := yielded_bool hs.t hg2 hx
        by_cases hxb : x = b
        · rw [if_pos (by simp [Region.wanted, hg1, hy, hxb])]
          exact run (h.1 hxb)
        · rw [if_neg (by simp [Region.wanted, hg1, hy, hxb])]
          have := h.2 hxb
          rw [e1] at this
          exact wpL_quiet l ⟨σ.t.put o.dst (.imm undef), σ.H⟩ ι _ w (fun o ho => hr o (by simp [ho])) this ⟨hs.h, hs.t.put hd (.imm _)⟩
      · rename_i u hu
        obtain ⟨hu2, hk⟩ := h
        subst hu2
        have hy := yielded_none hs.t hg2 hu
        rw [if_neg (by simp [Region.wanted, hg1, hy])]
        rw [e1] at hk
        exact wpL_quiet l ⟨σ.t.put o.dst (.imm undef), σ.H⟩ ι _ w (fun o ho => hr o (by simp [ho])) hk ⟨hs.h, hs.t.put hd (.imm _)⟩
      · exact h.elim

theorem low_any {code : Code} {q : Bool} {l : List LOper} {p : Plan} (h : lowCode P N code = .any q l p) : ∃ id ops, code = .region id ops true ∧ Region.noSelect ops = true ∧ P.follows .mixedOrders = true ∧ l = ops.toList.map (lowOperN P N ops) ∧
    (q = true → Region.lexB .any ops = true) ∧ (p = .no ∨ okPlan ops ops.size (Array.replicate ops.size false) p = true) := by
  cases code with
  | region id ops d =>
    cases d with
    | false => simp [lowCode] at h
    | true =>
      simp only [lowCode] at h
      split at h
      · rename_i hc
        simp only [Bool.and_eq_true] at hc
        injection h with f1 f2 f3
        subst f1; subst f2; subst f3
        exact ⟨id, ops, rfl, hc.1, hc.2, rfl, fun hq => by simp only [Bool.and_eq_true] at hq; exact hq.1, checked_ok _ _⟩
      · simp at h
  | _ => simp [lowCode] at h

theorem RepS.drew {ι : Nat → Option Nat} {σ : AS} {a : Act} {w : World} (h : RepS N ι σ a w) : RepS N ι σ a { w with drawn := w.drawn + 1 } := ⟨h.h.drew, h.t.mono (Fr.drew ⟨ι, σ.H, w⟩)⟩

/-- **A region whose order is open and that only reads: the order of the text.** -/
theorem LC_quiet {l : List LOper} {p : Plan} {Q : Exit → AS → Prop} {σ : AS} (hr : l.all (fun o => o.op.reads) = true) (h : wpL P l (Q .normal) σ) : LC P N (.any true l p) Q σ := by
  intro code hc c0 ι a w hs hf
  obtain ⟨id, ops, rfl, h1, h2, rfl, h3, _⟩ := low_any hc
  have hs' := hs.drew
  refine wp_region_quiet (C := fun w' => w' = { w with drawn := w.drawn + 1 }) h2 (h3 rfl) rfl ?_
  have hq := wpL_quiet (P := P) (N := N) (ops := ops) ops.toList σ ι a { w with drawn := w.drawn + 1 } (fun o ho => by
    have := List.all_eq_true.1 hr (lowOperN P N ops o) (List.mem_map.2 ⟨o, ho, rfl⟩)
    exact this) h hs'
  have mono : ∀ (l : List Oper) (a : Act) (K K' : Act → Prop), (∀ a, K a → K' a) → wpQuiet P ops (fun w' => w' = { w with drawn := w.drawn + 1 }) K l a → wpQuiet P ops (fun w' => w' = { w with drawn := w.drawn + 1 }) K' l a := by
    intro l
    induction l with
    | nil => intro a K K' hk h; exact hk a h
    | cons o l ih =>
      intro a K K' hk h
      unfold wpQuiet at h ⊢
      split
      · rename_i hw
        rw [if_pos hw] at h
        exact Oper.quiet_mono (fun a => ih a K K' hk) h
      · rename_i hw
        rw [if_neg hw] at h
        exact ih _ K K' hk h
  refine mono _ _ _ _ (fun a' ⟨σ', g1, g2, g3⟩ w' hw' => ?_) hq
  subst hw'
  exact ⟨trivial, σ', ι, g1, (hf.trans (Fr.drew ⟨ι, σ.H, w⟩)).trans g2, g3⟩

/-! ### Any order -/
/-- An operation that hangs on nothing. -/
def wpT (P : Program) (o : LOper) (K : AS → Prop) (σ : AS) : Prop :=
  match o.guard with
  | none => match pureStep o.op (ev σ.t) with
    | some v => K ⟨σ.t.put o.dst v, σ.H⟩
    | none => False
  | some (g, b) => match σ.t g with
    | .bool x => (x = b → match pureStep o.op (ev σ.t) with
      | some v => K ⟨σ.t.put o.dst v, σ.H⟩
      | none => False) ∧ (x ≠ b → K ⟨σ.t.put o.dst (.imm undef), σ.H⟩)
    | .imm u => u = undef ∧ K ⟨σ.t.put o.dst (.imm undef), σ.H⟩
    | _ => False

mutual
def wpP (P : Program) (l : List LOper) : Plan → (AS → Prop) → AS → Prop
  | .done, K, σ => K σ
  | .take i p, K, σ => match l[i]? with
    | some o => wpT P o (wpP P l p K) σ
    | none => False
  | .all ps, K, σ => wpPs P l ps K σ
  | .no, _, _ => False
def wpPs (P : Program) (l : List LOper) : List (Nat × Plan) → (AS → Prop) → AS → Prop
  | [], _, _ => True
  | (i, p) :: r, K, σ => (match l[i]? with
    | some o => wpG P o (wpP P l p K) σ
    | none => False) ∧ wpPs P l r K σ
end

theorem wpT_sound {ops : Array Oper} {o : Oper} {K : AS → Prop} {σ : AS} (h : wpT P (lowOperN P N ops o) K σ) {c0 : Cx} {ι : Nat → Option Nat} {a : Act} {w : World} (hs : RepS N ι σ a w) (hf : Fr c0 ⟨ι, σ.H, w⟩) :
    ∃ v, Yields P ops o v a ∧ Next' c0 N K (a.put o.dst v) w := by
  have hne : (lowOperN P N ops o).op ≠ .bad ∨ ∃ g b, (lowOperN P N ops o).guard = some (g, b) := by
    unfold wpT at h
    split at h
    · left
      intro e
      rw [e] at h
      simp [pureStep] at h
    · rename_i g b hg
      exact .inr ⟨g, b, hg⟩
  have hnb : (lowOperN P N ops o).op ≠ .bad ∨ (∀ n, o.dst = some n → n < N) ∧ (lowOperN P N ops o).dst = o.dst ∧ (lowOperN P N ops o).op = lowOp P o ∧ ∃ j b g, o.guard = some (j, b) ∧ (ops[j]?).bind (·.dst) = some g ∧ (lowOperN P N ops o).guard = some (g, b) := by
    rcases hne with h' | ⟨g, b, hg⟩
    · exact .inl h'
    · right
      have h1 : ∀ n, o.dst = some n → n < N := fun n hn => by
        unfold lowOperN at hg
        rw [hn] at hg
        simp only at hg
        split at hg
        · assumption
        · simp at hg
      have hlow : lowOperN P N ops o = lowOper P ops o := by
        unfold lowOperN
        split
        · rename_i d hd'
          rw [if_pos (h1 d hd')]
        · rfl
      rw [hlow] at hg ⊢
      unfold lowOper at hg ⊢
      split
      · rename_i h2
        rw [h2] at hg
        simp at hg
      · rename_i j b' h2
        rw [h2] at hg
        simp only at hg
        split
        · rename_i g' hg'
          exact ⟨h1, rfl, rfl, j, b', g', h2, hg', rfl⟩
        · rename_i hg'
          rw [hg'] at hg
          simp at hg
  have facts : (∀ n, o.dst = some n → n < N) ∧ (lowOperN P N ops o).dst = o.dst ∧ (lowOperN P N ops o).op = lowOp P o ∧
    ((o.guard = none ∧ (lowOperN P N ops o).guard = none) ∨ ∃ j b g, o.guard = some (j, b) ∧ (ops[j]?).bind (·.dst) = some g ∧ (lowOperN P N ops o).guard = some (g, b)) := by
    rcases hnb with h' | ⟨h1, h2, h3, h4⟩
    · exact low_spec h'
    · exact ⟨h1, h2, h3, .inr h4⟩
  obtain ⟨hd, e1, e2, hg⟩ := facts
  have run : ∀ v, pureStep (lowOp P o) (ev σ.t) = some v → Region.wanted o (yielded ops a.tmps) = true → K ⟨σ.t.put o.dst v, σ.H⟩ → ∃ v, Yields P ops o v a ∧ Next' c0 N K (a.put o.dst v) w := fun v hv hw hK => by
    obtain ⟨u, hu, hgv⟩ := pure_sound (c := ⟨ι, σ.H, w⟩) (hs.t.eval hs.h.glob) hv
    exact ⟨u, .inl ⟨hw, hgv⟩, ⟨σ.t.put o.dst v, σ.H⟩, ι, ⟨hs.h, hs.t.put hd hu⟩, hf, hK⟩
  rcases hg with ⟨hg1, hg2⟩ | ⟨j, b, g, hg1, hg2, hg3⟩
  · simp only [wpT, hg2] at h
    split at h
    · rename_i v hv
      rw [e2] at hv
      rw [e1] at h
      exact run v hv (wanted_none hg1) h
    · exact h.elim
  · simp only [wpT, hg3] at h
    split at h
    · rename_i x hx
      have hy := yielded_bool hs.t hg2 hx
      by_cases hxb : x = b
      · have := h.1 hxb
        split at this
        · rename_i v hv
          rw [e2] at hv
          rw [e1] at this
          exact run v hv (by simp [Region.wanted, hg1, hy, hxb]) this
        · exact this.elim
      · have := h.2 hxb
        rw [e1] at this
        exact ⟨undef, .inr ⟨by simp [Region.wanted, hg1, hy, hxb], rfl⟩, ⟨σ.t.put o.dst (.imm undef), σ.H⟩, ι, ⟨hs.h, hs.t.put hd (.imm _)⟩, hf, this⟩
    · rename_i u hu
      obtain ⟨hu2, hk⟩ := h
      subst hu2
      have hy := yielded_none hs.t hg2 hu
      rw [e1] at hk
      exact ⟨undef, .inr ⟨by simp [Region.wanted, hg1, hy], rfl⟩, ⟨σ.t.put o.dst (.imm undef), σ.H⟩, ι, ⟨hs.h, hs.t.put hd (.imm _)⟩, hf, hk⟩
    · exact h.elim

theorem okPlans_mem {ops : Array Oper} {n : Nat} {listed : Array Bool} : ∀ {ps : List (Nat × Plan)}, okPlans ops n listed ps = true → ∀ i p, (i, p) ∈ ps → okPlan ops n (listed.setIfInBounds i true) p = true
  | [], _, i, p, hm => by simp at hm
  | (j, q) :: r, h, i, p, hm => by
    simp only [okPlans, Bool.and_eq_true] at h
    rcases List.mem_cons.1 hm with e | hm
    · cases e; exact h.1
    · exact okPlans_mem h.2 i p hm

theorem wpPs_mem {l : List LOper} {K : AS → Prop} {σ : AS} : ∀ {ps : List (Nat × Plan)}, wpPs P l ps K σ → ∀ i p, (i, p) ∈ ps → ∃ o, l[i]? = some o ∧ wpG P o (wpP P l p K) σ
  | [], _, i, p, hm => by simp at hm
  | (j, q) :: r, h, i, p, hm => by
    simp only [wpPs] at h
    rcases List.mem_cons.1 hm with e | hm
    · cases e
      have h1 := h.1
      split at h1
      · exact ⟨_, by assumption, h1⟩
      · exact h1.elim
    · exact wpPs_mem h.2 i p hm

theorem wpP_sound {ops : Array Oper} (hsel : Region.noSelect ops = true) {c0 : Cx} {Q : Exit → AS → Prop} : ∀ (n : Nat) (listed : Array Bool) (p : Plan) (σ : AS) (ι : Nat → Option Nat) (a : Act) (w : World), okPlan ops n listed p = true → wpP P (ops.toList.map (lowOperN P N ops)) p (Q .normal) σ →
    RepS N ι σ a w → Fr c0 ⟨ι, σ.H, w⟩ → wpAny P .any ops (Good c0 N Q) n listed a w := by
  intro n
  induction n with
  | zero =>
    intro listed p σ ι a w hok h hs hf
    cases p with
    | done =>
      simp only [okPlan] at hok
      simp only [wpP] at h
      exact wpAny_done (by simpa using hok) ⟨trivial, σ, ι, hs, hf, h⟩ 0
    | _ => simp [okPlan] at hok
  | succ n ih =>
    intro listed p σ ι a w hok h hs hf
    cases p with
    | done =>
      simp only [okPlan] at hok
      simp only [wpP] at h
      exact wpAny_done (by simpa using hok) ⟨trivial, σ, ι, hs, hf, h⟩ _
    | no => simp [okPlan] at hok
    | take i p =>
      simp only [okPlan, Bool.and_eq_true] at hok
      simp only [wpP, List.getElem?_map, Array.getElem?_toList] at h
      cases hi : ops[i]? with
      | none => rw [hi] at h; exact h.elim
      | some oi =>
        rw [hi] at h
        simp only [Option.map_some] at h
        obtain ⟨v, hy, σ', ι', g1, g2, g3⟩ := wpT_sound h hs hf
        exact wpAny_take hi hsel hok.1.1 hok.1.2 (fun c a w hq => hq.1.elim) hy (ih _ p σ' ι' _ w hok.2 g3 g1 g2)
    | all ps =>
      simp only [okPlan, Bool.and_eq_true, beq_iff_eq] at hok
      simp only [wpP] at h
      refine wpAny_all hok.1.1 (fun e => by
        have := hok.1.2
        simp only [List.map_eq_nil_iff] at e
        rw [e] at this
        simp at this) fun i hi => ?_
      obtain ⟨⟨j, q⟩, hm, rfl⟩ := List.mem_map.1 hi
      obtain ⟨o, ho, hg⟩ := wpPs_mem h j q hm
      simp only [List.getElem?_map, Array.getElem?_toList, Option.map_eq_some_iff] at ho
      obtain ⟨oo, hoo, rfl⟩ := ho
      have hsound := wpG_sound (P := P) (N := N) hg hs hf (Good c0 N Q)
      have rest : ∀ a w, Next' c0 N (wpP P (ops.toList.map (lowOperN P N ops)) q (Q .normal)) a w → wpAny P .any ops (Good c0 N Q) n (listed.setIfInBounds j true) a w := fun a w ⟨σ', ι', g1, g2, g3⟩ => ih _ q σ' ι' a w (okPlans_mem hok.2 j q hm) g3 g1 g2
      unfold wpOp
      simp only [hoo]
      split
      · rename_i hw
        rw [if_pos hw] at hsound
        exact .inl (Oper.wp_mono rest hsound)
      · rename_i hw
        rw [if_neg hw] at hsound
        exact rest _ _ hsound

/-- **A region whose order is open.** -/
theorem LC_any {q : Bool} {l : List LOper} {p : Plan} {Q : Exit → AS → Prop} {σ : AS} (h : wpP P l p (Q .normal) σ) : LC P N (.any q l p) Q σ := by
  intro code hc c0 ι a w hs hf
  obtain ⟨id, ops, rfl, h1, h2, rfl, _, h4⟩ := low_any hc
  rcases h4 with rfl | h4
  · simp [wpP] at h
  · exact wp_region_any h2 (wpP_sound h1 _ _ p σ ι a _ h4 h hs.drew (hf.trans (Fr.drew ⟨ι, σ.H, w⟩)))

end
end Go.Proofs.YtoiceinjademgaaDoor
