/-
  The abstract layer, part 28: regions whose order is open, that read, and call what only answers with plain values: the order of the text.
-/
import Derived.Test.YtoiceinjademgaaDoorC9
namespace Go.Proofs.YtoiceinjademgaaDoor
open Go.RowKit
set_option linter.unusedVariables false
set_option linter.unusedSimpArgs false
set_option linter.unusedSectionVars false

mutual
/-- Is it a value that hangs on no place in memory? -/
def AV.plain : AV → Bool
  | .int .. | .bool _ | .str _ | .imm _ => true
  | .agg cs => plainAll cs
  | .tup cs => plainAll cs
  | _ => false
def plainAll : List AV → Bool
  | [] => true
  | a :: r => a.plain && plainAll r
end
mutual
def AV.toV : AV → Value
  | .int k n => .int k n
  | .bool b => .bool b
  | .str s => .string s
  | .imm v => v
  | .agg cs => .agg (toVs cs).toArray
  | .tup cs => .tuple (toVs cs).toArray
  | _ => undef
def toVs : List AV → List Value
  | [] => []
  | a :: r => a.toV :: toVs r
end

theorem toVs_length : ∀ (l : List AV), (toVs l).length = l.length
  | [] => rfl
  | a :: r => by simp [toVs, toVs_length r]

mutual
theorem RepV.toV_eq {c : Cx} : ∀ {a : AV} {v : Value}, RepV c a v → a.plain = true → v = a.toV
  | .int .., _, h, _ => h.int_inv
  | .bool _, _, h, _ => h.bool_inv
  | .str _, _, h, _ => h.str_inv
  | .imm _, _, h, _ => h.imm_inv
  | .agg cs, _, h, hp => by
    obtain ⟨vs, rfl, h1, h2⟩ := h.agg_inv
    have := toVs_eq (c := c) (vs := vs.toList) (by simpa using h1) (fun i a ha => by have := h2 i a ha; simpa using this) (by simpa [AV.plain] using hp)
    simp [AV.toV, ← this]
  | .tup cs, _, h, hp => by
    obtain ⟨vs, rfl, h1, h2⟩ := h.tup_inv
    have := toVs_eq (c := c) (vs := vs.toList) (by simpa using h1) (fun i a ha => by have := h2 i a ha; simpa using this) (by simpa [AV.plain] using hp)
    simp [AV.toV, ← this]
  | .list _, _, _, hp => by simp [AV.plain] at hp
  | .sl .., _, _, hp => by simp [AV.plain] at hp
  | .ptr .., _, _, hp => by simp [AV.plain] at hp
  | .lptr .., _, _, hp => by simp [AV.plain] at hp
  | .iter _, _, _, hp => by simp [AV.plain] at hp
  | .map _, _, _, hp => by simp [AV.plain] at hp
  | .fn .., _, _, hp => by simp [AV.plain] at hp
  | .iface .., _, _, hp => by simp [AV.plain] at hp
  | .dead, _, _, hp => by simp [AV.plain] at hp
theorem toVs_eq {c : Cx} : ∀ {cs : List AV} {vs : List Value}, vs.length = cs.length → (∀ (i : Nat) (a : AV), cs[i]? = some a → RepV c a (vs.getD i undef)) → plainAll cs = true → vs = toVs cs
  | [], vs, h, _, _ => by simp at h; simp [h, toVs]
  | a :: r, [], h, _, _ => by simp at h
  | a :: r, v :: vs, h, hr, hp => by
    simp only [plainAll, Bool.and_eq_true] at hp
    have h1 : v = a.toV := RepV.toV_eq (c := c) (hr 0 a rfl) hp.1
    have h2 := toVs_eq (c := c) (cs := r) (vs := vs) (by simpa using h) (fun i a ha => by have := hr (i + 1) a (by simpa using ha); simpa using this) hp.2
    rw [h1, h2]
    rfl
end

mutual
theorem RepV.of_plain (c : Cx) : ∀ (a : AV), a.plain = true → RepV c a a.toV
  | .int .., _ => .int _ _
  | .bool _, _ => .bool _
  | .str _, _ => .str _
  | .imm _, _ => .imm _
  | .agg cs, h => .agg _ _ (by simp [toVs_length]) (fun i a ha => by have := toVs_rep c cs (by simpa [AV.plain] using h) i a ha; simpa using this)
  | .tup cs, h => .tup _ _ (by simp [toVs_length]) (fun i a ha => by have := toVs_rep c cs (by simpa [AV.plain] using h) i a ha; simpa using this)
  | .list _, hp => by simp [AV.plain] at hp
  | .sl .., hp => by simp [AV.plain] at hp
  | .ptr .., hp => by simp [AV.plain] at hp
  | .lptr .., hp => by simp [AV.plain] at hp
  | .iter _, hp => by simp [AV.plain] at hp
  | .map _, hp => by simp [AV.plain] at hp
  | .fn .., hp => by simp [AV.plain] at hp
  | .iface .., hp => by simp [AV.plain] at hp
  | .dead, hp => by simp [AV.plain] at hp
theorem toVs_rep (c : Cx) : ∀ (cs : List AV), plainAll cs = true → ∀ (i : Nat) (a : AV), cs[i]? = some a → RepV c a ((toVs cs).getD i undef)
  | [], _, i, a, ha => by simp at ha
  | b :: r, h, i, a, ha => by
    simp only [plainAll, Bool.and_eq_true] at h
    cases i with
    | zero => simp at ha; subst ha; simpa [toVs] using RepV.of_plain c b h.1
    | succ i => have := toVs_rep c r h.2 i a (by simpa using ha); simpa [toVs] using this
end

/-- A call of what only answers, with a plain value. -/
def CallP (P : Program) (fv : AV) (args : List AV) (L : AV → Prop) : Prop := ∃ f r, fv = .fn (.func f) [] [] ∧ Pure P f args r ∧ r.plain = true ∧ L r

def LaterP (K : AS → Prop) (t : Tm) (d : Option Nat) (H : List AObj) : AV → Prop := fun v => K ⟨t.put d v, H⟩
def thenQ (b : Bool) (x : Option (AV × List AObj)) (L : AV → List AObj → Prop) : Prop := match x with | some (v, H') => (b = true → v.plain = true) ∧ L v H' | none => False

def wqO (P : Program) (o : LOper) (K : AS → Prop) (σ : AS) : Prop :=
  match o.op with
  | .call f args => CallP P (ev σ.t f) (args.map (ev σ.t)) (LaterP K σ.t o.dst σ.H)
  | op => thenQ op.loud (stepL op σ) (Later K σ.t o.dst)

def wqG (P : Program) (o : LOper) (K : AS → Prop) (σ : AS) : Prop :=
  match o.guard with
  | none => wqO P o K σ
  | some (g, b) => match σ.t g with
    | .bool x => (x = b → wqO P o K σ) ∧ (x ≠ b → K ⟨σ.t.put o.dst (.imm undef), σ.H⟩)
    | .imm u => u = undef ∧ K ⟨σ.t.put o.dst (.imm undef), σ.H⟩
    | _ => False

def wqL (P : Program) : List LOper → (AS → Prop) → AS → Prop
  | [], K, σ => K σ
  | o :: r, K, σ => wqG P o (wqL P r K) σ

section
variable {P : Program} {N : Nat}

/-- The worlds in which the same is so. -/
def Same (c : Cx) (w : World) : Prop := ∃ ι, RepH ⟨ι, c.H, w⟩ ∧ Fr c ⟨ι, c.H, w⟩

theorem wqO_quiet {ops : Array Oper} {o : Oper} (hr : ((lowOp P o).reads || (lowOp P o).isCall) = true) (hd : ∀ n, o.dst = some n → n < N) {K : AS → Prop} {t : Tm} {c : Cx} {a : Act} (hH : RepH c) (ht : RepT c N t a)
    (h : wqO P ⟨o.dst, lowOp P o, none⟩ K ⟨t, c.H⟩) {next : Act → Prop} (hn : ∀ t' a', RepT c N t' a' → K ⟨t', c.H⟩ → next a') : o.quiet P a (Same c) next := by
  have hρ : ∀ x, RepV c (ev t (lowX x)) (a.eval x) := ht.eval hH.glob
  have key : ∀ v H', stepL (lowOp P o) ⟨t, c.H⟩ = some (v, H') → (lowOp P o).reads = true → ((lowOp P o).loud = true → v.plain = true) → K ⟨t.put o.dst v, H'⟩ → o.quiet P a (Same c) next := fun v H' hst hrd hp hK => by
    cases hl : (lowOp P o).loud with
    | false =>
      obtain ⟨rfl, u, hu, hg⟩ := does_pure hρ hH hl hst
      refine ⟨u, fun w hw => ?_, hn _ _ (ht.put hd hu) hK⟩
      unfold Oper.quietAt
      rw [hg w]
      exact ⟨rfl, rfl⟩
    | true =>
      have hpl := hp hl
      obtain ⟨rfl, u, hu, _⟩ := reads_sound (c := c) (ρ := a.eval) (t := t) hH hρ hrd hst
      refine ⟨v.toV, fun w ⟨ι', h1, h2⟩ => ?_, hn _ _ (ht.put hd (RepV.of_plain c v hpl)) hK⟩
      obtain ⟨_, u', hu', hrun⟩ := reads_sound (c := ⟨ι', c.H, w⟩) (ρ := a.eval) (t := t) h1 (fun x => (hρ x).mono h2) hrd hst
      unfold Oper.quietAt
      rw [hrun]
      exact ⟨rfl, hu'.toV_eq hpl⟩
  unfold wqO at h
  simp only at h
  split at h
  · rename_i f args hop
    cases hoo : o.op with
    | call cl =>
      cases hc : cl.callee with
      | value fo =>
        simp only [lowOp, hoo, hc, LOp.call.injEq] at hop
        obtain ⟨rfl, rfl⟩ := hop
        obtain ⟨f', r, hfe, hpure, hpl, hL⟩ := h
        have hfv := hρ fo
        rw [hfe] at hfv
        obtain ⟨us, vs, hv, h1, h2⟩ := hfv.fn_inv
        have hus : us = #[] := by have := h1.1; simpa using this
        have hvs : vs = #[] := by have := h2.1; simpa using this
        subst hus hvs
        refine ⟨r.toV, fun w ⟨ι', g1, g2⟩ => ?_, hn _ _ (ht.put hd (RepV.of_plain c r hpl)) hL⟩
        obtain ⟨⟨fn, hfn, hbody, hname⟩, hcall⟩ := hpure c.H
        have hargs : RepVs ⟨ι', c.H, w⟩ ((cl.args.toList.map lowX).map (ev t)) (cl.args.map a.eval) := (RepVs_map hρ cl.args).mono g2
        have hne : fn.body.isNone = false := by
          cases hb : fn.body with
          | none => simp [hb] at hbody
          | some b => rfl
        have hrun : (execOp a.eval o).run P w = .ok (.enter f' (cl.args.map a.eval)) w := by
          simp only [execOp, hoo, resolve, hc, hv, Deferred.ofValue, Sem.run_bind, Sem.run_pure, Result.andThen_ok, invoke, callFunc, run_program, hfn, hname, hne, Bool.false_eq_true, if_false]
          simp
        unfold Oper.quietAt
        rw [hrun]
        refine ⟨rfl, (hcall ι' w _ g1 hargs).mono fun e w' ⟨r', v, ι2, H', e1, ⟨e2, e3⟩, e4, e5, e6⟩ => ?_⟩
        subst e2 e3
        exact ⟨by rw [e1, e5.toV_eq hpl], ι2, e4, g2.trans e6⟩
      | invoke r m => simp [lowOp, hoo, hc] at hop
      | builtin b => cases b <;> simp only [lowOp, hoo, hc] at hop <;> (repeat' split at hop) <;> simp at hop
    | unOp op ty x => cases op <;> simp [lowOp, hoo] at hop
    | makeMap ty r => cases r <;> simp [lowOp, hoo] at hop
    | next it b => cases b <;> simp [lowOp, hoo] at hop
    | _ => simp only [lowOp, hoo] at hop <;> (repeat' split at hop) <;> simp at hop
  · rename_i hop
    have hrd : (lowOp P o).reads = true := by
      rcases Bool.or_eq_true _ _ ▸ hr with h' | h'
      · exact h'
      · cases hlo : lowOp P o <;> rw [hlo] at h' <;> simp [LOp.isCall] at h'
        exact absurd hlo (hop _ _)
    unfold thenQ at h
    split at h
    · rename_i v H' hst
      exact key v H' hst hrd h.1 h.2
    · exact h.elim

theorem wqL_quiet {ops : Array Oper} {K : AS → Prop} {c : Cx} (hH : RepH c) : ∀ (l : List Oper) (t : Tm) (a : Act), (∀ o ∈ l, ((lowOperN P N ops o).op.reads || (lowOperN P N ops o).op.isCall) = true) → wqL P (l.map (lowOperN P N ops)) K ⟨t, c.H⟩ → RepT c N t a →
    wpQuiet P ops (Same c) (fun a' => ∃ t', RepT c N t' a' ∧ K ⟨t', c.H⟩) l a
  | [], t, a, _, h, hs => ⟨t, hs, h⟩
  | o :: l, t, a, hr, h, hs => by
    simp only [List.map_cons, wqL] at h
    have hro := hr o (by simp)
    obtain ⟨hd, e1, e2, hg⟩ := low_spec (P := P) (N := N) (ops := ops) (o := o) (fun e => by rw [e] at hro; simp [LOp.reads, LOp.isCall] at hro)
    have run : wqO P ⟨o.dst, lowOp P o, none⟩ (wqL P (l.map (lowOperN P N ops)) K) ⟨t, c.H⟩ → o.quiet P a (Same c) (wpQuiet P ops (Same c) (fun a' => ∃ t', RepT c N t' a' ∧ K ⟨t', c.H⟩) l) := fun ho => by
      rw [e2] at hro
      exact wqO_quiet (ops := ops) hro hd hH hs ho fun t' a' h1 h2 => wqL_quiet hH l t' a' (fun o ho => hr o (by simp [ho])) h2 h1
    have conv : wqO P (lowOperN P N ops o) (wqL P (l.map (lowOperN P N ops)) K) ⟨t, c.H⟩ → wqO P ⟨o.dst, lowOp P o, none⟩ (wqL P (l.map (lowOperN P N ops)) K) ⟨t, c.H⟩ := fun h => by
      unfold wqO at h ⊢
      rw [e1, e2] at h
      exact h
    unfold wpQuiet
    rcases hg with ⟨hg1, hg2⟩ | ⟨j, b, g, hg1, hg2, hg3⟩
    · rw [if_pos (wanted_none hg1)]
      simp only [wqG, hg2] at h
      exact run (conv h)
    · simp only [wqG, hg3] at h
      split at h
      · rename_i x hx
        have hy := yielded_bool hs hg2 hx
        by_cases hxb : x = b
        · rw [if_pos (by simp [Region.wanted, hg1, hy, hxb])]
          exact run (conv (h.1 hxb))
        · rw [if_neg (by simp [Region.wanted, hg1, hy, hxb])]
          have := h.2 hxb
          rw [e1] at this
          exact wqL_quiet hH l _ _ (fun o ho => hr o (by simp [ho])) this (hs.put hd (.imm _))
      · rename_i u hu
        obtain ⟨hu2, hk⟩ := h
        subst hu2
        have hy := yielded_none hs hg2 hu
        rw [if_neg (by simp [Region.wanted, hg1, hy])]
        rw [e1] at hk
        exact wqL_quiet hH l _ _ (fun o ho => hr o (by simp [ho])) hk (hs.put hd (.imm _))
      · exact h.elim

/-- **A region whose order is open, that reads, and calls what only answers with plain values: the order of the text.** -/
theorem LC_calls {l : List LOper} {p : Plan} {Q : Exit → AS → Prop} {σ : AS} (hr : l.all (fun o => o.op.reads || o.op.isCall) = true) (h : wqL P l (Q .normal) σ) : LC P N (.any true l p) Q σ := by
  intro code hc c0 ι a w hs hf
  obtain ⟨id, ops, rfl, h1, h2, rfl, h3, _⟩ := low_any hc
  have hs' := hs.drew
  obtain ⟨t, H⟩ := σ
  refine wp_region_quiet (C := Same ⟨ι, H, { w with drawn := w.drawn + 1 }⟩) h2 (h3 rfl) ⟨ι, hs'.h, Fr.refl _⟩ ?_
  have hq := wqL_quiet (P := P) (N := N) (ops := ops) (c := ⟨ι, H, { w with drawn := w.drawn + 1 }⟩) hs'.h ops.toList t a (fun o ho => List.all_eq_true.1 hr (lowOperN P N ops o) (List.mem_map.2 ⟨o, ho, rfl⟩)) h hs'.t
  have mono : ∀ (C : World → Prop) (l : List Oper) (a : Act) (K K' : Act → Prop), (∀ a, K a → K' a) → wpQuiet P ops C K l a → wpQuiet P ops C K' l a := by
    intro C l
    induction l with
    | nil => intro a K K' hk h; exact hk a h
    | cons o l ih =>
      intro a K K' hk h
      unfold wpQuiet at h ⊢
      split
      · rename_i hw
        rw [if_pos hw] at h
        exact Oper.quiet_mono (fun a => ih a K K' hk) h
      · rename_i hw
        rw [if_neg hw] at h
        exact ih _ K K' hk h
  refine mono _ _ _ _ _ (fun a' ⟨t', g1, g2⟩ w' ⟨ι', g3, g4⟩ => ?_) hq
  exact ⟨trivial, ⟨t', H⟩, ι', ⟨g3, g1.mono g4⟩, (hf.trans (Fr.drew ⟨ι, H, w⟩)).trans g4, g2⟩

variable {B : Nat} {Q : Exit → AS → Prop} {σ : AS} {K : AS → Prop} {d : Option Nat} {t : Tm} {H : List AObj} {op : LOp} {i : Nat} {b : Bool}
theorem R.calls {l : List LOper} {p : Plan} (hr : l.all (fun o => o.op.reads || o.op.isCall) = true) (h : wqL P l (Q .normal) σ) : LCB P N B (.any true l p) Q σ := .of (LC_calls hr h)

theorem wqL_nil : wqL P [] K σ = K σ := rfl
theorem wqL_cons {o : LOper} {r : List LOper} : wqL P (o :: r) K σ = wqG P o (wqL P r K) σ := rfl
theorem wqG_none : wqG P ⟨d, op, none⟩ K σ = wqO P ⟨d, op, none⟩ K σ := rfl
theorem wqG_hit (h : σ.t i = .bool b) : wqG P ⟨d, op, some (i, b)⟩ K σ = wqO P ⟨d, op, none⟩ K σ := by
  unfold wqG
  simp [h]
  rfl
theorem wqG_miss (h : σ.t i = .bool (!b)) : wqG P ⟨d, op, some (i, b)⟩ K σ = K ⟨σ.t.put d (.imm undef), σ.H⟩ := by
  unfold wqG
  cases b <;> simp [h]
theorem wqG_skip (h : σ.t i = .imm undef) : wqG P ⟨d, op, some (i, b)⟩ K σ = K ⟨σ.t.put d (.imm undef), σ.H⟩ := by
  unfold wqG
  simp [h]
theorem wqG_split {x : Bool} (h : σ.t i = .bool x) (h1 : x = true → wqG P ⟨d, op, some (i, b)⟩ K σ) (h2 : x = false → wqG P ⟨d, op, some (i, b)⟩ K σ) : wqG P ⟨d, op, some (i, b)⟩ K σ := by
  cases x
  · exact h2 rfl
  · exact h1 rfl
theorem wqO_call {f : Opd} {as : List Opd} : wqO P ⟨d, .call f as, none⟩ K σ = CallP P (ev σ.t f) (as.map (ev σ.t)) (LaterP K σ.t d σ.H) := rfl
theorem st_mv {σ : AS} {x : Opd} : stepL (.mv x) σ = some (ev σ.t x, σ.H) := rfl
theorem st_pick {σ : AS} {c a b : Opd} : stepL (.pick c a b) σ = (match ev σ.t c with | .bool x => some (if x then ev σ.t a else ev σ.t b) | _ => none : Option AV).map fun v => (v, σ.H) := rfl
theorem wq_mv {x : Opd} : wqO P ⟨d, .mv x, none⟩ K σ = thenQ false (stepL (.mv x) σ) (Later K σ.t d) := rfl
theorem wq_pick {c a b : Opd} : wqO P ⟨d, .pick c a b, none⟩ K σ = thenQ false (stepL (.pick c a b) σ) (Later K σ.t d) := rfl
theorem wq_load {a : Bool} {n : Nat} {x : Opd} : wqO P ⟨d, .load a n x, none⟩ K σ = thenQ true (stepL (.load a n x) σ) (Later K σ.t d) := rfl
theorem wq_nilc {x : Opd} : wqO P ⟨d, .nilc x, none⟩ K σ = thenQ false (stepL (.nilc x) σ) (Later K σ.t d) := rfl
theorem wq_bin {o : BinOp} {k : EqK} {x y : Opd} : wqO P ⟨d, .bin o k x y, none⟩ K σ = thenQ false (stepL (.bin o k x y) σ) (Later K σ.t d) := rfl
theorem wq_not {x : Opd} : wqO P ⟨d, .not x, none⟩ K σ = thenQ false (stepL (.not x) σ) (Later K σ.t d) := rfl
theorem wq_neg {x : Opd} : wqO P ⟨d, .neg x, none⟩ K σ = thenQ false (stepL (.neg x) σ) (Later K σ.t d) := rfl
theorem wq_toInt {k : IntKind} {x : Opd} : wqO P ⟨d, .toInt k x, none⟩ K σ = thenQ false (stepL (.toInt k x) σ) (Later K σ.t d) := rfl
theorem wq_sliceS {x : Opd} {a b : Option Opd} : wqO P ⟨d, .sliceS x a b, none⟩ K σ = thenQ false (stepL (.sliceS x a b) σ) (Later K σ.t d) := rfl
theorem wq_slice {n : Nat} {x : Opd} {a b c : Option Opd} : wqO P ⟨d, .slice n x a b c, none⟩ K σ = thenQ false (stepL (.slice n x a b c) σ) (Later K σ.t d) := rfl
theorem wq_faddr {n : Nat} {x : Opd} : wqO P ⟨d, .faddr n x, none⟩ K σ = thenQ false (stepL (.faddr n x) σ) (Later K σ.t d) := rfl
theorem wq_field {a : Bool} {n m : Nat} {x : Opd} : wqO P ⟨d, .field a n m x, none⟩ K σ = thenQ false (stepL (.field a n m x) σ) (Later K σ.t d) := rfl
theorem wq_iaddrS {n : Nat} {x y : Opd} : wqO P ⟨d, .iaddrS n x y, none⟩ K σ = thenQ false (stepL (.iaddrS n x y) σ) (Later K σ.t d) := rfl
theorem wq_iaddrA {n m : Nat} {x y : Opd} : wqO P ⟨d, .iaddrA n m x y, none⟩ K σ = thenQ false (stepL (.iaddrA n m x y) σ) (Later K σ.t d) := rfl
theorem wq_idxA {n m : Nat} {a : Bool} {x y : Opd} : wqO P ⟨d, .idxA n a m x y, none⟩ K σ = thenQ false (stepL (.idxA n a m x y) σ) (Later K σ.t d) := rfl
theorem wq_idxS {x y : Opd} : wqO P ⟨d, .idxS x y, none⟩ K σ = thenQ false (stepL (.idxS x y) σ) (Later K σ.t d) := rfl
theorem wq_extract {x : Opd} {n : Nat} : wqO P ⟨d, .extract x n, none⟩ K σ = thenQ false (stepL (.extract x n) σ) (Later K σ.t d) := rfl
theorem wq_lenL {x : Opd} : wqO P ⟨d, .len .slice x, none⟩ K σ = thenQ false (stepL (.len .slice x) σ) (Later K σ.t d) := rfl
theorem wq_lenS {x : Opd} : wqO P ⟨d, .len .str x, none⟩ K σ = thenQ false (stepL (.len .str x) σ) (Later K σ.t d) := rfl
theorem wq_lenM {x : Opd} : wqO P ⟨d, .len .map x, none⟩ K σ = thenQ true (stepL (.len .map x) σ) (Later K σ.t d) := rfl
theorem wq_lookup {z : AV} {x y : Opd} {a : Bool} : wqO P ⟨d, .lookup z x y a, none⟩ K σ = thenQ true (stepL (.lookup z x y a) σ) (Later K σ.t d) := rfl
theorem wq_min {l : List Opd} : wqO P ⟨d, .min l, none⟩ K σ = thenQ false (stepL (.min l) σ) (Later K σ.t d) := rfl
theorem wq_max {l : List Opd} : wqO P ⟨d, .max l, none⟩ K σ = thenQ false (stepL (.max l) σ) (Later K σ.t d) := rfl
theorem wq_build {z : List AV} {ps : List (Nat × Nat × Opd)} : wqO P ⟨d, .build z ps, none⟩ K σ = thenQ false (stepL (.build z ps) σ) (Later K σ.t d) := rfl
theorem wq_mkIface {k : TypeId} {x : Opd} : wqO P ⟨d, .mkIface k x, none⟩ K σ = thenQ false (stepL (.mkIface k x) σ) (Later K σ.t d) := rfl
theorem thenQ_f {v : AV} {H' : List AObj} {L : AV → List AObj → Prop} : thenQ false (some (v, H')) L = L v H' := by simp [thenQ]
theorem thenQ_t {v : AV} {H' : List AObj} {L : AV → List AObj → Prop} : thenQ true (some (v, H')) L = (v.plain = true ∧ L v H') := by simp [thenQ]
theorem LaterP_def {v : AV} : LaterP K t d H v = K ⟨t.put d v, H⟩ := rfl
theorem CallP.inst {f : FuncId} {args : List AV} {r : AV} {L : AV → Prop} [h : PureC P f args r] (hp : r.plain = true) (hk : L r) : CallP P (.fn (.func f) [] []) args L := ⟨f, r, rfl, h.ok, hp, hk⟩
theorem CallP.pure {f : FuncId} {args : List AV} {r : AV} {L : AV → Prop} (h : Pure P f args r) (hp : r.plain = true) (hk : L r) : CallP P (.fn (.func f) [] []) args L := ⟨f, r, rfl, h, hp, hk⟩
theorem pl_int {k : IntKind} {n : Int} : (AV.int k n).plain = true := rfl
theorem pl_bool {x : Bool} : (AV.bool x).plain = true := rfl
theorem pl_str {s : ByteArray} : (AV.str s).plain = true := rfl
theorem pl_imm {v : Value} : (AV.imm v).plain = true := rfl
theorem pl_agg {l : List AV} : (AV.agg l).plain = plainAll l := rfl
theorem pl_tup {l : List AV} : (AV.tup l).plain = plainAll l := rfl
theorem pl_nil : plainAll [] = true := rfl
theorem pl_cons {a : AV} {l : List AV} : plainAll (a :: l) = (a.plain && plainAll l) := rfl
end
theorem ev4 : type_of% (And.intro @wqL_nil (And.intro @wqL_cons (And.intro @wqG_none (And.intro @wqG_hit (And.intro @wqG_miss (And.intro @wqG_skip (And.intro @wqO_call (And.intro @st_mv (And.intro @st_pick (And.intro @wq_mv (And.intro @wq_pick (And.intro @wq_load (And.intro @wq_nilc (And.intro @wq_bin (And.intro @wq_not (And.intro @wq_neg (And.intro @wq_toInt (And.intro @wq_sliceS (And.intro @wq_slice (And.intro @wq_faddr (And.intro @wq_field (And.intro @wq_iaddrS (And.intro @wq_iaddrA (And.intro @wq_idxA (And.intro @wq_idxS (And.intro @wq_extract (And.intro @wq_lenL (And.intro @wq_lenS (And.intro @wq_lenM (And.intro @wq_lookup (And.intro @wq_min (And.intro @wq_max (And.intro @wq_build (And.intro @wq_mkIface (And.intro @thenQ_f (And.intro @thenQ_t (And.intro @LaterP_def (And.intro @pl_int (And.intro @pl_bool (And.intro @pl_str (And.intro @pl_imm (And.intro @pl_agg (And.intro @pl_tup (And.intro @pl_nil (@pl_cons))))))))))))))))))))))))))))))))))))))))))))) :=
  And.intro @wqL_nil (And.intro @wqL_cons (And.intro @wqG_none (And.intro @wqG_hit (And.intro @wqG_miss (And.intro @wqG_skip (And.intro @wqO_call (And.intro @st_mv (And.intro @st_pick (And.intro @wq_mv (And.intro @wq_pick (And.intro @wq_load (And.intro @wq_nilc (And.intro @wq_bin (And.intro @wq_not (And.intro @wq_neg (And.intro @wq_toInt (And.intro @wq_sliceS (And.intro @wq_slice (And.intro @wq_faddr (And.intro @wq_field (And.intro @wq_iaddrS (And.intro @wq_iaddrA (And.intro @wq_idxA (And.intro @wq_idxS (And.intro @wq_extract (And.intro @wq_lenL (And.intro @wq_lenS (And.intro @wq_lenM (And.intro @wq_lookup (And.intro @wq_min (And.intro @wq_max (And.intro @wq_build (And.intro @wq_mkIface (And.intro @thenQ_f (And.intro @thenQ_t (And.intro @LaterP_def (And.intro @pl_int (And.intro @pl_bool (And.intro @pl_str (And.intro @pl_imm (And.intro @pl_agg (And.intro @pl_tup (And.intro @pl_nil (@pl_cons))))))))))))))))))))))))))))))))))))))))))))
end Go.Proofs.YtoiceinjademgaaDoor
