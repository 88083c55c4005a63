/-
  The abstract layer, part 19: code.
-/
import Derived.Test.YtoiceinjademgaaDoorB9
namespace Go.Proofs.YtoiceinjademgaaDoor
open Go.RowKit
set_option linter.unusedVariables false
set_option linter.unusedSimpArgs false

/-- In which order the operations of a region may come up: one is taken that hangs on nothing, or whichever comes. -/
inductive Plan where
  | done
  | take (i : Nat) (p : Plan)
  | all (ps : List (Nat × Plan))
  | no

inductive LCode where
  | skip
  | text (ops : List LOper)
  | any (quiet : Bool) (ops : List LOper) (plan : Plan)
  | seq (a b : LCode)
  | cond (c : Opd) (a b : LCode)
  | block (id : Nat) (a : LCode)
  | loop (a : LCode)
  | exit (id : Nat)
  | ret
  | bad

def LOp.isCall : LOp → Bool
  | .call .. => true
  | _ => false

section
variable (P : Program) (N : Nat)

def lowOperN (ops : Array Oper) (o : Oper) : LOper :=
  match o.dst with
  | some d => if d < N then lowOper P ops o else ⟨o.dst, .bad, none⟩
  | none => lowOper P ops o

/-- A plan for a region: what hangs on nothing first; else all. -/
def mkPlan (ops : Array Oper) (l : Array LOper) : Nat → Array Bool → Plan
  | 0, listed => if (Region.ready .any ops listed).isEmpty then .done else .no
  | n + 1, listed =>
    let r := Region.ready .any ops listed
    if r.isEmpty then .done else
    match r.find? fun i => Region.free .any ops listed i && (match l[i]? with | some o => !o.op.loud && !o.op.isCall && (match o.op with | .bad => false | _ => true) | none => false) with
    | some i => .take i (mkPlan ops l n (listed.setIfInBounds i true))
    | none => .all (r.map fun i => (i, mkPlan ops l n (listed.setIfInBounds i true)))

mutual
/-- Is it one for the region? -/
def okPlan (ops : Array Oper) : Nat → Array Bool → Plan → Bool
  | _, listed, .done => (Region.ready .any ops listed).isEmpty
  | 0, _, _ => false
  | n + 1, listed, .take i p => Region.free .any ops listed i && (Region.ready .any ops listed).contains i && okPlan ops n (listed.setIfInBounds i true) p
  | n + 1, listed, .all ps => (Region.ready .any ops listed) == ps.map (·.1) && !ps.isEmpty && okPlans ops n listed ps
  | _, _, .no => false
def okPlans (ops : Array Oper) : Nat → Array Bool → List (Nat × Plan) → Bool
  | _, _, [] => true
  | n, listed, (i, p) :: r => okPlan ops n (listed.setIfInBounds i true) p && okPlans ops n listed r
end

def checked (ops : Array Oper) (p : Plan) : Plan := if okPlan ops ops.size (Array.replicate ops.size false) p then p else .no

theorem checked_ok (ops : Array Oper) (p : Plan) : checked ops p = .no ∨ okPlan ops ops.size (Array.replicate ops.size false) (checked ops p) = true := by
  unfold checked
  by_cases hp : okPlan ops ops.size (Array.replicate ops.size false) p = true
  · rw [if_pos hp]; exact .inr hp
  · rw [if_neg hp]; exact .inl rfl

def planOf (q : Bool) (ops : Array Oper) (l : List LOper) : Plan :=
  checked ops (if q && l.all (fun o => !o.op.isCall) then .no else mkPlan ops l.toArray ops.size (Array.replicate ops.size false))

def lowCode : Code → LCode
  | .skip | .label _ => .skip
  | .region _ ops false => .text (ops.toList.map (lowOperN P N ops))
  | .region _ ops true =>
    let l := ops.toList.map (lowOperN P N ops)
    if Region.noSelect ops && P.follows .mixedOrders then
      let q := Region.lexB .any ops && l.all fun o => o.op.reads || o.op.isCall
      .any q l (planOf q ops l)
    else .bad
  | .seq a b => .seq (lowCode a) (lowCode b)
  | .cond c a b => .cond (lowX c) (lowCode a) (lowCode b)
  | .block i a => .block i (lowCode a)
  | .loop a => .loop (lowCode a)
  | .exit i => .exit i
  | .ret => .ret
  | _ => .bad
end

/-! ### What is said of states -/
structure RepS (N : Nat) (ι : Nat → Option Nat) (σ : AS) (a : Act) (w : World) : Prop where
  h : RepH ⟨ι, σ.H, w⟩
  t : RepT ⟨ι, σ.H, w⟩ N σ.t a

def calm : Exit → Prop
  | .panic _ | .outgrown => False
  | _ => True

def Good (c0 : Cx) (N : Nat) (Q : Exit → AS → Prop) : Exit → Act → World → Prop := fun e a w => calm e ∧ ∃ σ ι, RepS N ι σ a w ∧ Fr c0 ⟨ι, σ.H, w⟩ ∧ Q e σ

def ACode (P : Program) (N : Nat) (code : Code) (Q : Exit → AS → Prop) (σ : AS) : Prop := ∀ c0 ι a w, RepS N ι σ a w → Fr c0 ⟨ι, σ.H, w⟩ → code.wp P (Good c0 N Q) a w

def LC (P : Program) (N : Nat) (lc : LCode) (Q : Exit → AS → Prop) (σ : AS) : Prop := ∀ code, lowCode P N code = lc → ACode P N code Q σ

/-- What a call comes to. -/
def ACalls (P : Program) (f : FuncId) (args : List AV) (H : List AObj) (Q : AV → List AObj → Prop) : Prop :=
  (∃ fn, P.funcs[f]? = some fn ∧ fn.body.isSome = true ∧ (fn.name == "runtime.NumGoroutine") = false) ∧
  ∀ ι w vals, RepH ⟨ι, H, w⟩ → RepVs ⟨ι, H, w⟩ args vals → Calls P f vals w fun e w' => ∃ r v ι' H', e = .returned v ∧ Q r H' ∧ RepH ⟨ι', H', w'⟩ ∧ RepV ⟨ι', H', w'⟩ r v ∧ Fr ⟨ι, H, w⟩ ⟨ι', H', w'⟩

theorem ACalls.mono {P : Program} {f : FuncId} {args : List AV} {H : List AObj} {Q Q' : AV → List AObj → Prop} (h : ACalls P f args H Q) (hq : ∀ r H', Q r H' → Q' r H') : ACalls P f args H Q' :=
  ⟨h.1, fun ι w vals h1 h2 => (h.2 ι w vals h1 h2).mono fun e w' ⟨r, v, ι', H', g1, g2, g3⟩ => ⟨r, v, ι', H', g1, hq _ _ g2, g3⟩⟩

def CallA (P : Program) (fv : AV) (args : List AV) (H : List AObj) (K : AV → List AObj → Prop) : Prop := match fv with
  | .fn (.func f) first cap => ACalls P f (first ++ args ++ cap) H K
  | _ => False

/-- One operation. -/
def wpO (P : Program) (o : LOper) (K : AS → Prop) (σ : AS) : Prop :=
  match o.op with
  | .call f args => CallA P (ev σ.t f) (args.map (ev σ.t)) σ.H fun v H' => K ⟨σ.t.put o.dst v, H'⟩
  | op => match stepL op σ with
    | some (v, H') => K ⟨σ.t.put o.dst v, H'⟩
    | none => False

/-- An operation with its guard. -/
def wpG (P : Program) (o : LOper) (K : AS → Prop) (σ : AS) : Prop :=
  match o.guard with
  | none => wpO P o K σ
  | some (g, b) => match σ.t g with
    | .bool x => (x = b → wpO P o K σ) ∧ (x ≠ b → K ⟨σ.t.put o.dst (.imm undef), σ.H⟩)
    | .imm u => u = undef ∧ K ⟨σ.t.put o.dst (.imm undef), σ.H⟩
    | _ => False

def wpL (P : Program) : List LOper → (AS → Prop) → AS → Prop
  | [], K, σ => K σ
  | o :: r, K, σ => wpG P o (wpL P r K) σ

section sound
variable {P : Program} {N : Nat}

theorem RepVs.append {c : Cx} {as bs : List AV} {us vs : Array Value} (h1 : RepVs c as us) (h2 : RepVs c bs vs) : RepVs c (as ++ bs) (us ++ vs) := by
  refine ⟨by simp [h1.1, h2.1], fun i a ha => ?_⟩
  by_cases hi : i < as.length
  · rw [List.getElem?_append_left hi] at ha
    have := h1.2 i a ha
    have e : (us ++ vs).getD i undef = us.getD i undef := by
      simp only [Array.getD_eq_getD_getElem?]
      rw [Array.getElem?_append_left (by rw [h1.1]; exact hi)]
    rw [e]
    exact this
  · rw [List.getElem?_append_right (by omega)] at ha
    have := h2.2 _ a ha
    have e : (us ++ vs).getD i undef = vs.getD (i - as.length) undef := by
      simp only [Array.getD_eq_getD_getElem?]
      rw [Array.getElem?_append_right (by rw [h1.1]; omega), h1.1]
    rw [e]
    exact this

/-- What is to be shown of what follows. -/
def Next' (c0 : Cx) (N : Nat) (K : AS → Prop) : Act → World → Prop := fun a w => ∃ σ ι, RepS N ι σ a w ∧ Fr c0 ⟨ι, σ.H, w⟩ ∧ K σ

theorem wpO_sound {ops : Array Oper} {o : Oper} {K : AS → Prop} {σ : AS} (hd : ∀ n, o.dst = some n → n < N) (h : wpO P ⟨o.dst, lowOp P o, none⟩ K σ) {c0 : Cx} {ι : Nat → Option Nat} {a : Act} {w : World} (hs : RepS N ι σ a w) (hf : Fr c0 ⟨ι, σ.H, w⟩) (Q : Exit → Act → World → Prop) :
    o.wp P a w (Next' c0 N K) Q := by
  have hρ : ∀ x, RepV ⟨ι, σ.H, w⟩ (ev σ.t (lowX x)) (a.eval x) := hs.t.eval hs.h.glob
  have stp : ∀ v H', stepL (lowOp P o) σ = some (v, H') → K ⟨σ.t.put o.dst v, H'⟩ → o.wp P a w (Next' c0 N K) Q := fun v H' hst hK => by
    obtain ⟨ι', w', n, u, h1, h2, h3, h4, h5⟩ := step_sound (c := ⟨ι, σ.H, w⟩) (ρ := a.eval) (t := σ.t) hs.h hρ hst
    have next : Next' c0 N K (a.put o.dst u) w' := ⟨⟨σ.t.put o.dst v, H'⟩, ι', ⟨h3, (hs.t.mono h4).put hd h5⟩, hf.trans h4, hK⟩
    unfold Oper.wp
    rw [h1]
    rcases h2 with rfl | ⟨rfl, rfl⟩
    · exact next
    · exact next
  unfold wpO at h
  simp only at h
  split at h
  · rename_i f args hop
    cases hoo : o.op with
    | call cl =>
      cases hc : cl.callee with
      | value fo =>
        simp only [lowOp, hoo, hc, LOp.call.injEq] at hop
        obtain ⟨rfl, rfl⟩ := hop
        have hfv := hρ fo
        unfold CallA at h
        split at h
        · rename_i f' first cap hfe
          rw [hfe] at hfv
          obtain ⟨us, vs, hv, h1, h2⟩ := hfv.fn_inv
          obtain ⟨⟨fn, hfn, hbody, hname⟩, hcall⟩ := h
          have hargs : RepVs ⟨ι, σ.H, w⟩ (first ++ (cl.args.toList.map lowX).map (ev σ.t) ++ cap) (us ++ cl.args.map a.eval ++ vs) := (h1.append (RepVs_map hρ cl.args)).append h2
          have hc' := hcall ι w _ hs.h hargs
          have hne : fn.body.isNone = false := by
            cases hb : fn.body with
            | none => simp [hb] at hbody
            | some b => rfl
          have hrun : (execOp a.eval o).run P w = .ok (.enter f' (us ++ cl.args.map a.eval ++ vs)) w := by
            simp only [execOp, hoo, resolve, hc, hv, Deferred.ofValue, Sem.run_bind, Sem.run_pure, Result.andThen_ok, invoke, callFunc, run_program, hfn, hname, hne, Bool.false_eq_true, if_false]
          unfold Oper.wp
          rw [hrun]
          refine hc'.mono fun e w' ⟨r, v, ι', H', g1, g2, g3, g4, g5⟩ => ?_
          subst g1
          exact ⟨⟨σ.t.put o.dst r, H'⟩, ι', ⟨g3, (hs.t.mono g5).put hd g4⟩, hf.trans g5, g2⟩
        · exact h.elim
      | invoke r m => simp [lowOp, hoo, hc] at hop
      | builtin b => cases b <;> simp only [lowOp, hoo, hc] at hop <;> (repeat' split at hop) <;> simp at hop
    | unOp op ty x => cases op <;> simp [lowOp, hoo] at hop
    | makeMap ty r => cases r <;> simp [lowOp, hoo] at hop
    | next it b => cases b <;> simp [lowOp, hoo] at hop
    | _ => simp only [lowOp, hoo] at hop <;> (repeat' split at hop) <;> simp at hop
  · split at h
    · rename_i v H' hst
      exact stp v H' hst h
    · exact h.elim

theorem wpG_sound {ops : Array Oper} {o : Oper} {K : AS → Prop} {σ : AS} (h : wpG P (lowOperN P N ops o) K σ) {c0 : Cx} {ι : Nat → Option Nat} {a : Act} {w : World} (hs : RepS N ι σ a w) (hf : Fr c0 ⟨ι, σ.H, w⟩) (Q : Exit → Act → World → Prop) :
    if Region.wanted o (yielded ops a.tmps) then o.wp P a w (Next' c0 N K) Q else Next' c0 N K (a.put o.dst undef) w := by
  have hd : ∀ n, o.dst = some n → n < N := fun n hn => by
    unfold lowOperN at h
    rw [hn] at h
    simp only at h
    split at h
    · assumption
    · simp [wpG, wpO, stepL, pureStep] at h
  have hlow : lowOperN P N ops o = lowOper P ops o := by
    unfold lowOperN
    split
    · rename_i d hd'
      rw [if_pos (hd d hd')]
    · rfl
  rw [hlow] at h
  unfold lowOper at h
  split at h
  · rename_i hg
    rw [if_pos (by simp [Region.wanted, hg])]
    exact wpO_sound (ops := ops) hd (by simpa [wpG] using h) hs hf Q
  · rename_i j b hg
    split at h
    · rename_i g hgt
      simp only [wpG] at h
      split at h
      · rename_i x hx
        have hy : yielded ops a.tmps j = some x := by
          have := hs.t.val g
          rw [hx] at this
          have hv := this.bool_inv
          unfold yielded
          rw [hgt]
          simp only [Option.bind_some]
          have hlt : g < a.tmps.size := by
            rcases Nat.lt_or_ge g a.tmps.size with h' | h'
            · exact h'
            · simp [Array.getD_eq_getD_getElem?, Array.getElem?_eq_none h', undef] at hv
          simp only [Array.getD_eq_getD_getElem?, Array.getElem?_eq_getElem hlt, Option.getD_some] at hv
          rw [Array.getElem?_eq_getElem hlt, hv]
        by_cases hxb : x = b
        · rw [if_pos (by simp [Region.wanted, hg, hy, hxb])]
          have := h.1 hxb
          exact wpO_sound (ops := ops) hd (by simpa [wpO] using this) hs hf Q
        · rw [if_neg (by simp [Region.wanted, hg, hy, hxb])]
          exact ⟨⟨σ.t.put o.dst (.imm undef), σ.H⟩, ι, ⟨hs.h, hs.t.put hd (.imm _)⟩, hf, h.2 hxb⟩
      · rename_i u hu
        obtain ⟨hu2, hk⟩ := h
        subst hu2
        have hy : yielded ops a.tmps j = none := by
          have hv := hs.t.val g
          rw [hu] at hv
          have hv := hv.imm_inv
          unfold yielded
          rw [hgt]
          simp only [Option.bind_some]
          rcases Nat.lt_or_ge g a.tmps.size with hlt | hge
          · simp only [Array.getD_eq_getD_getElem?, Array.getElem?_eq_getElem hlt, Option.getD_some] at hv
            rw [Array.getElem?_eq_getElem hlt, hv]
            rfl
          · rw [Array.getElem?_eq_none hge]
        rw [if_neg (by simp [Region.wanted, hg, hy])]
        exact ⟨⟨σ.t.put o.dst (.imm undef), σ.H⟩, ι, ⟨hs.h, hs.t.put hd (.imm _)⟩, hf, hk⟩
      · exact h.elim
    · simp [wpG, wpO, stepL, pureStep] at h

theorem wpL_sound {ops : Array Oper} {c0 : Cx} {Q : Exit → AS → Prop} : ∀ (l : List Oper) (σ : AS) (ι : Nat → Option Nat) (a : Act) (w : World), wpL P (l.map (lowOperN P N ops)) (Q .normal) σ → RepS N ι σ a w → Fr c0 ⟨ι, σ.H, w⟩ → wpList P ops (Good c0 N Q) l a w
  | [], σ, ι, a, w, h, hs, hf => ⟨trivial, σ, ι, hs, hf, h⟩
  | o :: l, σ, ι, a, w, h, hs, hf => by
    simp only [List.map_cons, wpL] at h
    have hg := wpG_sound (P := P) (N := N) h hs hf (Good c0 N Q)
    have rest : ∀ a w, Next' c0 N (wpL P (l.map (lowOperN P N ops)) (Q .normal)) a w → wpList P ops (Good c0 N Q) l a w := fun a w ⟨σ', ι', h1, h2, h3⟩ => wpL_sound l σ' ι' a w h3 h1 h2
    unfold wpList
    split
    · rename_i hw
      rw [if_pos hw] at hg
      exact .inl (Oper.wp_mono rest hg)
    · rename_i hw
      rw [if_neg hw] at hg
      exact rest _ _ hg

end sound
end Go.Proofs.YtoiceinjademgaaDoor
