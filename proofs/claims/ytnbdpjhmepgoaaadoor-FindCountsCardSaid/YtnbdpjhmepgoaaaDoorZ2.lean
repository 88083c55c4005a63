/-
  Texts of this claim, put together.
-/
import Derived.Deep.Quiet
import Derived.Deep.LoopGhost
import Derived.Test.YtnbdpjhmepgoaaaDoorZ1
namespace Go.Proofs.YtnbdpjhmepgoaaaDoor
open Go.RowKit
set_option linter.unusedVariables false
set_option linter.unusedSimpArgs false
def LOp.loud : LOp → Bool
  | .load .. | .alloc _ | .box _ | .store .. | .bslice .. | .mkSlice .. | .append .. | .appendS .. | .copy .. | .toStr _ | .mkMap | .lookup .. | .mapSet .. | .len .map _ | .range _ | .next _ => true
  | _ => false
def LOp.reads : LOp → Bool
  | .load .. | .lookup .. | .len .map _ => true
  | .alloc _ | .box _ | .store .. | .bslice .. | .mkSlice .. | .append .. | .appendS .. | .copy .. | .toStr _ | .mkMap | .mapSet .. | .range _ | .next _ => false
  | .call .. | .bad => false
  | _ => true
theorem stepL_quiet {op : LOp} (h : op.loud = false) (σ : AS) : stepL op σ = (pureStep op (ev σ.t)).map fun v => (v, σ.H) := by
  cases op <;> first | rfl | (simp [LOp.loud] at h; done) | skip
  rename_i k x
  cases k <;> first | rfl | (simp [LOp.loud] at h; done)
section
variable {P : Program} {c : Cx} {ρ : Operand → Value} {t : Tm}
theorem does_pure (hρ : ∀ x, RepV c (ev t (lowX x)) (ρ x)) (hH : RepH c) {o : Oper} (hq : (lowOp P o).loud = false) {v : AV} {H' : List AObj} (h : stepL (lowOp P o) ⟨t, c.H⟩ = some (v, H')) : H' = c.H ∧ ∃ u, RepV c v u ∧ Gives P ρ o u := by
  rw [stepL_quiet hq] at h
  simp only [Option.map_eq_some_iff, Prod.mk.injEq] at h
  obtain ⟨v', hv, rfl, rfl⟩ := h
  exact ⟨rfl, pure_sound hρ hv⟩
theorem does_same (hH : RepH c) {o : Oper} {v : AV} {H' : List AObj} (h : H' = c.H ∧ ∃ u, RepV c v u ∧ (execOp ρ o).run P c.w = .ok (.value u) c.w) : Does P ρ o c v H' := by
  obtain ⟨rfl, u, hu, hr⟩ := h
  exact ⟨c.ι, c.w, .value u, u, hr, .inl rfl, hH, Fr.refl c, hu⟩
theorem step_sound (hH : RepH c) (hρ : ∀ x, RepV c (ev t (lowX x)) (ρ x)) {o : Oper} {v : AV} {H' : List AObj} (h : stepL (lowOp P o) ⟨t, c.H⟩ = some (v, H')) : Does P ρ o c v H' := by
  have quiet : (lowOp P o).loud = false → Does P ρ o c v H' := fun hq => by
    obtain ⟨h1, u, h2, h3⟩ := does_pure hρ hH hq h
    exact does_same hH ⟨h1, u, h2, h3 c.w⟩
  have nope : stepL .bad ⟨t, c.H⟩ = some (v, H') → Does P ρ o c v H' := fun h => by simp [stepL, pureStep] at h
  cases hop : o.op with
  | alloc ty =>
    simp only [lowOp, hop] at h
    split at h
    · rename_i z hz
      split at h
      · rename_i hl
        simp only [stepL, Option.some.injEq, Prod.mk.injEq] at h
        obtain ⟨rfl, rfl⟩ := h
        exact s_alloc hH hop hz hl
      · exact nope h
    · exact nope h
  | box ty x => simp only [lowOp, hop] at h; exact s_box hH hρ hop h
  | buildSlice ty len parts =>
    simp only [lowOp, hop] at h
    split at h
    · rename_i e ht
      split at h
      · rename_i z hz
        split at h
        · rename_i hc
          simp only [Bool.and_eq_true, decide_eq_true_eq, beq_iff_eq] at hc
          exact s_bslice hH hρ hop ht hz hc.1.1 hc.1.2 hc.2 h
        · exact nope h
      · exact nope h
    · exact nope h
  | load ty a =>
    simp only [lowOp, hop] at h
    split at h
    · rename_i ht
      exact does_same hH (s_load hH hρ hop ht h)
    · exact nope h
  | store ty a x =>
    simp only [lowOp, hop] at h
    split at h
    · rename_i ht
      exact s_store hH hρ hop ht h
    · exact nope h
  | convert s d x =>
    simp only [lowOp, hop] at h
    split at h
    · exact quiet (by simp only [lowOp, hop, *]; rfl)
    · rename_i e hs hd
      split at h
      · rename_i he
        exact s_toStr hH hρ hop hs hd he h
      · exact nope h
    · split at h
      · simp [stepL, pureStep] at h
      · exact nope h
    · exact nope h
  | makeMap ty r =>
    cases r with
    | none =>
      simp only [lowOp, hop, stepL, Option.some.injEq, Prod.mk.injEq] at h
      obtain ⟨rfl, rfl⟩ := h
      exact s_mkMap hH hop
    | some r => simp only [lowOp, hop] at h; exact nope h
  | makeSlice ty l m =>
    simp only [lowOp, hop] at h
    split at h
    · rename_i e ht
      split at h
      · rename_i z hz
        split at h
        · rename_i hc
          simp only [Bool.and_eq_true, decide_eq_true_eq, beq_iff_eq] at hc
          exact s_mkSlice hH hρ hop ht hz hc.1 hc.2 h
        · exact nope h
      · exact nope h
    · exact nope h
  | lookup ty x k ok =>
    simp only [lowOp, hop] at h
    split at h
    · rename_i kt et ht
      split at h
      · rename_i kd z hk hz
        exact does_same hH (s_lookup hH hρ hop ht hk hz h)
      · exact nope h
    · exact nope h
  | mapUpdate ty m k x =>
    simp only [lowOp, hop] at h
    split at h
    · rename_i kt et ht
      split at h
      · rename_i kd hk
        exact s_mapSet hH hρ (.inl hop) ht hk h
      · exact nope h
    · exact nope h
  | insert ty m k x =>
    simp only [lowOp, hop] at h
    split at h
    · rename_i kt et ht
      split at h
      · rename_i kd hk
        exact s_mapSet hH hρ (.inr hop) ht hk h
      · exact nope h
    · exact nope h
  | range ty x =>
    simp only [lowOp, hop] at h
    split at h
    · rename_i ht
      exact s_range hH hρ hop ht h
    · exact nope h
  | next it b =>
    cases b with
    | true => simp only [lowOp, hop] at h; exact s_next hH hρ hop h
    | false => simp only [lowOp, hop] at h; exact nope h
  | call cl =>
    simp only [lowOp, hop] at h
    split at h
    · simp [stepL, pureStep] at h
    · rename_i hc
      split at h
      · exact quiet (by simp only [lowOp, hop, *]; rfl)
      · exact quiet (by simp only [lowOp, hop, *]; rfl)
      · rename_i kt et x ht ha
        exact does_same hH (s_lenM hH hρ hop hc (by simpa using congrArg List.toArray ha) ht h)
      · exact nope h
    · exact quiet (by simp only [lowOp, hop, *]; rfl)
    · exact quiet (by simp only [lowOp, hop, *]; rfl)
    · rename_i hc
      split at h
      · rename_i e e' s x h0 h1 ha
        split at h
        · rename_i hcond
          simp only [Bool.and_eq_true, decide_eq_true_eq, beq_iff_eq] at hcond
          exact s_append hH hρ hop hc (by simpa using congrArg List.toArray ha) h0 h1 hcond.1 hcond.2 h
        · exact nope h
      · rename_i e s x h0 h1 ha
        split at h
        · rename_i hcond
          simp only [Bool.and_eq_true, beq_iff_eq] at hcond
          exact s_appendS hH hρ hop hc (by simpa using congrArg List.toArray ha) h0 h1 hcond.1.1.1 hcond.1.1.2 hcond.2 h
        · exact nope h
      · exact nope h
    · rename_i hc
      split at h
      · rename_i e e' d s h0 h1 ha
        split at h
        · rename_i hcond
          simp only [beq_iff_eq] at hcond
          exact s_copy hH hρ hop hc (by simpa using congrArg List.toArray ha) h0 h1 hcond h
        · exact nope h
      · exact nope h
    · exact nope h
  | unOp op ty x => cases op <;> exact quiet (by simp only [lowOp, hop]; rfl)
  | slice ty x lo hi mx => exact quiet (by cases mx <;> simp only [lowOp, hop] <;> (repeat' split) <;> rfl)
  | build ty parts => exact quiet (by simp only [lowOp, hop]; (repeat' split) <;> rfl)
  | typeAssert x xt ty ok => exact quiet (by cases ok <;> simp only [lowOp, hop] <;> (repeat' split) <;> rfl)
  | makeInterface ty x => exact quiet (by simp only [lowOp, hop]; (repeat' split) <;> rfl)
  | fieldAddr ty x i => exact quiet (by simp only [lowOp, hop]; (repeat' split) <;> rfl)
  | field ty x i => exact quiet (by simp only [lowOp, hop]; (repeat' split) <;> rfl)
  | indexAddr ty x i => exact quiet (by simp only [lowOp, hop]; (repeat' split) <;> rfl)
  | index ty x i => exact quiet (by simp only [lowOp, hop]; (repeat' split) <;> rfl)
  | _ => exact quiet (by simp only [lowOp, hop]; rfl)
end
end Go.Proofs.YtnbdpjhmepgoaaaDoor
namespace Go.Proofs.YtnbdpjhmepgoaaaDoor
open Go.RowKit
set_option linter.unusedVariables false
set_option linter.unusedSimpArgs false
inductive Plan where
  | done
  | take (i : Nat) (p : Plan)
  | all (ps : List (Nat × Plan))
  | no
  | front (i : Nat) (p : Plan)
  | both (p q : Plan)
inductive LCode where
  | skip
  | text (ops : List LOper)
  | any (quiet : Bool) (ops : List LOper) (plan : Plan)
  | seq (a b : LCode)
  | cond (c : Opd) (a b : LCode)
  | block (id : Nat) (a : LCode)
  | loop (a : LCode)
  | exit (id : Nat)
  | ret
  | bad
def LOp.isCall : LOp → Bool
  | .call .. => true
  | _ => false
section
variable (P : Program) (N : Nat)
def lowOperN (ops : Array Oper) (o : Oper) : LOper :=
  match o.dst with
  | some d => if d < N then lowOper P ops o else ⟨o.dst, .bad, none⟩
  | none => lowOper P ops o
def LOp.opds : LOp → List Opd
  | .mv x | .box x | .nilc x | .not x | .neg x | .toInt _ x | .toStr x | .toBytes x | .mkIface _ x | .assertT _ _ x | .faddr _ x | .field _ _ _ x | .range x | .next x | .extract x _ | .len _ x | .load _ _ x => [x]
  | .pick c a b => [c, a, b]
  | .alloc _ | .mkMap | .bad => []
  | .build _ ps => ps.map fun p => p.2.2
  | .bslice _ _ _ ps => ps.map fun p => p.2
  | .store _ a x => [a, x]
  | .bin _ _ x y => [x, y]
  | .mkFn _ a b => a ++ b
  | .mkSlice _ _ _ l c => [l, c]
  | .sliceS x lo hi => x :: (lo.toList ++ hi.toList)
  | .slice _ x lo hi mx => x :: (lo.toList ++ (hi.toList ++ mx.toList))
  | .sliceA _ _ x lo hi => x :: (lo.toList ++ hi.toList)
  | .iaddrS _ x i | .iaddrA _ _ x i | .idxA _ _ _ x i | .idxS x i => [x, i]
  | .lookup _ x k _ => [x, k]
  | .mapSet m k v => [m, k, v]
  | .min xs | .max xs => xs
  | .append _ _ s x | .appendS s x | .copy _ s x => [s, x]
  | .call f args => f :: args
def LOper.looks (o : LOper) : List Nat := (o.op.opds.filterMap fun x => match x with | .tmp n => some n | .cst _ => none) ++ (match o.guard with | some (g, _) => [g] | none => [])
def LOp.kind : LOp → Nat
  | .load .. | .lookup .. | .len .map _ | .toStr _ => 1
  | .alloc _ | .box _ | .bslice .. | .mkSlice .. | .mkMap | .range _ => 2
  | .call .. => 3
  | .store .. => 4
  | .append .. | .appendS .. | .copy .. | .mapSet .. | .next _ | .bad => 5
  | _ => 0
def compat (a b : Nat) : Bool := a == 0 || a == 3 || b == 0 || b == 3 || (a == 1 && (b == 1 || b == 2)) || (a == 4 && b == 2)
def LOper.apart (x y : LOper) : Bool :=
  (match x.dst with
   | some d => !y.looks.contains d && y.dst != some d
   | none => true) &&
  (match y.dst with
   | some d => !x.looks.contains d
   | none => true)
def behind (ops : Array Oper) (listed : Array Bool) (i : Nat) : List Nat :=
  (List.range ops.size).foldl (fun D j => if j != i && !listed.getD j true && (match ops[j]? with | some o => o.after.any (fun e => Region.binds .any e && (e.on == i || D.contains e.on)) | none => false) then j :: D else D) []
def frontOk (ops : Array Oper) (l : Array LOper) (listed : Array Bool) (i : Nat) (D : List Nat) : Bool :=
  D.all (fun k => !listed.getD k true && match ops[k]? with | some o => o.after.any (fun e => Region.binds .any e && (e.on == i || D.contains e.on)) | none => false) && match l[i]? with
  | none => false
  | some oi => (List.range ops.size).all fun j => j == i || listed.getD j true || D.contains j || match l[j]? with
    | some oj => compat oi.op.kind oj.op.kind && oi.apart oj
    | none => true
def mkPlan (ops : Array Oper) (l : Array LOper) : Nat → Array Bool → Nat → Plan × Nat
  | 0, listed, b => (if (Region.ready .any ops listed).isEmpty then .done else .no, b)
  | _ + 1, _, 0 => (.no, 0)
  | n + 1, listed, b + 1 =>
    let r := Region.ready .any ops listed
    if r.isEmpty then (.done, b) else
    match r.find? fun i => Region.free .any ops listed i && (match l[i]? with | some o => !o.op.loud && !o.op.isCall && (match o.op with | .bad => false | _ => true) | none => false) with
    | some i => match mkPlan ops l n (listed.setIfInBounds i true) b with | (p, b') => (.take i p, b')
    | none => match r.foldl (fun (s : List (Nat × Plan) × Nat) i => match mkPlan ops l n (listed.setIfInBounds i true) s.2 with | (p, b') => ((i, p) :: s.1, b')) ([], b) with | (ps, b') => (.all ps.reverse, b')
def mkPlan2 (ops : Array Oper) (l : Array LOper) : Nat → Array Bool → Nat → Plan × Nat
  | 0, listed, b => (if (Region.ready .any ops listed).isEmpty then .done else .no, b)
  | _ + 1, _, 0 => (.no, 0)
  | n + 1, listed, b + 1 =>
    let r := Region.ready .any ops listed
    if r.isEmpty then (.done, b) else
    match r.find? fun i => frontOk ops l listed i (behind ops listed i) with
    | some i => match mkPlan2 ops l n (listed.setIfInBounds i true) b with | (p, b') => (.front i p, b')
    | none => match r.foldl (fun (s : List (Nat × Plan) × Nat) i => match mkPlan2 ops l n (listed.setIfInBounds i true) s.2 with | (p, b') => ((i, p) :: s.1, b')) ([], b) with | (ps, b') => (.all ps.reverse, b')
mutual
def okPlan (ops : Array Oper) : Nat → Array Bool → Plan → Bool
  | _, listed, .done => (Region.ready .any ops listed).isEmpty
  | 0, _, _ => false
  | n + 1, listed, .take i p => Region.free .any ops listed i && (Region.ready .any ops listed).contains i && okPlan ops n (listed.setIfInBounds i true) p
  | n + 1, listed, .all ps => (Region.ready .any ops listed) == ps.map (·.1) && !ps.isEmpty && okPlans ops n listed ps
  | _, _, .no => false
  | _, _, .front _ _ => false
  | _, _, .both _ _ => false
def okPlans (ops : Array Oper) : Nat → Array Bool → List (Nat × Plan) → Bool
  | _, _, [] => true
  | n, listed, (i, p) :: r => okPlan ops n (listed.setIfInBounds i true) p && okPlans ops n listed r
end
mutual
def okPlan2 (ops : Array Oper) (l : Array LOper) : Nat → Array Bool → Plan → Bool
  | _, listed, .done => (Region.ready .any ops listed).isEmpty
  | 0, _, _ => false
  | n + 1, listed, .front i p => (Region.ready .any ops listed).contains i && frontOk ops l listed i (behind ops listed i) && okPlan2 ops l n (listed.setIfInBounds i true) p
  | n + 1, listed, .all ps => (Region.ready .any ops listed) == ps.map (·.1) && !ps.isEmpty && okPlans2 ops l n listed ps
  | _, _, .no => false
  | _, _, .take _ _ => false
  | _, _, .both _ _ => false
def okPlans2 (ops : Array Oper) (l : Array LOper) : Nat → Array Bool → List (Nat × Plan) → Bool
  | _, _, [] => true
  | n, listed, (i, p) :: r => okPlan2 ops l n (listed.setIfInBounds i true) p && okPlans2 ops l n listed r
end
def checked (ops : Array Oper) (p : Plan) : Plan := if okPlan ops ops.size (Array.replicate ops.size false) p then p else .no
def checked2 (ops : Array Oper) (l : Array LOper) (p : Plan) : Plan := if okPlan2 ops l ops.size (Array.replicate ops.size false) p then p else .no
theorem checked_ok (ops : Array Oper) (p : Plan) : checked ops p = .no ∨ okPlan ops ops.size (Array.replicate ops.size false) (checked ops p) = true := by
  unfold checked
  by_cases hp : okPlan ops ops.size (Array.replicate ops.size false) p = true
  · rw [if_pos hp]; exact .inr hp
  · rw [if_neg hp]; exact .inl rfl
theorem checked2_ok (ops : Array Oper) (l : Array LOper) (p : Plan) : checked2 ops l p = .no ∨ okPlan2 ops l ops.size (Array.replicate ops.size false) (checked2 ops l p) = true := by
  unfold checked2
  by_cases hp : okPlan2 ops l ops.size (Array.replicate ops.size false) p = true
  · rw [if_pos hp]; exact .inr hp
  · rw [if_neg hp]; exact .inl rfl
def planOf (q : Bool) (ops : Array Oper) (l : List LOper) : Plan :=
  if q && l.all (fun o => !o.op.isCall) then .both .no .no
  else .both (checked ops (mkPlan ops l.toArray ops.size (Array.replicate ops.size false) (6000000 / (ops.size * ops.size * ops.size + 1))).1) (checked2 ops l.toArray (mkPlan2 ops l.toArray ops.size (Array.replicate ops.size false) (4 * ops.size + 6000000 / (ops.size * ops.size * ops.size + 1))).1)
theorem planOf_ok (q : Bool) (ops : Array Oper) (l : List LOper) : ∃ p1 p2, planOf q ops l = .both p1 p2 ∧ (p1 = .no ∨ okPlan ops ops.size (Array.replicate ops.size false) p1 = true) ∧ (p2 = .no ∨ okPlan2 ops l.toArray ops.size (Array.replicate ops.size false) p2 = true) := by
  unfold planOf
  split
  · exact ⟨_, _, rfl, .inl rfl, .inl rfl⟩
  · exact ⟨_, _, rfl, checked_ok _ _, checked2_ok _ _ _⟩
def lowCode : Code → LCode
  | .skip | .label _ => .skip
  | .region _ ops false => .text (ops.toList.map (lowOperN P N ops))
  | .region _ ops true =>
    let l := ops.toList.map (lowOperN P N ops)
    if Region.noSelect ops && P.follows .mixedOrders then
      let q := Region.lexB .any ops && l.all fun o => o.op.reads || o.op.isCall
      .any q l (planOf q ops l)
    else .bad
  | .seq a b => .seq (lowCode a) (lowCode b)
  | .cond c a b => .cond (lowX c) (lowCode a) (lowCode b)
  | .block i a => .block i (lowCode a)
  | .loop a => .loop (lowCode a)
  | .exit i => .exit i
  | .ret => .ret
  | _ => .bad
end
structure RepS (N : Nat) (ι : Nat → Option Nat) (σ : AS) (a : Act) (w : World) : Prop where
  h : RepH ⟨ι, σ.H, w⟩
  t : RepT ⟨ι, σ.H, w⟩ N σ.t a
def calm : Exit → Prop
  | .panic _ | .outgrown => False
  | _ => True
def Good (c0 : Cx) (N : Nat) (Q : Exit → AS → Prop) : Exit → Act → World → Prop := fun e a w => calm e ∧ ∃ σ ι, RepS N ι σ a w ∧ Fr c0 ⟨ι, σ.H, w⟩ ∧ Q e σ
def ACode (P : Program) (N : Nat) (code : Code) (Q : Exit → AS → Prop) (σ : AS) : Prop := ∀ c0 ι a w, RepS N ι σ a w → Fr c0 ⟨ι, σ.H, w⟩ → code.wp P (Good c0 N Q) a w
def LC (P : Program) (N : Nat) (lc : LCode) (Q : Exit → AS → Prop) (σ : AS) : Prop := ∀ code, lowCode P N code = lc → ACode P N code Q σ
def ACalls (P : Program) (f : FuncId) (args : List AV) (H : List AObj) (Q : AV → List AObj → Prop) : Prop :=
  (∃ fn, P.funcs[f]? = some fn ∧ fn.body.isSome = true ∧ (fn.name == "runtime.NumGoroutine") = false) ∧
  ∀ ι w vals, RepH ⟨ι, H, w⟩ → RepVs ⟨ι, H, w⟩ args vals → Calls P f vals w fun e w' => ∃ r v ι' H', e = .returned v ∧ Q r H' ∧ RepH ⟨ι', H', w'⟩ ∧ RepV ⟨ι', H', w'⟩ r v ∧ Fr ⟨ι, H, w⟩ ⟨ι', H', w'⟩
theorem ACalls.mono {P : Program} {f : FuncId} {args : List AV} {H : List AObj} {Q Q' : AV → List AObj → Prop} (h : ACalls P f args H Q) (hq : ∀ r H', Q r H' → Q' r H') : ACalls P f args H Q' :=
  ⟨h.1, fun ι w vals h1 h2 => (h.2 ι w vals h1 h2).mono fun e w' ⟨r, v, ι', H', g1, g2, g3⟩ => ⟨r, v, ι', H', g1, hq _ _ g2, g3⟩⟩
def CallA (P : Program) (fv : AV) (args : List AV) (H : List AObj) (K : AV → List AObj → Prop) : Prop := match fv with
  | .fn (.func f) first cap => ACalls P f (first ++ args ++ cap) H K
  | _ => False
def wpO (P : Program) (o : LOper) (K : AS → Prop) (σ : AS) : Prop :=
  match o.op with
  | .call f args => CallA P (ev σ.t f) (args.map (ev σ.t)) σ.H fun v H' => K ⟨σ.t.put o.dst v, H'⟩
  | op => match stepL op σ with
    | some (v, H') => K ⟨σ.t.put o.dst v, H'⟩
    | none => False
def wpG (P : Program) (o : LOper) (K : AS → Prop) (σ : AS) : Prop :=
  match o.guard with
  | none => wpO P o K σ
  | some (g, b) => match σ.t g with
    | .bool x => (x = b → wpO P o K σ) ∧ (x ≠ b → K ⟨σ.t.put o.dst (.imm undef), σ.H⟩)
    | .imm u => u = undef ∧ K ⟨σ.t.put o.dst (.imm undef), σ.H⟩
    | _ => False
def wpL (P : Program) : List LOper → (AS → Prop) → AS → Prop
  | [], K, σ => K σ
  | o :: r, K, σ => wpG P o (wpL P r K) σ
section sound
variable {P : Program} {N : Nat}
theorem RepVs.append {c : Cx} {as bs : List AV} {us vs : Array Value} (h1 : RepVs c as us) (h2 : RepVs c bs vs) : RepVs c (as ++ bs) (us ++ vs) := by
  refine ⟨by simp [h1.1, h2.1], fun i a ha => ?_⟩
  by_cases hi : i < as.length
  · rw [List.getElem?_append_left hi] at ha
    have := h1.2 i a ha
    have e : (us ++ vs).getD i undef = us.getD i undef := by
      simp only [Array.getD_eq_getD_getElem?]
      rw [Array.getElem?_append_left (by rw [h1.1]; exact hi)]
    rw [e]
    exact this
  · rw [List.getElem?_append_right (by omega)] at ha
    have := h2.2 _ a ha
    have e : (us ++ vs).getD i undef = vs.getD (i - as.length) undef := by
      simp only [Array.getD_eq_getD_getElem?]
      rw [Array.getElem?_append_right (by rw [h1.1]; omega), h1.1]
    rw [e]
    exact this
def Next' (c0 : Cx) (N : Nat) (K : AS → Prop) : Act → World → Prop := fun a w => ∃ σ ι, RepS N ι σ a w ∧ Fr c0 ⟨ι, σ.H, w⟩ ∧ K σ
theorem wpO_sound {ops : Array Oper} {o : Oper} {K : AS → Prop} {σ : AS} (hd : ∀ n, o.dst = some n → n < N) (h : wpO P ⟨o.dst, lowOp P o, none⟩ K σ) {c0 : Cx} {ι : Nat → Option Nat} {a : Act} {w : World} (hs : RepS N ι σ a w) (hf : Fr c0 ⟨ι, σ.H, w⟩) (Q : Exit → Act → World → Prop) :
    o.wp P a w (Next' c0 N K) Q := by
  have hρ : ∀ x, RepV ⟨ι, σ.H, w⟩ (ev σ.t (lowX x)) (a.eval x) := hs.t.eval hs.h.glob
  have stp : ∀ v H', stepL (lowOp P o) σ = some (v, H') → K ⟨σ.t.put o.dst v, H'⟩ → o.wp P a w (Next' c0 N K) Q := fun v H' hst hK => by
    obtain ⟨ι', w', n, u, h1, h2, h3, h4, h5⟩ := step_sound (c := ⟨ι, σ.H, w⟩) (ρ := a.eval) (t := σ.t) hs.h hρ hst
    have next : Next' c0 N K (a.put o.dst u) w' := ⟨⟨σ.t.put o.dst v, H'⟩, ι', ⟨h3, (hs.t.mono h4).put hd h5⟩, hf.trans h4, hK⟩
    unfold Oper.wp
    rw [h1]
    rcases h2 with rfl | ⟨rfl, rfl⟩
    · exact next
    · exact next
  unfold wpO at h
  simp only at h
  split at h
  · rename_i f args hop
    cases hoo : o.op with
    | call cl =>
      cases hc : cl.callee with
      | value fo =>
        simp only [lowOp, hoo, hc, LOp.call.injEq] at hop
        obtain ⟨rfl, rfl⟩ := hop
        have hfv := hρ fo
        unfold CallA at h
        split at h
        · rename_i f' first cap hfe
          rw [hfe] at hfv
          obtain ⟨us, vs, hv, h1, h2⟩ := hfv.fn_inv
          obtain ⟨⟨fn, hfn, hbody, hname⟩, hcall⟩ := h
          have hargs : RepVs ⟨ι, σ.H, w⟩ (first ++ (cl.args.toList.map lowX).map (ev σ.t) ++ cap) (us ++ cl.args.map a.eval ++ vs) := (h1.append (RepVs_map hρ cl.args)).append h2
          have hc' := hcall ι w _ hs.h hargs
          have hne : fn.body.isNone = false := by
            cases hb : fn.body with
            | none => simp [hb] at hbody
            | some b => rfl
          have hrun : (execOp a.eval o).run P w = .ok (.enter f' (us ++ cl.args.map a.eval ++ vs)) w := by
            simp only [execOp, hoo, resolve, hc, hv, Deferred.ofValue, Sem.run_bind, Sem.run_pure, Result.andThen_ok, invoke, callFunc, run_program, hfn, hname, hne, Bool.false_eq_true, if_false]
          unfold Oper.wp
          rw [hrun]
          refine hc'.mono fun e w' ⟨r, v, ι', H', g1, g2, g3, g4, g5⟩ => ?_
          subst g1
          exact ⟨⟨σ.t.put o.dst r, H'⟩, ι', ⟨g3, (hs.t.mono g5).put hd g4⟩, hf.trans g5, g2⟩
        · exact h.elim
      | invoke r m => simp [lowOp, hoo, hc] at hop
      | builtin b => cases b <;> simp only [lowOp, hoo, hc] at hop <;> (repeat' split at hop) <;> simp at hop
    | unOp op ty x => cases op <;> simp [lowOp, hoo] at hop
    | makeMap ty r => cases r <;> simp [lowOp, hoo] at hop
    | next it b => cases b <;> simp [lowOp, hoo] at hop
    | typeAssert x xt ty ok => cases ok <;> simp only [lowOp, hoo] at hop <;> (repeat' split at hop) <;> simp at hop
    | _ => simp only [lowOp, hoo] at hop <;> (repeat' split at hop) <;> simp at hop
  · split at h
    · rename_i v H' hst
      exact stp v H' hst h
    · exact h.elim
theorem wpG_sound {ops : Array Oper} {o : Oper} {K : AS → Prop} {σ : AS} (h : wpG P (lowOperN P N ops o) K σ) {c0 : Cx} {ι : Nat → Option Nat} {a : Act} {w : World} (hs : RepS N ι σ a w) (hf : Fr c0 ⟨ι, σ.H, w⟩) (Q : Exit → Act → World → Prop) :
    if Region.wanted o (yielded ops a.tmps) then o.wp P a w (Next' c0 N K) Q else Next' c0 N K (a.put o.dst undef) w := by
  have hd : ∀ n, o.dst = some n → n < N := fun n hn => by
    unfold lowOperN at h
    rw [hn] at h
    simp only at h
    split at h
    · assumption
    · simp [wpG, wpO, stepL, pureStep] at h
  have hlow : lowOperN P N ops o = lowOper P ops o := by
    unfold lowOperN
    split
    · rename_i d hd'
      rw [if_pos (hd d hd')]
    · rfl
  rw [hlow] at h
  unfold lowOper at h
  split at h
  · rename_i hg
    rw [if_pos (by simp [Region.wanted, hg])]
    exact wpO_sound (ops := ops) hd (by simpa [wpG] using h) hs hf Q
  · rename_i j b hg
    split at h
    · rename_i g hgt
      simp only [wpG] at h
      split at h
      · rename_i x hx
        have hy : yielded ops a.tmps j = some x := by
          have := hs.t.val g
          rw [hx] at this
          have hv := this.bool_inv
          unfold yielded
          rw [hgt]
          simp only [Option.bind_some]
          have hlt : g < a.tmps.size := by
            rcases Nat.lt_or_ge g a.tmps.size with h' | h'
            · exact h'
            · simp [Array.getD_eq_getD_getElem?, Array.getElem?_eq_none h', undef] at hv
          simp only [Array.getD_eq_getD_getElem?, Array.getElem?_eq_getElem hlt, Option.getD_some] at hv
          rw [Array.getElem?_eq_getElem hlt, hv]
        by_cases hxb : x = b
        · rw [if_pos (by simp [Region.wanted, hg, hy, hxb])]
          have := h.1 hxb
          exact wpO_sound (ops := ops) hd (by simpa [wpO] using this) hs hf Q
        · rw [if_neg (by simp [Region.wanted, hg, hy, hxb])]
          exact ⟨⟨σ.t.put o.dst (.imm undef), σ.H⟩, ι, ⟨hs.h, hs.t.put hd (.imm _)⟩, hf, h.2 hxb⟩
      · rename_i u hu
        obtain ⟨hu2, hk⟩ := h
        subst hu2
        have hy : yielded ops a.tmps j = none := by
          have hv := hs.t.val g
          rw [hu] at hv
          have hv := hv.imm_inv
          unfold yielded
          rw [hgt]
          simp only [Option.bind_some]
          rcases Nat.lt_or_ge g a.tmps.size with hlt | hge
          · simp only [Array.getD_eq_getD_getElem?, Array.getElem?_eq_getElem hlt, Option.getD_some] at hv
            rw [Array.getElem?_eq_getElem hlt, hv]
            rfl
          · rw [Array.getElem?_eq_none hge]
        rw [if_neg (by simp [Region.wanted, hg, hy])]
        exact ⟨⟨σ.t.put o.dst (.imm undef), σ.H⟩, ι, ⟨hs.h, hs.t.put hd (.imm _)⟩, hf, hk⟩
      · exact h.elim
    · simp [wpG, wpO, stepL, pureStep] at h
theorem wpL_sound {ops : Array Oper} {c0 : Cx} {Q : Exit → AS → Prop} : ∀ (l : List Oper) (σ : AS) (ι : Nat → Option Nat) (a : Act) (w : World), wpL P (l.map (lowOperN P N ops)) (Q .normal) σ → RepS N ι σ a w → Fr c0 ⟨ι, σ.H, w⟩ → wpList P ops (Good c0 N Q) l a w
  | [], σ, ι, a, w, h, hs, hf => ⟨trivial, σ, ι, hs, hf, h⟩
  | o :: l, σ, ι, a, w, h, hs, hf => by
    simp only [List.map_cons, wpL] at h
    have hg := wpG_sound (P := P) (N := N) h hs hf (Good c0 N Q)
    have rest : ∀ a w, Next' c0 N (wpL P (l.map (lowOperN P N ops)) (Q .normal)) a w → wpList P ops (Good c0 N Q) l a w := fun a w ⟨σ', ι', h1, h2, h3⟩ => wpL_sound l σ' ι' a w h3 h1 h2
    unfold wpList
    split
    · rename_i hw
      rw [if_pos hw] at hg
      exact .inl (Oper.wp_mono rest hg)
    · rename_i hw
      rw [if_neg hw] at hg
      exact rest _ _ hg
end sound
section
variable {P : Program} {N : Nat}
theorem reads_sound {c : Cx} {ρ : Operand → Value} {t : Tm} (hH : RepH c) (hρ : ∀ x, RepV c (ev t (lowX x)) (ρ x)) {o : Oper} (hr : (lowOp P o).reads = true) {v : AV} {H' : List AObj} (h : stepL (lowOp P o) ⟨t, c.H⟩ = some (v, H')) :
    H' = c.H ∧ ∃ u, RepV c v u ∧ (execOp ρ o).run P c.w = .ok (.value u) c.w := by
  by_cases hq : (lowOp P o).loud = false
  · obtain ⟨h1, u, h2, h3⟩ := does_pure hρ hH hq h
    exact ⟨h1, u, h2, h3 c.w⟩
  · cases hop : o.op with
    | load ty a =>
      simp only [lowOp, hop] at h hr
      split at h
      · rename_i ht
        exact s_load hH hρ hop ht h
      · simp [stepL, pureStep] at h
    | lookup ty x k ok =>
      simp only [lowOp, hop] at h
      split at h
      · rename_i kt et ht
        split at h
        · rename_i kd z hk hz
          exact s_lookup hH hρ hop ht hk hz h
        · simp [stepL, pureStep] at h
      · simp [stepL, pureStep] at h
    | call cl =>
      simp only [lowOp, hop] at h hr
      split at h
      · simp [stepL, pureStep] at h
      · rename_i hc
        split at h
        · rename_i h1 h2; exact absurd (by simp only [lowOp, hop, hc, h1, h2]; rfl) hq
        · rename_i h1 h2; exact absurd (by simp only [lowOp, hop, hc, h1, h2]; rfl) hq
        · rename_i kt et x ht ha
          exact s_lenM hH hρ hop hc (by simpa using congrArg List.toArray ha) ht h
        · simp [stepL, pureStep] at h
      · rename_i hc; exact absurd (by simp only [lowOp, hop, hc]; rfl) hq
      · rename_i hc; exact absurd (by simp only [lowOp, hop, hc]; rfl) hq
      · rename_i hc
        rw [hc] at hr
        simp only at hr
        exfalso
        split at hr
        · split at hr <;> simp [LOp.reads] at hr
        · split at hr <;> simp [LOp.reads] at hr
        · simp [LOp.reads] at hr
      · rename_i hc
        rw [hc] at hr
        simp only at hr
        exfalso
        split at hr
        · split at hr <;> simp [LOp.reads] at hr
        · simp [LOp.reads] at hr
      · simp [stepL, pureStep] at h
    | unOp op ty x => cases op <;> exact absurd (by simp only [lowOp, hop]; rfl) hq
    | makeMap ty r => cases r <;> simp [lowOp, hop, LOp.reads] at hr
    | next it b => cases b <;> simp [lowOp, hop, LOp.reads] at hr
    | box ty x => exfalso; simp [lowOp, hop, LOp.reads] at hr
    | alloc ty => exfalso; simp only [lowOp, hop] at hr; (repeat' split at hr) <;> simp [LOp.reads] at hr
    | buildSlice ty n ps => exfalso; simp only [lowOp, hop] at hr; (repeat' split at hr) <;> simp [LOp.reads] at hr
    | store ty a x => exfalso; simp only [lowOp, hop] at hr; (repeat' split at hr) <;> simp [LOp.reads] at hr
    | makeSlice ty l m => exfalso; simp only [lowOp, hop] at hr; (repeat' split at hr) <;> simp [LOp.reads] at hr
    | mapUpdate ty m k x => exfalso; simp only [lowOp, hop] at hr; (repeat' split at hr) <;> simp [LOp.reads] at hr
    | insert ty m k x => exfalso; simp only [lowOp, hop] at hr; (repeat' split at hr) <;> simp [LOp.reads] at hr
    | range ty x => exfalso; simp only [lowOp, hop] at hr; (repeat' split at hr) <;> simp [LOp.reads] at hr
    | convert s d x =>
      simp only [lowOp, hop] at h hr
      split at hr
      · rename_i h1 h2; exact absurd (by simp only [lowOp, hop, h1, h2]; rfl) hq
      · split at hr <;> simp [LOp.reads] at hr
      · exfalso
        split at hr
        · rename_i h1 h2 h3
          simp only [h1, h2, h3, if_true] at h
          simp [stepL, pureStep] at h
        · simp [LOp.reads] at hr
      · simp [LOp.reads] at hr
    | slice ty x lo hi mx => exact absurd (by cases mx <;> simp only [lowOp, hop] <;> (repeat' split) <;> rfl) hq
    | build ty parts => exact absurd (by simp only [lowOp, hop]; (repeat' split) <;> rfl) hq
    | typeAssert x xt ty ok => exact absurd (by cases ok <;> simp only [lowOp, hop] <;> (repeat' split) <;> rfl) hq
    | makeInterface ty x => exact absurd (by simp only [lowOp, hop]; (repeat' split) <;> rfl) hq
    | fieldAddr ty x i => exact absurd (by simp only [lowOp, hop]; (repeat' split) <;> rfl) hq
    | field ty x i => exact absurd (by simp only [lowOp, hop]; (repeat' split) <;> rfl) hq
    | indexAddr ty x i => exact absurd (by simp only [lowOp, hop]; (repeat' split) <;> rfl) hq
    | index ty x i => exact absurd (by simp only [lowOp, hop]; (repeat' split) <;> rfl) hq
    | _ => exact absurd (by simp only [lowOp, hop]; rfl) hq
theorem wanted_none {ops : Array Oper} {o : Oper} {tm : Array Value} (hg : o.guard = none) : Region.wanted o (yielded ops tm) = true := by simp [Region.wanted, hg]
theorem yielded_bool {c : Cx} {N : Nat} {t : Tm} {a : Act} (h : RepT c N t a) {ops : Array Oper} {j g : Nat} (hj : (ops[j]?).bind (·.dst) = some g) {x : Bool} (hx : t g = .bool x) : yielded ops a.tmps j = some x := by
  have := h.val g
  rw [hx] at this
  have hv := this.bool_inv
  unfold yielded
  rw [hj]
  simp only [Option.bind_some]
  have hlt : g < a.tmps.size := by
    rcases Nat.lt_or_ge g a.tmps.size with h' | h'
    · exact h'
    · simp [Array.getD_eq_getD_getElem?, Array.getElem?_eq_none h', undef] at hv
  simp only [Array.getD_eq_getD_getElem?, Array.getElem?_eq_getElem hlt, Option.getD_some] at hv
  rw [Array.getElem?_eq_getElem hlt, hv]
theorem yielded_none {c : Cx} {N : Nat} {t : Tm} {a : Act} (h : RepT c N t a) {ops : Array Oper} {j g : Nat} (hj : (ops[j]?).bind (·.dst) = some g) (hx : t g = .imm undef) : yielded ops a.tmps j = none := by
  have hv := h.val g
  rw [hx] at hv
  have hv := hv.imm_inv
  unfold yielded
  rw [hj]
  simp only [Option.bind_some]
  rcases Nat.lt_or_ge g a.tmps.size with hlt | hge
  · simp only [Array.getD_eq_getD_getElem?, Array.getElem?_eq_getElem hlt, Option.getD_some] at hv
    rw [Array.getElem?_eq_getElem hlt, hv]
    rfl
  · rw [Array.getElem?_eq_none hge]
theorem low_spec {ops : Array Oper} {o : Oper} (h : (lowOperN P N ops o).op ≠ .bad) : (∀ n, o.dst = some n → n < N) ∧ (lowOperN P N ops o).dst = o.dst ∧ (lowOperN P N ops o).op = lowOp P o ∧
    ((o.guard = none ∧ (lowOperN P N ops o).guard = none) ∨ ∃ j b g, o.guard = some (j, b) ∧ (ops[j]?).bind (·.dst) = some g ∧ (lowOperN P N ops o).guard = some (g, b)) := by
  have h1 : ∀ n, o.dst = some n → n < N := fun n hn => by
    unfold lowOperN at h
    rw [hn] at h
    simp only at h
    split at h
    · assumption
    · exact absurd rfl h
  have hlow : lowOperN P N ops o = lowOper P ops o := by
    unfold lowOperN
    split
    · rename_i d hd'
      rw [if_pos (h1 d hd')]
    · rfl
  rw [hlow] at h ⊢
  refine ⟨h1, ?_⟩
  unfold lowOper at h ⊢
  split
  · rename_i hg
    exact ⟨rfl, rfl, .inl ⟨hg, rfl⟩⟩
  · rename_i j b hg
    rw [hg] at h
    simp only at h
    split
    · rename_i g hgt
      exact ⟨rfl, rfl, .inr ⟨j, b, g, hg, hgt, rfl⟩⟩
    · rename_i hgt
      rw [hgt] at h
      exact absurd rfl h
theorem wpO_reads {o : LOper} (hr : o.op.reads = true) {K : AS → Prop} {σ : AS} (h : wpO P o K σ) : ∃ v H', stepL o.op σ = some (v, H') ∧ K ⟨σ.t.put o.dst v, H'⟩ := by
  unfold wpO at h
  split at h
  · rename_i hop; rw [hop] at hr; simp [LOp.reads] at hr
  · split at h
    · exact ⟨_, _, by assumption, h⟩
    · exact h.elim
theorem wpL_quiet {ops : Array Oper} {K : AS → Prop} : ∀ (l : List Oper) (σ : AS) (ι : Nat → Option Nat) (a : Act) (w : World), (∀ o ∈ l, (lowOperN P N ops o).op.reads = true) → wpL P (l.map (lowOperN P N ops)) K σ → RepS N ι σ a w →
    wpQuiet P ops (fun w' => w' = w) (fun a' => ∃ σ', RepS N ι σ' a' w ∧ Fr ⟨ι, σ.H, w⟩ ⟨ι, σ'.H, w⟩ ∧ K σ') l a
  | [], σ, ι, a, w, _, h, hs => ⟨σ, hs, Fr.refl _, h⟩
  | o :: l, σ, ι, a, w, hr, h, hs => by
    simp only [List.map_cons, wpL] at h
    have hro := hr o (by simp)
    obtain ⟨hd, e1, e2, hg⟩ := low_spec (P := P) (N := N) (ops := ops) (o := o) (fun e => by rw [e] at hro; simp [LOp.reads] at hro)
    have run : wpO P (lowOperN P N ops o) (wpL P (l.map (lowOperN P N ops)) K) σ → ∃ v, (∀ w', w' = w → o.quietAt P a (fun w' => w' = w) w' v) ∧ wpQuiet P ops (fun w' => w' = w) (fun a' => ∃ σ', RepS N ι σ' a' w ∧ Fr ⟨ι, σ.H, w⟩ ⟨ι, σ'.H, w⟩ ∧ K σ') l (a.put o.dst v) := fun ho => by
      obtain ⟨v, H', h1, h2⟩ := wpO_reads hro ho
      rw [e2] at h1 hro
      obtain ⟨rfl, u, hu, hrun⟩ := reads_sound (c := ⟨ι, σ.H, w⟩) (ρ := a.eval) (t := σ.t) hs.h (hs.t.eval hs.h.glob) hro h1
      refine ⟨u, fun w' hw' => ?_, ?_⟩
      · subst hw'
        unfold Oper.quietAt
        rw [hrun]
        exact ⟨rfl, rfl⟩
      · rw [e1] at h2
        exact wpL_quiet l ⟨σ.t.put o.dst v, σ.H⟩ ι _ w (fun o ho => hr o (by simp [ho])) h2 ⟨hs.h, hs.t.put hd hu⟩
    unfold wpQuiet
    rcases hg with ⟨hg1, hg2⟩ | ⟨j, b, g, hg1, hg2, hg3⟩
    · rw [if_pos (wanted_none hg1)]
      simp only [wpG, hg2] at h
      exact run h
    · simp only [wpG, hg3] at h
      split at h
      · rename_i x hx
        have hy := yielded_bool hs.t hg2 hx
        by_cases hxb : x = b
        · rw [if_pos (by simp [Region.wanted, hg1, hy, hxb])]
          exact run (h.1 hxb)
        · rw [if_neg (by simp [Region.wanted, hg1, hy, hxb])]
          have := h.2 hxb
          rw [e1] at this
          exact wpL_quiet l ⟨σ.t.put o.dst (.imm undef), σ.H⟩ ι _ w (fun o ho => hr o (by simp [ho])) this ⟨hs.h, hs.t.put hd (.imm _)⟩
      · rename_i u hu
        obtain ⟨hu2, hk⟩ := h
        subst hu2
        have hy := yielded_none hs.t hg2 hu
        rw [if_neg (by simp [Region.wanted, hg1, hy])]
        rw [e1] at hk
        exact wpL_quiet l ⟨σ.t.put o.dst (.imm undef), σ.H⟩ ι _ w (fun o ho => hr o (by simp [ho])) hk ⟨hs.h, hs.t.put hd (.imm _)⟩
      · exact h.elim
theorem low_any {code : Code} {q : Bool} {l : List LOper} {p : Plan} (h : lowCode P N code = .any q l p) : ∃ id ops, code = .region id ops true ∧ Region.noSelect ops = true ∧ P.follows .mixedOrders = true ∧ l = ops.toList.map (lowOperN P N ops) ∧
    (q = true → Region.lexB .any ops = true) ∧ ∃ p1 p2, p = .both p1 p2 ∧ (p1 = .no ∨ okPlan ops ops.size (Array.replicate ops.size false) p1 = true) ∧ (p2 = .no ∨ okPlan2 ops l.toArray ops.size (Array.replicate ops.size false) p2 = true) := by
  cases code with
  | region id ops d =>
    cases d with
    | false => simp [lowCode] at h
    | true =>
      simp only [lowCode] at h
      split at h
      · rename_i hc
        simp only [Bool.and_eq_true] at hc
        injection h with f1 f2 f3
        subst f1; subst f2; subst f3
        exact ⟨id, ops, rfl, hc.1, hc.2, rfl, fun hq => by simp only [Bool.and_eq_true] at hq; exact hq.1, planOf_ok _ _ _⟩
      · simp at h
  | _ => simp [lowCode] at h
theorem RepS.drew {ι : Nat → Option Nat} {σ : AS} {a : Act} {w : World} (h : RepS N ι σ a w) : RepS N ι σ a { w with drawn := w.drawn + 1 } := ⟨h.h.drew, h.t.mono (Fr.drew ⟨ι, σ.H, w⟩)⟩
theorem LC_quiet {l : List LOper} {p : Plan} {Q : Exit → AS → Prop} {σ : AS} (hr : l.all (fun o => o.op.reads) = true) (h : wpL P l (Q .normal) σ) : LC P N (.any true l p) Q σ := by
  intro code hc c0 ι a w hs hf
  obtain ⟨id, ops, rfl, h1, h2, rfl, h3, _⟩ := low_any hc
  have hs' := hs.drew
  refine wp_region_quiet (C := fun w' => w' = { w with drawn := w.drawn + 1 }) h2 (h3 rfl) rfl ?_
  have hq := wpL_quiet (P := P) (N := N) (ops := ops) ops.toList σ ι a { w with drawn := w.drawn + 1 } (fun o ho => by
    have := List.all_eq_true.1 hr (lowOperN P N ops o) (List.mem_map.2 ⟨o, ho, rfl⟩)
    exact this) h hs'
  have mono : ∀ (l : List Oper) (a : Act) (K K' : Act → Prop), (∀ a, K a → K' a) → wpQuiet P ops (fun w' => w' = { w with drawn := w.drawn + 1 }) K l a → wpQuiet P ops (fun w' => w' = { w with drawn := w.drawn + 1 }) K' l a := by
    intro l
    induction l with
    | nil => intro a K K' hk h; exact hk a h
    | cons o l ih =>
      intro a K K' hk h
      unfold wpQuiet at h ⊢
      split
      · rename_i hw
        rw [if_pos hw] at h
        exact Oper.quiet_mono (fun a => ih a K K' hk) h
      · rename_i hw
        rw [if_neg hw] at h
        exact ih _ K K' hk h
  refine mono _ _ _ _ (fun a' ⟨σ', g1, g2, g3⟩ w' hw' => ?_) hq
  subst hw'
  exact ⟨trivial, σ', ι, g1, (hf.trans (Fr.drew ⟨ι, σ.H, w⟩)).trans g2, g3⟩
def wpT (P : Program) (o : LOper) (K : AS → Prop) (σ : AS) : Prop :=
  match o.guard with
  | none => match pureStep o.op (ev σ.t) with
    | some v => K ⟨σ.t.put o.dst v, σ.H⟩
    | none => False
  | some (g, b) => match σ.t g with
    | .bool x => (x = b → match pureStep o.op (ev σ.t) with
      | some v => K ⟨σ.t.put o.dst v, σ.H⟩
      | none => False) ∧ (x ≠ b → K ⟨σ.t.put o.dst (.imm undef), σ.H⟩)
    | .imm u => u = undef ∧ K ⟨σ.t.put o.dst (.imm undef), σ.H⟩
    | _ => False
mutual
def wpP (P : Program) (l : List LOper) : Plan → (AS → Prop) → AS → Prop
  | .done, K, σ => K σ
  | .take i p, K, σ => match l[i]? with
    | some o => wpT P o (wpP P l p K) σ
    | none => False
  | .all ps, K, σ => wpPs P l ps K σ
  | .both p _, K, σ => wpP P l p K σ
  | .no, _, _ => False
  | .front _ _, _, _ => False
def wpPs (P : Program) (l : List LOper) : List (Nat × Plan) → (AS → Prop) → AS → Prop
  | [], _, _ => True
  | (i, p) :: r, K, σ => (match l[i]? with
    | some o => wpG P o (wpP P l p K) σ
    | none => False) ∧ wpPs P l r K σ
end
theorem wpT_sound {ops : Array Oper} {o : Oper} {K : AS → Prop} {σ : AS} (h : wpT P (lowOperN P N ops o) K σ) {c0 : Cx} {ι : Nat → Option Nat} {a : Act} {w : World} (hs : RepS N ι σ a w) (hf : Fr c0 ⟨ι, σ.H, w⟩) :
    ∃ v, Yields P ops o v a ∧ Next' c0 N K (a.put o.dst v) w := by
  have hne : (lowOperN P N ops o).op ≠ .bad ∨ ∃ g b, (lowOperN P N ops o).guard = some (g, b) := by
    unfold wpT at h
    split at h
    · left
      intro e
      rw [e] at h
      simp [pureStep] at h
    · rename_i g b hg
      exact .inr ⟨g, b, hg⟩
  have hnb : (lowOperN P N ops o).op ≠ .bad ∨ (∀ n, o.dst = some n → n < N) ∧ (lowOperN P N ops o).dst = o.dst ∧ (lowOperN P N ops o).op = lowOp P o ∧ ∃ j b g, o.guard = some (j, b) ∧ (ops[j]?).bind (·.dst) = some g ∧ (lowOperN P N ops o).guard = some (g, b) := by
    rcases hne with h' | ⟨g, b, hg⟩
    · exact .inl h'
    · right
      have h1 : ∀ n, o.dst = some n → n < N := fun n hn => by
        unfold lowOperN at hg
        rw [hn] at hg
        simp only at hg
        split at hg
        · assumption
        · simp at hg
      have hlow : lowOperN P N ops o = lowOper P ops o := by
        unfold lowOperN
        split
        · rename_i d hd'
          rw [if_pos (h1 d hd')]
        · rfl
      rw [hlow] at hg ⊢
      unfold lowOper at hg ⊢
      split
      · rename_i h2
        rw [h2] at hg
        simp at hg
      · rename_i j b' h2
        rw [h2] at hg
        simp only at hg
        split
        · rename_i g' hg'
          exact ⟨h1, rfl, rfl, j, b', g', h2, hg', rfl⟩
        · rename_i hg'
          rw [hg'] at hg
          simp at hg
  have facts : (∀ n, o.dst = some n → n < N) ∧ (lowOperN P N ops o).dst = o.dst ∧ (lowOperN P N ops o).op = lowOp P o ∧
    ((o.guard = none ∧ (lowOperN P N ops o).guard = none) ∨ ∃ j b g, o.guard = some (j, b) ∧ (ops[j]?).bind (·.dst) = some g ∧ (lowOperN P N ops o).guard = some (g, b)) := by
    rcases hnb with h' | ⟨h1, h2, h3, h4⟩
    · exact low_spec h'
    · exact ⟨h1, h2, h3, .inr h4⟩
  obtain ⟨hd, e1, e2, hg⟩ := facts
  have run : ∀ v, pureStep (lowOp P o) (ev σ.t) = some v → Region.wanted o (yielded ops a.tmps) = true → K ⟨σ.t.put o.dst v, σ.H⟩ → ∃ v, Yields P ops o v a ∧ Next' c0 N K (a.put o.dst v) w := fun v hv hw hK => by
    obtain ⟨u, hu, hgv⟩ := pure_sound (c := ⟨ι, σ.H, w⟩) (hs.t.eval hs.h.glob) hv
    exact ⟨u, .inl ⟨hw, hgv⟩, ⟨σ.t.put o.dst v, σ.H⟩, ι, ⟨hs.h, hs.t.put hd hu⟩, hf, hK⟩
  rcases hg with ⟨hg1, hg2⟩ | ⟨j, b, g, hg1, hg2, hg3⟩
  · simp only [wpT, hg2] at h
    split at h
    · rename_i v hv
      rw [e2] at hv
      rw [e1] at h
      exact run v hv (wanted_none hg1) h
    · exact h.elim
  · simp only [wpT, hg3] at h
    split at h
    · rename_i x hx
      have hy := yielded_bool hs.t hg2 hx
      by_cases hxb : x = b
      · have := h.1 hxb
        split at this
        · rename_i v hv
          rw [e2] at hv
          rw [e1] at this
          exact run v hv (by simp [Region.wanted, hg1, hy, hxb]) this
        · exact this.elim
      · have := h.2 hxb
        rw [e1] at this
        exact ⟨undef, .inr ⟨by simp [Region.wanted, hg1, hy, hxb], rfl⟩, ⟨σ.t.put o.dst (.imm undef), σ.H⟩, ι, ⟨hs.h, hs.t.put hd (.imm _)⟩, hf, this⟩
    · rename_i u hu
      obtain ⟨hu2, hk⟩ := h
      subst hu2
      have hy := yielded_none hs.t hg2 hu
      rw [e1] at hk
      exact ⟨undef, .inr ⟨by simp [Region.wanted, hg1, hy], rfl⟩, ⟨σ.t.put o.dst (.imm undef), σ.H⟩, ι, ⟨hs.h, hs.t.put hd (.imm _)⟩, hf, hk⟩
    · exact h.elim
theorem okPlans_mem {ops : Array Oper} {n : Nat} {listed : Array Bool} : ∀ {ps : List (Nat × Plan)}, okPlans ops n listed ps = true → ∀ i p, (i, p) ∈ ps → okPlan ops n (listed.setIfInBounds i true) p = true
  | [], _, i, p, hm => by simp at hm
  | (j, q) :: r, h, i, p, hm => by
    simp only [okPlans, Bool.and_eq_true] at h
    rcases List.mem_cons.1 hm with e | hm
    · cases e; exact h.1
    · exact okPlans_mem h.2 i p hm
theorem wpPs_mem {l : List LOper} {K : AS → Prop} {σ : AS} : ∀ {ps : List (Nat × Plan)}, wpPs P l ps K σ → ∀ i p, (i, p) ∈ ps → ∃ o, l[i]? = some o ∧ wpG P o (wpP P l p K) σ
  | [], _, i, p, hm => by simp at hm
  | (j, q) :: r, h, i, p, hm => by
    simp only [wpPs] at h
    rcases List.mem_cons.1 hm with e | hm
    · cases e
      have h1 := h.1
      split at h1
      · exact ⟨_, by assumption, h1⟩
      · exact h1.elim
    · exact wpPs_mem h.2 i p hm
theorem wpP_sound {ops : Array Oper} (hsel : Region.noSelect ops = true) {c0 : Cx} {Q : Exit → AS → Prop} : ∀ (n : Nat) (listed : Array Bool) (p : Plan) (σ : AS) (ι : Nat → Option Nat) (a : Act) (w : World), okPlan ops n listed p = true → wpP P (ops.toList.map (lowOperN P N ops)) p (Q .normal) σ →
    RepS N ι σ a w → Fr c0 ⟨ι, σ.H, w⟩ → wpAny P .any ops (Good c0 N Q) n listed a w := by
  intro n
  induction n with
  | zero =>
    intro listed p σ ι a w hok h hs hf
    cases p with
    | done =>
      simp only [okPlan] at hok
      simp only [wpP] at h
      exact wpAny_done (by simpa using hok) ⟨trivial, σ, ι, hs, hf, h⟩ 0
    | _ => simp [okPlan] at hok
  | succ n ih =>
    intro listed p σ ι a w hok h hs hf
    cases p with
    | done =>
      simp only [okPlan] at hok
      simp only [wpP] at h
      exact wpAny_done (by simpa using hok) ⟨trivial, σ, ι, hs, hf, h⟩ _
    | no => simp [okPlan] at hok
    | front i p => simp [okPlan] at hok
    | both p q => simp [okPlan] at hok
    | take i p =>
      simp only [okPlan, Bool.and_eq_true] at hok
      simp only [wpP, List.getElem?_map, Array.getElem?_toList] at h
      cases hi : ops[i]? with
      | none => rw [hi] at h; exact h.elim
      | some oi =>
        rw [hi] at h
        simp only [Option.map_some] at h
        obtain ⟨v, hy, σ', ι', g1, g2, g3⟩ := wpT_sound h hs hf
        exact wpAny_take hi hsel hok.1.1 hok.1.2 (fun c a w hq => hq.1.elim) hy (ih _ p σ' ι' _ w hok.2 g3 g1 g2)
    | all ps =>
      simp only [okPlan, Bool.and_eq_true, beq_iff_eq] at hok
      simp only [wpP] at h
      refine wpAny_all hok.1.1 (fun e => by
        have := hok.1.2
        simp only [List.map_eq_nil_iff] at e
        rw [e] at this
        simp at this) fun i hi => ?_
      obtain ⟨⟨j, q⟩, hm, rfl⟩ := List.mem_map.1 hi
      obtain ⟨o, ho, hg⟩ := wpPs_mem h j q hm
      simp only [List.getElem?_map, Array.getElem?_toList, Option.map_eq_some_iff] at ho
      obtain ⟨oo, hoo, rfl⟩ := ho
      have hsound := wpG_sound (P := P) (N := N) hg hs hf (Good c0 N Q)
      have rest : ∀ a w, Next' c0 N (wpP P (ops.toList.map (lowOperN P N ops)) q (Q .normal)) a w → wpAny P .any ops (Good c0 N Q) n (listed.setIfInBounds j true) a w := fun a w ⟨σ', ι', g1, g2, g3⟩ => ih _ q σ' ι' a w (okPlans_mem hok.2 j q hm) g3 g1 g2
      unfold wpOp
      simp only [hoo]
      split
      · rename_i hw
        rw [if_pos hw] at hsound
        exact .inl (Oper.wp_mono rest hsound)
      · rename_i hw
        rw [if_neg hw] at hsound
        exact rest _ _ hsound
theorem LC_any {q : Bool} {l : List LOper} {p : Plan} {Q : Exit → AS → Prop} {σ : AS} (h : wpP P l p (Q .normal) σ) : LC P N (.any q l p) Q σ := by
  intro code hc c0 ι a w hs hf
  obtain ⟨id, ops, rfl, h1, h2, rfl, _, p1, p2, rfl, h4, _⟩ := low_any hc
  simp only [wpP] at h
  rcases h4 with rfl | h4
  · simp [wpP] at h
  · exact wp_region_any h2 (wpP_sound h1 _ _ p1 σ ι a _ h4 h hs.drew (hf.trans (Fr.drew ⟨ι, σ.H, w⟩)))
end
mutual
inductive View (H : List AObj) (m : Nat) : AV → AV → Prop where
  | same (a : AV) (h : a.clean m = true) : View H m a a
  | dead (a : AV) : View H m a .dead
  | nil : View H m (.imm (.slice none 0 0)) (.list [])
  | sl (sz k n off len : Nat) (xs ys : List (List AV)) (hm : m ≤ k) (hk : H[k]? = some (.vec sz xs)) (hn : n = xs.length) (hys : ys = (xs.drop off).take len) (hcl : ∀ (i j : Nat) (a : AV), cellAt ys i j = some a → a.clean 0 = true) : View H m (.sl sz k n off len) (.list ys)
  | agg (as bs : List AV) (h : Views H m as bs) : View H m (.agg as) (.agg bs)
  | tup (as bs : List AV) (h : Views H m as bs) : View H m (.tup as) (.tup bs)
inductive Views (H : List AObj) (m : Nat) : List AV → List AV → Prop where
  | nil : Views H m [] []
  | cons (a b : AV) (as bs : List AV) (h : View H m a b) (hs : Views H m as bs) : Views H m (a :: as) (b :: bs)
end
theorem view_sl {c : Cx} (hH : RepH c) {m sz k n off len : Nat} {xs ys : List (List AV)} (hm : m ≤ k) (hk : c.H[k]? = some (.vec sz xs)) (hn : n = xs.length) (hys : ys = (xs.drop off).take len) (hcl : ∀ (i j : Nat) (a : AV), cellAt ys i j = some a → a.clean 0 = true)
    {v : Value} (hv : RepV c (.sl sz k n off len) v) : RepV (c.take m) (.list ys) v := by
  obtain ⟨h0, hrows, hlen, hobj⟩ := hH.obj k _ hk
  cases hv with
  | sl _ _ _ _ _ A cap hk' hclc hA hn' hval =>
    obtain ⟨hle, hdis⟩ := hval xs hk hn
    have hyl : ys.length = len := by rw [hys]; simp; omega
    by_cases hz : len = 0
    · subst hz
      have : ys = [] := List.eq_nil_of_length_eq_zero hyl
      subst this
      exact .lnil A cap
    · rcases hdis with ⟨b, hb, rfl, _⟩ | ⟨h1, _⟩
      · rw [hb] at hobj
        obtain ⟨cs, el, fr, g1, g2, g3, g4⟩ := hobj
        have hcell : ∀ (i j : Nat) (a : AV), cellAt ys i j = some a → cellAt xs (off + i) j = some a := fun i j a ha => by
          rw [hys] at ha
          simp only [cellAt, List.getElem?_take] at ha ⊢
          split at ha
          · rwa [List.getElem?_drop] at ha
          · simp at ha
        have hnw : ¬ (c.take m).wr b := fun ⟨j, o, h1, h2, h3⟩ => by
          obtain ⟨h4, h5⟩ := get_take h1
          have := hH.inj j k o _ b h5 hk h2 rfl h3 hb
          omega
        have := RepV.list (c := c.take m) sz ys b (off * sz) cap (fun i j => cs.getD ((off + i) * sz + j) undef) h0 (fun e => by rw [e] at hyl; simp at hyl; omega) (fun r hr => hrows r (by rw [hys] at hr; exact List.mem_of_mem_drop (List.mem_of_mem_take hr))) (by omega) (by omega) hnw hcl
          (fun i j a ha => by
            obtain ⟨_, _, h3⟩ := cellAt_lt hrows (hcell i j a ha)
            have hlt : (off + i) * sz + j < cs.size := by omega
            have e : off * sz + (i * sz + j) = (off + i) * sz + j := by rw [Nat.add_mul]; omega
            show c.w.cell? _ = _
            simp [World.cell?, g1, e, hlt])
          (fun i j a ha => (g4 _ _ a (hcell i j a ha)).take (AV.clean_mono (Nat.zero_le m) (g4 _ _ a (hcell i j a ha)) (hcl i j a ha)))
        rwa [hyl] at this
      · exact absurd h1 hz
mutual
theorem view_sound {c : Cx} (hH : RepH c) {m : Nat} : ∀ {a b : AV}, View c.H m a b → ∀ {v : Value}, RepV c a v → RepV (c.take m) b v
  | _, _, .same a h, v, hv => hv.take h
  | _, _, .dead a, v, hv => .dead v
  | _, _, .nil, v, hv => by rw [hv.imm_inv]; exact .lnil _ _
  | _, _, .sl sz k n off len xs ys hm hk hn hys hcl, v, hv => view_sl hH hm hk hn hys hcl hv
  | _, _, .agg as bs h, v, hv => by
    obtain ⟨vs, rfl, h1, h2⟩ := hv.agg_inv
    obtain ⟨h3, h4⟩ := views_sound hH h
    exact .agg bs vs (by rw [h1, h3]) fun i b hb => h4 i b hb _ h2
  | _, _, .tup as bs h, v, hv => by
    obtain ⟨vs, rfl, h1, h2⟩ := hv.tup_inv
    obtain ⟨h3, h4⟩ := views_sound hH h
    exact .tup bs vs (by rw [h1, h3]) fun i b hb => h4 i b hb _ h2
theorem views_sound {c : Cx} (hH : RepH c) {m : Nat} : ∀ {as bs : List AV}, Views c.H m as bs → as.length = bs.length ∧ ∀ (i : Nat) (b : AV), bs[i]? = some b → ∀ (vs : Array Value), (∀ (i : Nat) (a : AV), as[i]? = some a → RepV c a (vs.getD i undef)) → RepV (c.take m) b (vs.getD i undef)
  | _, _, .nil => ⟨rfl, fun i b hb => by simp at hb⟩
  | _, _, .cons a b as bs h hs => by
    obtain ⟨h1, h2⟩ := views_sound hH hs
    refine ⟨by simp [h1], fun i x hx vs hvs => ?_⟩
    cases i with
    | zero =>
      simp only [List.getElem?_cons_zero, Option.some.injEq] at hx
      subst hx
      exact view_sound hH h (hvs 0 a rfl)
    | succ i =>
      have hx' : bs[i]? = some x := by simpa using hx
      have := h2 i x hx' (vs.extract 1 vs.size) (fun j a' ha => by
        have := hvs (j + 1) a' (by simpa using ha)
        have e : (vs.extract 1 vs.size).getD j undef = vs.getD (j + 1) undef := by
          simp only [Array.getD_eq_getD_getElem?, Array.getElem?_extract]
          by_cases hl : j < vs.size - 1
          · rw [if_pos (by omega), Nat.add_comm]
          · rw [if_neg (by omega), Array.getElem?_eq_none (by omega)]
        rw [e]; exact this)
      have e : (vs.extract 1 vs.size).getD i undef = vs.getD (i + 1) undef := by
        simp only [Array.getD_eq_getD_getElem?, Array.getElem?_extract]
        by_cases hl : i < vs.size - 1
        · rw [if_pos (by omega), Nat.add_comm]
        · rw [if_neg (by omega), Array.getElem?_eq_none (by omega)]
      rwa [e] at this
end
def Weak (B N : Nat) (σ σ' : AS) : Prop := ∀ ι a w, RepS N ι σ a w → ∃ ι', RepS N ι' σ' a w ∧ ∀ c0 : Cx, c0.H.length ≤ B → Fr c0 ⟨ι, σ.H, w⟩ → Fr c0 ⟨ι', σ'.H, w⟩
theorem Weak.refl (B N : Nat) (σ : AS) : Weak B N σ σ := fun ι _ _ h => ⟨ι, h, fun _ _ h => h⟩
theorem Weak.trans {B N : Nat} {a b c : AS} (h : Weak B N a b) (k : Weak B N b c) : Weak B N a c := fun ι x w hs => by
  obtain ⟨ι1, h1, h2⟩ := h ι x w hs
  obtain ⟨ι2, k1, k2⟩ := k ι1 x w h1
  exact ⟨ι2, k1, fun c0 hb hf => k2 c0 hb (h2 c0 hb hf)⟩
theorem Weak.take {B N : Nat} {σ : AS} {t' : Tm} (m : Nat) (hm : B ≤ m) (hc : Clean m (σ.H.take m)) (ht : ∀ n, View σ.H m (σ.t n) (t' n)) : Weak B N σ ⟨t', σ.H.take m⟩ := fun ι a w hs =>
  ⟨ι, ⟨hs.h.take hc, ⟨hs.t.size, fun n => view_sound hs.h (ht n) (hs.t.val n), hs.t.defers⟩⟩, fun c0 hb hf => hf.take (by omega)⟩
theorem Weak.grow {B N : Nat} {σ : AS} (s sz : Nat) (h0 : 0 < sz) (hs : σ.t s = .imm (.slice none 0 0)) : Weak B N σ ⟨σ.t.put (some s) (.sl sz σ.H.length 0 0 0), σ.H ++ [.vec sz []]⟩ := fun ι a w hr => by
  have hf : Fr ⟨ι, σ.H, w⟩ (Cx.push ⟨ι, σ.H, w⟩ (.vec sz []) none w) := Fr.push rfl rfl rfl (Nat.le_refl _) (fun _ _ => rfl) (fun b e => by cases e) hr.h.lt
  have hR : RepH (Cx.push ⟨ι, σ.H, w⟩ (.vec sz []) none w) := hr.h.push rfl rfl rfl (Nat.le_refl _) (fun _ _ => rfl) (fun b e => by cases e) ⟨h0, by simp, by simp, by rw [push_ι (c := ⟨ι, σ.H, w⟩)]⟩
  refine ⟨_, ⟨hR, ⟨hr.t.size, fun n => ?_, hr.t.defers⟩⟩, fun c0 hb hf0 => hf0.trans hf⟩
  by_cases e : n = s
  · subst e
    simp only [Tm.put, if_true]
    have := hr.t.val n
    rw [hs] at this
    rw [this.imm_inv]
    refine .sl _ _ _ _ _ _ _ (by simp) (Nat.le_refl _) (fun h => by simp at h) (fun sz' ys hx => ?_) (fun ys hx hn => ⟨by simp, .inr ⟨rfl, rfl⟩⟩)
    simp at hx
    exact ⟨hx.1.symm, by simp⟩
  · simp only [Tm.put, e, if_false]
    exact (hr.t.val n).mono hf
def LCB (P : Program) (N B : Nat) (lc : LCode) (Q : Exit → AS → Prop) (σ : AS) : Prop :=
  ∀ code, lowCode P N code = lc → ∀ c0 ι a w, c0.H.length ≤ B → RepS N ι σ a w → Fr c0 ⟨ι, σ.H, w⟩ → code.wp P (Good c0 N Q) a w
section
variable {P : Program} {N B : Nat} {Q : Exit → AS → Prop} {σ : AS}
theorem LCB.of {lc : LCode} (h : LC P N lc Q σ) : LCB P N B lc Q σ := fun code hc c0 ι a w _ hs hf => h code hc c0 ι a w hs hf
theorem LCB.mono {lc : LCode} {Q' : Exit → AS → Prop} (h : LCB P N B lc Q σ) (hq : ∀ e σ, Q e σ → Q' e σ) : LCB P N B lc Q' σ := fun code hc c0 ι a w hb hs hf =>
  wp_mono (h code hc c0 ι a w hb hs hf) fun e a w ⟨h0, σ', ι', h1, h2, h3⟩ => ⟨h0, σ', ι', h1, h2, hq _ _ h3⟩
theorem LCB.pre {lc : LCode} {σ' : AS} (hw : Weak B N σ σ') (h : LCB P N B lc Q σ') : LCB P N B lc Q σ := fun code hc c0 ι a w hb hs hf => by
  obtain ⟨ι', h1, h2⟩ := hw ι a w hs
  exact h code hc c0 ι' a w hb h1 (h2 c0 hb hf)
theorem LCB.post {lc : LCode} (h : LCB P N B lc (fun e σ' => ∃ σ'', Weak B N σ' σ'' ∧ Q e σ'') σ) : LCB P N B lc Q σ := fun code hc c0 ι a w hb hs hf =>
  wp_mono (h code hc c0 ι a w hb hs hf) fun e a w ⟨h0, σ', ι', h1, h2, σ'', h3, h4⟩ => by
    obtain ⟨ι2, g1, g2⟩ := h3 ι' a w h1
    exact ⟨h0, σ'', ι2, g1, g2 c0 hb h2, h4⟩
theorem LCB.skip (h : Q .normal σ) : LCB P N B .skip Q σ := fun code hc c0 ι a w _ hs hf => by
  cases code with
  | skip => exact wp_skip ⟨trivial, σ, ι, hs, hf, h⟩
  | label l => exact wp_label ⟨trivial, σ, ι, hs, hf, h⟩
  | region id ops d => cases d <;> simp [lowCode] at hc; split at hc <;> simp at hc
  | _ => simp [lowCode] at hc
theorem LCB.text {l : List LOper} (h : wpL P l (Q .normal) σ) : LCB P N B (.text l) Q σ := fun code hc c0 ι a w _ hs hf => by
  cases code with
  | region id ops d =>
    cases d with
    | false =>
      simp only [lowCode, LCode.text.injEq] at hc
      subst hc
      exact wp_region_list (wpL_sound ops.toList σ ι a w h hs hf)
    | true => simp [lowCode] at hc; split at hc <;> simp at hc
  | _ => simp [lowCode] at hc
theorem LCB.quiet {l : List LOper} {p : Plan} (hr : l.all (fun o => o.op.reads) = true) (h : wpL P l (Q .normal) σ) : LCB P N B (.any true l p) Q σ := .of (LC_quiet hr h)
theorem LCB.any {q : Bool} {l : List LOper} {p : Plan} (h : wpP P l p (Q .normal) σ) : LCB P N B (.any q l p) Q σ := .of (LC_any h)
theorem LCB.seq {x y : LCode} (h : LCB P N B x (fun e σ' => match e with | .normal => LCB P N B y Q σ' | e => Q e σ') σ) : LCB P N B (.seq x y) Q σ := fun code hc c0 ι a w hb hs hf => by
  cases code with
  | seq c d =>
    simp only [lowCode, LCode.seq.injEq] at hc
    refine wp_seq (wp_mono (h c hc.1 c0 ι a w hb hs hf) fun e a w ⟨h0, σ', ι', h1, h2, h3⟩ => ?_)
    cases e with
    | normal => exact h3 d hc.2 c0 ι' a w hb h1 h2
    | _ => exact ⟨h0, σ', ι', h1, h2, h3⟩
  | region id ops d => cases d <;> simp [lowCode] at hc; split at hc <;> simp at hc
  | _ => simp [lowCode] at hc
theorem LCB.cond {c : Opd} {x y : LCode} {t : Bool} (hc : ev σ.t c = .bool t) (ht : t = true → LCB P N B x Q σ) (hf : t = false → LCB P N B y Q σ) : LCB P N B (.cond c x y) Q σ := fun code hcd c0 ι a w hb hs hfr => by
  cases code with
  | cond c' d e =>
    simp only [lowCode, LCode.cond.injEq] at hcd
    obtain ⟨rfl, h1, h2⟩ := hcd
    have hv := hs.t.eval hs.h.glob c'
    rw [hc] at hv
    refine wp_cond hv.bool_inv ?_
    cases t with
    | true => exact ht rfl d h1 c0 ι a w hb hs hfr
    | false => exact hf rfl e h2 c0 ι a w hb hs hfr
  | region id ops d => cases d <;> simp [lowCode] at hcd; split at hcd <;> simp at hcd
  | _ => simp [lowCode] at hcd
theorem LCB.block {id : Nat} {x : LCode} (h : LCB P N B x (fun e σ' => match e with | .exit i => if i = id then Q .normal σ' else Q (.exit i) σ' | e => Q e σ') σ) : LCB P N B (.block id x) Q σ := fun code hc c0 ι a w hb hs hf => by
  cases code with
  | block id' d =>
    simp only [lowCode, LCode.block.injEq] at hc
    obtain ⟨rfl, hc⟩ := hc
    refine wp_block (wp_mono (h d hc c0 ι a w hb hs hf) fun e a w ⟨h0, σ', ι', h1, h2, h3⟩ => ?_)
    cases e with
    | exit i =>
      simp only [Exit.inBlock]
      simp only at h3
      split
      · rename_i e; rw [if_pos e] at h3; exact ⟨trivial, σ', ι', h1, h2, h3⟩
      · rename_i e; rw [if_neg e] at h3; exact ⟨trivial, σ', ι', h1, h2, h3⟩
    | _ => exact ⟨h0, σ', ι', h1, h2, h3⟩
  | region id ops d => cases d <;> simp [lowCode] at hc; split at hc <;> simp at hc
  | _ => simp [lowCode] at hc
theorem LCB.exit {id : Nat} (h : Q (.exit id) σ) : LCB P N B (.exit id) Q σ := fun code hc c0 ι a w _ hs hf => by
  cases code with
  | exit i => simp only [lowCode, LCode.exit.injEq] at hc; subst hc; exact wp_exit ⟨trivial, σ, ι, hs, hf, h⟩
  | region id ops d => cases d <;> simp [lowCode] at hc; split at hc <;> simp at hc
  | _ => simp [lowCode] at hc
theorem LCB.ret (h : Q .ret σ) : LCB P N B .ret Q σ := fun code hc c0 ι a w _ hs hf => by
  cases code with
  | ret => exact wp_ret ⟨trivial, σ, ι, hs, hf, h⟩
  | region id ops d => cases d <;> simp [lowCode] at hc; split at hc <;> simp at hc
  | _ => simp [lowCode] at hc
theorem LCB.loop {x : LCode} (I : Nat → AS → Prop) (n : Nat) (h0 : I n σ) (hr : ∀ n σ, I n σ → LCB P N B x (fun e σ' => match e with | .normal => ∃ n', n' < n ∧ I n' σ' | e => Q e σ') σ) : LCB P N B (.loop x) Q σ := fun code hc c0 ι a w hb hs hf => by
  cases code with
  | loop d =>
    simp only [lowCode, LCode.loop.injEq] at hc
    refine wp_loop_ghost (fun n a w => ∃ σ ι, RepS N ι σ a w ∧ Fr c0 ⟨ι, σ.H, w⟩ ∧ I n σ) n ⟨σ, ι, hs, hf, h0⟩ fun n a w ⟨σ, ι, h1, h2, h3⟩ => ?_
    refine wp_mono (hr n σ h3 d hc c0 ι a w hb h1 h2) fun e a w ⟨g0, σ', ι', g1, g2, g3⟩ => ?_
    cases e with
    | normal =>
      obtain ⟨n', hn, hI⟩ := g3
      exact ⟨n', hn, σ', ι', g1, g2, hI⟩
    | _ => exact ⟨g0, σ', ι', g1, g2, g3⟩
  | region id ops d => cases d <;> simp [lowCode] at hc; split at hc <;> simp at hc
  | _ => simp [lowCode] at hc
end
inductive LRes where
  | tmp (t : Nat)
  | cell (t : Nat) (agg : Bool) (sz : Nat)
def lowRes (P : Program) : List ResultVar → Option (List LRes)
  | [] => some []
  | .tmp t :: r => (lowRes P r).map fun l => .tmp t :: l
  | .cell a t :: r => if (P.underlying t).isSome then (lowRes P r).map fun l => .cell a (aggOf P t) (szOf P t) :: l else none
def resE (σ : AS) : List LRes → Option (List AV)
  | [] => some []
  | .tmp t :: r => (resE σ r).map fun l => σ.t t :: l
  | .cell t agg sz :: r => (rowOf σ.H (σ.t t)).bind fun p => (partA agg sz p.2 p.1).bind fun v => (resE σ r).map fun l => v :: l
def resV : List AV → AV
  | [v] => v
  | l => .tup l
def RetOk (B : Nat) (rs : List LRes) (QF : AV → List AObj → Prop) (σ : AS) : Prop :=
  ∃ l m r, resE σ rs = some l ∧ B ≤ m ∧ Clean m (σ.H.take m) ∧ View σ.H m (resV l) r ∧ QF r (σ.H.take m)
def argsT (args : List AV) : Tm := fun n => args.getD n .dead
def resF (tmps : Array Value) : ResultVar → Sem Value
  | .tmp t => pure (tmps.getD t undef)
  | .cell a t => do loadVar t (← asAddr (tmps.getD a undef))
theorem results_eq (fn : Func) (tmps : Array Value) : results fn tmps = (do let vs ← fn.results.mapM (resF tmps); pure (if h : vs.size = 1 then vs[0] else .tuple vs)) := rfl
theorem resE_sound {P : Program} {N : Nat} {ι : Nat → Option Nat} {σ : AS} {a : Act} {w : World} (hs : RepS N ι σ a w) : ∀ (rv : List ResultVar) (rs : List LRes) (l : List AV), lowRes P rv = some rs → resE σ rs = some l →
    ∃ vs : List Value, (rv.mapM (resF a.tmps)).run P w = .ok vs w ∧ vs.length = l.length ∧ ∀ (i : Nat) (x : AV), l[i]? = some x → RepV ⟨ι, σ.H, w⟩ x (vs.getD i undef)
  | [], rs, l, h1, h2 => by
    simp only [lowRes, Option.some.injEq] at h1
    subst h1
    simp only [resE, Option.some.injEq] at h2
    subst h2
    exact ⟨[], by simp, rfl, by simp⟩
  | .tmp t :: rv, rs, l, h1, h2 => by
    simp only [lowRes, Option.map_eq_some_iff] at h1
    obtain ⟨rs', hrs, rfl⟩ := h1
    simp only [resE, Option.map_eq_some_iff] at h2
    obtain ⟨l', hl, rfl⟩ := h2
    obtain ⟨vs, g1, g2, g3⟩ := resE_sound hs rv rs' l' hrs hl
    refine ⟨a.tmps.getD t undef :: vs, ?_, by simp [g2], fun i x hx => ?_⟩
    · simp only [List.mapM_cons, Sem.run_bind, resF, Sem.run_pure, Result.andThen_ok, g1]
    · cases i with
      | zero => simp only [List.getElem?_cons_zero, Option.some.injEq] at hx; subst hx; exact hs.t.val t
      | succ i => simpa using g3 i x (by simpa using hx)
  | .cell b t :: rv, rs, l, h1, h2 => by
    simp only [lowRes] at h1
    split at h1
    · rename_i ht
      simp only [Option.map_eq_some_iff] at h1
      obtain ⟨rs', hrs, rfl⟩ := h1
      simp only [resE, Option.bind_eq_some_iff, Option.map_eq_some_iff] at h2
      obtain ⟨⟨row, off⟩, hrow, v, hv, l', hl, rfl⟩ := h2
      obtain ⟨vs, g1, g2, g3⟩ := resE_sound hs rv rs' l' hrs hl
      obtain ⟨bb, o, cs, hx, hc, hr⟩ := rowOf_spec (ι := ι) (w := w) hs.h (hs.t.val b) hrow
      obtain ⟨u, hu, hrun⟩ := loadVar_run (P := P) (c := ⟨ι, σ.H, w⟩) ht (w := w) hv cs hc hr
      refine ⟨u :: vs, ?_, by simp [g2], fun i x hx => ?_⟩
      · replace hx : a.tmps.getD b undef = .pointer (some ⟨bb, o + off, none⟩) := hx
        simp only [List.mapM_cons, Sem.run_bind, resF, hx, asAddr, Sem.run_pure, Result.andThen_ok, hrun, g1]
      · cases i with
        | zero => simp only [List.getElem?_cons_zero, Option.some.injEq] at hx; subst hx; exact hu
        | succ i => simpa using g3 i x (by simpa using hx)
    · simp at h1
theorem results_sound {P : Program} {N : Nat} {ι : Nat → Option Nat} {σ : AS} {a : Act} {w : World} (hs : RepS N ι σ a w) {fn : Func} {rs : List LRes} {l : List AV} (h1 : lowRes P fn.results.toList = some rs) (h2 : resE σ rs = some l) :
    ∃ v, (results fn a.tmps).run P w = .ok v w ∧ RepV ⟨ι, σ.H, w⟩ (resV l) v := by
  obtain ⟨vs, g1, g2, g3⟩ := resE_sound hs _ rs l h1 h2
  have e : (results fn a.tmps).run P w = .ok (if h : vs.toArray.size = 1 then vs.toArray[0] else .tuple vs.toArray) w := by
    rw [results_eq]
    have : (fn.results.mapM (resF a.tmps)).run P w = .ok vs.toArray w := by
      have e2 : fn.results = fn.results.toList.toArray := by simp
      rw [e2, List.mapM_toArray, Sem.run_map, g1]
      rfl
    simp only [Sem.run_bind, this, Result.andThen_ok, Sem.run_pure]
  rw [e]
  refine ⟨_, rfl, ?_⟩
  by_cases h : vs.toArray.size = 1
  · rw [dif_pos h]
    have hl1 : l.length = 1 := by rw [← g2]; simpa using h
    obtain ⟨x, rfl⟩ := List.length_eq_one_iff.1 hl1
    have := g3 0 x rfl
    simp only [resV]
    have hv : vs.getD 0 undef = vs.toArray[0] := by
      have : 0 < vs.length := by omega
      simp [this]
    rw [hv] at this
    exact this
  · rw [dif_neg h]
    have hl1 : l.length ≠ 1 := by rw [← g2]; simpa using h
    have : resV l = .tup l := by
      cases l with
      | nil => rfl
      | cons x l =>
        cases l with
        | nil => simp at hl1
        | cons y l => rfl
    rw [this]
    exact .tup _ _ (by simp [g2]) fun i x hx => by rw [getD_toArray]; exact g3 i x hx
theorem ACalls.of {P : Program} {f : FuncId} {fn : Func} {c : Code} {lc : LCode} {rs : List LRes} {args : List AV} {H : List AObj} {QF : AV → List AObj → Prop} (hf : P.funcs[f]? = some fn) (hb : fn.body = some c) (hname : (fn.name == "runtime.NumGoroutine") = false)
    (hlow : lowCode P fn.ntmps c = lc) (hres : lowRes P fn.results.toList = some rs) (hN : args.length ≤ fn.ntmps)
    (h : Clean H.length H → LCB P fn.ntmps H.length lc (fun e σ => (e = .normal ∨ e = .ret) ∧ RetOk H.length rs QF σ) ⟨argsT args, H⟩) : ACalls P f args H QF := by
  refine ⟨⟨fn, hf, by simp [hb], hname⟩, fun ι w vals hH hv => ?_⟩
  refine calls_of_wp hf hb ?_
  have hsize : vals.size = args.length := hv.1
  have hs : RepS fn.ntmps ι ⟨argsT args, H⟩ { tmps := vals ++ Array.replicate (fn.ntmps - vals.size) undef, defers := [] } w := by
    refine ⟨hH, ⟨by simp; omega, fun n => ?_, rfl⟩⟩
    by_cases hn : n < args.length
    · have := hv.2 n (args[n]) (List.getElem?_eq_getElem hn)
      have e1 : argsT args n = args[n] := by simp [argsT, hn]
      have e2 : (vals ++ Array.replicate (fn.ntmps - vals.size) undef).getD n undef = vals.getD n undef := by
        simp only [Array.getD_eq_getD_getElem?]
        rw [Array.getElem?_append_left (by omega)]
      show RepV _ (argsT args n) ((vals ++ Array.replicate (fn.ntmps - vals.size) undef).getD n undef)
      rw [e1, e2]
      exact this
    · have e1 : argsT args n = .dead := by simp [argsT, List.getElem?_eq_none (Nat.le_of_not_lt hn)]
      show RepV _ (argsT args n) _
      rw [e1]
      exact .dead _
  refine wp_mono (h hH.clean c hlow ⟨ι, H, w⟩ ι _ w (Nat.le_refl _) hs (Fr.refl _)) fun e a' w' ⟨g0, σ', ι', g1, g2, ge, l, m, r, g3, g4, g5, g6, g7⟩ => ?_
  have fin : bodyPost P fn (fun e w' => ∃ r v ι' H', e = .returned v ∧ QF r H' ∧ RepH ⟨ι', H', w'⟩ ∧ RepV ⟨ι', H', w'⟩ r v ∧ Fr ⟨ι, H, w⟩ ⟨ι', H', w'⟩) .normal a' w' := by
    obtain ⟨v, hr, hrep⟩ := results_sound g1 hres g3
    exact ⟨g1.t.defers, v, hr, r, v, ι', σ'.H.take m, rfl, g7, g1.h.take g5, view_sound g1.h g6 hrep, g2.take g4⟩
  rcases ge with rfl | rfl
  · exact fin
  · exact fin
def lowFn (P : Program) (f : FuncId) : Option (Nat × LCode × List LRes) :=
  match P.funcs[f]? with
  | some fn => match fn.body, lowRes P fn.results.toList with
    | some c, some rs => if fn.name == "runtime.NumGoroutine" then none else some (fn.ntmps, lowCode P fn.ntmps c, rs)
    | _, _ => none
  | none => none
theorem ACalls.low {P : Program} {f : FuncId} {N : Nat} {lc : LCode} {rs : List LRes} {args : List AV} {H : List AObj} {QF : AV → List AObj → Prop} (hlow : lowFn P f = some (N, lc, rs)) (hN : args.length ≤ N)
    (h : Clean H.length H → LCB P N H.length lc (fun e σ => (e = .normal ∨ e = .ret) ∧ RetOk H.length rs QF σ) ⟨argsT args, H⟩) : ACalls P f args H QF := by
  unfold lowFn at hlow
  split at hlow
  · rename_i fn hfn
    split at hlow
    · rename_i c rs' hb hr
      split at hlow
      · simp at hlow
      · rename_i hne
        simp only [Option.some.injEq, Prod.mk.injEq] at hlow
        obtain ⟨rfl, h2, rfl⟩ := hlow
        exact ACalls.of hfn hb (by simpa using hne) h2 hr hN h
    · simp at hlow
  · simp at hlow
def Pure (P : Program) (f : FuncId) (args : List AV) (r : AV) : Prop := ∀ H, ACalls P f args H fun r' H' => r' = r ∧ H' = H
section
variable {P : Program} {N B : Nat} {Q : Exit → AS → Prop} {σ : AS}
theorem Tm.put_some (t : Tm) (d n : Nat) (v : AV) : (t.put (some d) v) n = if n = d then v else t n := rfl
theorem Tm.put_none (t : Tm) (v : AV) : t.put none v = t := rfl
theorem argsT_zero (a : AV) (as : List AV) : argsT (a :: as) 0 = a := rfl
theorem argsT_succ (a : AV) (as : List AV) (n : Nat) : argsT (a :: as) (n + 1) = argsT as n := rfl
theorem ev_tmp (t : Tm) (n : Nat) : ev t (.tmp n) = t n := rfl
theorem ev_cst (t : Tm) (a : AV) : ev t (.cst a) = a := rfl
theorem wpL_nil {K : AS → Prop} : wpL P [] K σ = K σ := rfl
theorem wpL_cons {o : LOper} {r : List LOper} {K : AS → Prop} : wpL P (o :: r) K σ = wpG P o (wpL P r K) σ := rfl
theorem wpG_none {d : Option Nat} {op : LOp} {K : AS → Prop} : wpG P ⟨d, op, none⟩ K σ = wpO P ⟨d, op, none⟩ K σ := rfl
theorem wpG_hit {d : Option Nat} {op : LOp} {g : Nat} {b : Bool} {K : AS → Prop} (h : σ.t g = .bool b) : wpG P ⟨d, op, some (g, b)⟩ K σ = wpO P ⟨d, op, some (g, b)⟩ K σ := by
  unfold wpG
  simp [h]
theorem wpG_miss {d : Option Nat} {op : LOp} {g : Nat} {b : Bool} {K : AS → Prop} (h : σ.t g = .bool (!b)) : wpG P ⟨d, op, some (g, b)⟩ K σ = K ⟨σ.t.put d (.imm undef), σ.H⟩ := by
  unfold wpG
  cases b <;> simp [h]
theorem wpG_skip {d : Option Nat} {op : LOp} {g : Nat} {b : Bool} {K : AS → Prop} (h : σ.t g = .imm undef) : wpG P ⟨d, op, some (g, b)⟩ K σ = K ⟨σ.t.put d (.imm undef), σ.H⟩ := by
  unfold wpG
  simp [h]
theorem wpT_none {d : Option Nat} {op : LOp} {K : AS → Prop} : wpT P ⟨d, op, none⟩ K σ = match pureStep op (ev σ.t) with
    | some v => K ⟨σ.t.put d v, σ.H⟩
    | none => False := rfl
theorem wpT_hit {d : Option Nat} {op : LOp} {g : Nat} {b : Bool} {K : AS → Prop} (h : σ.t g = .bool b) : wpT P ⟨d, op, some (g, b)⟩ K σ = match pureStep op (ev σ.t) with
    | some v => K ⟨σ.t.put d v, σ.H⟩
    | none => False := by
  unfold wpT
  simp only [h]
  cases pureStep op (ev σ.t) <;> simp
theorem wpT_miss {d : Option Nat} {op : LOp} {g : Nat} {b : Bool} {K : AS → Prop} (h : σ.t g = .bool (!b)) : wpT P ⟨d, op, some (g, b)⟩ K σ = K ⟨σ.t.put d (.imm undef), σ.H⟩ := by
  unfold wpT
  cases b <;> simp [h]
theorem wpT_skip {d : Option Nat} {op : LOp} {g : Nat} {b : Bool} {K : AS → Prop} (h : σ.t g = .imm undef) : wpT P ⟨d, op, some (g, b)⟩ K σ = K ⟨σ.t.put d (.imm undef), σ.H⟩ := by
  unfold wpT
  simp [h]
theorem CallA_fn {f : FuncId} {args : List AV} {H : List AObj} {K : AV → List AObj → Prop} : CallA P (.fn (.func f) [] []) args H K = ACalls P f args H K := by simp [CallA]
theorem ACalls.pure {f : FuncId} {args : List AV} {H : List AObj} {r : AV} {K : AV → List AObj → Prop} (h : Pure P f args r) (hk : K r H) : ACalls P f args H K := (h H).mono fun r' H' ⟨h1, h2⟩ => by subst h1; subst h2; exact hk
theorem take_self (H L : List AObj) : (H ++ L).take H.length = H := by simp
theorem RetOk.pure {H L : List AObj} {rs : List LRes} {QF : AV → List AObj → Prop} {t : Tm} {l : List AV} {r : AV} (hcl : Clean H.length H) (he : resE ⟨t, H ++ L⟩ rs = some l) (hv : View (H ++ L) H.length (resV l) r) (hq : QF r H) : RetOk H.length rs QF ⟨t, H ++ L⟩ :=
  ⟨l, H.length, r, he, Nat.le_refl _, by rw [take_self]; exact hcl, hv, by rw [take_self]; exact hq⟩
theorem RetOk.pure0 {H : List AObj} {rs : List LRes} {QF : AV → List AObj → Prop} {t : Tm} {l : List AV} {r : AV} (hcl : Clean H.length H) (he : resE ⟨t, H⟩ rs = some l) (hv : View H H.length (resV l) r) (hq : QF r H) : RetOk H.length rs QF ⟨t, H⟩ := by
  have := RetOk.pure (L := []) (rs := rs) (QF := QF) (t := t) hcl (by simpa using he) (by simpa using hv) hq
  simpa using this
theorem foldI_two (f : Int → Int → Int) (k : IntKind) (a b : Int) : foldI f [.int k a, .int k b] = some (.int k (f a b)) := by simp [foldI]
theorem bdA_no (n d : Nat) : bdA n d none = some d := rfl
theorem bdA_int (n d : Nat) (k : IntKind) (i : Int) : bdA n d (some (.int k i)) = if 0 ≤ i ∧ i ≤ (n : Int) then some i.toNat else none := rfl
theorem ixA_int (n : Nat) (k : IntKind) (i : Int) : ixA n (.int k i) = if 0 ≤ i ∧ i < (n : Int) then some i.toNat else none := rfl
theorem binA_int (op : BinOp) (q : EqK) (k k' : IntKind) (a b : Int) : binA op q (.int k a) (.int k' b) = match op with
    | .shl => if b < 0 then none else some (.int k (k.wrap (a * 2 ^ (min b.toNat k.bits))))
    | .shr => if b < 0 then none else some (.int k (a.fdiv (2 ^ (min b.toNat k.bits))))
    | op => if k = k' then arith op k a b else none := rfl
theorem heads {α : Type} (f : α → List AV) (n : Nat) (h : ∀ x, (f x).length = n) (l : List α) : (l.map f = [] ∨ ((l.map f).headD []).length = n) = True := by
  cases l with
  | nil => simp
  | cons x l => simp [h]
end
theorem hp_get (H L : List AObj) (n : Nat) : (H ++ L)[H.length + n]? = L[n]? := by rw [List.getElem?_append_right (by omega)]; congr 1; omega
theorem hp_get0 (H L : List AObj) : (H ++ L)[H.length]? = L[0]? := hp_get H L 0
theorem hp_set (H L : List AObj) (n : Nat) (o : AObj) : (H ++ L).set (H.length + n) o = H ++ L.set n o := by simp [List.set_append]
theorem hp_set0 (H L : List AObj) (o : AObj) : (H ++ L).set H.length o = H ++ L.set 0 o := by simp [List.set_append]
theorem hp_len (H L : List AObj) : (H ++ L).length = H.length + L.length := by simp
theorem hp_app (H L M : List AObj) : (H ++ L) ++ M = H ++ (L ++ M) := by simp
theorem hp_take (H L : List AObj) (n : Nat) : (H ++ L).take (H.length + n) = H ++ L.take n := by rw [List.take_append, List.take_of_length_le (by omega)]; congr 2; omega
mutual
theorem AV.clean_le {m n : Nat} (hmn : m ≤ n) : ∀ (a : AV), a.clean m = true → a.clean n = true
  | .int _ _, _ | .bool _, _ | .str _, _ | .imm _, _ | .list _, _ | .lptr _ _, _ | .dead, _ => rfl
  | .sl _ k _ _ _, h => by simp [AV.clean] at h ⊢; omega
  | .ptr k _ _ _, h => by simp [AV.clean] at h ⊢; omega
  | .iter k, h => by simp [AV.clean] at h ⊢; omega
  | .map k, h => by simp [AV.clean] at h ⊢; omega
  | .fn _ f g, h => by
    simp only [AV.clean, Bool.and_eq_true] at h ⊢
    exact ⟨cleanAll_le hmn f h.1, cleanAll_le hmn g h.2⟩
  | .iface _ a, h => by simp only [AV.clean] at h ⊢; exact AV.clean_le hmn a h
  | .agg as, h => by simp only [AV.clean] at h ⊢; exact cleanAll_le hmn as h
  | .tup as, h => by simp only [AV.clean] at h ⊢; exact cleanAll_le hmn as h
theorem cleanAll_le {m n : Nat} (hmn : m ≤ n) : ∀ (l : List AV), cleanAll m l = true → cleanAll n l = true
  | [], _ => rfl
  | a :: r, h => by
    simp only [cleanAll, Bool.and_eq_true] at h ⊢
    exact ⟨AV.clean_le hmn a h.1, cleanAll_le hmn r h.2⟩
end
theorem AObj.clean_le {m n : Nat} (hmn : m ≤ n) {o : AObj} (h : o.clean m) : o.clean n := by
  cases o with
  | vec sz xs => exact fun i j a ha => AV.clean_le hmn a (h i j a ha)
  | map es => exact fun i p hp => ⟨AV.clean_le hmn _ (h i p hp).1, AV.clean_le hmn _ (h i p hp).2⟩
  | _ => trivial
theorem Clean.le {m n : Nat} (hmn : m ≤ n) {H : List AObj} (h : Clean m H) : Clean n H := fun k o hk => AObj.clean_le hmn (h k o hk)
theorem Clean.app {m : Nat} {H L : List AObj} (h : Clean m H) (hl : Clean m L) : Clean m (H ++ L) := fun k o hk => by
  by_cases hlt : k < H.length
  · rw [List.getElem?_append_left hlt] at hk; exact h k o hk
  · rw [List.getElem?_append_right (by omega)] at hk; exact hl _ o hk
theorem Clean.nil {m : Nat} : Clean m [] := fun k o hk => by simp at hk
theorem Clean.cons {m : Nat} {o : AObj} {L : List AObj} (h : o.clean m) (hl : Clean m L) : Clean m (o :: L) := fun k p hk => by
  cases k with
  | zero => simp at hk; subst hk; exact h
  | succ k => exact hl k p (by simpa using hk)
theorem vec_clean {m sz : Nat} {xs : List (List AV)} (h : ∀ r ∈ xs, cleanAll m r = true) : (AObj.vec sz xs).clean m := fun i j a ha => by
  simp only [cellAt, Option.bind_eq_some_iff] at ha
  obtain ⟨r, h1, h2⟩ := ha
  exact cleanAll_iff.1 (h r (List.mem_of_getElem? h1)) j a h2
theorem vec_clean_map {α : Type} {m sz : Nat} (f : α → List AV) (h : ∀ x, cleanAll m (f x) = true) (l : List α) : (AObj.vec sz (l.map f)).clean m := vec_clean fun r hr => by
  obtain ⟨x, _, rfl⟩ := List.mem_map.1 hr
  exact h x
theorem rows_clean_map {α : Type} (f : α → List AV) (h : ∀ x, cleanAll 0 (f x) = true) (l : List α) : ∀ (i j : Nat) (a : AV), cellAt (l.map f) i j = some a → a.clean 0 = true := vec_clean_map (sz := 0) f h l
theorem View.own {α : Type} {H L : List AObj} {sz : Nat} (k : Nat) {n : Nat} (f : α → List AV) (l : List α) (hL : L[k]? = some (.vec sz (l.map f))) (hn : n = l.length) (hf : ∀ x, cleanAll 0 (f x) = true) : View (H ++ L) H.length (.sl sz (H.length + k) n 0 n) (.list (l.map f)) :=
  .sl _ _ _ _ _ _ _ (by omega) (by rw [hp_get]; exact hL) (by simp [hn]) (by rw [List.drop_zero, List.take_of_length_le (by simp [hn])]) (rows_clean_map f hf l)
theorem View.own0 {α : Type} {H L : List AObj} {sz n : Nat} (f : α → List AV) (l : List α) (hL : L[0]? = some (.vec sz (l.map f))) (hn : n = l.length) (hf : ∀ x, cleanAll 0 (f x) = true) : View (H ++ L) H.length (.sl sz H.length n 0 n) (.list (l.map f)) := View.own (H := H) 0 f l hL hn hf
def keepT (ks : List Nat) (t : Tm) : Tm := fun n => if ks.contains n then t n else .dead
theorem Weak.keep {B N m : Nat} {t : Tm} {H : List AObj} (ks : List Nat) (hm : B ≤ m) (hc : Clean m (H.take m)) (hk : ∀ n ∈ ks, (t n).clean m = true) : Weak B N ⟨t, H⟩ ⟨keepT ks t, H.take m⟩ :=
  Weak.take m hm hc fun n => by
    unfold keepT
    split
    · rename_i h
      exact .same _ (hk n (by simpa using h))
    · exact .dead _
theorem Weak.cut {B N : Nat} {t : Tm} {H L : List AObj} (ks : List Nat) (n : Nat) (hB : B ≤ H.length + n) (hH : Clean H.length H) (hL : Clean (H.length + n) (L.take n)) (hk : ∀ s ∈ ks, (t s).clean (H.length + n) = true) : Weak B N ⟨t, H ++ L⟩ ⟨keepT ks t, H ++ L.take n⟩ := by
  have := Weak.keep (B := B) (N := N) (t := t) (H := H ++ L) ks hB (by rw [hp_take]; exact (hH.le (by omega)).app hL) hk
  rwa [hp_take] at this
section
variable {P : Program} {N B : Nat} {Q : Exit → AS → Prop} {σ : AS}
theorem wpO_mono {o : LOper} {K K' : AS → Prop} (h : ∀ σ, K σ → K' σ) (hw : wpO P o K σ) : wpO P o K' σ := by
  unfold wpO at hw ⊢
  split
  · rename_i f args hop
    rw [hop] at hw
    simp only at hw
    unfold CallA at hw ⊢
    split
    · rename_i hf
      rw [hf] at hw
      exact ACalls.mono hw fun r H' hr => h _ hr
    · rename_i hf
      split at hw
      · rename_i h2; exact absurd h2 (hf _ _ _)
      · exact hw
  · rename_i hop
    split at hw
    · rename_i h2; exact absurd h2 (hop _ _)
    · split
      · rename_i h3; rw [h3] at hw; exact h _ hw
      · rename_i h3; rw [h3] at hw; exact hw
theorem wpG_mono {o : LOper} {K K' : AS → Prop} (h : ∀ σ, K σ → K' σ) (hw : wpG P o K σ) : wpG P o K' σ := by
  unfold wpG at hw ⊢
  split
  · rename_i hg; rw [hg] at hw; exact wpO_mono h hw
  · rename_i g b hg
    rw [hg] at hw
    simp only at hw
    split
    · rename_i x hx
      rw [hx] at hw
      exact ⟨fun e => wpO_mono h (hw.1 e), fun e => h _ (hw.2 e)⟩
    · rename_i u hu
      rw [hu] at hw
      exact ⟨hw.1, h _ hw.2⟩
    · rename_i hx hx2
      split at hw
      · rename_i h2; exact absurd h2 (hx _)
      · rename_i h2; exact absurd h2 (hx2 _)
      · exact hw
theorem wpL_app (l m : List LOper) {K : AS → Prop} : ∀ (σ : AS), wpL P l (wpL P m K) σ → wpL P (l ++ m) K σ := by
  induction l with
  | nil => intro σ h; exact h
  | cons o l ih => intro σ h; exact wpG_mono ih h
theorem wpL_mono {l : List LOper} {K K' : AS → Prop} (h : ∀ σ, K σ → K' σ) : ∀ {σ : AS}, wpL P l K σ → wpL P l K' σ := by
  induction l with
  | nil => intro σ hw; exact h σ hw
  | cons o l ih => intro σ hw; exact wpG_mono (fun σ => ih) hw
theorem wpL_at (n : Nat) {l : List LOper} {K : AS → Prop} (h : ∀ K' : AS → Prop, (∀ σ, wpL P (l.drop n) K σ → K' σ) → wpL P (l.take n) K' σ) : wpL P l K σ := by
  have := wpL_app (P := P) (l.take n) (l.drop n) (K := K) σ (h _ fun _ h => h)
  rwa [List.take_append_drop] at this
theorem wrap_i64_in {n : Int} (h0 : -9223372036854775808 ≤ n) (h1 : n ≤ 9223372036854775807) : IntKind.i64.wrap n = n := by rw [IntKind.wrap_i64]; omega
theorem LCB.count {b i c j : Nat} {lim : Opd} {body : LCode} (len : Nat) (hlen : len ≤ 9223372036854775806) (I : Nat → AS → Prop) (k0 : Nat) (h0 : σ.t i = .int .i64 (k0 : Int)) (hk0 : k0 ≤ len) (hI : I k0 σ)
    (hci : c ≠ i) (hji : j ≠ i)
    (hput : ∀ k t H d v, (d = i ∨ d = c ∨ d = j) → I k ⟨t, H⟩ → I k ⟨t.put (some d) v, H⟩)
    (hlim : ∀ k t H, k ≤ len → I k ⟨t, H⟩ → ev t lim = .int .i64 (len : Int))
    (hbody : ∀ k t H, k < len → t i = .int .i64 (k : Int) → I k ⟨t, H⟩ → LCB P N B body (fun e σ' => match e with
      | .normal => ∃ σ'', Weak B N σ' σ'' ∧ σ''.t i = .int .i64 (k : Int) ∧ I (k + 1) σ''
      | .exit b' => if b' = b then Q .normal σ' else Q (.exit b') σ'
      | e => Q e σ') ⟨t, H⟩)
    (hend : ∀ t H, I len ⟨t, H⟩ → Q .normal ⟨t, H⟩) :
    LCB P N B (.block b (.loop (.seq (.text [⟨some c, .bin .lss .other (.tmp i) lim, none⟩]) (.seq (.cond (.tmp c) .skip (.exit b)) (.seq body (.text [⟨some j, .bin .add .other (.tmp i) (.cst (.int .i64 1)), none⟩, ⟨some i, .mv (.tmp j), none⟩])))))) Q σ := by
  refine LCB.block (LCB.loop (fun n σ => ∃ k, k ≤ len ∧ n = len - k ∧ σ.t i = .int .i64 (k : Int) ∧ I k σ) (len - k0) ⟨k0, hk0, rfl, h0, hI⟩ ?_)
  rintro n ⟨t, H⟩ ⟨k, hk, rfl, hti, hIk⟩
  replace hti : t i = .int .i64 (k : Int) := hti
  have hl := hlim k t H hk hIk
  refine LCB.seq (LCB.text ?_)
  simp only [wpL, wpG, wpO, stepL, pureStep, ev_tmp, hti, hl, binA_int, arith, Option.map_some]
  refine LCB.seq (LCB.cond (t := decide ((k : Int) < (len : Int))) (by simp only [ev_tmp, Tm.put_some, if_true]) (fun hlt => ?_) (fun hge => ?_))
  · have hlt' : k < len := by simpa using hlt
    refine LCB.skip ?_
    refine LCB.seq ((hbody k _ H hlt' (by simp [Tm.put_some, Ne.symm hci, hti]) (hput k t H c _ (.inr (.inl rfl)) hIk)).mono fun e σ' he => ?_)
    cases e with
    | normal =>
      obtain ⟨σ'', hw, h1, h2⟩ := he
      refine LCB.pre hw (LCB.text ?_)
      obtain ⟨t2, H2⟩ := σ''
      simp only at h1
      simp only [wpL, wpG, wpO, stepL, pureStep, ev_tmp, ev_cst, h1, binA_int, arith, Option.map_some, if_true, Tm.put_some]
      refine ⟨len - (k + 1), by omega, k + 1, by omega, rfl, ?_, ?_⟩
      · rw [wrap_i64_in (by omega) (by omega)]
        rfl
      · exact hput _ _ _ _ _ (.inl rfl) (hput _ _ _ _ _ (.inr (.inr rfl)) h2)
    | exit b' => exact he
    | _ => exact he
  · have hge' : k = len := by
      have : ¬ k < len := by simpa using hge
      omega
    subst hge'
    refine LCB.exit ?_
    simp only [if_true]
    exact hend _ _ (hput _ _ _ _ _ (.inr (.inl rfl)) hIk)
end
section
variable {P : Program} {N B : Nat} {Q : Exit → AS → Prop} {σ : AS}
theorem LCB.rfor {b c : Nat} {pre post : List LOper} {body : LCode} (len : Nat) (I : Nat → AS → Prop) (k0 : Nat) (hk0 : k0 ≤ len) (hI : I k0 σ)
    (hpre : ∀ k σ, k ≤ len → I k σ → wpL P pre (fun σ' => σ'.t c = .bool (decide (k < len)) ∧ I k σ') σ)
    (hbody : ∀ k σ, k < len → I k σ → LCB P N B body (fun e σ' => match e with
      | .normal => ∃ σ'', Weak B N σ' σ'' ∧ wpL P post (I (k + 1)) σ''
      | .exit b' => if b' = b then Q .normal σ' else Q (.exit b') σ'
      | e => Q e σ') σ)
    (hend : ∀ σ, I len σ → Q .normal σ) :
    LCB P N B (.block b (.loop (.seq (.text pre) (.seq (.cond (.tmp c) .skip (.exit b)) (.seq body (.text post)))))) Q σ := by
  refine LCB.block (LCB.loop (fun n σ => ∃ k, k ≤ len ∧ n = len - k ∧ I k σ) (len - k0) ⟨k0, hk0, rfl, hI⟩ ?_)
  rintro n σ ⟨k, hk, rfl, hIk⟩
  refine LCB.seq (LCB.text (wpL_mono ?_ (hpre k σ hk hIk)))
  rintro σ ⟨hc, hIk⟩
  refine LCB.seq (LCB.cond (t := decide (k < len)) hc (fun hlt => LCB.skip ?_) (fun hge => LCB.exit ?_))
  · have hlt' : k < len := by simpa using hlt
    refine LCB.seq ((hbody k σ hlt' hIk).mono fun e σ' he => ?_)
    cases e with
    | normal =>
      obtain ⟨σ'', hw, h⟩ := he
      exact LCB.pre hw (LCB.text (wpL_mono (fun σ h => ⟨len - (k + 1), by omega, k + 1, by omega, rfl, h⟩) h))
    | exit b' => exact he
    | _ => exact he
  · have hge' : k = len := by
      have : ¬ k < len := by simpa using hge
      omega
    subst hge'
    simp only [if_true]
    exact hend _ hIk
end
theorem Fr.setVec {c : Cx} {k sz : Nat} {xs xs' : List (List AV)} (hk : c.H[k]? = some (.vec sz xs)) (hl : xs'.length = xs.length) : Fr c ⟨c.ι, c.H.set k (.vec sz xs'), c.w⟩ where
  os := rfl
  tape := rfl
  output := rfl
  size := Nat.le_refl _
  keep := fun b hb hw => ⟨rfl, fun ⟨j, o, h1, h2, h3⟩ => by
    by_cases e : j = k
    · subst e; exact hw ⟨j, _, hk, rfl, h3⟩
    · exact hw ⟨j, o, by simpa [List.getElem?_set, Ne.symm e] using h1, h2, h3⟩⟩
  len := by simp
  vec := fun j sz' ys hj hy => by
    by_cases e : j = k
    · subst e
      simp [List.getElem?_set] at hy
      obtain ⟨_, rfl, rfl⟩ := hy
      exact ⟨xs, hk, by omega, fun _ => ⟨rfl, fun _ _ => rfl⟩⟩
    · exact ⟨ys, by simpa [List.getElem?_set, Ne.symm e] using hy, Nat.le_refl _, fun _ => ⟨rfl, fun _ _ => rfl⟩⟩
  map := fun j es hj he => by
    by_cases e : j = k
    · subst e; simp [List.getElem?_set] at he
    · exact ⟨⟨es, by simpa [List.getElem?_set, Ne.symm e] using he⟩, rfl⟩
  iter := fun j s p hj he => by
    by_cases e : j = k
    · subst e; simp [List.getElem?_set] at he
    · exact ⟨⟨s, p, by simpa [List.getElem?_set, Ne.symm e] using he⟩, rfl⟩
theorem Weak.growCell {B N : Nat} {σ : AS} (k i j sz sz0 : Nat) {xs : List (List AV)} {row : List AV} (h0 : 0 < sz) (hk : σ.H[k]? = some (.vec sz0 xs)) (hi : xs[i]? = some row) (hj : row[j]? = some (.imm (.slice none 0 0))) :
    Weak B N σ ⟨σ.t, σ.H.set k (.vec sz0 (xs.set i (row.set j (.sl sz σ.H.length 0 0 0)))) ++ [.vec sz []]⟩ := fun ι a w hr => by
  have hf : Fr ⟨ι, σ.H, w⟩ (Cx.push ⟨ι, σ.H, w⟩ (.vec sz []) none w) := Fr.push rfl rfl rfl (Nat.le_refl _) (fun _ _ => rfl) (fun b e => by cases e) hr.h.lt
  have hR : RepH (Cx.push ⟨ι, σ.H, w⟩ (.vec sz []) none w) := hr.h.push rfl rfl rfl (Nat.le_refl _) (fun _ _ => rfl) (fun b e => by cases e) ⟨h0, by simp, by simp, by rw [push_ι (c := ⟨ι, σ.H, w⟩)]⟩
  have hklt : k < σ.H.length := (List.getElem?_eq_some_iff.1 hk).1
  have hsl : ∀ (c : Cx), c.H[σ.H.length]? = some (.vec sz []) → RepV c (.sl sz σ.H.length 0 0 0) (.slice none 0 0) := fun c hc =>
    .sl _ _ _ _ _ _ _ ((List.getElem?_eq_some_iff.1 hc).1) (Nat.le_refl _) (fun h => by simp at h) (fun sz' ys hx => by rw [hc] at hx; simp at hx; exact ⟨hx.1.symm, by simp⟩) (fun ys hx hn => ⟨by simp, .inr ⟨rfl, rfl⟩⟩)
  generalize hcc : (Cx.push ⟨ι, σ.H, w⟩ (.vec sz []) none w) = c at hf hR
  have hH : c.H = σ.H ++ [.vec sz []] := by rw [← hcc]; rfl
  have hw : c.w = w := by rw [← hcc]; rfl
  have hk' : c.H[k]? = some (.vec sz0 xs) := by rw [hH, List.getElem?_append_left hklt]; exact hk
  have hf2 := Fr.setVec (xs' := xs.set i (row.set j (.sl sz σ.H.length 0 0 0))) hk' (by simp)
  have hHe : c.H.set k (.vec sz0 (xs.set i (row.set j (.sl sz σ.H.length 0 0 0)))) = σ.H.set k (.vec sz0 (xs.set i (row.set j (.sl sz σ.H.length 0 0 0)))) ++ [.vec sz []] := by
    rw [hH, List.set_append, if_pos hklt]
  rw [hHe, hw] at hf2
  have hlast : (σ.H.set k (.vec sz0 (xs.set i (row.set j (.sl sz σ.H.length 0 0 0)))) ++ [AObj.vec sz []])[σ.H.length]? = some (.vec sz []) := by
    rw [List.getElem?_append_right (by simp)]; simp
  have hlt : i < xs.length := (List.getElem?_eq_some_iff.1 hi).1
  have hR2 : RepH ⟨c.ι, σ.H.set k (.vec sz0 (xs.set i (row.set j (.sl sz σ.H.length 0 0 0)))) ++ [.vec sz []], w⟩ := by
    have hget : ∀ q o, (σ.H.set k (.vec sz0 (xs.set i (row.set j (.sl sz σ.H.length 0 0 0)))) ++ [AObj.vec sz []])[q]? = some o → (q = k ∧ o = .vec sz0 (xs.set i (row.set j (.sl sz σ.H.length 0 0 0)))) ∨ (q ≠ k ∧ c.H[q]? = some o) := fun q o hq => by
      rw [← hHe] at hq
      by_cases e : q = k
      · subst e
        have : q < c.H.length := by rw [hH]; simp; omega
        simp [List.getElem?_set, this] at hq
        exact .inl ⟨rfl, hq.symm⟩
      · exact .inr ⟨e, by simpa [List.getElem?_set, Ne.symm e] using hq⟩
    refine ⟨fun q o hq => ?_, fun q o b hq hl hb => ?_, fun q l o p b hq hl h1 h2 h3 h4 => ?_, hR.glob.mono hf2⟩
    · rcases hget q o hq with ⟨rfl, rfl⟩ | ⟨hne, hq'⟩
      · obtain ⟨g1, g2, g3, g4⟩ := hR.obj q _ hk'
        refine ⟨g1, fun r hr2 => ?_, by simpa using g3, ?_⟩
        · rcases List.mem_or_eq_of_mem_set hr2 with h | h
          · exact g2 r h
          · rw [h, List.length_set]; exact g2 row (List.mem_of_getElem? hi)
        · cases hci : c.ι q with
          | none => simp only [hci] at g4 ⊢; subst g4; simp at hlt
          | some b =>
            simp only [hci] at g4 ⊢
            obtain ⟨cs, el, fr, k1, k2, k3, k4⟩ := g4
            rw [hw] at k1
            refine ⟨cs, el, fr, k1, by simpa using k2, k3, fun i' j' a' ha' => ?_⟩
            simp only [cellAt, List.getElem?_set] at ha'
            by_cases e1 : i = i'
            · subst e1
              simp only [if_true, hlt, Option.bind_some, List.getElem?_set] at ha'
              by_cases e2 : j = j'
              · subst e2
                have hjl : j < row.length := (List.getElem?_eq_some_iff.1 hj).1
                simp only [if_true, hjl, Option.some.injEq] at ha'
                subst ha'
                have := k4 i j (.imm (.slice none 0 0)) (by simp [cellAt, hi, hj])
                rw [this.imm_inv]
                exact hsl _ hlast
              · simp only [e2, if_false] at ha'
                exact (k4 i j' a' (by simp [cellAt, hi, ha'])).mono hf2
            · simp only [e1, if_false] at ha'
              exact (k4 i' j' a' ha').mono hf2
      · exact (hR.obj q o hq').mono hf2 rfl fun _ b _ => by show w.heap[b]? = c.w.heap[b]?; rw [hw]
    · rcases hget q o hq with ⟨rfl, rfl⟩ | ⟨hne, hq'⟩
      · have := hR.lt q _ b hk' rfl hb; rwa [hw] at this
      · have := hR.lt q _ b hq' hl hb; rwa [hw] at this
    · have g : ∀ (q : Nat) (o : AObj), (σ.H.set k (.vec sz0 (xs.set i (row.set j (.sl sz σ.H.length 0 0 0)))) ++ [AObj.vec sz []])[q]? = some o → o.live = true → ∃ o' : AObj, c.H[q]? = some o' ∧ o'.live = true := fun q o hq hlv => by
        rcases hget q o hq with ⟨rfl, rfl⟩ | ⟨_, hq'⟩
        · exact ⟨_, hk', rfl⟩
        · exact ⟨o, hq', hlv⟩
      obtain ⟨o', y1, y2⟩ := g q o hq h1
      obtain ⟨p', z1, z2⟩ := g l p hl h2
      exact hR.inj q l o' p' b y1 z1 y2 z2 h3 h4
  exact ⟨c.ι, ⟨hR2, ⟨hr.t.size, fun n => ((hr.t.val n).mono hf).mono hf2, hr.t.defers⟩⟩, fun c0 hb hf0 => (hf0.trans hf).trans hf2⟩
section
variable {P : Program} {N B : Nat} {Q : Exit → AS → Prop} {σ : AS}
end
set_option linter.unusedSectionVars false
def mkT : List (Nat × AV) → Tm
  | [] => fun _ => .dead
  | (k, v) :: r => fun n => if n = k then v else mkT r n
theorem mkT_nil (n : Nat) : mkT [] n = .dead := rfl
theorem mkT_cons (k : Nat) (v : AV) (r : List (Nat × AV)) (n : Nat) : mkT ((k, v) :: r) n = if n = k then v else mkT r n := rfl
def Later (K : AS → Prop) (t : Tm) (d : Option Nat) : AV → List AObj → Prop := fun v H' => K ⟨t.put d v, H'⟩
def thenS (x : Option (AV × List AObj)) (L : AV → List AObj → Prop) : Prop := match x with | some (v, H') => L v H' | none => False
def SeqQ (P : Program) (N B : Nat) (y : LCode) (Q : Exit → AS → Prop) : Exit → AS → Prop := fun e σ => match e with | .normal => LCB P N B y Q σ | e => Q e σ
def BlkQ (id : Nat) (Q : Exit → AS → Prop) : Exit → AS → Prop := fun e σ => match e with | .exit i => if i = id then Q .normal σ else Q (.exit i) σ | e => Q e σ
def RetQ (B : Nat) (rs : List LRes) (QF : AV → List AObj → Prop) : Exit → AS → Prop := fun e σ => (e = .normal ∨ e = .ret) ∧ RetOk B rs QF σ
structure Head (S : Type) where
  sl : S → List (Nat × AV)
  hp : S → List AObj
  ok : S → Prop
  m : S → Nat
def LoopQ (N B : Nat) {S : Type} (hd : Head S) (k : Nat) (Q : Exit → AS → Prop) : Exit → AS → Prop := fun e σ => match e with
  | .normal => ∃ s, hd.ok s ∧ hd.m s < k ∧ Weak B N σ ⟨mkT (hd.sl s), hd.hp s⟩
  | e => Q e σ
def JoinQ (N B : Nat) {S : Type} (hd : Head S) (Q : Exit → AS → Prop) : Exit → AS → Prop := fun e σ => match e with
  | .normal => ∃ s, hd.ok s ∧ Weak B N σ ⟨mkT (hd.sl s), hd.hp s⟩
  | e => Q e σ
def CutQ (N B : Nat) (st : AS) (Q : Exit → AS → Prop) : Exit → AS → Prop := fun e σ => match e with
  | .normal => Weak B N σ st
  | e => Q e σ
def PureQ (r : AV) (H : List AObj) : AV → List AObj → Prop := fun r' H' => r' = r ∧ H' = H
section
variable {P : Program} {N B : Nat} {Q : Exit → AS → Prop} {σ : AS} {t : Tm} {H : List AObj} {K : AS → Prop} {d : Option Nat} {g : Option (Nat × Bool)}
theorem Later_def {v : AV} {H' : List AObj} : Later K t d v H' = K ⟨t.put d v, H'⟩ := rfl
theorem thenS_some {v : AV} {H' : List AObj} {L : AV → List AObj → Prop} : thenS (some (v, H')) L = L v H' := rfl
theorem SeqQ_normal {y : LCode} : SeqQ P N B y Q .normal σ = LCB P N B y Q σ := rfl
theorem SeqQ_exit {y : LCode} {i : Nat} : SeqQ P N B y Q (.exit i) σ = Q (.exit i) σ := rfl
theorem SeqQ_ret {y : LCode} : SeqQ P N B y Q .ret σ = Q .ret σ := rfl
theorem BlkQ_normal {id : Nat} : BlkQ id Q .normal σ = Q .normal σ := rfl
theorem BlkQ_exit {id i : Nat} : BlkQ id Q (.exit i) σ = if i = id then Q .normal σ else Q (.exit i) σ := rfl
theorem BlkQ_ret {id : Nat} : BlkQ id Q .ret σ = Q .ret σ := rfl
theorem LoopQ_exit {S : Type} {hd : Head S} {k i : Nat} : LoopQ N B hd k Q (.exit i) σ = Q (.exit i) σ := rfl
theorem LoopQ_ret {S : Type} {hd : Head S} {k : Nat} : LoopQ N B hd k Q .ret σ = Q .ret σ := rfl
theorem JoinQ_exit {S : Type} {hd : Head S} {i : Nat} : JoinQ N B hd Q (.exit i) σ = Q (.exit i) σ := rfl
theorem JoinQ_ret {S : Type} {hd : Head S} : JoinQ N B hd Q .ret σ = Q .ret σ := rfl
theorem CutQ_normal {st : AS} : CutQ N B st Q .normal σ = Weak B N σ st := rfl
theorem CutQ_exit {st : AS} {i : Nat} : CutQ N B st Q (.exit i) σ = Q (.exit i) σ := rfl
theorem CutQ_ret {st : AS} : CutQ N B st Q .ret σ = Q .ret σ := rfl
theorem RetQ_ret {rs : List LRes} {QF : AV → List AObj → Prop} : RetQ B rs QF .ret σ = RetOk B rs QF σ := by simp [RetQ]
theorem RetQ_normal {rs : List LRes} {QF : AV → List AObj → Prop} : RetQ B rs QF .normal σ = RetOk B rs QF σ := by simp [RetQ]
theorem R.seq {x y : LCode} (h : LCB P N B x (SeqQ P N B y Q) σ) : LCB P N B (.seq x y) Q σ := LCB.seq h
theorem R.block {id : Nat} {x : LCode} (h : LCB P N B x (BlkQ id Q) σ) : LCB P N B (.block id x) Q σ := LCB.block h
theorem R.loop {x : LCode} {S : Type} (hd : Head S) (s0 : S) (h0 : hd.ok s0) (hw : Weak B N σ ⟨mkT (hd.sl s0), hd.hp s0⟩)
    (hr : ∀ s, hd.ok s → LCB P N B x (LoopQ N B hd (hd.m s) Q) ⟨mkT (hd.sl s), hd.hp s⟩) : LCB P N B (.loop x) Q σ := by
  refine LCB.pre hw (LCB.loop (fun n σ => ∃ s, hd.ok s ∧ hd.m s = n ∧ σ = ⟨mkT (hd.sl s), hd.hp s⟩) (hd.m s0) ⟨s0, h0, rfl, rfl⟩ ?_)
  rintro n σ ⟨s, hs, rfl, rfl⟩
  refine LCB.post ((hr s hs).mono fun e σ' he => ?_)
  cases e with
  | normal =>
    obtain ⟨s', h1, h2, h3⟩ := he
    exact ⟨_, h3, hd.m s', h2, s', h1, rfl, rfl⟩
  | _ => exact ⟨σ', Weak.refl _ _ _, he⟩
theorem R.join {x y : LCode} {S : Type} (hd : Head S) (h : LCB P N B x (JoinQ N B hd Q) σ) (hy : ∀ s, hd.ok s → LCB P N B y Q ⟨mkT (hd.sl s), hd.hp s⟩) : LCB P N B (.seq x y) Q σ := by
  refine LCB.seq (LCB.post (h.mono fun e σ' he => ?_))
  cases e with
  | normal =>
    obtain ⟨s, h1, h2⟩ := he
    exact ⟨_, h2, hy s h1⟩
  | _ => exact ⟨σ', Weak.refl _ _ _, he⟩
theorem R.cut {x y : LCode} (sl : List (Nat × AV)) (H' : List AObj) (h : LCB P N B x (CutQ N B ⟨mkT sl, H'⟩ Q) σ) (hy : LCB P N B y Q ⟨mkT sl, H'⟩) : LCB P N B (.seq x y) Q σ := by
  refine LCB.seq (LCB.post (h.mono fun e σ' he => ?_))
  cases e with
  | normal => exact ⟨_, he, hy⟩
  | _ => exact ⟨σ', Weak.refl _ _ _, he⟩
theorem ACalls.go {f : FuncId} {rs : List LRes} {lc : LCode} {args : List AV} {QF : AV → List AObj → Prop} (hlow : lowFn P f = some (N, lc, rs)) (hN : args.length ≤ N)
    (h : Clean H.length H → LCB P N H.length lc (RetQ H.length rs QF) ⟨argsT args, H ++ []⟩) : ACalls P f args H QF := by
  refine ACalls.low hlow hN fun hcl => ?_
  have := h hcl
  rwa [List.append_nil] at this
theorem wpG_split {d : Option Nat} {op : LOp} {i : Nat} {b x : Bool} (h : σ.t i = .bool x) (h1 : x = true → wpG P ⟨d, op, some (i, b)⟩ K σ) (h2 : x = false → wpG P ⟨d, op, some (i, b)⟩ K σ) : wpG P ⟨d, op, some (i, b)⟩ K σ := by
  cases x
  · exact h2 rfl
  · exact h1 rfl
theorem wo_call {f : Opd} {as : List Opd} : wpO P ⟨d, .call f as, g⟩ K σ = CallA P (ev σ.t f) (as.map (ev σ.t)) σ.H (Later K σ.t d) := rfl
theorem wo_mv {x : Opd} : wpO P ⟨d, .mv x, g⟩ K σ = K ⟨σ.t.put d (ev σ.t x), σ.H⟩ := rfl
theorem wo_pick {c a b : Opd} : wpO P ⟨d, .pick c a b, g⟩ K σ = thenS (match ev σ.t c with | .bool x => some (if x then ev σ.t a else ev σ.t b, σ.H) | _ => none) (Later K σ.t d) := by
  show (match (match ev σ.t c with | .bool x => some (if x then ev σ.t a else ev σ.t b) | _ => none).map fun v => (v, σ.H) with | some (v, H') => K ⟨σ.t.put d v, H'⟩ | none => False) = _
  cases ev σ.t c <;> rfl
theorem wo_alloc {z : List AV} : wpO P ⟨d, .alloc z, g⟩ K σ = K ⟨σ.t.put d (.ptr σ.H.length 1 0 0), σ.H ++ [.vec z.length [z]]⟩ := rfl
theorem wo_op {op : LOp} (h : op.isCall = false) : wpO P ⟨d, op, g⟩ K σ = thenS (stepL op σ) (Later K σ.t d) := by
  unfold wpO thenS
  split
  · rename_i hop; simp only at hop; subst hop; simp [LOp.isCall] at h
  · split
    · rename_i h1; simp only at h1; simp only [h1]; rfl
    · rename_i h1; simp only at h1; simp only [h1]
theorem wo_box {x : Opd} : wpO P ⟨d, .box x, g⟩ K σ = thenS (stepL (.box x) σ) (Later K σ.t d) := wo_op rfl
theorem wo_build {z : List AV} {ps : List (Nat × Nat × Opd)} : wpO P ⟨d, .build z ps, g⟩ K σ = thenS (stepL (.build z ps) σ) (Later K σ.t d) := wo_op rfl
theorem wo_bslice {n m : Nat} {z : List AV} {ps : List (Nat × Opd)} : wpO P ⟨d, .bslice n z m ps, g⟩ K σ = thenS (stepL (.bslice n z m ps) σ) (Later K σ.t d) := wo_op rfl
theorem wo_load {a : Bool} {n : Nat} {x : Opd} : wpO P ⟨d, .load a n x, g⟩ K σ = thenS (stepL (.load a n x) σ) (Later K σ.t d) := wo_op rfl
theorem wo_store {n : Nat} {x y : Opd} : wpO P ⟨d, .store n x y, g⟩ K σ = thenS (stepL (.store n x y) σ) (Later K σ.t d) := wo_op rfl
theorem wo_nilc {x : Opd} : wpO P ⟨d, .nilc x, g⟩ K σ = thenS (stepL (.nilc x) σ) (Later K σ.t d) := wo_op rfl
theorem wo_bin {o : BinOp} {k : EqK} {x y : Opd} : wpO P ⟨d, .bin o k x y, g⟩ K σ = thenS (stepL (.bin o k x y) σ) (Later K σ.t d) := wo_op rfl
theorem wo_not {x : Opd} : wpO P ⟨d, .not x, g⟩ K σ = thenS (stepL (.not x) σ) (Later K σ.t d) := wo_op rfl
theorem wo_neg {x : Opd} : wpO P ⟨d, .neg x, g⟩ K σ = thenS (stepL (.neg x) σ) (Later K σ.t d) := wo_op rfl
theorem wo_toInt {k : IntKind} {x : Opd} : wpO P ⟨d, .toInt k x, g⟩ K σ = thenS (stepL (.toInt k x) σ) (Later K σ.t d) := wo_op rfl
theorem wo_toStr {x : Opd} : wpO P ⟨d, .toStr x, g⟩ K σ = thenS (stepL (.toStr x) σ) (Later K σ.t d) := wo_op rfl
theorem wo_assertT {k : TypeId} {z : AV} {x : Opd} : wpO P ⟨d, .assertT k z x, g⟩ K σ = thenS (stepL (.assertT k z x) σ) (Later K σ.t d) := wo_op rfl
theorem wo_mkIface {k : TypeId} {x : Opd} : wpO P ⟨d, .mkIface k x, g⟩ K σ = thenS (stepL (.mkIface k x) σ) (Later K σ.t d) := wo_op rfl
theorem wo_mkFn {f : Fn} {a b : List Opd} : wpO P ⟨d, .mkFn f a b, g⟩ K σ = thenS (stepL (.mkFn f a b) σ) (Later K σ.t d) := wo_op rfl
theorem wo_mkMap : wpO P ⟨d, .mkMap, g⟩ K σ = thenS (stepL .mkMap σ) (Later K σ.t d) := wo_op rfl
theorem wo_mkSlice {n m : Nat} {z : List AV} {x y : Opd} : wpO P ⟨d, .mkSlice n m z x y, g⟩ K σ = thenS (stepL (.mkSlice n m z x y) σ) (Later K σ.t d) := wo_op rfl
theorem wo_sliceS {x : Opd} {a b : Option Opd} : wpO P ⟨d, .sliceS x a b, g⟩ K σ = thenS (stepL (.sliceS x a b) σ) (Later K σ.t d) := wo_op rfl
theorem wo_slice {n : Nat} {x : Opd} {a b c : Option Opd} : wpO P ⟨d, .slice n x a b c, g⟩ K σ = thenS (stepL (.slice n x a b c) σ) (Later K σ.t d) := wo_op rfl
theorem wo_faddr {n : Nat} {x : Opd} : wpO P ⟨d, .faddr n x, g⟩ K σ = thenS (stepL (.faddr n x) σ) (Later K σ.t d) := wo_op rfl
theorem wo_field {a : Bool} {n m : Nat} {x : Opd} : wpO P ⟨d, .field a n m x, g⟩ K σ = thenS (stepL (.field a n m x) σ) (Later K σ.t d) := wo_op rfl
theorem wo_iaddrS {n : Nat} {x y : Opd} : wpO P ⟨d, .iaddrS n x y, g⟩ K σ = thenS (stepL (.iaddrS n x y) σ) (Later K σ.t d) := wo_op rfl
theorem wo_iaddrA {n m : Nat} {x y : Opd} : wpO P ⟨d, .iaddrA n m x y, g⟩ K σ = thenS (stepL (.iaddrA n m x y) σ) (Later K σ.t d) := wo_op rfl
theorem wo_idxA {n m : Nat} {a : Bool} {x y : Opd} : wpO P ⟨d, .idxA n a m x y, g⟩ K σ = thenS (stepL (.idxA n a m x y) σ) (Later K σ.t d) := wo_op rfl
theorem wo_idxS {x y : Opd} : wpO P ⟨d, .idxS x y, g⟩ K σ = thenS (stepL (.idxS x y) σ) (Later K σ.t d) := wo_op rfl
theorem wo_lookup {z : AV} {x y : Opd} {a : Bool} : wpO P ⟨d, .lookup z x y a, g⟩ K σ = thenS (stepL (.lookup z x y a) σ) (Later K σ.t d) := wo_op rfl
theorem wo_mapSet {x y z : Opd} : wpO P ⟨d, .mapSet x y z, g⟩ K σ = thenS (stepL (.mapSet x y z) σ) (Later K σ.t d) := wo_op rfl
theorem wo_range {x : Opd} : wpO P ⟨d, .range x, g⟩ K σ = thenS (stepL (.range x) σ) (Later K σ.t d) := wo_op rfl
theorem wo_next {x : Opd} : wpO P ⟨d, .next x, g⟩ K σ = thenS (stepL (.next x) σ) (Later K σ.t d) := wo_op rfl
theorem wo_extract {x : Opd} {n : Nat} : wpO P ⟨d, .extract x n, g⟩ K σ = thenS (stepL (.extract x n) σ) (Later K σ.t d) := wo_op rfl
theorem wo_len {k : LenK} {x : Opd} : wpO P ⟨d, .len k x, g⟩ K σ = thenS (stepL (.len k x) σ) (Later K σ.t d) := wo_op rfl
theorem wo_min {l : List Opd} : wpO P ⟨d, .min l, g⟩ K σ = thenS (stepL (.min l) σ) (Later K σ.t d) := wo_op rfl
theorem wo_max {l : List Opd} : wpO P ⟨d, .max l, g⟩ K σ = thenS (stepL (.max l) σ) (Later K σ.t d) := wo_op rfl
theorem wo_append {n m : Nat} {x y : Opd} : wpO P ⟨d, .append n m x y, g⟩ K σ = thenS (stepL (.append n m x y) σ) (Later K σ.t d) := wo_op rfl
theorem wo_appendS {x y : Opd} : wpO P ⟨d, .appendS x y, g⟩ K σ = thenS (stepL (.appendS x y) σ) (Later K σ.t d) := wo_op rfl
theorem wo_copy {n : Nat} {x y : Opd} : wpO P ⟨d, .copy n x y, g⟩ K σ = thenS (stepL (.copy n x y) σ) (Later K σ.t d) := wo_op rfl
theorem wg_none {op : LOp} : wpG P ⟨d, op, none⟩ K σ = wpO P ⟨d, op, none⟩ K σ := rfl
variable {k : IntKind} {a b : Int} {q : EqK} {s u : ByteArray} {x y : Bool}
theorem bin_add : binA .add q (.int k a) (.int k b) = some (.int k (k.wrap (a + b))) := by simp [binA, arith]
theorem bin_sub : binA .sub q (.int k a) (.int k b) = some (.int k (k.wrap (a - b))) := by simp [binA, arith]
theorem bin_mul : binA .mul q (.int k a) (.int k b) = some (.int k (k.wrap (a * b))) := by simp [binA, arith]
theorem bin_quo : binA .quo q (.int k a) (.int k b) = if b = 0 then none else some (.int k (k.wrap (a.tdiv b))) := by simp [binA, arith]
theorem bin_rem : binA .rem q (.int k a) (.int k b) = if b = 0 then none else some (.int k (a.tmod b)) := by simp [binA, arith]
theorem bin_and : binA .and q (.int k a) (.int k b) = some (.int k (bits .and k a b)) := by simp [binA, arith]
theorem bin_or : binA .or q (.int k a) (.int k b) = some (.int k (bits .or k a b)) := by simp [binA, arith]
theorem bin_xor : binA .xor q (.int k a) (.int k b) = some (.int k (bits .xor k a b)) := by simp [binA, arith]
theorem bin_eql : binA .eql q (.int k a) (.int k b) = some (.bool (decide (a = b))) := by simp [binA, arith, BEq.beq]
theorem bin_neq : binA .neq q (.int k a) (.int k b) = some (.bool (!decide (a = b))) := by simp [binA, arith, bne, BEq.beq]
theorem bin_lss : binA .lss q (.int k a) (.int k b) = some (.bool (decide (a < b))) := by simp [binA, arith]
theorem bin_leq : binA .leq q (.int k a) (.int k b) = some (.bool (decide (a ≤ b))) := by simp [binA, arith]
theorem bin_gtr : binA .gtr q (.int k a) (.int k b) = some (.bool (decide (b < a))) := by simp [binA, arith]
theorem bin_geq : binA .geq q (.int k a) (.int k b) = some (.bool (decide (b ≤ a))) := by simp [binA, arith]
theorem bin_shl : binA .shl q (.int k a) (.int k b) = if b < 0 then none else some (.int k (k.wrap (a * 2 ^ (min b.toNat k.bits)))) := rfl
theorem bin_shr : binA .shr q (.int k a) (.int k b) = if b < 0 then none else some (.int k (a.fdiv (2 ^ (min b.toNat k.bits)))) := rfl
theorem bin_sadd : binA .add q (.str s) (.str u) = if 9223372036854775807 < s.size + u.size then none else some (.str (s ++ u)) := by
  have e : (((s.size + u.size : Nat) : Int) > IntKind.i64.max) = (9223372036854775807 < s.size + u.size) := propext (by
    have : IntKind.i64.max = 9223372036854775807 := rfl
    rw [this]
    omega)
  simp only [binA]
  split <;> rename_i h
  · rw [if_pos (e ▸ h)]
  · rw [if_neg (e ▸ h)]
theorem beq_dec (s u : ByteArray) : (s == u) = decide (s = u) := by
  obtain ⟨a⟩ := s
  obtain ⟨b⟩ := u
  show (ByteArray.beq _ _) = _
  unfold ByteArray.beq
  rw [Bool.eq_iff_iff]
  simp
theorem bin_seql : binA .eql q (.str s) (.str u) = some (.bool (decide (s = u))) := by rw [← beq_dec]; rfl
theorem bin_sneq : binA .neq q (.str s) (.str u) = some (.bool (!decide (s = u))) := by rw [← beq_dec]; rfl
theorem bin_beql : binA .eql .bool (.bool x) (.bool y) = some (.bool (x == y)) := rfl
theorem bin_bneq : binA .neq .bool (.bool x) (.bool y) = some (.bool (!(x == y))) := rfl
theorem bin_aeql {as bs : List AV} {ks : List EqB} : binA .eql (.cells ks) (.agg as) (.agg bs) = (eqCells ks as bs).map .bool := rfl
theorem bin_aneq {as bs : List AV} {ks : List EqB} : binA .neq (.cells ks) (.agg as) (.agg bs) = (eqCells ks as bs).map fun x => .bool (!x) := rfl
theorem bin_feql {f : Fn} {as bs : List AV} : binA .eql .func (.fn f as bs) (.imm .nilFunc) = some (.bool false) := rfl
theorem bin_fneq {f : Fn} {as bs : List AV} : binA .neq .func (.fn f as bs) (.imm .nilFunc) = some (.bool true) := rfl
theorem bin_neql : binA .eql .func (.imm .nilFunc) (.imm .nilFunc) = some (.bool true) := rfl
theorem bin_nneq : binA .neq .func (.imm .nilFunc) (.imm .nilFunc) = some (.bool false) := rfl
theorem eqc_nil : eqCells [] [] [] = some true := rfl
theorem eqc_cons {e : EqB} {es : List EqB} {v w : AV} {vs ws : List AV} : eqCells (e :: es) (v :: vs) (w :: ws) = (eqCell e v w).bind fun x => (eqCells es vs ws).map fun y => x && y := rfl
theorem eqc_i : eqCell .i (.int k a) (.int k b) = some (decide (a = b)) := by simp [eqCell, BEq.beq]
theorem eqc_b : eqCell .b (.bool x) (.bool y) = some (x == y) := rfl
theorem eqc_s : eqCell .s (.str s) (.str u) = some (decide (s = u)) := by rw [← beq_dec]; rfl
theorem i_nn (n : Nat) : ((0 : Int) ≤ (n : Int)) = True := by simp
theorem maxLen_def : maxLen = 9223372036854775807 := rfl
theorem hl_lt (n a b : Nat) : (n + a < n + b) = (a < b) := by simp
theorem hl_lt0 (n b : Nat) : (n < n + b) = (0 < b) := by simp
theorem hl_le (n a b : Nat) : (n + a ≤ n + b) = (a ≤ b) := by simp
theorem hl_le0 (n b : Nat) : (n ≤ n + b) = True := by simp
theorem hl_ler (n : Nat) : (n ≤ n) = True := by simp
end
section
variable {H : List AObj} {m : Nat}
def rowsClean (ys : List (List AV)) : Prop := ∀ r ∈ ys, cleanAll 0 r = true
theorem vw_dead {a : AV} : View H m a .dead = True := eq_true (.dead a)
theorem vw_int {k k' : IntKind} {a b : Int} : View H m (.int k a) (.int k' b) = (k = k' ∧ a = b) := propext ⟨fun h => by cases h; exact ⟨rfl, rfl⟩, fun ⟨h1, h2⟩ => by subst h1; subst h2; exact .same _ rfl⟩
theorem vw_bool {a b : Bool} : View H m (.bool a) (.bool b) = (a = b) := propext ⟨fun h => by cases h; rfl, fun h => by subst h; exact .same _ rfl⟩
theorem vw_str {a b : ByteArray} : View H m (.str a) (.str b) = (a = b) := propext ⟨fun h => by cases h; rfl, fun h => by subst h; exact .same _ rfl⟩
theorem vw_imm {a b : Value} : View H m (.imm a) (.imm b) = (a = b) := propext ⟨fun h => by cases h; rfl, fun h => by subst h; exact .same _ rfl⟩
theorem vw_list {a b : List (List AV)} : View H m (.list a) (.list b) = (a = b) := propext ⟨fun h => by cases h; rfl, fun h => by subst h; exact .same _ rfl⟩
theorem vw_nil {b : List (List AV)} : View H m (.imm (.slice none 0 0)) (.list b) = (b = []) := propext ⟨fun h => by cases h; rfl, fun h => by subst h; exact .nil⟩
theorem vw_lptr {r r' : List AV} {o o' : Nat} : View H m (.lptr r o) (.lptr r' o') = (r = r' ∧ o = o') := propext ⟨fun h => by cases h; exact ⟨rfl, rfl⟩, fun ⟨h1, h2⟩ => by subst h1; subst h2; exact .same _ rfl⟩
theorem vw_ptr {k n i o k' n' i' o' : Nat} : View H m (.ptr k n i o) (.ptr k' n' i' o') = ((k = k' ∧ n = n' ∧ i = i' ∧ o = o') ∧ k < m) := propext ⟨fun h => by
  cases h with
  | same _ h => exact ⟨⟨rfl, rfl, rfl, rfl⟩, by simpa [AV.clean] using h⟩, fun ⟨⟨h1, h2, h3, h4⟩, h5⟩ => by subst h1 h2 h3 h4; exact .same _ (by simpa [AV.clean] using h5)⟩
theorem vw_iter {k k' : Nat} : View H m (.iter k) (.iter k') = (k = k' ∧ k < m) := propext ⟨fun h => by
  cases h with
  | same _ h => exact ⟨rfl, by simpa [AV.clean] using h⟩, fun ⟨h1, h5⟩ => by subst h1; exact .same _ (by simpa [AV.clean] using h5)⟩
theorem vw_map {k k' : Nat} : View H m (.map k) (.map k') = (k = k' ∧ k < m) := propext ⟨fun h => by
  cases h with
  | same _ h => exact ⟨rfl, by simpa [AV.clean] using h⟩, fun ⟨h1, h5⟩ => by subst h1; exact .same _ (by simpa [AV.clean] using h5)⟩
theorem vw_sl {z k n o l z' k' n' o' l' : Nat} : View H m (.sl z k n o l) (.sl z' k' n' o' l') = ((z = z' ∧ k = k' ∧ n = n' ∧ o = o' ∧ l = l') ∧ k < m) := propext ⟨fun h => by
  cases h with
  | same _ h => exact ⟨⟨rfl, rfl, rfl, rfl, rfl⟩, by simpa [AV.clean] using h⟩, fun ⟨⟨h1, h2, h3, h4, h5⟩, h6⟩ => by subst h1 h2 h3 h4 h5; exact .same _ (by simpa [AV.clean] using h6)⟩
theorem vw_fn {f : Fn} {as bs : List AV} (h : cleanAll m as = true ∧ cleanAll m bs = true) : View H m (.fn f as bs) (.fn f as bs) = True := eq_true (.same _ (by simp [AV.clean, h]))
theorem vw_iface {t : TypeId} {a : AV} (h : a.clean m = true) : View H m (.iface t a) (.iface t a) = True := eq_true (.same _ (by simp [AV.clean, h]))
theorem vw_slist {z k n o l : Nat} {ys : List (List AV)} : View H m (.sl z k n o l) (.list ys) = (m ≤ k ∧ match H[k]? with | some (.vec z' xs) => z' = z ∧ n = xs.length ∧ ys = (xs.drop o).take l ∧ rowsClean ys | _ => False) := propext ⟨fun h => by
  cases h with
  | sl _ _ _ _ _ xs _ h1 h2 h3 h4 h5 =>
    refine ⟨h1, ?_⟩
    rw [h2]
    refine ⟨rfl, h3, h4, fun r hr => cleanAll_iff.2 fun j a ha => ?_⟩
    obtain ⟨i, hi⟩ := List.getElem?_of_mem hr
    exact h5 i j a (by simp [cellAt, hi, ha]), fun ⟨h1, h2⟩ => by
  split at h2
  · rename_i z' xs hk
    obtain ⟨rfl, h3, h4, h5⟩ := h2
    exact .sl _ _ _ _ _ xs _ h1 hk h3 h4 fun i j a ha => by
      simp only [cellAt, Option.bind_eq_some_iff] at ha
      obtain ⟨r, h6, h7⟩ := ha
      exact cleanAll_iff.1 (h5 r (List.mem_of_getElem? h6)) j a h7
  · exact h2.elim⟩
theorem Views.of_same : ∀ {as : List AV}, cleanAll m as = true → Views H m as as
  | [], _ => .nil
  | a :: r, h => by
    simp only [cleanAll, Bool.and_eq_true] at h
    exact .cons _ _ _ _ (.same _ h.1) (Views.of_same h.2)
theorem vw_agg {as bs : List AV} : View H m (.agg as) (.agg bs) = Views H m as bs := propext ⟨fun h => by
  cases h with
  | same _ h => exact Views.of_same (by simpa [AV.clean] using h)
  | agg _ _ h => exact h, fun h => .agg _ _ h⟩
theorem vw_tup {as bs : List AV} : View H m (.tup as) (.tup bs) = Views H m as bs := propext ⟨fun h => by
  cases h with
  | same _ h => exact Views.of_same (by simpa [AV.clean] using h)
  | tup _ _ h => exact h, fun h => .tup _ _ h⟩
theorem vws_nil : Views H m [] [] = True := eq_true .nil
theorem vws_cons {a b : AV} {as bs : List AV} : Views H m (a :: as) (b :: bs) = (View H m a b ∧ Views H m as bs) := propext ⟨fun h => by
  cases h with
  | cons _ _ _ _ h1 h2 => exact ⟨h1, h2⟩, fun ⟨h1, h2⟩ => .cons _ _ _ _ h1 h2⟩
theorem vws_same {as : List AV} (h : cleanAll m as = true) : Views H m as as = True := eq_true (Views.of_same h)
theorem cl_ptr {k n i o : Nat} : (AV.ptr k n i o).clean m = decide (k < m) := rfl
theorem cl_int {k : IntKind} {n : Int} : (AV.int k n).clean m = true := rfl
theorem cl_bool {b : Bool} : (AV.bool b).clean m = true := rfl
theorem cl_str {s : ByteArray} : (AV.str s).clean m = true := rfl
theorem cl_imm {v : Value} : (AV.imm v).clean m = true := rfl
theorem cl_list {xs : List (List AV)} : (AV.list xs).clean m = true := rfl
theorem cl_lptr {r : List AV} {o : Nat} : (AV.lptr r o).clean m = true := rfl
theorem cl_dead : AV.dead.clean m = true := rfl
theorem cl_sl {a k b c d : Nat} : (AV.sl a k b c d).clean m = decide (k < m) := rfl
theorem cl_iter {k : Nat} : (AV.iter k).clean m = decide (k < m) := rfl
theorem cl_map {k : Nat} : (AV.map k).clean m = decide (k < m) := rfl
theorem cl_agg {l : List AV} : (AV.agg l).clean m = cleanAll m l := rfl
theorem cl_tup {l : List AV} : (AV.tup l).clean m = cleanAll m l := rfl
theorem cl_iface {t : TypeId} {a : AV} : (AV.iface t a).clean m = a.clean m := rfl
theorem cl_fn {f : Fn} {a b : List AV} : (AV.fn f a b).clean m = (cleanAll m a && cleanAll m b) := rfl
theorem cl_nil : cleanAll m [] = true := rfl
theorem cl_cons {a : AV} {r : List AV} : cleanAll m (a :: r) = (a.clean m && cleanAll m r) := rfl
theorem cls_nil : Clean m [] = True := eq_true Clean.nil
theorem cls_cons {o : AObj} {L : List AObj} : Clean m (o :: L) = (o.clean m ∧ Clean m L) := propext ⟨fun h => ⟨h 0 o rfl, fun k p hk => h (k + 1) p (by simpa using hk)⟩, fun ⟨h1, h2⟩ => Clean.cons h1 h2⟩
theorem clo_vec {z : Nat} {xs : List (List AV)} : (AObj.vec z xs).clean m = ∀ r ∈ xs, cleanAll m r = true := propext ⟨fun h r hr => cleanAll_iff.2 fun j a ha => by
  obtain ⟨i, hi⟩ := List.getElem?_of_mem hr
  exact h i j a (by simp [cellAt, hi, ha]), fun h => vec_clean h⟩
theorem clo_iter {s : ByteArray} {p : Nat} : (AObj.iter s p).clean m = True := rfl
theorem clo_gone : (AObj.gone).clean m = True := rfl
theorem clo_map {es : List (AV × AV)} : (AObj.map es).clean m = ∀ p ∈ es, p.1.clean m = true ∧ p.2.clean m = true := propext ⟨fun h p hp => by
  obtain ⟨i, hi⟩ := List.getElem?_of_mem hp
  exact h i p hi, fun h i p hp => h p (List.mem_of_getElem? hp)⟩
theorem rc_def {ys : List (List AV)} : rowsClean ys = ∀ r ∈ ys, cleanAll 0 r = true := rfl
end
section
variable {P : Program} {N B : Nat} {t : Tm} {H : List AObj}
theorem Weak.at {sl : List (Nat × AV)} {L L' : List AObj} (hH : Clean H.length H) (h : L.take L'.length = L' ∧ B ≤ H.length + L'.length ∧ Clean (H.length + L'.length) L' ∧ ∀ p ∈ sl, View (H ++ L) (H.length + L'.length) (t p.1) p.2) : Weak B N ⟨t, H ++ L⟩ ⟨mkT sl, H ++ L'⟩ := by
  obtain ⟨h1, h2, h3, h4⟩ := h
  have hT : ∀ n, View (H ++ L) (H.length + L'.length) (t n) (mkT sl n) := fun n => by
    clear h3
    induction sl with
    | nil => exact .dead _
    | cons p r ih =>
      obtain ⟨k, v⟩ := p
      rw [mkT_cons]
      split
      · rename_i e; subst e; exact h4 (n, v) (by simp)
      · exact ih fun p hp => h4 p (by simp [hp])
  have := Weak.take (B := B) (N := N) (σ := ⟨t, H ++ L⟩) (t' := mkT sl) (H.length + L'.length) h2 (by show Clean _ ((H ++ L).take _); rw [hp_take, h1]; exact (hH.le (by omega)).app h3) hT
  rwa [show (AS.mk t (H ++ L)).H.take (H.length + L'.length) = H ++ L' from by show (H ++ L).take _ = _; rw [hp_take, h1]] at this
theorem Weak.growAt {L : List AObj} (s sz : Nat) (h0 : 0 < sz) (hs : t s = .imm (.slice none 0 0)) : Weak B N ⟨t, H ++ L⟩ ⟨t.put (some s) (.sl sz (H.length + L.length) 0 0 0), H ++ (L ++ [.vec sz []])⟩ := by
  have := Weak.grow (B := B) (N := N) (σ := ⟨t, H ++ L⟩) s sz h0 hs
  simpa using this
theorem RetOk.val {L : List AObj} {rs : List LRes} {r : AV} (hcl : Clean H.length H) (h : match resE ⟨t, H ++ L⟩ rs with | some l => View (H ++ L) H.length (resV l) r | none => False) : RetOk H.length rs (PureQ r H) ⟨t, H ++ L⟩ := by
  split at h
  · rename_i l hl
    exact RetOk.pure hcl hl h ⟨rfl, rfl⟩
  · exact h.elim
theorem RetOk.fin {L : List AObj} {rs : List LRes} {QF : AV → List AObj → Prop} (L' : List AObj) (r : AV) (hcl : Clean H.length H) (h : L.take L'.length = L' ∧ Clean (H.length + L'.length) L') (hv : match resE ⟨t, H ++ L⟩ rs with | some l => View (H ++ L) (H.length + L'.length) (resV l) r | none => False) (hq : QF r (H ++ L')) : RetOk H.length rs QF ⟨t, H ++ L⟩ := by
  split at hv
  · rename_i l hl
    refine ⟨l, H.length + L'.length, r, hl, by omega, ?_, hv, ?_⟩
    · show Clean _ ((H ++ L).take _); rw [hp_take, h.1]; exact (hcl.le (by omega)).app h.2
    · show QF r ((H ++ L).take _); rw [hp_take, h.1]; exact hq
  · exact hv.elim
theorem re_nil {σ : AS} : resE σ [] = some [] := rfl
theorem re_tmp {σ : AS} {n : Nat} {r : List LRes} : resE σ (.tmp n :: r) = (resE σ r).map fun l => σ.t n :: l := rfl
theorem re_cell {σ : AS} {n z : Nat} {a : Bool} {r : List LRes} : resE σ (.cell n a z :: r) = (rowOf σ.H (σ.t n)).bind fun p => (partA a z p.2 p.1).bind fun v => (resE σ r).map fun l => v :: l := rfl
theorem rv_one {v : AV} : resV [v] = v := rfl
theorem rv_two {v w : AV} {l : List AV} : resV (v :: w :: l) = .tup (v :: w :: l) := rfl
class PureC (P : Program) (f : FuncId) (args : List AV) (r : outParam AV) : Prop where
  ok : Pure P f args r
theorem ACalls.inst {f : FuncId} {args : List AV} {r : AV} {K : AV → List AObj → Prop} [h : PureC P f args r] (hk : K r H) : ACalls P f args H K := ACalls.pure h.ok hk
end
set_option linter.unusedSectionVars false
section
variable {σ : AS} {x y z : Opd} {n m i : Nat} {a : Bool}
theorem om_some {v : AV} {H : List AObj} : (Option.map (fun v => (v, H)) (some v)) = some (v, H) := rfl
theorem st_nilc : stepL (.nilc x) σ = (match ev σ.t x with | .ptr .. | .lptr .. | .fn (.func _) .. => some (ev σ.t x) | _ => none : Option AV).map fun v => (v, σ.H) := rfl
theorem st_bin {o : BinOp} {k : EqK} : stepL (.bin o k x y) σ = (binA o k (ev σ.t x) (ev σ.t y)).map fun v => (v, σ.H) := rfl
theorem st_not : stepL (.not x) σ = (match ev σ.t x with | .bool b => some (.bool (!b)) | _ => none : Option AV).map fun v => (v, σ.H) := rfl
theorem st_neg : stepL (.neg x) σ = (match ev σ.t x with | .int k n => some (.int k (k.wrap (0 - n))) | _ => none : Option AV).map fun v => (v, σ.H) := rfl
theorem st_toInt {k : IntKind} : stepL (.toInt k x) σ = (match ev σ.t x with | .int _ n => some (.int k (k.wrap n)) | _ => none : Option AV).map fun v => (v, σ.H) := rfl
theorem st_assertT {k : TypeId} {z : AV} : stepL (.assertT k z x) σ = (match ev σ.t x with | .iface t' a => if t' = k then some (.tup [a, .bool true]) else some (.tup [z, .bool false]) | _ => none : Option AV).map fun v => (v, σ.H) := rfl
theorem st_mkIface {k : TypeId} : stepL (.mkIface k x) σ = some (.iface k (ev σ.t x), σ.H) := rfl
theorem st_mkFn {f : Fn} {as bs : List Opd} : stepL (.mkFn f as bs) σ = some (.fn f (as.map (ev σ.t)) (bs.map (ev σ.t)), σ.H) := rfl
theorem st_sliceS {b c : Option Opd} : stepL (.sliceS x b c) σ = (match ev σ.t x with
    | .str s => (bdA s.size s.size (c.map (ev σ.t))).bind fun h => (bdA h 0 (b.map (ev σ.t))).map fun l => .str (s.extract l h)
    | _ => none : Option AV).map fun v => (v, σ.H) := rfl
theorem st_slice {b c : Option Opd} : stepL (.slice n x b c none) σ = (match ev σ.t x with
    | .list xs => (bdA xs.length xs.length (c.map (ev σ.t))).bind fun h => (bdA h 0 (b.map (ev σ.t))).bind fun l => if xs = [] ∨ (xs.headD []).length = n then some (.list ((xs.drop l).take (h - l))) else none
    | .sl sz' k m off len => if n = sz' then (bdA len len (c.map (ev σ.t))).bind fun h => (bdA h 0 (b.map (ev σ.t))).map fun l => .sl n k m (off + l) (h - l) else none
    | _ => none : Option AV).map fun v => (v, σ.H) := rfl
theorem st_faddr : stepL (.faddr n x) σ = (match ev σ.t x with
    | .ptr k m i o => some (.ptr k m i (o + n))
    | .lptr row o => some (.lptr row (o + n))
    | _ => none : Option AV).map fun v => (v, σ.H) := rfl
theorem st_field : stepL (.field a n m x) σ = (match ev σ.t x with | .agg cs => partA a n m cs | _ => none : Option AV).map fun v => (v, σ.H) := rfl
theorem st_iaddrS : stepL (.iaddrS n x y) σ = (match ev σ.t x with
    | .list xs => (ixA xs.length (ev σ.t y)).bind fun j => if (xs.getD j []).length = n then some (.lptr (xs.getD j []) 0) else none
    | .sl sz' k m off len => if n = sz' then (ixA len (ev σ.t y)).map fun j => .ptr k m (off + j) 0 else none
    | _ => none : Option AV).map fun v => (v, σ.H) := rfl
theorem st_iaddrA : stepL (.iaddrA m n x y) σ = (match ev σ.t x with
    | .ptr k w j o => (ixA m (ev σ.t y)).map fun i => .ptr k w j (o + i * n)
    | .lptr row o => (ixA m (ev σ.t y)).map fun i => .lptr row (o + i * n)
    | _ => none : Option AV).map fun v => (v, σ.H) := rfl
theorem st_idxA : stepL (.idxA m a n x y) σ = (match ev σ.t x with
    | .agg cs => (ixA m (ev σ.t y)).bind fun i => partA a n (i * n) cs
    | _ => none : Option AV).map fun v => (v, σ.H) := rfl
theorem st_idxS : stepL (.idxS x y) σ = (match ev σ.t x with
    | .str s => (ixA s.size (ev σ.t y)).map fun j => .int .u8 ((s.get! j).toNat : Int)
    | _ => none : Option AV).map fun v => (v, σ.H) := rfl
theorem st_extract : stepL (.extract x n) σ = (match ev σ.t x with | .tup vs => vs[n]? | _ => none : Option AV).map fun v => (v, σ.H) := rfl
theorem st_lenL : stepL (.len .slice x) σ = (match ev σ.t x with
    | .list xs => some (.int .i64 (xs.length : Int))
    | .sl _ _ _ _ len => some (.int .i64 (len : Int))
    | .imm (.slice none 0 0) => some (.int .i64 0)
    | _ => none : Option AV).map fun v => (v, σ.H) := rfl
theorem st_lenS : stepL (.len .str x) σ = (match ev σ.t x with | .str s => some (.int .i64 (s.size : Int)) | _ => none : Option AV).map fun v => (v, σ.H) := rfl
theorem st_lenM : stepL (.len .map x) σ = match ev σ.t x with
    | .map m => match σ.H[m]? with
      | some (.map es) => some (.int .i64 (es.length : Int), σ.H)
      | _ => none
    | _ => none := rfl
theorem st_min {l : List Opd} : stepL (.min l) σ = (foldI min2 (l.map (ev σ.t))).map fun v => (v, σ.H) := rfl
theorem st_max {l : List Opd} : stepL (.max l) σ = (foldI max2 (l.map (ev σ.t))).map fun v => (v, σ.H) := rfl
theorem st_build {w : List AV} {ps : List (Nat × Nat × Opd)} : stepL (.build w ps) σ = ((fillA (ev σ.t) w ps).map AV.agg).map fun v => (v, σ.H) := rfl
theorem st_load : stepL (.load a n x) σ = (rowOf σ.H (ev σ.t x)).bind fun p => (partA a n p.2 p.1).map fun v => (v, σ.H) := rfl
theorem st_box : stepL (.box x) σ = (cellsOf (ev σ.t x)).bind fun cs => if 0 < cs.length then some (.ptr σ.H.length 1 0 0, σ.H ++ [.vec cs.length [cs]]) else none := rfl
theorem st_store : stepL (.store n x y) σ = match ev σ.t x with
    | .ptr k m i off => match σ.H[k]? with
      | some (.vec z xs) => if m = xs.length then (xs[i]?).bind fun row => (cellsOf (ev σ.t y)).bind fun cs =>
          if cs.length = n ∧ off + n ≤ z ∧ allCells cs = true then some (.dead, σ.H.set k (.vec z (xs.set i (putRow row off cs)))) else none
        else none
      | _ => none
    | _ => none := rfl
theorem st_bslice {z : List AV} {ps : List (Nat × Opd)} : stepL (.bslice n z m ps) σ = (fillRows (ev σ.t) n (List.replicate m z) ps).map fun xs => (.sl n σ.H.length m 0 m, σ.H ++ [.vec n xs]) := rfl
theorem st_mkSlice {w : List AV} : stepL (.mkSlice n m w x y) σ = match ev σ.t x, ev σ.t y with
    | .int _ l, .int _ c => if 0 ≤ l ∧ l ≤ c ∧ (m : Int) * c ≤ 140737488355328 ∧ c ≤ 9223372036854775807 then some (.sl n σ.H.length l.toNat 0 l.toNat, σ.H ++ [.vec n (List.replicate l.toNat w)]) else none
    | _, _ => none := rfl
def appE (n m : Nat) (s : AV) (H : List AObj) (y : AV) : Option (AV × List AObj) := match y with
    | .imm (.slice none 0 0) => appendL H n m s []
    | v => (elems H v).bind fun ys => if rowsOk n ys = true then appendL H n m s ys else none
theorem st_appE : stepL (.append n m x y) σ = appE n m (ev σ.t x) σ.H (ev σ.t y) := rfl
theorem appE_sl {s : AV} {H : List AObj} {z k w o l : Nat} : appE n m s H (.sl z k w o l) = (elems H (.sl z k w o l)).bind fun ys => if rowsOk n ys = true then appendL H n m s ys else none := rfl
theorem appE_list {s : AV} {H : List AObj} {xs : List (List AV)} : appE n m s H (.list xs) = if rowsOk n xs = true then appendL H n m s xs else none := rfl
theorem appE_nil {s : AV} {H : List AObj} : appE n m s H (.imm (.slice none 0 0)) = appendL H n m s [] := rfl
def strE (H : List AObj) (x : AV) : Option (AV × List AObj) := match x with
    | .imm (.slice none 0 0) => some (.str .empty, H)
    | x => (elems H x).bind fun xs => (bytesOf xs).map fun l => (.str ⟨l.toArray⟩, H)
theorem st_strE : stepL (.toStr x) σ = strE σ.H (ev σ.t x) := rfl
theorem strE_nil {H : List AObj} : strE H (.imm (.slice none 0 0)) = some (.str .empty, H) := rfl
theorem strE_sl {H : List AObj} {z k w o l : Nat} : strE H (.sl z k w o l) = (elems H (.sl z k w o l)).bind fun xs => (bytesOf xs).map fun l => (.str ⟨l.toArray⟩, H) := rfl
theorem strE_list {H : List AObj} {xs : List (List AV)} : strE H (.list xs) = (bytesOf xs).map fun l => (.str ⟨l.toArray⟩, H) := rfl
theorem st_appendS : stepL (.appendS x y) σ = match ev σ.t y with
    | .str b => appendL σ.H 1 1 (ev σ.t x) (byteRows b)
    | _ => none := rfl
theorem st_copy : stepL (.copy n x y) σ = match ev σ.t x, elems σ.H (ev σ.t y) with
    | .sl sz' k m off len, some ys => match σ.H[k]? with
      | some (.vec z xs) => if m = xs.length ∧ n = sz' ∧ z = n ∧ off + len ≤ m ∧ rowsOk n ys = true then
          some (.int .i64 ((min ys.length len : Nat) : Int), σ.H.set k (.vec n (xs.take off ++ ys.take (min ys.length len) ++ xs.drop (off + min ys.length len)))) else none
      | _ => none
    | _, _ => none := rfl
theorem st_mkMap : stepL .mkMap σ = some (.map σ.H.length, σ.H ++ [.map []]) := rfl
theorem st_lookup {w : AV} : stepL (.lookup w x y a) σ = match ev σ.t x with
    | .map m => match σ.H[m]? with
      | some (.map es) => if isInt (ev σ.t y) = true then (findKeyA (ev σ.t y) es 0).map fun r => match r with
          | some (_, v) => (if a then .tup [v, .bool true] else v, σ.H)
          | none => (if a then .tup [w, .bool false] else w, σ.H)
        else none
      | _ => none
    | _ => none := rfl
theorem st_mapSet : stepL (.mapSet z x y) σ = match ev σ.t z with
    | .map m => match σ.H[m]? with
      | some (.map es) => if isInt (ev σ.t x) = true then (findKeyA (ev σ.t x) es 0).map fun r => match r with
          | some (i, _) => (.dead, σ.H.set m (.map (es.set i (ev σ.t x, ev σ.t y))))
          | none => (.dead, σ.H.set m (.map (es ++ [(ev σ.t x, ev σ.t y)])))
        else none
      | _ => none
    | _ => none := rfl
theorem st_range : stepL (.range x) σ = match ev σ.t x with
    | .str s => some (.iter σ.H.length, σ.H ++ [.iter s 0])
    | _ => none := rfl
theorem st_next : stepL (.next x) σ = match ev σ.t x with
    | .iter k => match σ.H[k]? with
      | some (.iter s p) => if p < s.size then some (.tup [.bool true, .int .i64 (p : Int), .int .i32 ((Utf8.decode s p).1 : Int)], σ.H.set k (.iter s (p + (Utf8.decode s p).2))) else some (.tup [.bool false], σ.H)
      | _ => none
    | _ => none := rfl
theorem ro_lptr {H : List AObj} {row : List AV} : rowOf H (.lptr row n) = some (row, n) := rfl
theorem ro_ptr {H : List AObj} {k o : Nat} : rowOf H (.ptr k n i o) = match H[k]? with
    | some (.vec _ xs) => if n = xs.length then (xs[i]?).map fun r => (r, o) else none
    | _ => none := rfl
theorem pa_one {o : Nat} {row : List AV} : partA false n o row = row[o]? := rfl
theorem pa_agg {o : Nat} {row : List AV} : partA true n o row = if o + n ≤ row.length then some (.agg ((row.drop o).take n)) else none := rfl
theorem co_agg {cs : List AV} : cellsOf (.agg cs) = some cs := rfl
theorem co_int {k : IntKind} {v : Int} : cellsOf (.int k v) = some [.int k v] := rfl
theorem co_bool {b : Bool} : cellsOf (.bool b) = some [.bool b] := rfl
theorem co_str {s : ByteArray} : cellsOf (.str s) = some [.str s] := rfl
theorem co_list {xs : List (List AV)} : cellsOf (.list xs) = some [.list xs] := rfl
theorem co_sl {a b c d e : Nat} : cellsOf (.sl a b c d e) = some [.sl a b c d e] := rfl
theorem co_ptr {a b c d : Nat} : cellsOf (.ptr a b c d) = some [.ptr a b c d] := rfl
theorem co_map {a : Nat} : cellsOf (.map a) = some [.map a] := rfl
theorem co_fn {f : Fn} {as bs : List AV} : cellsOf (.fn f as bs) = some [.fn f as bs] := rfl
theorem co_iface {t : TypeId} {v : AV} : cellsOf (.iface t v) = some [.iface t v] := rfl
theorem co_nil : cellsOf (.imm (.slice none 0 0)) = some [.imm (.slice none 0 0)] := rfl
theorem ac_nil : allCells [] = true := rfl
theorem ac_cons {v : AV} {l : List AV} : allCells (v :: l) = (v.cell && allCells l) := rfl
theorem ce_int {k : IntKind} {v : Int} : (AV.int k v).cell = true := rfl
theorem ce_bool {b : Bool} : (AV.bool b).cell = true := rfl
theorem ce_str {s : ByteArray} : (AV.str s).cell = true := rfl
theorem ce_list {xs : List (List AV)} : (AV.list xs).cell = true := rfl
theorem ce_sl {a b c d e : Nat} : (AV.sl a b c d e).cell = true := rfl
theorem ce_ptr {a b c d : Nat} : (AV.ptr a b c d).cell = true := rfl
theorem ce_map {a : Nat} : (AV.map a).cell = true := rfl
theorem ce_fn {f : Fn} {as bs : List AV} : (AV.fn f as bs).cell = true := rfl
theorem ce_iface {t : TypeId} {v : AV} : (AV.iface t v).cell = true := rfl
theorem ce_nil : (AV.imm (.slice none 0 0)).cell = true := rfl
theorem pr_def {row cs : List AV} {o : Nat} : putRow row o cs = row.take o ++ cs ++ row.drop (o + cs.length) := rfl
theorem fr_nil {e : Opd → AV} {xs : List (List AV)} : fillRows e n xs [] = some xs := rfl
theorem fr_cons {e : Opd → AV} {xs : List (List AV)} {r : List (Nat × Opd)} : fillRows e n xs ((i, x) :: r) = (cellsOf (e x)).bind fun cs => if cs.length = n ∧ i < xs.length then fillRows e n (xs.set i cs) r else none := rfl
theorem ap_nil {H : List AObj} {ys : List (List AV)} : appendL H n m (.imm (.slice none 0 0)) ys = if ys.length * m ≤ 140737488355328 ∧ ys.length ≤ maxLen then some (.sl n H.length ys.length 0 ys.length, H ++ [.vec n ys]) else none := rfl
theorem ap_sl {H : List AObj} {ys : List (List AV)} {z k w o l : Nat} : appendL H n m (.sl z k w o l) ys = match H[k]? with
    | some (.vec z' xs) => if w = xs.length ∧ n = z ∧ z' = n ∧ o = 0 ∧ l = w ∧ (w + ys.length) * m ≤ 140737488355328 ∧ w + ys.length ≤ maxLen then
        some (.sl n k (w + ys.length) 0 (w + ys.length), H.set k (.vec n (xs ++ ys))) else none
    | _ => none := rfl
theorem el_list {H : List AObj} {xs : List (List AV)} : elems H (.list xs) = some xs := rfl
theorem el_sl {H : List AObj} {z k w o l : Nat} : elems H (.sl z k w o l) = match H[k]? with
    | some (.vec sz' xs) => if w = xs.length ∧ z = sz' then some ((xs.drop o).take l) else none
    | _ => none := rfl
theorem rk_nil : rowsOk n [] = true := rfl
theorem rk_cons {r : List AV} {l : List (List AV)} : rowsOk n (r :: l) = (decide (r.length = n) && allCells r && rowsOk n l) := by simp [rowsOk, BEq.beq]
theorem rk_map {α : Type} {f : α → List AV} {l : List α} (h : ∀ x ∈ l, (f x).length = n ∧ allCells (f x) = true) : rowsOk n (l.map f) = true := by
  simp only [rowsOk, List.all_eq_true, List.mem_map, Bool.and_eq_true, beq_iff_eq]
  rintro r ⟨x, hx, rfl⟩
  exact h x hx
theorem fk_nil {q : AV} {j : Nat} : findKeyA q [] j = some none := rfl
theorem fk_cons {k : IntKind} {q p : Int} {v : AV} {r : List (AV × AV)} {j : Nat} : findKeyA (.int k q) ((.int k p, v) :: r) j = if q = p then some (some (j, v)) else findKeyA (.int k q) r (j + 1) := by
  simp only [findKeyA, keyIs, if_true]
  by_cases h : q = p
  · simp [h]
  · simp [h, beq_eq_false_iff_ne.2 h]
theorem ii_int {k : IntKind} {v : Int} : isInt (.int k v) = true := rfl
theorem tk_map {α β : Type} {f : α → β} {l : List α} : (l.map f).take l.length = l.map f := by rw [List.take_of_length_le]; simp
theorem tk_snoc {α : Type} {l : List α} {a : α} : (l ++ [a]).take (l.length + 1) = l ++ [a] := by rw [List.take_of_length_le]; simp
theorem tk_msnoc {α β : Type} {f : α → β} {l : List α} {a : β} : (l.map f ++ [a]).take (l.length + 1) = l.map f ++ [a] := by rw [List.take_of_length_le]; simp
theorem tk_len {α : Type} {l : List α} : l.take l.length = l := by rw [List.take_of_length_le]; simp
def partE (v : AV) (n : Nat) : Option (List AV) := match v with
  | .agg cs => if cs.length = n then some cs else none
  | a => if n = 1 ∧ a.cell = true then some [a] else none
theorem fa_cons {e : Opd → AV} {w : List AV} {o : Nat} {r : List (Nat × Nat × Opd)} : fillA e w ((o, n, x) :: r) = (partE (e x) n).bind fun cs => if o + n ≤ w.length then fillA e (w.take o ++ cs ++ w.drop (o + n)) r else none := by
  rw [fillA]
  unfold partE
  cases h : e x with
  | agg cs =>
    simp only
    by_cases h1 : cs.length = n
    · simp [h1]
    · simp [h1]
  | _ =>
    simp only
    by_cases h1 : n = 1
    · subst h1
      by_cases h2 : o + 1 ≤ w.length <;> simp [h2, AV.cell] <;> split <;> simp
    · simp [h1]
theorem pe_agg {cs : List AV} : partE (.agg cs) n = if cs.length = n then some cs else none := rfl
theorem pe_int {k : IntKind} {v : Int} : partE (.int k v) n = if n = 1 then some [.int k v] else none := by simp [partE, AV.cell]
theorem pe_bool {b : Bool} : partE (.bool b) n = if n = 1 then some [.bool b] else none := by simp [partE, AV.cell]
theorem pe_str {s : ByteArray} : partE (.str s) n = if n = 1 then some [.str s] else none := by simp [partE, AV.cell]
theorem pe_list {xs : List (List AV)} : partE (.list xs) n = if n = 1 then some [.list xs] else none := by simp [partE, AV.cell]
theorem pe_sl {a b c d f : Nat} : partE (.sl a b c d f) n = if n = 1 then some [.sl a b c d f] else none := by simp [partE, AV.cell]
theorem pe_nil : partE (.imm (.slice none 0 0)) n = if n = 1 then some [.imm (.slice none 0 0)] else none := by simp [partE, AV.cell, Value.oneCell']
theorem pe_iface {t : TypeId} {v : AV} : partE (.iface t v) n = if n = 1 then some [.iface t v] else none := by simp [partE, AV.cell]
theorem fa_nil {e : Opd → AV} {w : List AV} : fillA e w [] = some w := by simp [fillA]
end
set_option linter.defProp false in
def ev1 := And.intro @wo_assertT (And.intro @wpL_nil (And.intro @wpL_cons (And.intro @wg_none (And.intro @wpG_hit (And.intro @wpG_miss (And.intro @wpG_skip (And.intro @wo_call (And.intro @wo_mv (And.intro @wo_pick (And.intro @wo_alloc (And.intro @wo_box (And.intro @wo_build (And.intro @wo_bslice (And.intro @wo_load (And.intro @wo_store (And.intro @wo_nilc (And.intro @wo_bin (And.intro @wo_not (And.intro @wo_neg (And.intro @wo_toInt (And.intro @wo_toStr (And.intro @wo_mkIface (And.intro @wo_mkFn (And.intro @wo_mkMap (And.intro @wo_mkSlice (And.intro @wo_sliceS (And.intro @wo_slice (And.intro @wo_faddr (And.intro @wo_field (And.intro @wo_iaddrS (And.intro @wo_iaddrA (And.intro @wo_idxA (And.intro @wo_idxS (And.intro @wo_lookup (And.intro @wo_mapSet (And.intro @wo_range (And.intro @wo_next (And.intro @wo_extract (And.intro @wo_len (And.intro @wo_min (And.intro @wo_max (And.intro @wo_append (And.intro @wo_appendS (And.intro @wo_copy (And.intro @ev_tmp (And.intro @ev_cst (And.intro @Tm.put_some (And.intro @Tm.put_none (And.intro @mkT_nil (And.intro @mkT_cons (And.intro @argsT_zero (And.intro @argsT_succ (And.intro @Later_def (And.intro @thenS_some (And.intro @SeqQ_normal (And.intro @SeqQ_exit (And.intro @SeqQ_ret (And.intro @BlkQ_normal (And.intro @BlkQ_exit (And.intro @BlkQ_ret (And.intro @LoopQ_exit (And.intro @LoopQ_ret (And.intro @JoinQ_exit (And.intro @JoinQ_ret (And.intro @CutQ_normal (And.intro @CutQ_exit (And.intro @CutQ_ret (And.intro @RetQ_normal (And.intro @RetQ_ret (@CallA_fn))))))))))))))))))))))))))))))))))))))))))))))))))))))))))))))))))))))
set_option linter.defProp false in
def ev2 := And.intro @st_assertT (And.intro @om_some (And.intro @st_nilc (And.intro @st_bin (And.intro @st_not (And.intro @st_neg (And.intro @st_toInt (And.intro @st_mkIface (And.intro @st_mkFn (And.intro @st_sliceS (And.intro @st_slice (And.intro @st_faddr (And.intro @st_field (And.intro @st_iaddrS (And.intro @st_iaddrA (And.intro @st_idxA (And.intro @st_idxS (And.intro @st_extract (And.intro @st_lenL (And.intro @st_lenS (And.intro @st_lenM (And.intro @st_min (And.intro @st_max (And.intro @st_build (And.intro @st_load (And.intro @st_box (And.intro @st_store (And.intro @st_bslice (And.intro @st_mkSlice (And.intro @st_appE (And.intro @appE_sl (And.intro @appE_list (And.intro @appE_nil (And.intro @st_strE (And.intro @strE_nil (And.intro @strE_sl (And.intro @strE_list (And.intro @st_appendS (And.intro @st_copy (And.intro @st_mkMap (And.intro @st_lookup (And.intro @st_mapSet (And.intro @st_range (And.intro @st_next (And.intro @bin_add (And.intro @bin_sub (And.intro @bin_mul (And.intro @bin_quo (And.intro @bin_rem (And.intro @bin_and (And.intro @bin_or (And.intro @bin_xor (And.intro @bin_eql (And.intro @bin_neq (And.intro @bin_lss (And.intro @bin_leq (And.intro @bin_gtr (And.intro @bin_geq (And.intro @bin_shl (And.intro @bin_shr (And.intro @bin_sadd (And.intro @bin_seql (And.intro @bin_sneq (And.intro @bin_beql (And.intro @bin_bneq (And.intro @bin_aeql (And.intro @bin_aneq (And.intro @bin_feql (And.intro @bin_fneq (And.intro @bin_neql (And.intro @bin_nneq (And.intro @eqc_nil (And.intro @eqc_cons (And.intro @eqc_i (And.intro @eqc_b (And.intro @eqc_s (And.intro @ro_lptr (And.intro @ro_ptr (And.intro @pa_one (And.intro @pa_agg (And.intro @co_agg (And.intro @co_int (And.intro @co_bool (And.intro @co_str (And.intro @co_list (And.intro @co_sl (And.intro @co_ptr (And.intro @co_map (And.intro @co_fn (And.intro @co_iface (And.intro @co_nil (And.intro @ac_nil (And.intro @ac_cons (And.intro @ce_int (And.intro @ce_bool (And.intro @ce_str (And.intro @ce_list (And.intro @ce_sl (And.intro @ce_ptr (And.intro @ce_map (And.intro @ce_fn (And.intro @ce_iface (And.intro @ce_nil (And.intro @pr_def (And.intro @fr_nil (And.intro @fr_cons (And.intro @ap_nil (And.intro @ap_sl (And.intro @el_list (And.intro @el_sl (And.intro @rk_nil (And.intro @rk_cons (And.intro @rk_map (And.intro @fk_nil (And.intro @fk_cons (And.intro @ii_int (And.intro @fa_nil (And.intro @fa_cons (And.intro @pe_agg (And.intro @pe_int (And.intro @pe_bool (And.intro @pe_str (And.intro @pe_list (And.intro @pe_sl (And.intro @pe_nil (And.intro @pe_iface (And.intro @bdA_no (And.intro @bdA_int (And.intro @ixA_int (@foldI_two)))))))))))))))))))))))))))))))))))))))))))))))))))))))))))))))))))))))))))))))))))))))))))))))))))))))))))))))))))))))))))))))))
set_option linter.defProp false in
def ev3 := And.intro @hp_get (And.intro @hp_get0 (And.intro @hp_set (And.intro @hp_set0 (And.intro @hp_len (And.intro @hp_app (And.intro @hp_take (And.intro @i_nn (And.intro @maxLen_def (And.intro @List.getElem?_map.{0,0} (And.intro @tk_map (And.intro @tk_len (And.intro @tk_snoc (And.intro @tk_msnoc (And.intro @hl_lt (And.intro @hl_lt0 (And.intro @hl_le (And.intro @hl_le0 (And.intro @hl_ler (And.intro @List.map_cons.{0,0} (And.intro @List.map_nil.{0,0} (And.intro @List.length_cons.{0} (And.intro @List.length_nil.{0} (And.intro @List.length_map.{0,0} (And.intro @List.nil_append.{0} (And.intro @List.cons_append.{0} (And.intro @List.getElem?_cons_zero.{0} (And.intro @List.getElem?_cons_succ.{0} (And.intro @List.getElem?_nil.{0} (And.intro @List.set_cons_zero.{0} (And.intro @List.set_cons_succ.{0} (And.intro @List.take_succ_cons.{0} (And.intro @List.take_zero.{0} (And.intro @List.take_nil.{0} (And.intro @List.drop_zero.{0} (And.intro @List.drop_succ_cons.{0} (And.intro @List.drop_nil.{0} (And.intro @List.replicate_succ.{0} (And.intro @List.replicate_zero.{0} (And.intro @Option.map_some.{0,0} (And.intro @Option.map_none.{0,0} (And.intro @Option.bind_some.{0,0} (And.intro @Option.bind_none.{0,0} (And.intro @Bool.not_true (And.intro @Bool.not_false (And.intro @Bool.and_true (And.intro @Bool.true_and (And.intro @Bool.and_false (And.intro @Bool.false_and (And.intro @Bool.or_true (And.intro @Bool.true_or (And.intro @Bool.or_false (And.intro @Bool.false_or (And.intro @Bool.and_self (And.intro @Bool.true_eq_false (And.intro @Bool.false_eq_true (And.intro @Int.toNat_natCast (And.intro @Nat.zero_add (And.intro @Nat.add_zero (And.intro @Nat.add_assoc (And.intro @true_and (And.intro @and_true (And.intro @false_and (And.intro @and_false (And.intro @true_or (And.intro @or_true (And.intro @false_or (And.intro @or_false (And.intro @and_self (And.intro @or_self (And.intro @not_true_eq_false (And.intro @not_false_eq_true (And.intro @ne_eq.{1} (And.intro @true_implies (And.intro @false_implies (And.intro @implies_true.{1} (And.intro @implies_true.{0} (And.intro @decide_true (And.intro @decide_false (And.intro @List.length_append.{0} (And.intro @List.map_append.{0,0} (And.intro @List.length_reverse.{0} (And.intro @List.reverse_cons.{0} (And.intro @Nat.mul_one (And.intro @Nat.one_mul (And.intro @Int.one_mul (And.intro @Int.mul_one (And.intro @Int.zero_mul (And.intro @Int.mul_zero (And.intro @Nat.zero_mul (@Nat.mul_zero))))))))))))))))))))))))))))))))))))))))))))))))))))))))))))))))))))))))))))))))))))))))))
set_option linter.defProp false in
def wk := And.intro @vw_dead (And.intro @vw_int (And.intro @vw_bool (And.intro @vw_str (And.intro @vw_imm (And.intro @vw_list (And.intro @vw_nil (And.intro @vw_lptr (And.intro @vw_ptr (And.intro @vw_iter (And.intro @vw_map (And.intro @vw_sl (And.intro @vw_fn (And.intro @vw_iface (And.intro @vw_slist (And.intro @vw_agg (And.intro @vw_tup (And.intro @vws_nil (And.intro @vws_cons (And.intro @vws_same (And.intro @cl_ptr (And.intro @cl_nil (And.intro @cl_cons (And.intro @cls_nil (And.intro @cls_cons (And.intro @clo_vec (And.intro @clo_iter (And.intro @clo_gone (And.intro @clo_map (And.intro @rc_def (And.intro @re_nil (And.intro @re_tmp (And.intro @re_cell (And.intro @rv_one (And.intro @rv_two (And.intro @cl_int (And.intro @cl_bool (And.intro @cl_str (And.intro @cl_imm (And.intro @cl_list (And.intro @cl_lptr (And.intro @cl_dead (And.intro @cl_sl (And.intro @cl_iter (And.intro @cl_map (And.intro @cl_agg (And.intro @cl_tup (And.intro @cl_iface (@cl_fn))))))))))))))))))))))))))))))))))))))))))))))))
set_option linter.unusedSectionVars false
mutual
def AV.plain : AV → Bool
  | .int .. | .bool _ | .str _ | .imm _ => true
  | .agg cs => plainAll cs
  | .tup cs => plainAll cs
  | _ => false
def plainAll : List AV → Bool
  | [] => true
  | a :: r => a.plain && plainAll r
end
mutual
def AV.toV : AV → Value
  | .int k n => .int k n
  | .bool b => .bool b
  | .str s => .string s
  | .imm v => v
  | .agg cs => .agg (toVs cs).toArray
  | .tup cs => .tuple (toVs cs).toArray
  | _ => undef
def toVs : List AV → List Value
  | [] => []
  | a :: r => a.toV :: toVs r
end
theorem toVs_length : ∀ (l : List AV), (toVs l).length = l.length
  | [] => rfl
  | a :: r => by simp [toVs, toVs_length r]
mutual
theorem RepV.toV_eq {c : Cx} : ∀ {a : AV} {v : Value}, RepV c a v → a.plain = true → v = a.toV
  | .int .., _, h, _ => h.int_inv
  | .bool _, _, h, _ => h.bool_inv
  | .str _, _, h, _ => h.str_inv
  | .imm _, _, h, _ => h.imm_inv
  | .agg cs, _, h, hp => by
    obtain ⟨vs, rfl, h1, h2⟩ := h.agg_inv
    have := toVs_eq (c := c) (vs := vs.toList) (by simpa using h1) (fun i a ha => by have := h2 i a ha; simpa using this) (by simpa [AV.plain] using hp)
    simp [AV.toV, ← this]
  | .tup cs, _, h, hp => by
    obtain ⟨vs, rfl, h1, h2⟩ := h.tup_inv
    have := toVs_eq (c := c) (vs := vs.toList) (by simpa using h1) (fun i a ha => by have := h2 i a ha; simpa using this) (by simpa [AV.plain] using hp)
    simp [AV.toV, ← this]
  | .list _, _, _, hp => by simp [AV.plain] at hp
  | .sl .., _, _, hp => by simp [AV.plain] at hp
  | .ptr .., _, _, hp => by simp [AV.plain] at hp
  | .lptr .., _, _, hp => by simp [AV.plain] at hp
  | .iter _, _, _, hp => by simp [AV.plain] at hp
  | .map _, _, _, hp => by simp [AV.plain] at hp
  | .fn .., _, _, hp => by simp [AV.plain] at hp
  | .iface .., _, _, hp => by simp [AV.plain] at hp
  | .dead, _, _, hp => by simp [AV.plain] at hp
theorem toVs_eq {c : Cx} : ∀ {cs : List AV} {vs : List Value}, vs.length = cs.length → (∀ (i : Nat) (a : AV), cs[i]? = some a → RepV c a (vs.getD i undef)) → plainAll cs = true → vs = toVs cs
  | [], vs, h, _, _ => by simp at h; simp [h, toVs]
  | a :: r, [], h, _, _ => by simp at h
  | a :: r, v :: vs, h, hr, hp => by
    simp only [plainAll, Bool.and_eq_true] at hp
    have h1 : v = a.toV := RepV.toV_eq (c := c) (hr 0 a rfl) hp.1
    have h2 := toVs_eq (c := c) (cs := r) (vs := vs) (by simpa using h) (fun i a ha => by have := hr (i + 1) a (by simpa using ha); simpa using this) hp.2
    rw [h1, h2]
    rfl
end
mutual
theorem RepV.of_plain (c : Cx) : ∀ (a : AV), a.plain = true → RepV c a a.toV
  | .int .., _ => .int _ _
  | .bool _, _ => .bool _
  | .str _, _ => .str _
  | .imm _, _ => .imm _
  | .agg cs, h => .agg _ _ (by simp [toVs_length]) (fun i a ha => by have := toVs_rep c cs (by simpa [AV.plain] using h) i a ha; simpa using this)
  | .tup cs, h => .tup _ _ (by simp [toVs_length]) (fun i a ha => by have := toVs_rep c cs (by simpa [AV.plain] using h) i a ha; simpa using this)
  | .list _, hp => by simp [AV.plain] at hp
  | .sl .., hp => by simp [AV.plain] at hp
  | .ptr .., hp => by simp [AV.plain] at hp
  | .lptr .., hp => by simp [AV.plain] at hp
  | .iter _, hp => by simp [AV.plain] at hp
  | .map _, hp => by simp [AV.plain] at hp
  | .fn .., hp => by simp [AV.plain] at hp
  | .iface .., hp => by simp [AV.plain] at hp
  | .dead, hp => by simp [AV.plain] at hp
theorem toVs_rep (c : Cx) : ∀ (cs : List AV), plainAll cs = true → ∀ (i : Nat) (a : AV), cs[i]? = some a → RepV c a ((toVs cs).getD i undef)
  | [], _, i, a, ha => by simp at ha
  | b :: r, h, i, a, ha => by
    simp only [plainAll, Bool.and_eq_true] at h
    cases i with
    | zero => simp at ha; subst ha; simpa [toVs] using RepV.of_plain c b h.1
    | succ i => have := toVs_rep c r h.2 i a (by simpa using ha); simpa [toVs] using this
end
def CallP (P : Program) (fv : AV) (args : List AV) (L : AV → Prop) : Prop := ∃ f r, fv = .fn (.func f) [] [] ∧ Pure P f args r ∧ r.plain = true ∧ L r
def LaterP (K : AS → Prop) (t : Tm) (d : Option Nat) (H : List AObj) : AV → Prop := fun v => K ⟨t.put d v, H⟩
def thenQ (b : Bool) (x : Option (AV × List AObj)) (L : AV → List AObj → Prop) : Prop := match x with | some (v, H') => (b = true → v.plain = true) ∧ L v H' | none => False
def wqO (P : Program) (o : LOper) (K : AS → Prop) (σ : AS) : Prop :=
  match o.op with
  | .call f args => CallP P (ev σ.t f) (args.map (ev σ.t)) (LaterP K σ.t o.dst σ.H)
  | op => thenQ op.loud (stepL op σ) (Later K σ.t o.dst)
def wqG (P : Program) (o : LOper) (K : AS → Prop) (σ : AS) : Prop :=
  match o.guard with
  | none => wqO P o K σ
  | some (g, b) => match σ.t g with
    | .bool x => (x = b → wqO P o K σ) ∧ (x ≠ b → K ⟨σ.t.put o.dst (.imm undef), σ.H⟩)
    | .imm u => u = undef ∧ K ⟨σ.t.put o.dst (.imm undef), σ.H⟩
    | _ => False
def wqL (P : Program) : List LOper → (AS → Prop) → AS → Prop
  | [], K, σ => K σ
  | o :: r, K, σ => wqG P o (wqL P r K) σ
section
variable {P : Program} {N : Nat}
def Same (c : Cx) (w : World) : Prop := ∃ ι, RepH ⟨ι, c.H, w⟩ ∧ Fr c ⟨ι, c.H, w⟩
theorem wqO_quiet {ops : Array Oper} {o : Oper} (hr : ((lowOp P o).reads || (lowOp P o).isCall) = true) (hd : ∀ n, o.dst = some n → n < N) {K : AS → Prop} {t : Tm} {c : Cx} {a : Act} (hH : RepH c) (ht : RepT c N t a)
    (h : wqO P ⟨o.dst, lowOp P o, none⟩ K ⟨t, c.H⟩) {next : Act → Prop} (hn : ∀ t' a', RepT c N t' a' → K ⟨t', c.H⟩ → next a') : o.quiet P a (Same c) next := by
  have hρ : ∀ x, RepV c (ev t (lowX x)) (a.eval x) := ht.eval hH.glob
  have key : ∀ v H', stepL (lowOp P o) ⟨t, c.H⟩ = some (v, H') → (lowOp P o).reads = true → ((lowOp P o).loud = true → v.plain = true) → K ⟨t.put o.dst v, H'⟩ → o.quiet P a (Same c) next := fun v H' hst hrd hp hK => by
    cases hl : (lowOp P o).loud with
    | false =>
      obtain ⟨rfl, u, hu, hg⟩ := does_pure hρ hH hl hst
      refine ⟨u, fun w hw => ?_, hn _ _ (ht.put hd hu) hK⟩
      unfold Oper.quietAt
      rw [hg w]
      exact ⟨rfl, rfl⟩
    | true =>
      have hpl := hp hl
      obtain ⟨rfl, u, hu, _⟩ := reads_sound (c := c) (ρ := a.eval) (t := t) hH hρ hrd hst
      refine ⟨v.toV, fun w ⟨ι', h1, h2⟩ => ?_, hn _ _ (ht.put hd (RepV.of_plain c v hpl)) hK⟩
      obtain ⟨_, u', hu', hrun⟩ := reads_sound (c := ⟨ι', c.H, w⟩) (ρ := a.eval) (t := t) h1 (fun x => (hρ x).mono h2) hrd hst
      unfold Oper.quietAt
      rw [hrun]
      exact ⟨rfl, hu'.toV_eq hpl⟩
  unfold wqO at h
  simp only at h
  split at h
  · rename_i f args hop
    cases hoo : o.op with
    | call cl =>
      cases hc : cl.callee with
      | value fo =>
        simp only [lowOp, hoo, hc, LOp.call.injEq] at hop
        obtain ⟨rfl, rfl⟩ := hop
        obtain ⟨f', r, hfe, hpure, hpl, hL⟩ := h
        have hfv := hρ fo
        rw [hfe] at hfv
        obtain ⟨us, vs, hv, h1, h2⟩ := hfv.fn_inv
        have hus : us = #[] := by have := h1.1; simpa using this
        have hvs : vs = #[] := by have := h2.1; simpa using this
        subst hus hvs
        refine ⟨r.toV, fun w ⟨ι', g1, g2⟩ => ?_, hn _ _ (ht.put hd (RepV.of_plain c r hpl)) hL⟩
        obtain ⟨⟨fn, hfn, hbody, hname⟩, hcall⟩ := hpure c.H
        have hargs : RepVs ⟨ι', c.H, w⟩ ((cl.args.toList.map lowX).map (ev t)) (cl.args.map a.eval) := (RepVs_map hρ cl.args).mono g2
        have hne : fn.body.isNone = false := by
          cases hb : fn.body with
          | none => simp [hb] at hbody
          | some b => rfl
        have hrun : (execOp a.eval o).run P w = .ok (.enter f' (cl.args.map a.eval)) w := by
          simp only [execOp, hoo, resolve, hc, hv, Deferred.ofValue, Sem.run_bind, Sem.run_pure, Result.andThen_ok, invoke, callFunc, run_program, hfn, hname, hne, Bool.false_eq_true, if_false]
          simp
        unfold Oper.quietAt
        rw [hrun]
        refine ⟨rfl, (hcall ι' w _ g1 hargs).mono fun e w' ⟨r', v, ι2, H', e1, ⟨e2, e3⟩, e4, e5, e6⟩ => ?_⟩
        subst e2 e3
        exact ⟨by rw [e1, e5.toV_eq hpl], ι2, e4, g2.trans e6⟩
      | invoke r m => simp [lowOp, hoo, hc] at hop
      | builtin b => cases b <;> simp only [lowOp, hoo, hc] at hop <;> (repeat' split at hop) <;> simp at hop
    | unOp op ty x => cases op <;> simp [lowOp, hoo] at hop
    | makeMap ty r => cases r <;> simp [lowOp, hoo] at hop
    | next it b => cases b <;> simp [lowOp, hoo] at hop
    | typeAssert x xt ty ok => cases ok <;> simp only [lowOp, hoo] at hop <;> (repeat' split at hop) <;> simp at hop
    | _ => simp only [lowOp, hoo] at hop <;> (repeat' split at hop) <;> simp at hop
  · rename_i hop
    have hrd : (lowOp P o).reads = true := by
      rcases Bool.or_eq_true _ _ ▸ hr with h' | h'
      · exact h'
      · cases hlo : lowOp P o <;> rw [hlo] at h' <;> simp [LOp.isCall] at h'
        exact absurd hlo (hop _ _)
    unfold thenQ at h
    split at h
    · rename_i v H' hst
      exact key v H' hst hrd h.1 h.2
    · exact h.elim
theorem wqL_quiet {ops : Array Oper} {K : AS → Prop} {c : Cx} (hH : RepH c) : ∀ (l : List Oper) (t : Tm) (a : Act), (∀ o ∈ l, ((lowOperN P N ops o).op.reads || (lowOperN P N ops o).op.isCall) = true) → wqL P (l.map (lowOperN P N ops)) K ⟨t, c.H⟩ → RepT c N t a →
    wpQuiet P ops (Same c) (fun a' => ∃ t', RepT c N t' a' ∧ K ⟨t', c.H⟩) l a
  | [], t, a, _, h, hs => ⟨t, hs, h⟩
  | o :: l, t, a, hr, h, hs => by
    simp only [List.map_cons, wqL] at h
    have hro := hr o (by simp)
    obtain ⟨hd, e1, e2, hg⟩ := low_spec (P := P) (N := N) (ops := ops) (o := o) (fun e => by rw [e] at hro; simp [LOp.reads, LOp.isCall] at hro)
    have run : wqO P ⟨o.dst, lowOp P o, none⟩ (wqL P (l.map (lowOperN P N ops)) K) ⟨t, c.H⟩ → o.quiet P a (Same c) (wpQuiet P ops (Same c) (fun a' => ∃ t', RepT c N t' a' ∧ K ⟨t', c.H⟩) l) := fun ho => by
      rw [e2] at hro
      exact wqO_quiet (ops := ops) hro hd hH hs ho fun t' a' h1 h2 => wqL_quiet hH l t' a' (fun o ho => hr o (by simp [ho])) h2 h1
    have conv : wqO P (lowOperN P N ops o) (wqL P (l.map (lowOperN P N ops)) K) ⟨t, c.H⟩ → wqO P ⟨o.dst, lowOp P o, none⟩ (wqL P (l.map (lowOperN P N ops)) K) ⟨t, c.H⟩ := fun h => by
      unfold wqO at h ⊢
      rw [e1, e2] at h
      exact h
    unfold wpQuiet
    rcases hg with ⟨hg1, hg2⟩ | ⟨j, b, g, hg1, hg2, hg3⟩
    · rw [if_pos (wanted_none hg1)]
      simp only [wqG, hg2] at h
      exact run (conv h)
    · simp only [wqG, hg3] at h
      split at h
      · rename_i x hx
        have hy := yielded_bool hs hg2 hx
        by_cases hxb : x = b
        · rw [if_pos (by simp [Region.wanted, hg1, hy, hxb])]
          exact run (conv (h.1 hxb))
        · rw [if_neg (by simp [Region.wanted, hg1, hy, hxb])]
          have := h.2 hxb
          rw [e1] at this
          exact wqL_quiet hH l _ _ (fun o ho => hr o (by simp [ho])) this (hs.put hd (.imm _))
      · rename_i u hu
        obtain ⟨hu2, hk⟩ := h
        subst hu2
        have hy := yielded_none hs hg2 hu
        rw [if_neg (by simp [Region.wanted, hg1, hy])]
        rw [e1] at hk
        exact wqL_quiet hH l _ _ (fun o ho => hr o (by simp [ho])) hk (hs.put hd (.imm _))
      · exact h.elim
theorem LC_calls {l : List LOper} {p : Plan} {Q : Exit → AS → Prop} {σ : AS} (hr : l.all (fun o => o.op.reads || o.op.isCall) = true) (h : wqL P l (Q .normal) σ) : LC P N (.any true l p) Q σ := by
  intro code hc c0 ι a w hs hf
  obtain ⟨id, ops, rfl, h1, h2, rfl, h3, _⟩ := low_any hc
  have hs' := hs.drew
  obtain ⟨t, H⟩ := σ
  refine wp_region_quiet (C := Same ⟨ι, H, { w with drawn := w.drawn + 1 }⟩) h2 (h3 rfl) ⟨ι, hs'.h, Fr.refl _⟩ ?_
  have hq := wqL_quiet (P := P) (N := N) (ops := ops) (c := ⟨ι, H, { w with drawn := w.drawn + 1 }⟩) hs'.h ops.toList t a (fun o ho => List.all_eq_true.1 hr (lowOperN P N ops o) (List.mem_map.2 ⟨o, ho, rfl⟩)) h hs'.t
  have mono : ∀ (C : World → Prop) (l : List Oper) (a : Act) (K K' : Act → Prop), (∀ a, K a → K' a) → wpQuiet P ops C K l a → wpQuiet P ops C K' l a := by
    intro C l
    induction l with
    | nil => intro a K K' hk h; exact hk a h
    | cons o l ih =>
      intro a K K' hk h
      unfold wpQuiet at h ⊢
      split
      · rename_i hw
        rw [if_pos hw] at h
        exact Oper.quiet_mono (fun a => ih a K K' hk) h
      · rename_i hw
        rw [if_neg hw] at h
        exact ih _ K K' hk h
  refine mono _ _ _ _ _ (fun a' ⟨t', g1, g2⟩ w' ⟨ι', g3, g4⟩ => ?_) hq
  exact ⟨trivial, ⟨t', H⟩, ι', ⟨g3, g1.mono g4⟩, (hf.trans (Fr.drew ⟨ι, H, w⟩)).trans g4, g2⟩
variable {B : Nat} {Q : Exit → AS → Prop} {σ : AS} {K : AS → Prop} {d : Option Nat} {t : Tm} {H : List AObj} {op : LOp} {i : Nat} {b : Bool}
theorem R.calls {l : List LOper} {p : Plan} (hr : l.all (fun o => o.op.reads || o.op.isCall) = true) (h : wqL P l (Q .normal) σ) : LCB P N B (.any true l p) Q σ := .of (LC_calls hr h)
theorem wqL_nil : wqL P [] K σ = K σ := rfl
theorem wqL_cons {o : LOper} {r : List LOper} : wqL P (o :: r) K σ = wqG P o (wqL P r K) σ := rfl
theorem wqG_none : wqG P ⟨d, op, none⟩ K σ = wqO P ⟨d, op, none⟩ K σ := rfl
theorem wqG_hit (h : σ.t i = .bool b) : wqG P ⟨d, op, some (i, b)⟩ K σ = wqO P ⟨d, op, none⟩ K σ := by
  unfold wqG
  simp [h]
  rfl
theorem wqG_miss (h : σ.t i = .bool (!b)) : wqG P ⟨d, op, some (i, b)⟩ K σ = K ⟨σ.t.put d (.imm undef), σ.H⟩ := by
  unfold wqG
  cases b <;> simp [h]
theorem wqG_skip (h : σ.t i = .imm undef) : wqG P ⟨d, op, some (i, b)⟩ K σ = K ⟨σ.t.put d (.imm undef), σ.H⟩ := by
  unfold wqG
  simp [h]
theorem wqG_split {x : Bool} (h : σ.t i = .bool x) (h1 : x = true → wqG P ⟨d, op, some (i, b)⟩ K σ) (h2 : x = false → wqG P ⟨d, op, some (i, b)⟩ K σ) : wqG P ⟨d, op, some (i, b)⟩ K σ := by
  cases x
  · exact h2 rfl
  · exact h1 rfl
theorem wqO_call {f : Opd} {as : List Opd} : wqO P ⟨d, .call f as, none⟩ K σ = CallP P (ev σ.t f) (as.map (ev σ.t)) (LaterP K σ.t d σ.H) := rfl
theorem st_mv {σ : AS} {x : Opd} : stepL (.mv x) σ = some (ev σ.t x, σ.H) := rfl
theorem st_pick {σ : AS} {c a b : Opd} : stepL (.pick c a b) σ = (match ev σ.t c with | .bool x => some (if x then ev σ.t a else ev σ.t b) | _ => none : Option AV).map fun v => (v, σ.H) := rfl
theorem wq_mv {x : Opd} : wqO P ⟨d, .mv x, none⟩ K σ = thenQ false (stepL (.mv x) σ) (Later K σ.t d) := rfl
theorem wq_pick {c a b : Opd} : wqO P ⟨d, .pick c a b, none⟩ K σ = thenQ false (stepL (.pick c a b) σ) (Later K σ.t d) := rfl
theorem wq_load {a : Bool} {n : Nat} {x : Opd} : wqO P ⟨d, .load a n x, none⟩ K σ = thenQ true (stepL (.load a n x) σ) (Later K σ.t d) := rfl
theorem wq_nilc {x : Opd} : wqO P ⟨d, .nilc x, none⟩ K σ = thenQ false (stepL (.nilc x) σ) (Later K σ.t d) := rfl
theorem wq_bin {o : BinOp} {k : EqK} {x y : Opd} : wqO P ⟨d, .bin o k x y, none⟩ K σ = thenQ false (stepL (.bin o k x y) σ) (Later K σ.t d) := rfl
theorem wq_not {x : Opd} : wqO P ⟨d, .not x, none⟩ K σ = thenQ false (stepL (.not x) σ) (Later K σ.t d) := rfl
theorem wq_neg {x : Opd} : wqO P ⟨d, .neg x, none⟩ K σ = thenQ false (stepL (.neg x) σ) (Later K σ.t d) := rfl
theorem wq_toInt {k : IntKind} {x : Opd} : wqO P ⟨d, .toInt k x, none⟩ K σ = thenQ false (stepL (.toInt k x) σ) (Later K σ.t d) := rfl
theorem wq_sliceS {x : Opd} {a b : Option Opd} : wqO P ⟨d, .sliceS x a b, none⟩ K σ = thenQ false (stepL (.sliceS x a b) σ) (Later K σ.t d) := rfl
theorem wq_slice {n : Nat} {x : Opd} {a b c : Option Opd} : wqO P ⟨d, .slice n x a b c, none⟩ K σ = thenQ false (stepL (.slice n x a b c) σ) (Later K σ.t d) := rfl
theorem wq_faddr {n : Nat} {x : Opd} : wqO P ⟨d, .faddr n x, none⟩ K σ = thenQ false (stepL (.faddr n x) σ) (Later K σ.t d) := rfl
theorem wq_field {a : Bool} {n m : Nat} {x : Opd} : wqO P ⟨d, .field a n m x, none⟩ K σ = thenQ false (stepL (.field a n m x) σ) (Later K σ.t d) := rfl
theorem wq_iaddrS {n : Nat} {x y : Opd} : wqO P ⟨d, .iaddrS n x y, none⟩ K σ = thenQ false (stepL (.iaddrS n x y) σ) (Later K σ.t d) := rfl
theorem wq_iaddrA {n m : Nat} {x y : Opd} : wqO P ⟨d, .iaddrA n m x y, none⟩ K σ = thenQ false (stepL (.iaddrA n m x y) σ) (Later K σ.t d) := rfl
theorem wq_idxA {n m : Nat} {a : Bool} {x y : Opd} : wqO P ⟨d, .idxA n a m x y, none⟩ K σ = thenQ false (stepL (.idxA n a m x y) σ) (Later K σ.t d) := rfl
theorem wq_idxS {x y : Opd} : wqO P ⟨d, .idxS x y, none⟩ K σ = thenQ false (stepL (.idxS x y) σ) (Later K σ.t d) := rfl
theorem wq_extract {x : Opd} {n : Nat} : wqO P ⟨d, .extract x n, none⟩ K σ = thenQ false (stepL (.extract x n) σ) (Later K σ.t d) := rfl
theorem wq_lenL {x : Opd} : wqO P ⟨d, .len .slice x, none⟩ K σ = thenQ false (stepL (.len .slice x) σ) (Later K σ.t d) := rfl
theorem wq_lenS {x : Opd} : wqO P ⟨d, .len .str x, none⟩ K σ = thenQ false (stepL (.len .str x) σ) (Later K σ.t d) := rfl
theorem wq_lenM {x : Opd} : wqO P ⟨d, .len .map x, none⟩ K σ = thenQ true (stepL (.len .map x) σ) (Later K σ.t d) := rfl
theorem wq_lookup {z : AV} {x y : Opd} {a : Bool} : wqO P ⟨d, .lookup z x y a, none⟩ K σ = thenQ true (stepL (.lookup z x y a) σ) (Later K σ.t d) := rfl
theorem wq_min {l : List Opd} : wqO P ⟨d, .min l, none⟩ K σ = thenQ false (stepL (.min l) σ) (Later K σ.t d) := rfl
theorem wq_max {l : List Opd} : wqO P ⟨d, .max l, none⟩ K σ = thenQ false (stepL (.max l) σ) (Later K σ.t d) := rfl
theorem wq_build {z : List AV} {ps : List (Nat × Nat × Opd)} : wqO P ⟨d, .build z ps, none⟩ K σ = thenQ false (stepL (.build z ps) σ) (Later K σ.t d) := rfl
theorem wq_assertT {k : TypeId} {z : AV} {x : Opd} : wqO P ⟨d, .assertT k z x, none⟩ K σ = thenQ false (stepL (.assertT k z x) σ) (Later K σ.t d) := rfl
theorem wq_mkIface {k : TypeId} {x : Opd} : wqO P ⟨d, .mkIface k x, none⟩ K σ = thenQ false (stepL (.mkIface k x) σ) (Later K σ.t d) := rfl
theorem thenQ_f {v : AV} {H' : List AObj} {L : AV → List AObj → Prop} : thenQ false (some (v, H')) L = L v H' := by simp [thenQ]
theorem thenQ_t {v : AV} {H' : List AObj} {L : AV → List AObj → Prop} : thenQ true (some (v, H')) L = (v.plain = true ∧ L v H') := by simp [thenQ]
theorem LaterP_def {v : AV} : LaterP K t d H v = K ⟨t.put d v, H⟩ := rfl
theorem CallP.inst {f : FuncId} {args : List AV} {r : AV} {L : AV → Prop} [h : PureC P f args r] (hp : r.plain = true) (hk : L r) : CallP P (.fn (.func f) [] []) args L := ⟨f, r, rfl, h.ok, hp, hk⟩
theorem CallP.pure {f : FuncId} {args : List AV} {r : AV} {L : AV → Prop} (h : Pure P f args r) (hp : r.plain = true) (hk : L r) : CallP P (.fn (.func f) [] []) args L := ⟨f, r, rfl, h, hp, hk⟩
theorem pl_int {k : IntKind} {n : Int} : (AV.int k n).plain = true := rfl
theorem pl_bool {x : Bool} : (AV.bool x).plain = true := rfl
theorem pl_str {s : ByteArray} : (AV.str s).plain = true := rfl
theorem pl_imm {v : Value} : (AV.imm v).plain = true := rfl
theorem pl_agg {l : List AV} : (AV.agg l).plain = plainAll l := rfl
theorem pl_tup {l : List AV} : (AV.tup l).plain = plainAll l := rfl
theorem pl_nil : plainAll [] = true := rfl
theorem pl_cons {a : AV} {l : List AV} : plainAll (a :: l) = (a.plain && plainAll l) := rfl
end
set_option linter.defProp false in
def ev4 := And.intro @wq_assertT (And.intro @wqL_nil (And.intro @wqL_cons (And.intro @wqG_none (And.intro @wqG_hit (And.intro @wqG_miss (And.intro @wqG_skip (And.intro @wqO_call (And.intro @st_mv (And.intro @st_pick (And.intro @wq_mv (And.intro @wq_pick (And.intro @wq_load (And.intro @wq_nilc (And.intro @wq_bin (And.intro @wq_not (And.intro @wq_neg (And.intro @wq_toInt (And.intro @wq_sliceS (And.intro @wq_slice (And.intro @wq_faddr (And.intro @wq_field (And.intro @wq_iaddrS (And.intro @wq_iaddrA (And.intro @wq_idxA (And.intro @wq_idxS (And.intro @wq_extract (And.intro @wq_lenL (And.intro @wq_lenS (And.intro @wq_lenM (And.intro @wq_lookup (And.intro @wq_min (And.intro @wq_max (And.intro @wq_build (And.intro @wq_mkIface (And.intro @thenQ_f (And.intro @thenQ_t (And.intro @LaterP_def (And.intro @pl_int (And.intro @pl_bool (And.intro @pl_str (And.intro @pl_imm (And.intro @pl_agg (And.intro @pl_tup (And.intro @pl_nil (@pl_cons)))))))))))))))))))))))))))))))))))))))))))))
theorem nf1 {p : Prop} [Decidable p] : (decide p = true) = p := decide_eq_true_eq
theorem nf2 {p : Prop} [Decidable p] : (decide p = false) = ¬ p := propext decide_eq_false_iff_not
theorem nf3 {b : Bool} : ((!b) = true) = (b = false) := Bool.not_eq_true' b
theorem nf4 {b : Bool} : ((!b) = false) = (b = true) := Bool.not_eq_false' b
set_option linter.defProp false in
def nf := And.intro @nf1 (And.intro @nf2 (And.intro @nf3 (And.intro @nf4 (And.intro @Bool.not_true (@Bool.not_false)))))
set_option linter.defProp false in
def evo := And.intro @ev1 (And.intro @ev2 (And.intro @ev3 (@ev4)))
set_option linter.defProp false in
def evw := And.intro @ev1 (And.intro @ev2 (And.intro @ev3 (@wk)))
set_option linter.defProp false in
def evp := And.intro @wpT_none (And.intro @wpT_hit (And.intro @wpT_miss (@wpT_skip)))
def bs (l : List UInt8) : ByteArray := ⟨l.toArray⟩
theorem bs_mk {l : List UInt8} : (⟨l.toArray⟩ : ByteArray) = bs l := rfl
theorem bs_of (s : ByteArray) : s = bs s.data.toList := rfl
theorem bs_empty : ByteArray.empty = bs [] := rfl
theorem bs_app {l m : List UInt8} : bs l ++ bs m = bs (l ++ m) := by
  apply ByteArray.ext
  rw [ByteArray.data_append]
  simp [bs]
theorem bs_size {l : List UInt8} : (bs l).size = l.length := by simp [bs, ByteArray.size]
theorem bs_get {l : List UInt8} {i : Nat} : (bs l).get! i = l.getD i 0 := by
  show (l.toArray)[i]! = _
  simp [List.getD, getElem!_def]
  cases l[i]? <;> rfl
theorem bs_ext {l : List UInt8} {a b : Nat} : (bs l).extract a b = bs ((l.take b).drop a) := by
  apply ByteArray.ext
  rw [ByteArray.data_extract]
  simp only [bs]
  apply Array.toList_inj.1
  rw [Array.toList_extract]
  simp [List.extract_eq_take_drop, List.drop_take]
theorem bs_inj {l m : List UInt8} : (bs l = bs m) = (l = m) := by
  apply propext
  constructor
  · intro h
    have := congrArg (fun s : ByteArray => s.data.toList) h
    simpa [bs] using this
  · rintro rfl; rfl
def encB (b : UInt8) : List AV := [.int .u8 (b.toNat : Int)]
theorem encB_def {b : UInt8} : encB b = [.int .u8 (b.toNat : Int)] := rfl
theorem bytes_map : ∀ (l : List UInt8), bytesOf (l.map encB) = some l
  | [] => rfl
  | b :: l => by
    simp only [List.map_cons, encB, bytesOf, bytes_map l, Option.map_some]
    simp
theorem bytes_rows {l : List UInt8} : byteRows (bs l) = l.map encB := by simp [byteRows, bs, encB]
def far (c : UInt8) : Bool := decide (128 ≤ c.toNat)
theorem dec_near {l : List UInt8} {p : Nat} (h : (l.getD p 0).toNat < 128) : Utf8.decode (bs l) p = ((l.getD p 0).toNat, 1) := by
  simp only [Utf8.decode, Nat.add_zero, bs_get]
  rw [if_pos (by omega)]
theorem dec_far {l : List UInt8} {p : Nat} (hp : p < l.length) (h : 128 ≤ (l.getD p 0).toNat) :
    128 ≤ (Utf8.decode (bs l) p).1 ∧ 1 ≤ (Utf8.decode (bs l) p).2 ∧ p + (Utf8.decode (bs l) p).2 ≤ l.length ∧ ∀ q, p ≤ q → q < p + (Utf8.decode (bs l) p).2 → 128 ≤ (l.getD q 0).toNat := by
  have base : ∀ q, p ≤ q → q < p + 1 → 128 ≤ (l.getD q 0).toNat := fun q h1 h2 => by
    have : q = p := by omega
    subst this; exact h
  have cont : ∀ k, (decide (p + k < (bs l).size) && ((l.getD (p + k) 0).toNat / 64 == 2)) = true → p + k < l.length ∧ 128 ≤ (l.getD (p + k) 0).toNat := fun k hk => by
    simp only [Bool.and_eq_true, decide_eq_true_eq, beq_iff_eq, bs_size] at hk
    exact ⟨hk.1, by omega⟩
  have e0 : (128 : Nat) ≤ Utf8.runeError := by decide
  simp only [Utf8.decode, Nat.add_zero, bs_get]
  rw [if_neg (by omega)]
  split
  · rename_i hc
    simp only [Bool.and_eq_true] at hc
    have c1 := cont 1 (by simpa using hc.2)
    split
    · rename_i h2
      refine ⟨h2, by omega, by omega, fun q h3 h4 => ?_⟩
      have : q = p ∨ q = p + 1 := by simp only at h4; omega
      rcases this with rfl | rfl
      · exact h
      · exact c1.2
    · exact ⟨e0, Nat.le_refl _, hp, base⟩
  · split
    · rename_i hc
      simp only [Bool.and_eq_true] at hc
      have c1 := cont 1 (by simpa using hc.1.2)
      have c2 := cont 2 (by simpa using hc.2)
      split
      · rename_i h2
        simp only [Bool.and_eq_true, decide_eq_true_eq] at h2
        refine ⟨by simp only; omega, by simp only; omega, by simp only; omega, fun q h3 h4 => ?_⟩
        have : q = p ∨ q = p + 1 ∨ q = p + 2 := by simp only at h4; omega
        rcases this with rfl | rfl | rfl
        · exact h
        · exact c1.2
        · exact c2.2
      · exact ⟨e0, Nat.le_refl _, hp, base⟩
    · split
      · rename_i hc
        simp only [Bool.and_eq_true] at hc
        have c1 := cont 1 (by simpa using hc.1.1.2)
        have c2 := cont 2 (by simpa using hc.1.2)
        have c3 := cont 3 (by simpa using hc.2)
        split
        · rename_i h2
          simp only [Bool.and_eq_true, decide_eq_true_eq] at h2
          refine ⟨by simp only; omega, by simp only; omega, by simp only; omega, fun q h3 h4 => ?_⟩
          have : q = p ∨ q = p + 1 ∨ q = p + 2 ∨ q = p + 3 := by simp only at h4; omega
          rcases this with rfl | rfl | rfl | rfl
          · exact h
          · exact c1.2
          · exact c2.2
          · exact c3.2
        · exact ⟨e0, Nat.le_refl _, hp, base⟩
      · exact ⟨e0, Nat.le_refl _, hp, base⟩
structure Hold (p : Prop) : Prop where
  of : p
theorem Clean.set {m k : Nat} {H : List AObj} {o : AObj} (h : Clean m H) (ho : o.clean m) : Clean m (H.set k o) := fun j p hj => by
  rw [List.getElem?_set] at hj
  split at hj
  · split at hj
    · simp only [Option.some.injEq] at hj; subst hj; exact ho
    · simp at hj
  · exact h j p hj
theorem RetOk.upd {B : Nat} {t : Tm} {G L : List AObj} {rs : List LRes} {QF : AV → List AObj → Prop} (r : AV) (hB : B ≤ G.length) (hcl : Clean G.length G) (h : match resE ⟨t, G ++ L⟩ rs with | some l => View (G ++ L) G.length (resV l) r | none => False) (hq : QF r G) : RetOk B rs QF ⟨t, G ++ L⟩ := by
  split at h
  · rename_i l hl
    exact ⟨l, G.length, r, hl, hB, by rw [show (AS.mk t (G ++ L)).H.take G.length = G from take_self G L]; exact hcl, h, by rw [show (AS.mk t (G ++ L)).H.take G.length = G from take_self G L]; exact hq⟩
  · exact h.elim
theorem in_get {H L : List AObj} {k : Nat} (h : k < H.length) : (H ++ L)[k]? = H[k]? := List.getElem?_append_left h
theorem in_set {H L : List AObj} {k : Nat} {o : AObj} (h : k < H.length) : (H ++ L).set k o = H.set k o ++ L := by rw [List.set_append, if_pos h]
theorem set_set {H : List AObj} {k : Nat} {o p : AObj} : (H.set k o).set k p = H.set k p := by simp
theorem set_get {H : List AObj} {k : Nat} {o : AObj} (h : k < H.length) : (H.set k o)[k]? = some o := by simp [h]
def in64 (n : Int) : Prop := -9223372036854775808 ≤ n ∧ n ≤ 9223372036854775807
theorem wrap64 {n : Int} (h : in64 n) : IntKind.i64.wrap n = n := wrap_i64_in h.1 h.2
set_option linter.defProp false in
def sb := And.intro @bs_mk (And.intro @bs_empty (And.intro @bs_app (And.intro @bs_size (And.intro @bs_get (And.intro @bs_ext (And.intro @bs_inj (And.intro @bytes_map (@bytes_rows))))))))
def ObjV (H : List AObj) (m : Nat) (o p : AObj) : Prop :=
  (p = o ∧ o.clean m) ∨ ∃ sz xs ys, o = .vec sz xs ∧ p = .vec sz ys ∧ ys.length = xs.length ∧ (∀ r ∈ ys, r.length = sz) ∧ ∀ i j b, cellAt ys i j = some b → ∃ a, cellAt xs i j = some a ∧ View H m a b
theorem RepO.take1 {c : Cx} {m k : Nat} {o : AObj} (hcl : o.clean m) (ho : RepO c k o) : RepO (c.take m) k o := by
  cases o with
  | vec sz xs =>
    obtain ⟨h1, h2, h3, h4⟩ := ho
    refine ⟨h1, h2, h3, ?_⟩
    show match c.ι k with
      | none => xs = []
      | some b => _
    cases hi : c.ι k with
    | none => rw [hi] at h4; exact h4
    | some b =>
      rw [hi] at h4
      obtain ⟨cs, e, fr, h5, h6, h7, h8⟩ := h4
      exact ⟨cs, e, fr, h5, h6, h7, fun i j a ha => (h8 i j a ha).take (hcl i j a ha)⟩
  | map es =>
    obtain ⟨b, ents, clock, h1, h2, h3, h4⟩ := ho
    refine ⟨b, ents, clock, h1, h2, h3, fun i p hp => ?_⟩
    obtain ⟨e, he, hk, hv⟩ := h4 i p hp
    exact ⟨e, he, hk.take (hcl i p hp).1, hv.take (hcl i p hp).2⟩
  | iter s p => exact ho
  | gone => exact ho
section
variable {c : Cx} {m : Nat} {HV : List AObj}
theorem objV_live {H : List AObj} {o p : AObj} (h : ObjV H m o p) : p.live = o.live := by
  rcases h with ⟨rfl, _⟩ | ⟨sz, xs, ys, rfl, rfl, _⟩ <;> rfl
theorem objV_back (hl : HV.length = m) (hm : m ≤ c.H.length) (ho : ∀ (k : Nat) (o p : AObj), c.H[k]? = some o → HV[k]? = some p → ObjV c.H m o p) {k : Nat} {p : AObj} (hk : HV[k]? = some p) : ∃ o, c.H[k]? = some o ∧ (c.H.take m)[k]? = some o ∧ ObjV c.H m o p := by
  have hlt : k < m := by rw [← hl]; exact (List.getElem?_eq_some_iff.1 hk).1
  have : k < c.H.length := by omega
  refine ⟨c.H[k], by simp [this], by simp [List.getElem?_take, hlt, this], ho k _ p (by simp [this]) hk⟩
theorem Fr.viewH (hl : HV.length = m) (hm : m ≤ c.H.length) (ho : ∀ (k : Nat) (o p : AObj), c.H[k]? = some o → HV[k]? = some p → ObjV c.H m o p) : Fr (c.take m) ⟨c.ι, HV, c.w⟩ where
  os := rfl
  tape := rfl
  output := rfl
  size := Nat.le_refl _
  keep := fun b hb hw => ⟨rfl, fun ⟨k, p, h1, h2, h3⟩ => by
    obtain ⟨o, g1, g2, g3⟩ := objV_back hl hm ho h1
    exact hw ⟨k, o, g2, by rw [← objV_live g3]; exact h2, h3⟩⟩
  len := by simp [Cx.take, hl]; omega
  vec := fun k sz xs' hk hx => by
    obtain ⟨o, g1, g2, g3⟩ := objV_back hl hm ho hx
    rcases g3 with ⟨rfl, _⟩ | ⟨sz', xs, ys, rfl, e, hlen, _⟩
    · exact ⟨xs', g2, Nat.le_refl _, fun _ => ⟨rfl, fun _ _ => rfl⟩⟩
    · cases e
      exact ⟨xs, g2, by omega, fun _ => ⟨rfl, fun _ _ => rfl⟩⟩
  map := fun k es hk hx => by
    obtain ⟨o, g1, g2, g3⟩ := objV_back hl hm ho hx
    rcases g3 with ⟨rfl, _⟩ | ⟨sz', xs, ys, rfl, e, hlen, _⟩
    · exact ⟨⟨es, g2⟩, rfl⟩
    · cases e
  iter := fun k s p hk hx => by
    obtain ⟨o, g1, g2, g3⟩ := objV_back hl hm ho hx
    rcases g3 with ⟨rfl, _⟩ | ⟨sz', xs, ys, rfl, e, hlen, _⟩
    · exact ⟨⟨s, p, g2⟩, rfl⟩
    · cases e
theorem RepH.viewH (h : RepH c) (hl : HV.length = m) (hm : m ≤ c.H.length) (ho : ∀ (k : Nat) (o p : AObj), c.H[k]? = some o → HV[k]? = some p → ObjV c.H m o p) : RepH ⟨c.ι, HV, c.w⟩ where
  obj := fun k p hk => by
    have F := Fr.viewH hl hm ho
    obtain ⟨o, g1, g2, g3⟩ := objV_back hl hm ho hk
    have hO := h.obj k o g1
    rcases g3 with ⟨rfl, hcl⟩ | ⟨sz, xs, ys, rfl, rfl, hlen, hrow, hcell⟩
    · exact (RepO.take1 hcl hO).mono F rfl (fun _ _ _ => rfl)
    · obtain ⟨h1, h2, h3, h4⟩ := hO
      refine ⟨h1, hrow, by omega, ?_⟩
      show match c.ι k with
        | none => ys = []
        | some b => _
      cases hi : c.ι k with
      | none =>
        rw [hi] at h4
        simp only at h4
        subst h4
        exact List.length_eq_zero_iff.1 (by simpa using hlen)
      | some b =>
        rw [hi] at h4
        obtain ⟨cs, e, fr, h5, h6, h7, h8⟩ := h4
        exact ⟨cs, e, fr, h5, by rw [hlen]; exact h6, h7, fun i j b hb => by
          obtain ⟨a, ha, hv⟩ := hcell i j b hb
          exact (view_sound h hv (h8 i j a ha)).mono F⟩
  lt := fun k p b hk hlv hi => by
    obtain ⟨o, g1, g2, g3⟩ := objV_back hl hm ho hk
    exact h.lt k o b g1 (by rw [← objV_live g3]; exact hlv) hi
  inj := fun k l p q b hk hl' h1 h2 h3 h4 => by
    obtain ⟨o, g1, g2, g3⟩ := objV_back hl hm ho hk
    obtain ⟨o', f1, f2, f3⟩ := objV_back hl hm ho hl'
    exact h.inj k l o o' b g1 f1 (by rw [← objV_live g3]; exact h1) (by rw [← objV_live f3]; exact h2) h3 h4
  glob := fun g row hg => by
    have F := Fr.viewH hl hm ho
    obtain ⟨h0, hw, hc'⟩ := h.glob g row hg
    refine ⟨h0, fun ⟨k, p, h1, h2, h3⟩ => ?_, fun j a ha => ?_⟩
    · obtain ⟨o, g1, g2, g3⟩ := objV_back hl hm ho h1
      exact hw ⟨k, o, g1, by rw [← objV_live g3]; exact h2, h3⟩
    · obtain ⟨h1, v, h2, h3⟩ := hc' j a ha
      exact ⟨h1, v, h2, (h3.take (AV.clean_mono (Nat.zero_le m) h3 h1)).mono F⟩
end
theorem Weak.viewH {B N : Nat} {t : Tm} {H L L' : List AObj} {sl : List (Nat × AV)} (hH : Clean H.length H) (hB : B ≤ H.length + L'.length) (hL : L'.length ≤ L.length)
    (ho : ∀ (i : Nat) (o p : AObj), L[i]? = some o → L'[i]? = some p → ObjV (H ++ L) (H.length + L'.length) o p) (hs : ∀ p ∈ sl, View (H ++ L) (H.length + L'.length) (t p.1) p.2) : Weak B N ⟨t, H ++ L⟩ ⟨mkT sl, H ++ L'⟩ := fun ι a w hr => by
  have hT : ∀ n, View (H ++ L) (H.length + L'.length) (t n) (mkT sl n) := fun n => by
    induction sl with
    | nil => exact .dead _
    | cons p r ih =>
      obtain ⟨k, v⟩ := p
      rw [mkT_cons]
      split
      · rename_i e; subst e; exact hs (n, v) (by simp)
      · exact ih fun p hp => hs p (by simp [hp])
  have ho' : ∀ (k : Nat) (o p : AObj), (H ++ L)[k]? = some o → (H ++ L')[k]? = some p → ObjV (H ++ L) (H.length + L'.length) o p := fun k o p h1 h2 => by
    rcases Nat.lt_or_ge k H.length with hk | hk
    · rw [List.getElem?_append_left hk] at h1 h2
      rw [h1] at h2
      cases h2
      left
      refine ⟨rfl, ?_⟩
      have := (hH.le (show H.length ≤ H.length + L'.length by omega)) k o h1
      exact this
    · rw [List.getElem?_append_right hk] at h1 h2
      exact ho _ _ _ h1 h2
  have hl : (H ++ L').length = H.length + L'.length := by simp
  have hm : H.length + L'.length ≤ (H ++ L).length := by simp; omega
  have F := Fr.viewH (c := ⟨ι, H ++ L, w⟩) hl hm ho'
  exact ⟨ι, ⟨hr.h.viewH hl hm ho', ⟨hr.t.size, fun n => (view_sound hr.h (hT n) (hr.t.val n)).mono F, hr.t.defers⟩⟩, fun c0 hb hf => (hf.take (by omega)).trans F⟩
theorem ObjV.cell {H : List AObj} {m : Nat} {a b : AV} (h : View H m a b) : ObjV H m (.vec 1 [[a]]) (.vec 1 [[b]]) := by
  refine .inr ⟨1, [[a]], [[b]], rfl, rfl, rfl, by simp, fun i j x hx => ?_⟩
  match i, j with
  | 0, 0 => simp [cellAt] at hx ⊢; subst hx; exact h
  | 0, j + 1 => simp [cellAt] at hx
  | i + 1, j => simp [cellAt] at hx
theorem ObjV.same {H : List AObj} {m : Nat} {o : AObj} (h : o.clean m) : ObjV H m o o := .inl ⟨rfl, h⟩
theorem Weak.growCellAt {B N : Nat} {t : Tm} {H L : List AObj} (i sz : Nat) (h0 : 0 < sz) (hi : L[i]? = some (.vec 1 [[.imm (.slice none 0 0)]])) :
    Weak B N ⟨t, H ++ L⟩ ⟨t, H ++ (L.set i (.vec 1 [[.sl sz (H.length + L.length) 0 0 0]]) ++ [.vec sz []])⟩ := by
  have hlt : i < L.length := (List.getElem?_eq_some_iff.1 hi).1
  have := Weak.growCell (B := B) (N := N) (σ := ⟨t, H ++ L⟩) (H.length + i) 0 0 sz 1 h0 (xs := [[.imm (.slice none 0 0)]]) (row := [.imm (.slice none 0 0)]) (by show (H ++ L)[H.length + i]? = _; rw [List.getElem?_append_right (by omega)]; simpa using hi) rfl rfl
  have e : (H ++ L).set (H.length + i) (.vec 1 [[.sl sz (H.length + L.length) 0 0 0]]) = H ++ L.set i (.vec 1 [[.sl sz (H.length + L.length) 0 0 0]]) := by
    rw [List.set_append_right _ _ (by omega)]
    simp
  simp only [List.length_append, List.set_cons_zero] at this
  rw [e, List.append_assoc] at this
  exact this
theorem CallA_fn2 {P : Program} {f : FuncId} {first cap args : List AV} {H : List AObj} {K : AV → List AObj → Prop} : CallA P (.fn (.func f) first cap) args H K = ACalls P f (first ++ args ++ cap) H K := rfl
mutual
inductive Lose (H G : List AObj) : AV → AV → Prop where
  | same (a : AV) : Lose H G a a
  | dead (a : AV) : Lose H G a .dead
  | nil : Lose H G (.imm (.slice none 0 0)) (.list [])
  | sl (sz k n off len : Nat) (xs ys : List (List AV)) (hk : H[k]? = some (.vec sz xs)) (hg : G[k]? = some .gone) (hn : n = xs.length) (hys : ys = (xs.drop off).take len) (hcl : rowsClean ys) : Lose H G (.sl sz k n off len) (.list ys)
  | agg (as bs : List AV) (h : Loses H G as bs) : Lose H G (.agg as) (.agg bs)
  | tup (as bs : List AV) (h : Loses H G as bs) : Lose H G (.tup as) (.tup bs)
inductive Loses (H G : List AObj) : List AV → List AV → Prop where
  | nil : Loses H G [] []
  | cons (a b : AV) (as bs : List AV) (h : Lose H G a b) (hs : Loses H G as bs) : Loses H G (a :: as) (b :: bs)
end
def LoseO (H G : List AObj) (o p : AObj) : Prop :=
  p = o ∨ p = .gone ∨ ∃ sz xs ys, o = .vec sz xs ∧ p = .vec sz ys ∧ ys.length = xs.length ∧ (∀ r ∈ ys, r.length = sz) ∧ ∀ i j b, cellAt ys i j = some b → ∃ a, cellAt xs i j = some a ∧ Lose H G a b
def LoseH (H G : List AObj) : Prop := G.length = H.length ∧ ∀ (k : Nat) (o p : AObj), H[k]? = some o → G[k]? = some p → LoseO H G o p
theorem LoseH.back {H G : List AObj} (h : LoseH H G) {k : Nat} {p : AObj} (hk : G[k]? = some p) : ∃ o, H[k]? = some o ∧ LoseO H G o p := by
  have hlt : k < H.length := by rw [← h.1]; exact (List.getElem?_eq_some_iff.1 hk).1
  exact ⟨H[k], by simp [hlt], h.2 k _ p (by simp [hlt]) hk⟩
theorem LoseO.live {H G : List AObj} {o p : AObj} (h : LoseO H G o p) (hp : p.live = true) : o.live = true := by
  rcases h with rfl | rfl | ⟨sz, xs, ys, rfl, rfl, _⟩
  · exact hp
  · cases hp
  · rfl
section
variable {ι : Nat → Option Nat} {H G : List AObj} {w : World}
theorem Fr.lose (h : LoseH H G) : Fr ⟨ι, H, w⟩ ⟨ι, G, w⟩ where
  os := rfl
  tape := rfl
  output := rfl
  size := Nat.le_refl _
  keep := fun b hb hw => ⟨rfl, fun ⟨k, p, h1, h2, h3⟩ => by
    obtain ⟨o, g1, g2⟩ := h.back h1
    exact hw ⟨k, o, g1, g2.live h2, h3⟩⟩
  len := by simp [h.1]
  vec := fun k sz xs' hk hx => by
    obtain ⟨o, g1, g2⟩ := h.back hx
    rcases g2 with rfl | e | ⟨sz', xs, ys, rfl, e, hlen, _⟩
    · exact ⟨xs', g1, Nat.le_refl _, fun _ => ⟨rfl, fun _ _ => rfl⟩⟩
    · cases e
    · cases e
      exact ⟨xs, g1, by omega, fun _ => ⟨rfl, fun _ _ => rfl⟩⟩
  map := fun k es hk hx => by
    obtain ⟨o, g1, g2⟩ := h.back hx
    rcases g2 with rfl | e | ⟨sz', xs, ys, rfl, e, hlen, _⟩
    · exact ⟨⟨es, g1⟩, rfl⟩
    · cases e
    · cases e
  iter := fun k s p hk hx => by
    obtain ⟨o, g1, g2⟩ := h.back hx
    rcases g2 with rfl | e | ⟨sz', xs, ys, rfl, e, hlen, _⟩
    · exact ⟨⟨s, p, g1⟩, rfl⟩
    · cases e
    · cases e
theorem lose_sl (hH : RepH ⟨ι, H, w⟩) (h : LoseH H G) {sz k n off len : Nat} {xs ys : List (List AV)} (hk : H[k]? = some (.vec sz xs)) (hg : G[k]? = some .gone) (hn : n = xs.length) (hys : ys = (xs.drop off).take len) (hcl : rowsClean ys)
    {v : Value} (hv : RepV ⟨ι, H, w⟩ (.sl sz k n off len) v) : RepV ⟨ι, G, w⟩ (.list ys) v := by
  obtain ⟨h0, hrows, hlen, hobj⟩ := hH.obj k _ hk
  have hcl' : ∀ (i j : Nat) (a : AV), cellAt ys i j = some a → a.clean 0 = true := fun i j a ha => by
    simp only [cellAt, Option.bind_eq_some_iff] at ha
    obtain ⟨r, h6, h7⟩ := ha
    exact cleanAll_iff.1 (hcl r (List.mem_of_getElem? h6)) j a h7
  cases hv with
  | sl _ _ _ _ _ A cap hk' hclc hA hn' hval =>
    obtain ⟨hle, hdis⟩ := hval xs hk hn
    have hyl : ys.length = len := by rw [hys]; simp; omega
    by_cases hz : len = 0
    · subst hz
      have : ys = [] := List.eq_nil_of_length_eq_zero hyl
      subst this
      exact .lnil A cap
    · rcases hdis with ⟨b, hb, rfl, _⟩ | ⟨h1, _⟩
      · rw [hb] at hobj
        obtain ⟨cs, el, fr, g1, g2, g3, g4⟩ := hobj
        have hcell : ∀ (i j : Nat) (a : AV), cellAt ys i j = some a → cellAt xs (off + i) j = some a := fun i j a ha => by
          rw [hys] at ha
          simp only [cellAt, List.getElem?_take] at ha ⊢
          split at ha
          · rwa [List.getElem?_drop] at ha
          · simp at ha
        have hnw : ¬ (Cx.wr ⟨ι, G, w⟩ b) := fun ⟨j, p, h1, h2, h3⟩ => by
          obtain ⟨o, h4, h5⟩ := h.back h1
          have : j = k := hH.inj j k o _ b h4 hk (h5.live h2) rfl h3 hb
          subst this
          have h6 : some p = some AObj.gone := h1.symm.trans hg
          cases h6
          cases h2
        have := RepV.list (c := ⟨ι, G, w⟩) sz ys b (off * sz) cap (fun i j => cs.getD ((off + i) * sz + j) undef) h0 (fun e => by rw [e] at hyl; simp at hyl; omega) (fun r hr => hrows r (by rw [hys] at hr; exact List.mem_of_mem_drop (List.mem_of_mem_take hr))) (by omega) (by omega) hnw hcl'
          (fun i j a ha => by
            obtain ⟨_, _, h3⟩ := cellAt_lt hrows (hcell i j a ha)
            have hlt : (off + i) * sz + j < cs.size := by omega
            have e : off * sz + (i * sz + j) = (off + i) * sz + j := by rw [Nat.add_mul]; omega
            replace g1 : w.heap[b]? = _ := g1
            show w.cell? _ = _
            simp [World.cell?, g1, e, hlt])
          (fun i j a ha => (g4 _ _ a (hcell i j a ha)).mono (Fr.lose h))
        rwa [hyl] at this
      · exact absurd h1 hz
mutual
theorem lose_sound (hH : RepH ⟨ι, H, w⟩) (hG : LoseH H G) : ∀ {a b : AV}, Lose H G a b → ∀ {v : Value}, RepV ⟨ι, H, w⟩ a v → RepV ⟨ι, G, w⟩ b v
  | _, _, .same a, v, hv => hv.mono (Fr.lose hG)
  | _, _, .dead a, v, hv => .dead v
  | _, _, .nil, v, hv => by rw [hv.imm_inv]; exact .lnil _ _
  | _, _, .sl sz k n off len xs ys hk hg hn hys hcl, v, hv => lose_sl hH hG hk hg hn hys hcl hv
  | _, _, .agg as bs h, v, hv => by
    obtain ⟨vs, rfl, h1, h2⟩ := hv.agg_inv
    obtain ⟨h3, h4⟩ := loses_sound hH hG h
    exact .agg bs vs (by rw [h1, h3]) fun i b hb => h4 i b hb _ h2
  | _, _, .tup as bs h, v, hv => by
    obtain ⟨vs, rfl, h1, h2⟩ := hv.tup_inv
    obtain ⟨h3, h4⟩ := loses_sound hH hG h
    exact .tup bs vs (by rw [h1, h3]) fun i b hb => h4 i b hb _ h2
theorem loses_sound (hH : RepH ⟨ι, H, w⟩) (hG : LoseH H G) : ∀ {as bs : List AV}, Loses H G as bs → as.length = bs.length ∧ ∀ (i : Nat) (b : AV), bs[i]? = some b → ∀ (vs : Array Value), (∀ (i : Nat) (a : AV), as[i]? = some a → RepV ⟨ι, H, w⟩ a (vs.getD i undef)) → RepV ⟨ι, G, w⟩ b (vs.getD i undef)
  | _, _, .nil => ⟨rfl, fun i b hb => by simp at hb⟩
  | _, _, .cons a b as bs h hs => by
    obtain ⟨h1, h2⟩ := loses_sound hH hG hs
    refine ⟨by simp [h1], fun i x hx vs hvs => ?_⟩
    cases i with
    | zero =>
      simp only [List.getElem?_cons_zero, Option.some.injEq] at hx
      subst hx
      exact lose_sound hH hG h (hvs 0 a rfl)
    | succ i =>
      have hx' : bs[i]? = some x := by simpa using hx
      have e : ∀ j, (vs.extract 1 vs.size).getD j undef = vs.getD (j + 1) undef := fun j => by
        simp only [Array.getD_eq_getD_getElem?, Array.getElem?_extract]
        by_cases hl : j < vs.size - 1
        · rw [if_pos (by omega), Nat.add_comm]
        · rw [if_neg (by omega), Array.getElem?_eq_none (by omega)]
      have := h2 i x hx' (vs.extract 1 vs.size) (fun j a' ha => by
        have := hvs (j + 1) a' (by simpa using ha)
        rw [e]; exact this)
      rwa [e] at this
end
theorem RepH.lose (h : RepH ⟨ι, H, w⟩) (hG : LoseH H G) : RepH ⟨ι, G, w⟩ where
  obj := fun k p hk => by
    have F := Fr.lose (ι := ι) (w := w) hG
    obtain ⟨o, g1, g2⟩ := hG.back hk
    have hO := h.obj k o g1
    rcases g2 with rfl | rfl | ⟨sz, xs, ys, rfl, rfl, hlen, hrow, hcell⟩
    · exact hO.mono F rfl (fun _ _ _ => rfl)
    · trivial
    · obtain ⟨h1, h2, h3, h4⟩ := hO
      refine ⟨h1, hrow, by omega, ?_⟩
      show match ι k with
        | none => ys = []
        | some b => _
      replace h4 : match ι k with
        | none => xs = []
        | some b => _ := h4
      cases hi : ι k with
      | none =>
        rw [hi] at h4
        simp only at h4
        subst h4
        exact List.length_eq_zero_iff.1 (by simpa using hlen)
      | some b =>
        rw [hi] at h4
        obtain ⟨cs, e, fr, h5, h6, h7, h8⟩ := h4
        exact ⟨cs, e, fr, h5, by rw [hlen]; exact h6, h7, fun i j b hb => by
          obtain ⟨a, ha, hv⟩ := hcell i j b hb
          exact lose_sound h hG hv (h8 i j a ha)⟩
  lt := fun k p b hk hlv hi => by
    obtain ⟨o, g1, g2⟩ := hG.back hk
    exact h.lt k o b g1 (g2.live hlv) hi
  inj := fun k l p q b hk hl' h1 h2 h3 h4 => by
    obtain ⟨o, g1, g2⟩ := hG.back hk
    obtain ⟨o', f1, f2⟩ := hG.back hl'
    exact h.inj k l o o' b g1 f1 (g2.live h1) (f2.live h2) h3 h4
  glob := h.glob.mono (Fr.lose hG)
theorem RepVs.lose (hH : RepH ⟨ι, H, w⟩) (hG : LoseH H G) {as bs : List AV} {vs : Array Value} (h : Loses H G as bs) (hv : RepVs ⟨ι, H, w⟩ as vs) : RepVs ⟨ι, G, w⟩ bs vs := by
  obtain ⟨h1, h2⟩ := loses_sound hH hG h
  exact ⟨by rw [hv.1, h1], fun i b hb => h2 i b hb vs hv.2⟩
end
theorem ACalls.lose {P : Program} {f : FuncId} {H G : List AObj} {args args' : List AV} {K : AV → List AObj → Prop} (hG : LoseH H G) (hv : Loses H G args args') (h : ACalls P f args' G K) : ACalls P f args H K :=
  ⟨h.1, fun ι w vals h1 h2 => (h.2 ι w vals (h1.lose hG) (h2.lose h1 hG hv)).mono fun e w' ⟨r, v, ι', H', g1, g2, g3, g4, g5⟩ => ⟨r, v, ι', H', g1, g2, g3, g4, (Fr.lose hG).trans g5⟩⟩
theorem Weak.lose {B N : Nat} {t t' : Tm} {H G : List AObj} (hG : LoseH H G) (ht : ∀ n, Lose H G (t n) (t' n)) : Weak B N ⟨t, H⟩ ⟨t', G⟩ := fun ι a w hr =>
  ⟨ι, ⟨hr.h.lose hG, ⟨hr.t.size, fun n => lose_sound hr.h hG (ht n) (hr.t.val n), hr.t.defers⟩⟩, fun c0 hb hf => hf.trans (Fr.lose hG)⟩
def LoseL (H G : List AObj) : List AObj → List AObj → Prop
  | [], [] => True
  | o :: L, p :: M => LoseO H G o p ∧ LoseL H G L M
  | _, _ => False
theorem LoseL.spec {H G : List AObj} : ∀ {L M : List AObj}, LoseL H G L M → M.length = L.length ∧ ∀ (i : Nat) (o p : AObj), L[i]? = some o → M[i]? = some p → LoseO H G o p
  | [], [], _ => ⟨rfl, fun i o p h => by simp at h⟩
  | o :: L, p :: M, ⟨h1, h2⟩ => by
    obtain ⟨h3, h4⟩ := LoseL.spec h2
    refine ⟨by simp [h3], fun i o' p' h5 h6 => ?_⟩
    cases i with
    | zero => simp at h5 h6; subst h5; subst h6; exact h1
    | succ i => exact h4 i o' p' (by simpa using h5) (by simpa using h6)
theorem LoseH.app {H L M : List AObj} (h : LoseL (H ++ L) (H ++ M) L M) : LoseH (H ++ L) (H ++ M) := by
  obtain ⟨h1, h2⟩ := h.spec
  refine ⟨by simp [h1], fun k o p g1 g2 => ?_⟩
  rcases Nat.lt_or_ge k H.length with hk | hk
  · rw [List.getElem?_append_left hk] at g1 g2
    exact .inl (by rw [g1] at g2; cases g2; rfl)
  · rw [List.getElem?_append_right hk] at g1 g2
    exact h2 _ o p g1 g2
theorem ACalls.loseAt {P : Program} {f : FuncId} {H L : List AObj} {args : List AV} {K : AV → List AObj → Prop} (M : List AObj) (args' : List AV) (h : LoseL (H ++ L) (H ++ M) L M ∧ Loses (H ++ L) (H ++ M) args args') (hc : ACalls P f args' (H ++ M) K) : ACalls P f args (H ++ L) K :=
  ACalls.lose (LoseH.app h.1) h.2 hc
theorem Weak.loseAt {B N : Nat} {t : Tm} {H L : List AObj} (M : List AObj) (sl : List (Nat × AV)) (h : LoseL (H ++ L) (H ++ M) L M ∧ ∀ p ∈ sl, Lose (H ++ L) (H ++ M) (t p.1) p.2) : Weak B N ⟨t, H ++ L⟩ ⟨mkT sl, H ++ M⟩ :=
  Weak.lose (LoseH.app h.1) fun n => by
    have h2 := h.2
    clear h
    induction sl with
    | nil => exact .dead _
    | cons p r ih =>
      obtain ⟨k, v⟩ := p
      rw [mkT_cons]
      split
      · rename_i e; subst e; exact h2 (n, v) (by simp)
      · exact ih fun p hp => h2 p (by simp [hp])
section
variable {H G : List AObj}
theorem ll_nil : LoseL H G [] [] = True := rfl
theorem ll_cons {o p : AObj} {L M : List AObj} : LoseL H G (o :: L) (p :: M) = (LoseO H G o p ∧ LoseL H G L M) := rfl
theorem lo_gone {o : AObj} : LoseO H G o .gone = True := eq_true (.inr (.inl rfl))
theorem lo_same {o : AObj} : LoseO H G o o = True := eq_true (.inl rfl)
theorem ls_same {a : AV} : Lose H G a a = True := eq_true (.same a)
theorem ls_dead {a : AV} : Lose H G a .dead = True := eq_true (.dead a)
theorem ls_nil : Lose H G (.imm (.slice none 0 0)) (.list []) = True := eq_true .nil
theorem ls_slist {z k n o l : Nat} {ys : List (List AV)} : Lose H G (.sl z k n o l) (.list ys) = match H[k]?, G[k]? with | some (.vec z' xs), some .gone => z' = z ∧ n = xs.length ∧ ys = (xs.drop o).take l ∧ rowsClean ys | _, _ => False := propext ⟨fun h => by
  cases h with
  | sl _ _ _ _ _ xs _ h1 h2 h3 h4 h5 =>
    rw [h1, h2]
    exact ⟨rfl, h3, h4, h5⟩, fun h => by
  split at h
  · rename_i z' xs hk hg
    obtain ⟨rfl, h3, h4, h5⟩ := h
    exact .sl _ _ _ _ _ xs _ hk hg h3 h4 h5
  · exact h.elim⟩
theorem lss_nil : Loses H G [] [] = True := eq_true .nil
theorem lss_cons {a b : AV} {as bs : List AV} : Loses H G (a :: as) (b :: bs) = (Lose H G a b ∧ Loses H G as bs) := propext ⟨fun h => by
  cases h with
  | cons _ _ _ _ h1 h2 => exact ⟨h1, h2⟩, fun ⟨h1, h2⟩ => .cons _ _ _ _ h1 h2⟩
theorem Loses.refl : ∀ (l : List AV), Loses H G l l
  | [] => .nil
  | a :: l => .cons a a l l (.same a) (Loses.refl l)
theorem lss_same {l : List AV} : Loses H G l l = True := eq_true (Loses.refl l)
theorem ls_agg {as bs : List AV} : Lose H G (.agg as) (.agg bs) = Loses H G as bs := propext ⟨fun h => by
  cases h with
  | same => exact Loses.refl _
  | agg _ _ h => exact h, fun h => .agg _ _ h⟩
theorem ls_tup {as bs : List AV} : Lose H G (.tup as) (.tup bs) = Loses H G as bs := propext ⟨fun h => by
  cases h with
  | same => exact Loses.refl _
  | tup _ _ h => exact h, fun h => .tup _ _ h⟩
theorem Loses.get : ∀ {as bs : List AV}, Loses H G as bs → ∀ (j : Nat) (b : AV), bs[j]? = some b → ∃ a, as[j]? = some a ∧ Lose H G a b
  | _, _, .nil, j, b, hb => by simp at hb
  | _, _, .cons a b as bs h hs, j, x, hx => by
    cases j with
    | zero => simp at hx; subst hx; exact ⟨a, rfl, h⟩
    | succ j => obtain ⟨y, h1, h2⟩ := hs.get j x (by simpa using hx); exact ⟨y, by simpa using h1, h2⟩
theorem lo_row {z : Nat} {r s : List AV} (h : s.length = z ∧ Loses H G r s) : LoseO H G (.vec z [r]) (.vec z [s]) = True := eq_true (.inr (.inr ⟨z, [r], [s], rfl, rfl, rfl, by simp [h.1], fun i j b hb => by
  cases i with
  | zero =>
    simp only [cellAt, List.getElem?_cons_zero, Option.bind_some] at hb ⊢
    exact h.2.get j b hb
  | succ i => simp [cellAt] at hb⟩))
end
set_option linter.defProp false in
def lk := And.intro @ll_nil (And.intro @ll_cons (And.intro @lo_gone (And.intro @lo_same (And.intro @lo_row (And.intro @ls_same (And.intro @ls_dead (And.intro @ls_nil (And.intro @ls_slist (And.intro @lss_same (And.intro @lss_nil (And.intro @lss_cons (And.intro @ls_agg (@ls_tup)))))))))))))
end Go.Proofs.YtnbdpjhmepgoaaaDoor
