/-
  The abstract layer, part 22: functions by their plain code; small laws for walking.
-/
import Derived.Test.YtoiceinjademgaaDoorC3
namespace Go.Proofs.YtoiceinjademgaaDoor
open Go.RowKit
set_option linter.unusedVariables false
set_option linter.unusedSimpArgs false

/-- A function made plain. -/
def lowFn (P : Program) (f : FuncId) : Option (Nat × LCode × List LRes) :=
  match P.funcs[f]? with
  | some fn => match fn.body, lowRes P fn.results.toList with
    | some c, some rs => if fn.name == "runtime.NumGoroutine" then none else some (fn.ntmps, lowCode P fn.ntmps c, rs)
    | _, _ => none
  | none => none

theorem ACalls.low {P : Program} {f : FuncId} {N : Nat} {lc : LCode} {rs : List LRes} {args : List AV} {H : List AObj} {QF : AV → List AObj → Prop} (hlow : lowFn P f = some (N, lc, rs)) (hN : args.length ≤ N)
    (h : Clean H.length H → LCB P N H.length lc (fun e σ => (e = .normal ∨ e = .ret) ∧ RetOk H.length rs QF σ) ⟨argsT args, H⟩) : ACalls P f args H QF := by
  unfold lowFn at hlow
  split at hlow
  · rename_i fn hfn
    split at hlow
    · rename_i c rs' hb hr
      split at hlow
      · simp at hlow
      · rename_i hne
        simp only [Option.some.injEq, Prod.mk.injEq] at hlow
        obtain ⟨rfl, h2, rfl⟩ := hlow
        exact ACalls.of hfn hb (by simpa using hne) h2 hr hN h
    · simp at hlow
  · simp at hlow

/-- A call of a function that only answers. -/
def Pure (P : Program) (f : FuncId) (args : List AV) (r : AV) : Prop := ∀ H, ACalls P f args H fun r' H' => r' = r ∧ H' = H

section
variable {P : Program} {N B : Nat} {Q : Exit → AS → Prop} {σ : AS}

theorem Tm.put_some (t : Tm) (d n : Nat) (v : AV) : (t.put (some d) v) n = if n = d then v else t n := rfl
theorem Tm.put_none (t : Tm) (v : AV) : t.put none v = t := rfl
theorem argsT_zero (a : AV) (as : List AV) : argsT (a :: as) 0 = a := rfl
theorem argsT_succ (a : AV) (as : List AV) (n : Nat) : argsT (a :: as) (n + 1) = argsT as n := rfl
theorem ev_tmp (t : Tm) (n : Nat) : ev t (.tmp n) = t n := rfl
theorem ev_cst (t : Tm) (a : AV) : ev t (.cst a) = a := rfl

theorem wpL_nil {K : AS → Prop} : wpL P [] K σ = K σ := rfl
theorem wpL_cons {o : LOper} {r : List LOper} {K : AS → Prop} : wpL P (o :: r) K σ = wpG P o (wpL P r K) σ := rfl
theorem wpG_none {d : Option Nat} {op : LOp} {K : AS → Prop} : wpG P ⟨d, op, none⟩ K σ = wpO P ⟨d, op, none⟩ K σ := rfl
theorem wpG_hit {d : Option Nat} {op : LOp} {g : Nat} {b : Bool} {K : AS → Prop} (h : σ.t g = .bool b) : wpG P ⟨d, op, some (g, b)⟩ K σ = wpO P ⟨d, op, some (g, b)⟩ K σ := by
  unfold wpG
  simp [h]
theorem wpG_miss {d : Option Nat} {op : LOp} {g : Nat} {b : Bool} {K : AS → Prop} (h : σ.t g = .bool (!b)) : wpG P ⟨d, op, some (g, b)⟩ K σ = K ⟨σ.t.put d (.imm undef), σ.H⟩ := by
  unfold wpG
  cases b <;> simp [h]
theorem wpG_skip {d : Option Nat} {op : LOp} {g : Nat} {b : Bool} {K : AS → Prop} (h : σ.t g = .imm undef) : wpG P ⟨d, op, some (g, b)⟩ K σ = K ⟨σ.t.put d (.imm undef), σ.H⟩ := by
  unfold wpG
  simp [h]
theorem wpT_none {d : Option Nat} {op : LOp} {K : AS → Prop} : wpT P ⟨d, op, none⟩ K σ = match pureStep op (ev σ.t) with
    | some v => K ⟨σ.t.put d v, σ.H⟩
    | none => False := rfl
theorem wpT_hit {d : Option Nat} {op : LOp} {g : Nat} {b : Bool} {K : AS → Prop} (h : σ.t g = .bool b) : wpT P ⟨d, op, some (g, b)⟩ K σ = match pureStep op (ev σ.t) with
    | some v => K ⟨σ.t.put d v, σ.H⟩
    | none => False := by
  unfold wpT
  simp only [h]
  cases pureStep op (ev σ.t) <;> simp
theorem wpT_miss {d : Option Nat} {op : LOp} {g : Nat} {b : Bool} {K : AS → Prop} (h : σ.t g = .bool (!b)) : wpT P ⟨d, op, some (g, b)⟩ K σ = K ⟨σ.t.put d (.imm undef), σ.H⟩ := by
  unfold wpT
  cases b <;> simp [h]
theorem wpT_skip {d : Option Nat} {op : LOp} {g : Nat} {b : Bool} {K : AS → Prop} (h : σ.t g = .imm undef) : wpT P ⟨d, op, some (g, b)⟩ K σ = K ⟨σ.t.put d (.imm undef), σ.H⟩ := by
  unfold wpT
  simp [h]
theorem wpO_call {d : Option Nat} {g : Option (Nat × Bool)} {f : Opd} {as : List Opd} {K : AS → Prop} : wpO P ⟨d, .call f as, g⟩ K σ = CallA P (ev σ.t f) (as.map (ev σ.t)) σ.H fun v H' => K ⟨σ.t.put d v, H'⟩ := rfl

/-- One step that is known. -/
theorem wpO_step {o : LOper} {K : AS → Prop} {v : AV} {H' : List AObj} (hn : o.op.isCall = false) (h : stepL o.op σ = some (v, H')) (hk : K ⟨σ.t.put o.dst v, H'⟩) : wpO P o K σ := by
  unfold wpO
  split
  · rename_i hop; rw [hop] at hn; simp [LOp.isCall] at hn
  · rw [h]; exact hk

theorem CallA_fn {f : FuncId} {args : List AV} {H : List AObj} {K : AV → List AObj → Prop} : CallA P (.fn (.func f) [] []) args H K = ACalls P f args H K := by simp [CallA]

theorem ACalls.pure {f : FuncId} {args : List AV} {H : List AObj} {r : AV} {K : AV → List AObj → Prop} (h : Pure P f args r) (hk : K r H) : ACalls P f args H K := (h H).mono fun r' H' ⟨h1, h2⟩ => by subst h1; subst h2; exact hk

theorem take_self (H L : List AObj) : (H ++ L).take H.length = H := by simp

/-- What is handed back by a function that leaves the heap as it was. -/
theorem RetOk.pure {H L : List AObj} {rs : List LRes} {QF : AV → List AObj → Prop} {t : Tm} {l : List AV} {r : AV} (hcl : Clean H.length H) (he : resE ⟨t, H ++ L⟩ rs = some l) (hv : View (H ++ L) H.length (resV l) r) (hq : QF r H) : RetOk H.length rs QF ⟨t, H ++ L⟩ :=
  ⟨l, H.length, r, he, Nat.le_refl _, by rw [take_self]; exact hcl, hv, by rw [take_self]; exact hq⟩

theorem RetOk.pure0 {H : List AObj} {rs : List LRes} {QF : AV → List AObj → Prop} {t : Tm} {l : List AV} {r : AV} (hcl : Clean H.length H) (he : resE ⟨t, H⟩ rs = some l) (hv : View H H.length (resV l) r) (hq : QF r H) : RetOk H.length rs QF ⟨t, H⟩ := by
  have := RetOk.pure (L := []) (rs := rs) (QF := QF) (t := t) hcl (by simpa using he) (by simpa using hv) hq
  simpa using this

theorem foldI_two (f : Int → Int → Int) (k : IntKind) (a b : Int) : foldI f [.int k a, .int k b] = some (.int k (f a b)) := by simp [foldI]
theorem bdA_no (n d : Nat) : bdA n d none = some d := rfl
theorem bdA_int (n d : Nat) (k : IntKind) (i : Int) : bdA n d (some (.int k i)) = if 0 ≤ i ∧ i ≤ (n : Int) then some i.toNat else none := rfl
theorem ixA_int (n : Nat) (k : IntKind) (i : Int) : ixA n (.int k i) = if 0 ≤ i ∧ i < (n : Int) then some i.toNat else none := rfl
theorem binA_int (op : BinOp) (q : EqK) (k k' : IntKind) (a b : Int) : binA op q (.int k a) (.int k' b) = match op with
    | .shl => if b < 0 then none else some (.int k (k.wrap (a * 2 ^ (min b.toNat k.bits))))
    | .shr => if b < 0 then none else some (.int k (a.fdiv (2 ^ (min b.toNat k.bits))))
    | op => if k = k' then arith op k a b else none := rfl

/-- Rows of one length. -/
theorem heads {α : Type} (f : α → List AV) (n : Nat) (h : ∀ x, (f x).length = n) (l : List α) : (l.map f = [] ∨ ((l.map f).headD []).length = n) = True := by
  cases l with
  | nil => simp
  | cons x l => simp [h]

end
end Go.Proofs.YtoiceinjademgaaDoor
