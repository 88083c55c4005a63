/-
  The abstract layer, part 26: walking by one set of laws: named continuations, states by their slots.
-/
import Derived.Test.YtoiceinjademgaaDoorC7
namespace Go.Proofs.YtoiceinjademgaaDoor
open Go.RowKit
set_option linter.unusedVariables false
set_option linter.unusedSimpArgs false
set_option linter.unusedSectionVars false

/-- A frame of which only some slots are known. -/
def mkT : List (Nat × AV) → Tm
  | [] => fun _ => .dead
  | (k, v) :: r => fun n => if n = k then v else mkT r n

theorem mkT_nil (n : Nat) : mkT [] n = .dead := rfl
theorem mkT_cons (k : Nat) (v : AV) (r : List (Nat × AV)) (n : Nat) : mkT ((k, v) :: r) n = if n = k then v else mkT r n := rfl

/-! ### What follows, by name -/
def Later (K : AS → Prop) (t : Tm) (d : Option Nat) : AV → List AObj → Prop := fun v H' => K ⟨t.put d v, H'⟩
def thenS (x : Option (AV × List AObj)) (L : AV → List AObj → Prop) : Prop := match x with | some (v, H') => L v H' | none => False
def SeqQ (P : Program) (N B : Nat) (y : LCode) (Q : Exit → AS → Prop) : Exit → AS → Prop := fun e σ => match e with | .normal => LCB P N B y Q σ | e => Q e σ
def BlkQ (id : Nat) (Q : Exit → AS → Prop) : Exit → AS → Prop := fun e σ => match e with | .exit i => if i = id then Q .normal σ else Q (.exit i) σ | e => Q e σ
def RetQ (B : Nat) (rs : List LRes) (QF : AV → List AObj → Prop) : Exit → AS → Prop := fun e σ => (e = .normal ∨ e = .ret) ∧ RetOk B rs QF σ

/-- What is said at a loop's head: the slots, the objects, what holds of them, and a number that falls. -/
structure Head (S : Type) where
  sl : S → List (Nat × AV)
  hp : S → List AObj
  ok : S → Prop
  m : S → Nat

def LoopQ (N B : Nat) {S : Type} (hd : Head S) (k : Nat) (Q : Exit → AS → Prop) : Exit → AS → Prop := fun e σ => match e with
  | .normal => ∃ s, hd.ok s ∧ hd.m s < k ∧ Weak B N σ ⟨mkT (hd.sl s), hd.hp s⟩
  | e => Q e σ

def JoinQ (N B : Nat) {S : Type} (hd : Head S) (Q : Exit → AS → Prop) : Exit → AS → Prop := fun e σ => match e with
  | .normal => ∃ s, hd.ok s ∧ Weak B N σ ⟨mkT (hd.sl s), hd.hp s⟩
  | e => Q e σ

def CutQ (N B : Nat) (st : AS) (Q : Exit → AS → Prop) : Exit → AS → Prop := fun e σ => match e with
  | .normal => Weak B N σ st
  | e => Q e σ

/-- The answer of a function that only answers. -/
def PureQ (r : AV) (H : List AObj) : AV → List AObj → Prop := fun r' H' => r' = r ∧ H' = H

section
variable {P : Program} {N B : Nat} {Q : Exit → AS → Prop} {σ : AS} {t : Tm} {H : List AObj} {K : AS → Prop} {d : Option Nat} {g : Option (Nat × Bool)}

theorem Later_def {v : AV} {H' : List AObj} : Later K t d v H' = K ⟨t.put d v, H'⟩ := rfl
theorem thenS_some {v : AV} {H' : List AObj} {L : AV → List AObj → Prop} : thenS (some (v, H')) L = L v H' := rfl
theorem SeqQ_normal {y : LCode} : SeqQ P N B y Q .normal σ = LCB P N B y Q σ := rfl
theorem SeqQ_exit {y : LCode} {i : Nat} : SeqQ P N B y Q (.exit i) σ = Q (.exit i) σ := rfl
theorem SeqQ_ret {y : LCode} : SeqQ P N B y Q .ret σ = Q .ret σ := rfl
theorem BlkQ_normal {id : Nat} : BlkQ id Q .normal σ = Q .normal σ := rfl
theorem BlkQ_exit {id i : Nat} : BlkQ id Q (.exit i) σ = if i = id then Q .normal σ else Q (.exit i) σ := rfl
theorem BlkQ_ret {id : Nat} : BlkQ id Q .ret σ = Q .ret σ := rfl
theorem LoopQ_exit {S : Type} {hd : Head S} {k i : Nat} : LoopQ N B hd k Q (.exit i) σ = Q (.exit i) σ := rfl
theorem LoopQ_ret {S : Type} {hd : Head S} {k : Nat} : LoopQ N B hd k Q .ret σ = Q .ret σ := rfl
theorem JoinQ_exit {S : Type} {hd : Head S} {i : Nat} : JoinQ N B hd Q (.exit i) σ = Q (.exit i) σ := rfl
theorem JoinQ_ret {S : Type} {hd : Head S} : JoinQ N B hd Q .ret σ = Q .ret σ := rfl
theorem CutQ_normal {st : AS} : CutQ N B st Q .normal σ = Weak B N σ st := rfl
theorem CutQ_exit {st : AS} {i : Nat} : CutQ N B st Q (.exit i) σ = Q (.exit i) σ := rfl
theorem CutQ_ret {st : AS} : CutQ N B st Q .ret σ = Q .ret σ := rfl
theorem RetQ_ret {rs : List LRes} {QF : AV → List AObj → Prop} : RetQ B rs QF .ret σ = RetOk B rs QF σ := by simp [RetQ]
theorem RetQ_normal {rs : List LRes} {QF : AV → List AObj → Prop} : RetQ B rs QF .normal σ = RetOk B rs QF σ := by simp [RetQ]

/-! ### The rules -/
theorem R.seq {x y : LCode} (h : LCB P N B x (SeqQ P N B y Q) σ) : LCB P N B (.seq x y) Q σ := LCB.seq h
theorem R.block {id : Nat} {x : LCode} (h : LCB P N B x (BlkQ id Q) σ) : LCB P N B (.block id x) Q σ := LCB.block h

/-- A loop, at whose head a frame is as it is said. -/
theorem R.loop {x : LCode} {S : Type} (hd : Head S) (s0 : S) (h0 : hd.ok s0) (hw : Weak B N σ ⟨mkT (hd.sl s0), hd.hp s0⟩)
    (hr : ∀ s, hd.ok s → LCB P N B x (LoopQ N B hd (hd.m s) Q) ⟨mkT (hd.sl s), hd.hp s⟩) : LCB P N B (.loop x) Q σ := by
  refine LCB.pre hw (LCB.loop (fun n σ => ∃ s, hd.ok s ∧ hd.m s = n ∧ σ = ⟨mkT (hd.sl s), hd.hp s⟩) (hd.m s0) ⟨s0, h0, rfl, rfl⟩ ?_)
  rintro n σ ⟨s, hs, rfl, rfl⟩
  refine LCB.post ((hr s hs).mono fun e σ' he => ?_)
  cases e with
  | normal =>
    obtain ⟨s', h1, h2, h3⟩ := he
    exact ⟨_, h3, hd.m s', h2, s', h1, rfl, rfl⟩
  | _ => exact ⟨σ', Weak.refl _ _ _, he⟩

/-- A part, behind which a frame is as it is said. -/
theorem R.join {x y : LCode} {S : Type} (hd : Head S) (h : LCB P N B x (JoinQ N B hd Q) σ) (hy : ∀ s, hd.ok s → LCB P N B y Q ⟨mkT (hd.sl s), hd.hp s⟩) : LCB P N B (.seq x y) Q σ := by
  refine LCB.seq (LCB.post (h.mono fun e σ' he => ?_))
  cases e with
  | normal =>
    obtain ⟨s, h1, h2⟩ := he
    exact ⟨_, h2, hy s h1⟩
  | _ => exact ⟨σ', Weak.refl _ _ _, he⟩

/-- A part, behind which the frame is as it is said: one way. -/
theorem R.cut {x y : LCode} (sl : List (Nat × AV)) (H' : List AObj) (h : LCB P N B x (CutQ N B ⟨mkT sl, H'⟩ Q) σ) (hy : LCB P N B y Q ⟨mkT sl, H'⟩) : LCB P N B (.seq x y) Q σ := by
  refine LCB.seq (LCB.post (h.mono fun e σ' he => ?_))
  cases e with
  | normal => exact ⟨_, he, hy⟩
  | _ => exact ⟨σ', Weak.refl _ _ _, he⟩

/-- A function. -/
theorem ACalls.go {f : FuncId} {rs : List LRes} {lc : LCode} {args : List AV} {QF : AV → List AObj → Prop} (hlow : lowFn P f = some (N, lc, rs)) (hN : args.length ≤ N)
    (h : Clean H.length H → LCB P N H.length lc (RetQ H.length rs QF) ⟨argsT args, H ++ []⟩) : ACalls P f args H QF := by
  refine ACalls.low hlow hN fun hcl => ?_
  have := h hcl
  rwa [List.append_nil] at this

/-- A guard whose flag is open. -/
theorem wpG_split {d : Option Nat} {op : LOp} {i : Nat} {b x : Bool} (h : σ.t i = .bool x) (h1 : x = true → wpG P ⟨d, op, some (i, b)⟩ K σ) (h2 : x = false → wpG P ⟨d, op, some (i, b)⟩ K σ) : wpG P ⟨d, op, some (i, b)⟩ K σ := by
  cases x
  · exact h2 rfl
  · exact h1 rfl

/-! ### Operations -/
theorem wo_call {f : Opd} {as : List Opd} : wpO P ⟨d, .call f as, g⟩ K σ = CallA P (ev σ.t f) (as.map (ev σ.t)) σ.H (Later K σ.t d) := rfl
theorem wo_mv {x : Opd} : wpO P ⟨d, .mv x, g⟩ K σ = K ⟨σ.t.put d (ev σ.t x), σ.H⟩ := rfl
theorem wo_pick {c a b : Opd} : wpO P ⟨d, .pick c a b, g⟩ K σ = thenS (match ev σ.t c with | .bool x => some (if x then ev σ.t a else ev σ.t b, σ.H) | _ => none) (Later K σ.t d) := by
  show (match (match ev σ.t c with | .bool x => some (if x then ev σ.t a else ev σ.t b) | _ => none).map fun v => (v, σ.H) with | some (v, H') => K ⟨σ.t.put d v, H'⟩ | none => False) = _
  cases ev σ.t c <;> rfl
theorem wo_alloc {z : List AV} : wpO P ⟨d, .alloc z, g⟩ K σ = K ⟨σ.t.put d (.ptr σ.H.length 1 0 0), σ.H ++ [.vec z.length [z]]⟩ := rfl
theorem wo_op {op : LOp} (h : op.isCall = false) : wpO P ⟨d, op, g⟩ K σ = thenS (stepL op σ) (Later K σ.t d) := by
  unfold wpO thenS
  split
  · rename_i hop; simp only at hop; subst hop; simp [LOp.isCall] at h
  · split
    · rename_i h1; simp only at h1; simp only [h1]; rfl
    · rename_i h1; simp only at h1; simp only [h1]
theorem wo_box {x : Opd} : wpO P ⟨d, .box x, g⟩ K σ = thenS (stepL (.box x) σ) (Later K σ.t d) := wo_op rfl
theorem wo_build {z : List AV} {ps : List (Nat × Nat × Opd)} : wpO P ⟨d, .build z ps, g⟩ K σ = thenS (stepL (.build z ps) σ) (Later K σ.t d) := wo_op rfl
theorem wo_bslice {n m : Nat} {z : List AV} {ps : List (Nat × Opd)} : wpO P ⟨d, .bslice n z m ps, g⟩ K σ = thenS (stepL (.bslice n z m ps) σ) (Later K σ.t d) := wo_op rfl
theorem wo_load {a : Bool} {n : Nat} {x : Opd} : wpO P ⟨d, .load a n x, g⟩ K σ = thenS (stepL (.load a n x) σ) (Later K σ.t d) := wo_op rfl
theorem wo_store {n : Nat} {x y : Opd} : wpO P ⟨d, .store n x y, g⟩ K σ = thenS (stepL (.store n x y) σ) (Later K σ.t d) := wo_op rfl
theorem wo_nilc {x : Opd} : wpO P ⟨d, .nilc x, g⟩ K σ = thenS (stepL (.nilc x) σ) (Later K σ.t d) := wo_op rfl
theorem wo_bin {o : BinOp} {k : EqK} {x y : Opd} : wpO P ⟨d, .bin o k x y, g⟩ K σ = thenS (stepL (.bin o k x y) σ) (Later K σ.t d) := wo_op rfl
theorem wo_not {x : Opd} : wpO P ⟨d, .not x, g⟩ K σ = thenS (stepL (.not x) σ) (Later K σ.t d) := wo_op rfl
theorem wo_neg {x : Opd} : wpO P ⟨d, .neg x, g⟩ K σ = thenS (stepL (.neg x) σ) (Later K σ.t d) := wo_op rfl
theorem wo_toInt {k : IntKind} {x : Opd} : wpO P ⟨d, .toInt k x, g⟩ K σ = thenS (stepL (.toInt k x) σ) (Later K σ.t d) := wo_op rfl
theorem wo_toStr {x : Opd} : wpO P ⟨d, .toStr x, g⟩ K σ = thenS (stepL (.toStr x) σ) (Later K σ.t d) := wo_op rfl
theorem wo_mkIface {k : TypeId} {x : Opd} : wpO P ⟨d, .mkIface k x, g⟩ K σ = thenS (stepL (.mkIface k x) σ) (Later K σ.t d) := wo_op rfl
theorem wo_mkFn {f : Fn} {a b : List Opd} : wpO P ⟨d, .mkFn f a b, g⟩ K σ = thenS (stepL (.mkFn f a b) σ) (Later K σ.t d) := wo_op rfl
theorem wo_mkMap : wpO P ⟨d, .mkMap, g⟩ K σ = thenS (stepL .mkMap σ) (Later K σ.t d) := wo_op rfl
theorem wo_mkSlice {n m : Nat} {z : List AV} {x y : Opd} : wpO P ⟨d, .mkSlice n m z x y, g⟩ K σ = thenS (stepL (.mkSlice n m z x y) σ) (Later K σ.t d) := wo_op rfl
theorem wo_sliceS {x : Opd} {a b : Option Opd} : wpO P ⟨d, .sliceS x a b, g⟩ K σ = thenS (stepL (.sliceS x a b) σ) (Later K σ.t d) := wo_op rfl
theorem wo_slice {n : Nat} {x : Opd} {a b c : Option Opd} : wpO P ⟨d, .slice n x a b c, g⟩ K σ = thenS (stepL (.slice n x a b c) σ) (Later K σ.t d) := wo_op rfl
theorem wo_faddr {n : Nat} {x : Opd} : wpO P ⟨d, .faddr n x, g⟩ K σ = thenS (stepL (.faddr n x) σ) (Later K σ.t d) := wo_op rfl
theorem wo_field {a : Bool} {n m : Nat} {x : Opd} : wpO P ⟨d, .field a n m x, g⟩ K σ = thenS (stepL (.field a n m x) σ) (Later K σ.t d) := wo_op rfl
theorem wo_iaddrS {n : Nat} {x y : Opd} : wpO P ⟨d, .iaddrS n x y, g⟩ K σ = thenS (stepL (.iaddrS n x y) σ) (Later K σ.t d) := wo_op rfl
theorem wo_iaddrA {n m : Nat} {x y : Opd} : wpO P ⟨d, .iaddrA n m x y, g⟩ K σ = thenS (stepL (.iaddrA n m x y) σ) (Later K σ.t d) := wo_op rfl
theorem wo_idxA {n m : Nat} {a : Bool} {x y : Opd} : wpO P ⟨d, .idxA n a m x y, g⟩ K σ = thenS (stepL (.idxA n a m x y) σ) (Later K σ.t d) := wo_op rfl
theorem wo_idxS {x y : Opd} : wpO P ⟨d, .idxS x y, g⟩ K σ = thenS (stepL (.idxS x y) σ) (Later K σ.t d) := wo_op rfl
theorem wo_lookup {z : AV} {x y : Opd} {a : Bool} : wpO P ⟨d, .lookup z x y a, g⟩ K σ = thenS (stepL (.lookup z x y a) σ) (Later K σ.t d) := wo_op rfl
theorem wo_mapSet {x y z : Opd} : wpO P ⟨d, .mapSet x y z, g⟩ K σ = thenS (stepL (.mapSet x y z) σ) (Later K σ.t d) := wo_op rfl
theorem wo_range {x : Opd} : wpO P ⟨d, .range x, g⟩ K σ = thenS (stepL (.range x) σ) (Later K σ.t d) := wo_op rfl
theorem wo_next {x : Opd} : wpO P ⟨d, .next x, g⟩ K σ = thenS (stepL (.next x) σ) (Later K σ.t d) := wo_op rfl
theorem wo_extract {x : Opd} {n : Nat} : wpO P ⟨d, .extract x n, g⟩ K σ = thenS (stepL (.extract x n) σ) (Later K σ.t d) := wo_op rfl
theorem wo_len {k : LenK} {x : Opd} : wpO P ⟨d, .len k x, g⟩ K σ = thenS (stepL (.len k x) σ) (Later K σ.t d) := wo_op rfl
theorem wo_min {l : List Opd} : wpO P ⟨d, .min l, g⟩ K σ = thenS (stepL (.min l) σ) (Later K σ.t d) := wo_op rfl
theorem wo_max {l : List Opd} : wpO P ⟨d, .max l, g⟩ K σ = thenS (stepL (.max l) σ) (Later K σ.t d) := wo_op rfl
theorem wo_append {n m : Nat} {x y : Opd} : wpO P ⟨d, .append n m x y, g⟩ K σ = thenS (stepL (.append n m x y) σ) (Later K σ.t d) := wo_op rfl
theorem wo_appendS {x y : Opd} : wpO P ⟨d, .appendS x y, g⟩ K σ = thenS (stepL (.appendS x y) σ) (Later K σ.t d) := wo_op rfl
theorem wo_copy {n : Nat} {x y : Opd} : wpO P ⟨d, .copy n x y, g⟩ K σ = thenS (stepL (.copy n x y) σ) (Later K σ.t d) := wo_op rfl

theorem wg_none {op : LOp} : wpG P ⟨d, op, none⟩ K σ = wpO P ⟨d, op, none⟩ K σ := rfl

/-! ### Values -/
variable {k : IntKind} {a b : Int} {q : EqK} {s u : ByteArray} {x y : Bool}
theorem bin_add : binA .add q (.int k a) (.int k b) = some (.int k (k.wrap (a + b))) := by simp [binA, arith]
theorem bin_sub : binA .sub q (.int k a) (.int k b) = some (.int k (k.wrap (a - b))) := by simp [binA, arith]
theorem bin_mul : binA .mul q (.int k a) (.int k b) = some (.int k (k.wrap (a * b))) := by simp [binA, arith]
theorem bin_quo : binA .quo q (.int k a) (.int k b) = if b = 0 then none else some (.int k (k.wrap (a.tdiv b))) := by simp [binA, arith]
theorem bin_rem : binA .rem q (.int k a) (.int k b) = if b = 0 then none else some (.int k (a.tmod b)) := by simp [binA, arith]
theorem bin_and : binA .and q (.int k a) (.int k b) = some (.int k (bits .and k a b)) := by simp [binA, arith]
theorem bin_or : binA .or q (.int k a) (.int k b) = some (.int k (bits .or k a b)) := by simp [binA, arith]
theorem bin_xor : binA .xor q (.int k a) (.int k b) = some (.int k (bits .xor k a b)) := by simp [binA, arith]
theorem bin_eql : binA .eql q (.int k a) (.int k b) = some (.bool (decide (a = b))) := by simp [binA, arith, BEq.beq]
theorem bin_neq : binA .neq q (.int k a) (.int k b) = some (.bool (!decide (a = b))) := by simp [binA, arith, bne, BEq.beq]
theorem bin_lss : binA .lss q (.int k a) (.int k b) = some (.bool (decide (a < b))) := by simp [binA, arith]
theorem bin_leq : binA .leq q (.int k a) (.int k b) = some (.bool (decide (a ≤ b))) := by simp [binA, arith]
theorem bin_gtr : binA .gtr q (.int k a) (.int k b) = some (.bool (decide (b < a))) := by simp [binA, arith]
theorem bin_geq : binA .geq q (.int k a) (.int k b) = some (.bool (decide (b ≤ a))) := by simp [binA, arith]
theorem bin_shl : binA .shl q (.int k a) (.int k b) = if b < 0 then none else some (.int k (k.wrap (a * 2 ^ (min b.toNat k.bits)))) := rfl
theorem bin_shr : binA .shr q (.int k a) (.int k b) = if b < 0 then none else some (.int k (a.fdiv (2 ^ (min b.toNat k.bits)))) := rfl
theorem bin_sadd : binA .add q (.str s) (.str u) = if 9223372036854775807 < s.size + u.size then none else some (.str (s ++ u)) := by
  have e : (((s.size + u.size : Nat) : Int) > IntKind.i64.max) = (9223372036854775807 < s.size + u.size) := propext (by
    have : IntKind.i64.max = 9223372036854775807 := rfl
    rw [this]
    omega)
  simp only [binA]
  split <;> rename_i h
  · rw [if_pos (e ▸ h)]
  · rw [if_neg (e ▸ h)]
theorem beq_dec (s u : ByteArray) : (s == u) = decide (s = u) := by
  obtain ⟨a⟩ := s
  obtain ⟨b⟩ := u
  show (ByteArray.beq _ _) = _
  unfold ByteArray.beq
  rw [Bool.eq_iff_iff]
  simp
theorem bin_seql : binA .eql q (.str s) (.str u) = some (.bool (decide (s = u))) := by rw [← beq_dec]; rfl
theorem bin_sneq : binA .neq q (.str s) (.str u) = some (.bool (!decide (s = u))) := by rw [← beq_dec]; rfl
theorem bin_beql : binA .eql .bool (.bool x) (.bool y) = some (.bool (x == y)) := rfl
theorem bin_bneq : binA .neq .bool (.bool x) (.bool y) = some (.bool (!(x == y))) := rfl
theorem bin_aeql {as bs : List AV} {ks : List EqB} : binA .eql (.cells ks) (.agg as) (.agg bs) = (eqCells ks as bs).map .bool := rfl
theorem bin_aneq {as bs : List AV} {ks : List EqB} : binA .neq (.cells ks) (.agg as) (.agg bs) = (eqCells ks as bs).map fun x => .bool (!x) := rfl
theorem bin_feql {f : Fn} {as bs : List AV} : binA .eql .func (.fn f as bs) (.imm .nilFunc) = some (.bool false) := rfl
theorem bin_fneq {f : Fn} {as bs : List AV} : binA .neq .func (.fn f as bs) (.imm .nilFunc) = some (.bool true) := rfl
theorem bin_neql : binA .eql .func (.imm .nilFunc) (.imm .nilFunc) = some (.bool true) := rfl
theorem bin_nneq : binA .neq .func (.imm .nilFunc) (.imm .nilFunc) = some (.bool false) := rfl
theorem eqc_nil : eqCells [] [] [] = some true := rfl
theorem eqc_cons {e : EqB} {es : List EqB} {v w : AV} {vs ws : List AV} : eqCells (e :: es) (v :: vs) (w :: ws) = (eqCell e v w).bind fun x => (eqCells es vs ws).map fun y => x && y := rfl
theorem eqc_i : eqCell .i (.int k a) (.int k b) = some (decide (a = b)) := by simp [eqCell, BEq.beq]
theorem eqc_b : eqCell .b (.bool x) (.bool y) = some (x == y) := rfl
theorem eqc_s : eqCell .s (.str s) (.str u) = some (decide (s = u)) := by rw [← beq_dec]; rfl

theorem i_nn (n : Nat) : ((0 : Int) ≤ (n : Int)) = True := by simp
theorem maxLen_def : maxLen = 9223372036854775807 := rfl
theorem hl_lt (n a b : Nat) : (n + a < n + b) = (a < b) := by simp
theorem hl_lt0 (n b : Nat) : (n < n + b) = (0 < b) := by simp
theorem hl_le (n a b : Nat) : (n + a ≤ n + b) = (a ≤ b) := by simp
theorem hl_le0 (n b : Nat) : (n ≤ n + b) = True := by simp
theorem hl_ler (n : Nat) : (n ≤ n) = True := by simp
end

/-! ### To say less, by equations -/
section
variable {H : List AObj} {m : Nat}
def rowsClean (ys : List (List AV)) : Prop := ∀ r ∈ ys, cleanAll 0 r = true

theorem vw_dead {a : AV} : View H m a .dead = True := eq_true (.dead a)
theorem vw_int {k k' : IntKind} {a b : Int} : View H m (.int k a) (.int k' b) = (k = k' ∧ a = b) := propext ⟨fun h => by cases h; exact ⟨rfl, rfl⟩, fun ⟨h1, h2⟩ => by subst h1; subst h2; exact .same _ rfl⟩
theorem vw_bool {a b : Bool} : View H m (.bool a) (.bool b) = (a = b) := propext ⟨fun h => by cases h; rfl, fun h => by subst h; exact .same _ rfl⟩
theorem vw_str {a b : ByteArray} : View H m (.str a) (.str b) = (a = b) := propext ⟨fun h => by cases h; rfl, fun h => by subst h; exact .same _ rfl⟩
theorem vw_imm {a b : Value} : View H m (.imm a) (.imm b) = (a = b) := propext ⟨fun h => by cases h; rfl, fun h => by subst h; exact .same _ rfl⟩
theorem vw_list {a b : List (List AV)} : View H m (.list a) (.list b) = (a = b) := propext ⟨fun h => by cases h; rfl, fun h => by subst h; exact .same _ rfl⟩
theorem vw_nil {b : List (List AV)} : View H m (.imm (.slice none 0 0)) (.list b) = (b = []) := propext ⟨fun h => by cases h; rfl, fun h => by subst h; exact .nil⟩
theorem vw_lptr {r r' : List AV} {o o' : Nat} : View H m (.lptr r o) (.lptr r' o') = (r = r' ∧ o = o') := propext ⟨fun h => by cases h; exact ⟨rfl, rfl⟩, fun ⟨h1, h2⟩ => by subst h1; subst h2; exact .same _ rfl⟩
theorem vw_ptr {k n i o k' n' i' o' : Nat} : View H m (.ptr k n i o) (.ptr k' n' i' o') = ((k = k' ∧ n = n' ∧ i = i' ∧ o = o') ∧ k < m) := propext ⟨fun h => by
  cases h with
  | same _ h => exact ⟨⟨rfl, rfl, rfl, rfl⟩, by simpa [AV.clean] using h⟩, fun ⟨⟨h1, h2, h3, h4⟩, h5⟩ => by subst h1 h2 h3 h4; exact .same _ (by simpa [AV.clean] using h5)⟩
theorem vw_iter {k k' : Nat} : View H m (.iter k) (.iter k') = (k = k' ∧ k < m) := propext ⟨fun h => by
  cases h with
  | same _ h => exact ⟨rfl, by simpa [AV.clean] using h⟩, fun ⟨h1, h5⟩ => by subst h1; exact .same _ (by simpa [AV.clean] using h5)⟩
theorem vw_map {k k' : Nat} : View H m (.map k) (.map k') = (k = k' ∧ k < m) := propext ⟨fun h => by
  cases h with
  | same _ h => exact ⟨rfl, by simpa [AV.clean] using h⟩, fun ⟨h1, h5⟩ => by subst h1; exact .same _ (by simpa [AV.clean] using h5)⟩
theorem vw_sl {z k n o l z' k' n' o' l' : Nat} : View H m (.sl z k n o l) (.sl z' k' n' o' l') = ((z = z' ∧ k = k' ∧ n = n' ∧ o = o' ∧ l = l') ∧ k < m) := propext ⟨fun h => by
  cases h with
  | same _ h => exact ⟨⟨rfl, rfl, rfl, rfl, rfl⟩, by simpa [AV.clean] using h⟩, fun ⟨⟨h1, h2, h3, h4, h5⟩, h6⟩ => by subst h1 h2 h3 h4 h5; exact .same _ (by simpa [AV.clean] using h6)⟩
theorem vw_fn {f : Fn} {as bs : List AV} (h : cleanAll m as = true ∧ cleanAll m bs = true) : View H m (.fn f as bs) (.fn f as bs) = True := eq_true (.same _ (by simp [AV.clean, h]))
theorem vw_iface {t : TypeId} {a : AV} (h : a.clean m = true) : View H m (.iface t a) (.iface t a) = True := eq_true (.same _ (by simp [AV.clean, h]))
theorem vw_slist {z k n o l : Nat} {ys : List (List AV)} : View H m (.sl z k n o l) (.list ys) = (m ≤ k ∧ match H[k]? with | some (.vec z' xs) => z' = z ∧ n = xs.length ∧ ys = (xs.drop o).take l ∧ rowsClean ys | _ => False) := propext ⟨fun h => by
  cases h with
  | sl _ _ _ _ _ xs _ h1 h2 h3 h4 h5 =>
    refine ⟨h1, ?_⟩
    rw [h2]
    refine ⟨rfl, h3, h4, fun r hr => cleanAll_iff.2 fun j a ha => ?_⟩
    obtain ⟨i, hi⟩ := List.getElem?_of_mem hr
    exact h5 i j a (by simp [cellAt, hi, ha]), fun ⟨h1, h2⟩ => by
  split at h2
  · rename_i z' xs hk
    obtain ⟨rfl, h3, h4, h5⟩ := h2
    exact .sl _ _ _ _ _ xs _ h1 hk h3 h4 fun i j a ha => by
      simp only [cellAt, Option.bind_eq_some_iff] at ha
      obtain ⟨r, h6, h7⟩ := ha
      exact cleanAll_iff.1 (h5 r (List.mem_of_getElem? h6)) j a h7
  · exact h2.elim⟩
theorem Views.of_same : ∀ {as : List AV}, cleanAll m as = true → Views H m as as
  | [], _ => .nil
  | a :: r, h => by
    simp only [cleanAll, Bool.and_eq_true] at h
    exact .cons _ _ _ _ (.same _ h.1) (Views.of_same h.2)
theorem vw_agg {as bs : List AV} : View H m (.agg as) (.agg bs) = Views H m as bs := propext ⟨fun h => by
  cases h with
  | same _ h => exact Views.of_same (by simpa [AV.clean] using h)
  | agg _ _ h => exact h, fun h => .agg _ _ h⟩
theorem vw_tup {as bs : List AV} : View H m (.tup as) (.tup bs) = Views H m as bs := propext ⟨fun h => by
  cases h with
  | same _ h => exact Views.of_same (by simpa [AV.clean] using h)
  | tup _ _ h => exact h, fun h => .tup _ _ h⟩
theorem vws_nil : Views H m [] [] = True := eq_true .nil
theorem vws_cons {a b : AV} {as bs : List AV} : Views H m (a :: as) (b :: bs) = (View H m a b ∧ Views H m as bs) := propext ⟨fun h => by
  cases h with
  | cons _ _ _ _ h1 h2 => exact ⟨h1, h2⟩, fun ⟨h1, h2⟩ => .cons _ _ _ _ h1 h2⟩
theorem vws_same {as : List AV} (h : cleanAll m as = true) : Views H m as as = True := eq_true (Views.of_same h)

theorem cl_ptr {k n i o : Nat} : (AV.ptr k n i o).clean m = decide (k < m) := rfl
theorem cl_int {k : IntKind} {n : Int} : (AV.int k n).clean m = true := rfl
theorem cl_bool {b : Bool} : (AV.bool b).clean m = true := rfl
theorem cl_str {s : ByteArray} : (AV.str s).clean m = true := rfl
theorem cl_imm {v : Value} : (AV.imm v).clean m = true := rfl
theorem cl_list {xs : List (List AV)} : (AV.list xs).clean m = true := rfl
theorem cl_lptr {r : List AV} {o : Nat} : (AV.lptr r o).clean m = true := rfl
theorem cl_dead : AV.dead.clean m = true := rfl
theorem cl_sl {a k b c d : Nat} : (AV.sl a k b c d).clean m = decide (k < m) := rfl
theorem cl_iter {k : Nat} : (AV.iter k).clean m = decide (k < m) := rfl
theorem cl_map {k : Nat} : (AV.map k).clean m = decide (k < m) := rfl
theorem cl_agg {l : List AV} : (AV.agg l).clean m = cleanAll m l := rfl
theorem cl_tup {l : List AV} : (AV.tup l).clean m = cleanAll m l := rfl
theorem cl_iface {t : TypeId} {a : AV} : (AV.iface t a).clean m = a.clean m := rfl
theorem cl_fn {f : Fn} {a b : List AV} : (AV.fn f a b).clean m = (cleanAll m a && cleanAll m b) := rfl
theorem cl_nil : cleanAll m [] = true := rfl
theorem cl_cons {a : AV} {r : List AV} : cleanAll m (a :: r) = (a.clean m && cleanAll m r) := rfl
theorem cls_nil : Clean m [] = True := eq_true Clean.nil
theorem cls_cons {o : AObj} {L : List AObj} : Clean m (o :: L) = (o.clean m ∧ Clean m L) := propext ⟨fun h => ⟨h 0 o rfl, fun k p hk => h (k + 1) p (by simpa using hk)⟩, fun ⟨h1, h2⟩ => Clean.cons h1 h2⟩
theorem clo_vec {z : Nat} {xs : List (List AV)} : (AObj.vec z xs).clean m = ∀ r ∈ xs, cleanAll m r = true := propext ⟨fun h r hr => cleanAll_iff.2 fun j a ha => by
  obtain ⟨i, hi⟩ := List.getElem?_of_mem hr
  exact h i j a (by simp [cellAt, hi, ha]), fun h => vec_clean h⟩
theorem clo_iter {s : ByteArray} {p : Nat} : (AObj.iter s p).clean m = True := rfl
theorem clo_gone : (AObj.gone).clean m = True := rfl
theorem clo_map {es : List (AV × AV)} : (AObj.map es).clean m = ∀ p ∈ es, p.1.clean m = true ∧ p.2.clean m = true := propext ⟨fun h p hp => by
  obtain ⟨i, hi⟩ := List.getElem?_of_mem hp
  exact h i p hi, fun h i p hp => h p (List.mem_of_getElem? hp)⟩
theorem rc_def {ys : List (List AV)} : rowsClean ys = ∀ r ∈ ys, cleanAll 0 r = true := rfl
end

section
variable {P : Program} {N B : Nat} {t : Tm} {H : List AObj}

/-- A state as it is said. -/
theorem Weak.at {sl : List (Nat × AV)} {L L' : List AObj} (hH : Clean H.length H) (h : L.take L'.length = L' ∧ B ≤ H.length + L'.length ∧ Clean (H.length + L'.length) L' ∧ ∀ p ∈ sl, View (H ++ L) (H.length + L'.length) (t p.1) p.2) : Weak B N ⟨t, H ++ L⟩ ⟨mkT sl, H ++ L'⟩ := by
  obtain ⟨h1, h2, h3, h4⟩ := h
  have hT : ∀ n, View (H ++ L) (H.length + L'.length) (t n) (mkT sl n) := fun n => by
    clear h3
    induction sl with
    | nil => exact .dead _
    | cons p r ih =>
      obtain ⟨k, v⟩ := p
      rw [mkT_cons]
      split
      · rename_i e; subst e; exact h4 (n, v) (by simp)
      · exact ih fun p hp => h4 p (by simp [hp])
  have := Weak.take (B := B) (N := N) (σ := ⟨t, H ++ L⟩) (t' := mkT sl) (H.length + L'.length) h2 (by show Clean _ ((H ++ L).take _); rw [hp_take, h1]; exact (hH.le (by omega)).app h3) hT
  rwa [show (AS.mk t (H ++ L)).H.take (H.length + L'.length) = H ++ L' from by show (H ++ L).take _ = _; rw [hp_take, h1]] at this

/-- nil becomes a slice that can grow. -/
theorem Weak.growAt {L : List AObj} (s sz : Nat) (h0 : 0 < sz) (hs : t s = .imm (.slice none 0 0)) : Weak B N ⟨t, H ++ L⟩ ⟨t.put (some s) (.sl sz (H.length + L.length) 0 0 0), H ++ (L ++ [.vec sz []])⟩ := by
  have := Weak.grow (B := B) (N := N) (σ := ⟨t, H ++ L⟩) s sz h0 hs
  simpa using this

/-- What a function hands back that only answers. -/
theorem RetOk.val {L : List AObj} {rs : List LRes} {r : AV} (hcl : Clean H.length H) (h : match resE ⟨t, H ++ L⟩ rs with | some l => View (H ++ L) H.length (resV l) r | none => False) : RetOk H.length rs (PureQ r H) ⟨t, H ++ L⟩ := by
  split at h
  · rename_i l hl
    exact RetOk.pure hcl hl h ⟨rfl, rfl⟩
  · exact h.elim

/-- What a function hands back. -/
theorem RetOk.fin {L : List AObj} {rs : List LRes} {QF : AV → List AObj → Prop} (L' : List AObj) (r : AV) (hcl : Clean H.length H) (h : L.take L'.length = L' ∧ Clean (H.length + L'.length) L') (hv : match resE ⟨t, H ++ L⟩ rs with | some l => View (H ++ L) (H.length + L'.length) (resV l) r | none => False) (hq : QF r (H ++ L')) : RetOk H.length rs QF ⟨t, H ++ L⟩ := by
  split at hv
  · rename_i l hl
    refine ⟨l, H.length + L'.length, r, hl, by omega, ?_, hv, ?_⟩
    · show Clean _ ((H ++ L).take _); rw [hp_take, h.1]; exact (hcl.le (by omega)).app h.2
    · show QF r ((H ++ L).take _); rw [hp_take, h.1]; exact hq
  · exact hv.elim

theorem re_nil {σ : AS} : resE σ [] = some [] := rfl
theorem re_tmp {σ : AS} {n : Nat} {r : List LRes} : resE σ (.tmp n :: r) = (resE σ r).map fun l => σ.t n :: l := rfl
theorem re_cell {σ : AS} {n z : Nat} {a : Bool} {r : List LRes} : resE σ (.cell n a z :: r) = (rowOf σ.H (σ.t n)).bind fun p => (partA a z p.2 p.1).bind fun v => (resE σ r).map fun l => v :: l := rfl
theorem rv_one {v : AV} : resV [v] = v := rfl
theorem rv_two {v w : AV} {l : List AV} : resV (v :: w :: l) = .tup (v :: w :: l) := rfl

/-! ### Calls that are known -/
class PureC (P : Program) (f : FuncId) (args : List AV) (r : outParam AV) : Prop where
  ok : Pure P f args r

theorem ACalls.inst {f : FuncId} {args : List AV} {r : AV} {K : AV → List AObj → Prop} [h : PureC P f args r] (hk : K r H) : ACalls P f args H K := ACalls.pure h.ok hk
end
end Go.Proofs.YtoiceinjademgaaDoor
