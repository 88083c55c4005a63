/-
  The abstract layer, part 21: states that say less; the rules of code; functions.
-/
import Derived.Test.YtoiceinjademgaaDoorC2
namespace Go.Proofs.YtoiceinjademgaaDoor
open Go.RowKit
set_option linter.unusedVariables false
set_option linter.unusedSimpArgs false

/-! ### To say less of a value, the objects from m on forgotten -/
mutual
inductive View (H : List AObj) (m : Nat) : AV → AV → Prop where
  | same (a : AV) (h : a.clean m = true) : View H m a a
  | dead (a : AV) : View H m a .dead
  | nil : View H m (.imm (.slice none 0 0)) (.list [])
  | sl (sz k n off len : Nat) (xs ys : List (List AV)) (hm : m ≤ k) (hk : H[k]? = some (.vec sz xs)) (hn : n = xs.length) (hys : ys = (xs.drop off).take len) (hcl : ∀ (i j : Nat) (a : AV), cellAt ys i j = some a → a.clean 0 = true) : View H m (.sl sz k n off len) (.list ys)
  | agg (as bs : List AV) (h : Views H m as bs) : View H m (.agg as) (.agg bs)
  | tup (as bs : List AV) (h : Views H m as bs) : View H m (.tup as) (.tup bs)
inductive Views (H : List AObj) (m : Nat) : List AV → List AV → Prop where
  | nil : Views H m [] []
  | cons (a b : AV) (as bs : List AV) (h : View H m a b) (hs : Views H m as bs) : Views H m (a :: as) (b :: bs)
end

theorem view_sl {c : Cx} (hH : RepH c) {m sz k n off len : Nat} {xs ys : List (List AV)} (hm : m ≤ k) (hk : c.H[k]? = some (.vec sz xs)) (hn : n = xs.length) (hys : ys = (xs.drop off).take len) (hcl : ∀ (i j : Nat) (a : AV), cellAt ys i j = some a → a.clean 0 = true)
    {v : Value} (hv : RepV c (.sl sz k n off len) v) : RepV (c.take m) (.list ys) v := by
  obtain ⟨h0, hrows, hlen, hobj⟩ := hH.obj k _ hk
  cases hv with
  | sl _ _ _ _ _ A cap hk' hclc hA hn' hval =>
    obtain ⟨hle, hdis⟩ := hval xs hk hn
    have hyl : ys.length = len := by rw [hys]; simp; omega
    by_cases hz : len = 0
    · subst hz
      have : ys = [] := List.eq_nil_of_length_eq_zero hyl
      subst this
      exact .lnil A cap
    · rcases hdis with ⟨b, hb, rfl, _⟩ | ⟨h1, _⟩
      · rw [hb] at hobj
        obtain ⟨cs, el, fr, g1, g2, g3, g4⟩ := hobj
        have hcell : ∀ (i j : Nat) (a : AV), cellAt ys i j = some a → cellAt xs (off + i) j = some a := fun i j a ha => by
          rw [hys] at ha
          simp only [cellAt, List.getElem?_take] at ha ⊢
          split at ha
          · rwa [List.getElem?_drop] at ha
          · simp at ha
        have hnw : ¬ (c.take m).wr b := fun ⟨j, o, h1, h2, h3⟩ => by
          obtain ⟨h4, h5⟩ := get_take h1
          have := hH.inj j k o _ b h5 hk h2 rfl h3 hb
          omega
        have := RepV.list (c := c.take m) sz ys b (off * sz) cap (fun i j => cs.getD ((off + i) * sz + j) undef) h0 (fun e => by rw [e] at hyl; simp at hyl; omega) (fun r hr => hrows r (by rw [hys] at hr; exact List.mem_of_mem_drop (List.mem_of_mem_take hr))) (by omega) (by omega) hnw hcl
          (fun i j a ha => by
            obtain ⟨_, _, h3⟩ := cellAt_lt hrows (hcell i j a ha)
            have hlt : (off + i) * sz + j < cs.size := by omega
            have e : off * sz + (i * sz + j) = (off + i) * sz + j := by rw [Nat.add_mul]; omega
            show c.w.cell? _ = _
            simp [World.cell?, g1, e, hlt])
          (fun i j a ha => (g4 _ _ a (hcell i j a ha)).take (AV.clean_mono (Nat.zero_le m) (g4 _ _ a (hcell i j a ha)) (hcl i j a ha)))
        rwa [hyl] at this
      · exact absurd h1 hz

mutual
theorem view_sound {c : Cx} (hH : RepH c) {m : Nat} : ∀ {a b : AV}, View c.H m a b → ∀ {v : Value}, RepV c a v → RepV (c.take m) b v
  | _, _, .same a h, v, hv => hv.take h
  | _, _, .dead a, v, hv => .dead v
  | _, _, .nil, v, hv => by rw [hv.imm_inv]; exact .lnil _ _
  | _, _, .sl sz k n off len xs ys hm hk hn hys hcl, v, hv => view_sl hH hm hk hn hys hcl hv
  | _, _, .agg as bs h, v, hv => by
    obtain ⟨vs, rfl, h1, h2⟩ := hv.agg_inv
    obtain ⟨h3, h4⟩ := views_sound hH h
    exact .agg bs vs (by rw [h1, h3]) fun i b hb => h4 i b hb _ h2
  | _, _, .tup as bs h, v, hv => by
    obtain ⟨vs, rfl, h1, h2⟩ := hv.tup_inv
    obtain ⟨h3, h4⟩ := views_sound hH h
    exact .tup bs vs (by rw [h1, h3]) fun i b hb => h4 i b hb _ h2
theorem views_sound {c : Cx} (hH : RepH c) {m : Nat} : ∀ {as bs : List AV}, Views c.H m as bs → as.length = bs.length ∧ ∀ (i : Nat) (b : AV), bs[i]? = some b → ∀ (vs : Array Value), (∀ (i : Nat) (a : AV), as[i]? = some a → RepV c a (vs.getD i undef)) → RepV (c.take m) b (vs.getD i undef)
  | _, _, .nil => ⟨rfl, fun i b hb => by simp at hb⟩
  | _, _, .cons a b as bs h hs => by
    obtain ⟨h1, h2⟩ := views_sound hH hs
    refine ⟨by simp [h1], fun i x hx vs hvs => ?_⟩
    cases i with
    | zero =>
      simp only [List.getElem?_cons_zero, Option.some.injEq] at hx
      subst hx
      exact view_sound hH h (hvs 0 a rfl)
    | succ i =>
      have hx' : bs[i]? = some x := by simpa using hx
      have := h2 i x hx' (vs.extract 1 vs.size) (fun j a' ha => by
        have := hvs (j + 1) a' (by simpa using ha)
        have e : (vs.extract 1 vs.size).getD j undef = vs.getD (j + 1) undef := by
          simp only [Array.getD_eq_getD_getElem?, Array.getElem?_extract]
          by_cases hl : j < vs.size - 1
          · rw [if_pos (by omega), Nat.add_comm]
          · rw [if_neg (by omega), Array.getElem?_eq_none (by omega)]
        rw [e]; exact this)
      have e : (vs.extract 1 vs.size).getD i undef = vs.getD (i + 1) undef := by
        simp only [Array.getD_eq_getD_getElem?, Array.getElem?_extract]
        by_cases hl : i < vs.size - 1
        · rw [if_pos (by omega), Nat.add_comm]
        · rw [if_neg (by omega), Array.getElem?_eq_none (by omega)]
      rwa [e] at this
end

/-! ### States that say less -/
def Weak (B N : Nat) (σ σ' : AS) : Prop := ∀ ι a w, RepS N ι σ a w → ∃ ι', RepS N ι' σ' a w ∧ ∀ c0 : Cx, c0.H.length ≤ B → Fr c0 ⟨ι, σ.H, w⟩ → Fr c0 ⟨ι', σ'.H, w⟩

theorem Weak.refl (B N : Nat) (σ : AS) : Weak B N σ σ := fun ι _ _ h => ⟨ι, h, fun _ _ h => h⟩
theorem Weak.trans {B N : Nat} {a b c : AS} (h : Weak B N a b) (k : Weak B N b c) : Weak B N a c := fun ι x w hs => by
  obtain ⟨ι1, h1, h2⟩ := h ι x w hs
  obtain ⟨ι2, k1, k2⟩ := k ι1 x w h1
  exact ⟨ι2, k1, fun c0 hb hf => k2 c0 hb (h2 c0 hb hf)⟩

/-- The objects from m on are forgotten. -/
theorem Weak.take {B N : Nat} {σ : AS} {t' : Tm} (m : Nat) (hm : B ≤ m) (hc : Clean m (σ.H.take m)) (ht : ∀ n, View σ.H m (σ.t n) (t' n)) : Weak B N σ ⟨t', σ.H.take m⟩ := fun ι a w hs =>
  ⟨ι, ⟨hs.h.take hc, ⟨hs.t.size, fun n => view_sound hs.h (ht n) (hs.t.val n), hs.t.defers⟩⟩, fun c0 hb hf => hf.take (by omega)⟩

/-- nil becomes a slice that can grow. -/
theorem Weak.grow {B N : Nat} {σ : AS} (s sz : Nat) (h0 : 0 < sz) (hs : σ.t s = .imm (.slice none 0 0)) : Weak B N σ ⟨σ.t.put (some s) (.sl sz σ.H.length 0 0 0), σ.H ++ [.vec sz []]⟩ := fun ι a w hr => by
  have hf : Fr ⟨ι, σ.H, w⟩ (Cx.push ⟨ι, σ.H, w⟩ (.vec sz []) none w) := Fr.push rfl rfl rfl (Nat.le_refl _) (fun _ _ => rfl) (fun b e => by cases e) hr.h.lt
  have hR : RepH (Cx.push ⟨ι, σ.H, w⟩ (.vec sz []) none w) := hr.h.push rfl rfl rfl (Nat.le_refl _) (fun _ _ => rfl) (fun b e => by cases e) ⟨h0, by simp, by simp, by rw [push_ι (c := ⟨ι, σ.H, w⟩)]⟩
  refine ⟨_, ⟨hR, ⟨hr.t.size, fun n => ?_, hr.t.defers⟩⟩, fun c0 hb hf0 => hf0.trans hf⟩
  by_cases e : n = s
  · subst e
    simp only [Tm.put, if_true]
    have := hr.t.val n
    rw [hs] at this
    rw [this.imm_inv]
    refine .sl _ _ _ _ _ _ _ (by simp) (Nat.le_refl _) (fun h => by simp at h) (fun sz' ys hx => ?_) (fun ys hx hn => ⟨by simp, .inr ⟨rfl, rfl⟩⟩)
    simp at hx
    exact ⟨hx.1.symm, by simp⟩
  · simp only [Tm.put, e, if_false]
    exact (hr.t.val n).mono hf

/-! ### The rules of code -/
def LCB (P : Program) (N B : Nat) (lc : LCode) (Q : Exit → AS → Prop) (σ : AS) : Prop :=
  ∀ code, lowCode P N code = lc → ∀ c0 ι a w, c0.H.length ≤ B → RepS N ι σ a w → Fr c0 ⟨ι, σ.H, w⟩ → code.wp P (Good c0 N Q) a w

section
variable {P : Program} {N B : Nat} {Q : Exit → AS → Prop} {σ : AS}

theorem LCB.of {lc : LCode} (h : LC P N lc Q σ) : LCB P N B lc Q σ := fun code hc c0 ι a w _ hs hf => h code hc c0 ι a w hs hf

theorem LCB.mono {lc : LCode} {Q' : Exit → AS → Prop} (h : LCB P N B lc Q σ) (hq : ∀ e σ, Q e σ → Q' e σ) : LCB P N B lc Q' σ := fun code hc c0 ι a w hb hs hf =>
  wp_mono (h code hc c0 ι a w hb hs hf) fun e a w ⟨h0, σ', ι', h1, h2, h3⟩ => ⟨h0, σ', ι', h1, h2, hq _ _ h3⟩

theorem LCB.pre {lc : LCode} {σ' : AS} (hw : Weak B N σ σ') (h : LCB P N B lc Q σ') : LCB P N B lc Q σ := fun code hc c0 ι a w hb hs hf => by
  obtain ⟨ι', h1, h2⟩ := hw ι a w hs
  exact h code hc c0 ι' a w hb h1 (h2 c0 hb hf)

theorem LCB.post {lc : LCode} (h : LCB P N B lc (fun e σ' => ∃ σ'', Weak B N σ' σ'' ∧ Q e σ'') σ) : LCB P N B lc Q σ := fun code hc c0 ι a w hb hs hf =>
  wp_mono (h code hc c0 ι a w hb hs hf) fun e a w ⟨h0, σ', ι', h1, h2, σ'', h3, h4⟩ => by
    obtain ⟨ι2, g1, g2⟩ := h3 ι' a w h1
    exact ⟨h0, σ'', ι2, g1, g2 c0 hb h2, h4⟩

theorem LCB.skip (h : Q .normal σ) : LCB P N B .skip Q σ := fun code hc c0 ι a w _ hs hf => by
  cases code with
  | skip => exact wp_skip ⟨trivial, σ, ι, hs, hf, h⟩
  | label l => exact wp_label ⟨trivial, σ, ι, hs, hf, h⟩
  | region id ops d => cases d <;> simp [lowCode] at hc; split at hc <;> simp at hc
  | _ => simp [lowCode] at hc

theorem LCB.text {l : List LOper} (h : wpL P l (Q .normal) σ) : LCB P N B (.text l) Q σ := fun code hc c0 ι a w _ hs hf => by
  cases code with
  | region id ops d =>
    cases d with
    | false =>
      simp only [lowCode, LCode.text.injEq] at hc
      subst hc
      exact wp_region_list (wpL_sound ops.toList σ ι a w h hs hf)
    | true => simp [lowCode] at hc; split at hc <;> simp at hc
  | _ => simp [lowCode] at hc

theorem LCB.quiet {l : List LOper} {p : Plan} (hr : l.all (fun o => o.op.reads) = true) (h : wpL P l (Q .normal) σ) : LCB P N B (.any true l p) Q σ := .of (LC_quiet hr h)
theorem LCB.any {q : Bool} {l : List LOper} {p : Plan} (h : wpP P l p (Q .normal) σ) : LCB P N B (.any q l p) Q σ := .of (LC_any h)

theorem LCB.seq {x y : LCode} (h : LCB P N B x (fun e σ' => match e with | .normal => LCB P N B y Q σ' | e => Q e σ') σ) : LCB P N B (.seq x y) Q σ := fun code hc c0 ι a w hb hs hf => by
  cases code with
  | seq c d =>
    simp only [lowCode, LCode.seq.injEq] at hc
    refine wp_seq (wp_mono (h c hc.1 c0 ι a w hb hs hf) fun e a w ⟨h0, σ', ι', h1, h2, h3⟩ => ?_)
    cases e with
    | normal => exact h3 d hc.2 c0 ι' a w hb h1 h2
    | _ => exact ⟨h0, σ', ι', h1, h2, h3⟩
  | region id ops d => cases d <;> simp [lowCode] at hc; split at hc <;> simp at hc
  | _ => simp [lowCode] at hc

theorem LCB.cond {c : Opd} {x y : LCode} {t : Bool} (hc : ev σ.t c = .bool t) (ht : t = true → LCB P N B x Q σ) (hf : t = false → LCB P N B y Q σ) : LCB P N B (.cond c x y) Q σ := fun code hcd c0 ι a w hb hs hfr => by
  cases code with
  | cond c' d e =>
    simp only [lowCode, LCode.cond.injEq] at hcd
    obtain ⟨rfl, h1, h2⟩ := hcd
    have hv := hs.t.eval hs.h.glob c'
    rw [hc] at hv
    refine wp_cond hv.bool_inv ?_
    cases t with
    | true => exact ht rfl d h1 c0 ι a w hb hs hfr
    | false => exact hf rfl e h2 c0 ι a w hb hs hfr
  | region id ops d => cases d <;> simp [lowCode] at hcd; split at hcd <;> simp at hcd
  | _ => simp [lowCode] at hcd

theorem LCB.block {id : Nat} {x : LCode} (h : LCB P N B x (fun e σ' => match e with | .exit i => if i = id then Q .normal σ' else Q (.exit i) σ' | e => Q e σ') σ) : LCB P N B (.block id x) Q σ := fun code hc c0 ι a w hb hs hf => by
  cases code with
  | block id' d =>
    simp only [lowCode, LCode.block.injEq] at hc
    obtain ⟨rfl, hc⟩ := hc
    refine wp_block (wp_mono (h d hc c0 ι a w hb hs hf) fun e a w ⟨h0, σ', ι', h1, h2, h3⟩ => ?_)
    cases e with
    | exit i =>
      simp only [Exit.inBlock]
      simp only at h3
      split
      · rename_i e; rw [if_pos e] at h3; exact ⟨trivial, σ', ι', h1, h2, h3⟩
      · rename_i e; rw [if_neg e] at h3; exact ⟨trivial, σ', ι', h1, h2, h3⟩
    | _ => exact ⟨h0, σ', ι', h1, h2, h3⟩
  | region id ops d => cases d <;> simp [lowCode] at hc; split at hc <;> simp at hc
  | _ => simp [lowCode] at hc

theorem LCB.exit {id : Nat} (h : Q (.exit id) σ) : LCB P N B (.exit id) Q σ := fun code hc c0 ι a w _ hs hf => by
  cases code with
  | exit i => simp only [lowCode, LCode.exit.injEq] at hc; subst hc; exact wp_exit ⟨trivial, σ, ι, hs, hf, h⟩
  | region id ops d => cases d <;> simp [lowCode] at hc; split at hc <;> simp at hc
  | _ => simp [lowCode] at hc

theorem LCB.ret (h : Q .ret σ) : LCB P N B .ret Q σ := fun code hc c0 ι a w _ hs hf => by
  cases code with
  | ret => exact wp_ret ⟨trivial, σ, ι, hs, hf, h⟩
  | region id ops d => cases d <;> simp [lowCode] at hc; split at hc <;> simp at hc
  | _ => simp [lowCode] at hc

/-- A loop: what holds ahead of each round, with a number that falls. -/
theorem LCB.loop {x : LCode} (I : Nat → AS → Prop) (n : Nat) (h0 : I n σ) (hr : ∀ n σ, I n σ → LCB P N B x (fun e σ' => match e with | .normal => ∃ n', n' < n ∧ I n' σ' | e => Q e σ') σ) : LCB P N B (.loop x) Q σ := fun code hc c0 ι a w hb hs hf => by
  cases code with
  | loop d =>
    simp only [lowCode, LCode.loop.injEq] at hc
    refine wp_loop_ghost (fun n a w => ∃ σ ι, RepS N ι σ a w ∧ Fr c0 ⟨ι, σ.H, w⟩ ∧ I n σ) n ⟨σ, ι, hs, hf, h0⟩ fun n a w ⟨σ, ι, h1, h2, h3⟩ => ?_
    refine wp_mono (hr n σ h3 d hc c0 ι a w hb h1 h2) fun e a w ⟨g0, σ', ι', g1, g2, g3⟩ => ?_
    cases e with
    | normal =>
      obtain ⟨n', hn, hI⟩ := g3
      exact ⟨n', hn, σ', ι', g1, g2, hI⟩
    | _ => exact ⟨g0, σ', ι', g1, g2, g3⟩
  | region id ops d => cases d <;> simp [lowCode] at hc; split at hc <;> simp at hc
  | _ => simp [lowCode] at hc

end

/-! ### Functions -/
inductive LRes where
  | tmp (t : Nat)
  | cell (t : Nat) (agg : Bool) (sz : Nat)

def lowRes (P : Program) : List ResultVar → Option (List LRes)
  | [] => some []
  | .tmp t :: r => (lowRes P r).map fun l => .tmp t :: l
  | .cell a t :: r => if (P.underlying t).isSome then (lowRes P r).map fun l => .cell a (aggOf P t) (szOf P t) :: l else none

def resE (σ : AS) : List LRes → Option (List AV)
  | [] => some []
  | .tmp t :: r => (resE σ r).map fun l => σ.t t :: l
  | .cell t agg sz :: r => (rowOf σ.H (σ.t t)).bind fun p => (partA agg sz p.2 p.1).bind fun v => (resE σ r).map fun l => v :: l

def resV : List AV → AV
  | [v] => v
  | l => .tup l

/-- What a function hands back. -/
def RetOk (B : Nat) (rs : List LRes) (QF : AV → List AObj → Prop) (σ : AS) : Prop :=
  ∃ l m r, resE σ rs = some l ∧ B ≤ m ∧ Clean m (σ.H.take m) ∧ View σ.H m (resV l) r ∧ QF r (σ.H.take m)

def argsT (args : List AV) : Tm := fun n => args.getD n .dead

def resF (tmps : Array Value) : ResultVar → Sem Value
  | .tmp t => pure (tmps.getD t undef)
  | .cell a t => do loadVar t (← asAddr (tmps.getD a undef))

theorem results_eq (fn : Func) (tmps : Array Value) : results fn tmps = (do let vs ← fn.results.mapM (resF tmps); pure (if h : vs.size = 1 then vs[0] else .tuple vs)) := rfl

theorem resE_sound {P : Program} {N : Nat} {ι : Nat → Option Nat} {σ : AS} {a : Act} {w : World} (hs : RepS N ι σ a w) : ∀ (rv : List ResultVar) (rs : List LRes) (l : List AV), lowRes P rv = some rs → resE σ rs = some l →
    ∃ vs : List Value, (rv.mapM (resF a.tmps)).run P w = .ok vs w ∧ vs.length = l.length ∧ ∀ (i : Nat) (x : AV), l[i]? = some x → RepV ⟨ι, σ.H, w⟩ x (vs.getD i undef)
  | [], rs, l, h1, h2 => by
    simp only [lowRes, Option.some.injEq] at h1
    subst h1
    simp only [resE, Option.some.injEq] at h2
    subst h2
    exact ⟨[], by simp, rfl, by simp⟩
  | .tmp t :: rv, rs, l, h1, h2 => by
    simp only [lowRes, Option.map_eq_some_iff] at h1
    obtain ⟨rs', hrs, rfl⟩ := h1
    simp only [resE, Option.map_eq_some_iff] at h2
    obtain ⟨l', hl, rfl⟩ := h2
    obtain ⟨vs, g1, g2, g3⟩ := resE_sound hs rv rs' l' hrs hl
    refine ⟨a.tmps.getD t undef :: vs, ?_, by simp [g2], fun i x hx => ?_⟩
    · simp only [List.mapM_cons, Sem.run_bind, resF, Sem.run_pure, Result.andThen_ok, g1]
    · cases i with
      | zero => simp only [List.getElem?_cons_zero, Option.some.injEq] at hx; subst hx; exact hs.t.val t
      | succ i => simpa using g3 i x (by simpa using hx)
  | .cell b t :: rv, rs, l, h1, h2 => by
    simp only [lowRes] at h1
    split at h1
    · rename_i ht
      simp only [Option.map_eq_some_iff] at h1
      obtain ⟨rs', hrs, rfl⟩ := h1
      simp only [resE, Option.bind_eq_some_iff, Option.map_eq_some_iff] at h2
      obtain ⟨⟨row, off⟩, hrow, v, hv, l', hl, rfl⟩ := h2
      obtain ⟨vs, g1, g2, g3⟩ := resE_sound hs rv rs' l' hrs hl
      obtain ⟨bb, o, cs, hx, hc, hr⟩ := rowOf_spec (ι := ι) (w := w) hs.h (hs.t.val b) hrow
      obtain ⟨u, hu, hrun⟩ := loadVar_run (P := P) (c := ⟨ι, σ.H, w⟩) ht (w := w) hv cs hc hr
      refine ⟨u :: vs, ?_, by simp [g2], fun i x hx => ?_⟩
      · replace hx : a.tmps.getD b undef = .pointer (some ⟨bb, o + off, none⟩) := hx
        simp only [List.mapM_cons, Sem.run_bind, resF, hx, asAddr, Sem.run_pure, Result.andThen_ok, hrun, g1]
      · cases i with
        | zero => simp only [List.getElem?_cons_zero, Option.some.injEq] at hx; subst hx; exact hu
        | succ i => simpa using g3 i x (by simpa using hx)
    · simp at h1

theorem results_sound {P : Program} {N : Nat} {ι : Nat → Option Nat} {σ : AS} {a : Act} {w : World} (hs : RepS N ι σ a w) {fn : Func} {rs : List LRes} {l : List AV} (h1 : lowRes P fn.results.toList = some rs) (h2 : resE σ rs = some l) :
    ∃ v, (results fn a.tmps).run P w = .ok v w ∧ RepV ⟨ι, σ.H, w⟩ (resV l) v := by
  obtain ⟨vs, g1, g2, g3⟩ := resE_sound hs _ rs l h1 h2
  have e : (results fn a.tmps).run P w = .ok (if h : vs.toArray.size = 1 then vs.toArray[0] else .tuple vs.toArray) w := by
    rw [results_eq]
    have : (fn.results.mapM (resF a.tmps)).run P w = .ok vs.toArray w := by
      have e2 : fn.results = fn.results.toList.toArray := by simp
      rw [e2, List.mapM_toArray, Sem.run_map, g1]
      rfl
    simp only [Sem.run_bind, this, Result.andThen_ok, Sem.run_pure]
  rw [e]
  refine ⟨_, rfl, ?_⟩
  by_cases h : vs.toArray.size = 1
  · rw [dif_pos h]
    have hl1 : l.length = 1 := by rw [← g2]; simpa using h
    obtain ⟨x, rfl⟩ := List.length_eq_one_iff.1 hl1
    have := g3 0 x rfl
    simp only [resV]
    have hv : vs.getD 0 undef = vs.toArray[0] := by
      have : 0 < vs.length := by omega
      simp [this]
    rw [hv] at this
    exact this
  · rw [dif_neg h]
    have hl1 : l.length ≠ 1 := by rw [← g2]; simpa using h
    have : resV l = .tup l := by
      cases l with
      | nil => rfl
      | cons x l =>
        cases l with
        | nil => simp at hl1
        | cons y l => rfl
    rw [this]
    exact .tup _ _ (by simp [g2]) fun i x hx => by rw [getD_toArray]; exact g3 i x hx

/-- **A function.** -/
theorem ACalls.of {P : Program} {f : FuncId} {fn : Func} {c : Code} {lc : LCode} {rs : List LRes} {args : List AV} {H : List AObj} {QF : AV → List AObj → Prop} (hf : P.funcs[f]? = some fn) (hb : fn.body = some c) (hname : (fn.name == "runtime.NumGoroutine") = false)
    (hlow : lowCode P fn.ntmps c = lc) (hres : lowRes P fn.results.toList = some rs) (hN : args.length ≤ fn.ntmps)
    (h : Clean H.length H → LCB P fn.ntmps H.length lc (fun e σ => (e = .normal ∨ e = .ret) ∧ RetOk H.length rs QF σ) ⟨argsT args, H⟩) : ACalls P f args H QF := by
  refine ⟨⟨fn, hf, by simp [hb], hname⟩, fun ι w vals hH hv => ?_⟩
  refine calls_of_wp hf hb ?_
  have hsize : vals.size = args.length := hv.1
  have hs : RepS fn.ntmps ι ⟨argsT args, H⟩ { tmps := vals ++ Array.replicate (fn.ntmps - vals.size) undef, defers := [] } w := by
    refine ⟨hH, ⟨by simp; omega, fun n => ?_, rfl⟩⟩
    by_cases hn : n < args.length
    · have := hv.2 n (args[n]) (List.getElem?_eq_getElem hn)
      have e1 : argsT args n = args[n] := by simp [argsT, hn]
      have e2 : (vals ++ Array.replicate (fn.ntmps - vals.size) undef).getD n undef = vals.getD n undef := by
        simp only [Array.getD_eq_getD_getElem?]
        rw [Array.getElem?_append_left (by omega)]
      show RepV _ (argsT args n) ((vals ++ Array.replicate (fn.ntmps - vals.size) undef).getD n undef)
      rw [e1, e2]
      exact this
    · have e1 : argsT args n = .dead := by simp [argsT, List.getElem?_eq_none (Nat.le_of_not_lt hn)]
      show RepV _ (argsT args n) _
      rw [e1]
      exact .dead _
  refine wp_mono (h hH.clean c hlow ⟨ι, H, w⟩ ι _ w (Nat.le_refl _) hs (Fr.refl _)) fun e a' w' ⟨g0, σ', ι', g1, g2, ge, l, m, r, g3, g4, g5, g6, g7⟩ => ?_
  have fin : bodyPost P fn (fun e w' => ∃ r v ι' H', e = .returned v ∧ QF r H' ∧ RepH ⟨ι', H', w'⟩ ∧ RepV ⟨ι', H', w'⟩ r v ∧ Fr ⟨ι, H, w⟩ ⟨ι', H', w'⟩) .normal a' w' := by
    obtain ⟨v, hr, hrep⟩ := results_sound g1 hres g3
    exact ⟨g1.t.defers, v, hr, r, v, ι', σ'.H.take m, rfl, g7, g1.h.take g5, view_sound g1.h g6 hrep, g2.take g4⟩
  rcases ge with rfl | rfl
  · exact fin
  · exact fin

end Go.Proofs.YtoiceinjademgaaDoor
