/-
  Texts of this claim, put together.
-/
import Derived.Deep.Slices
import Derived.OpenShut
import Derived.ProofKit
import Derived.Test.YtbkbehkjndmabaaDoorRows
import Derived.Test.YtbkbehkjndmabaaDoorTie
import Derived.LaidMore
import Derived.Stop.Joined
import Derived.Test.YtbkbehkjndmabaaDoorCards
import Derived.Test.YtbkbehkjndmabaaDoorZ8
/-
  The last step, part 1: a law's arguments, opened; from what a law's function answers to the row.
-/
namespace Go.Proofs.YtbkbehkjndmabaaDoor
open Go.RowKit
set_option linter.unusedVariables false
set_option linter.unusedSimpArgs false

/-- The shape of one cell. -/
inductive Sh where
  | int (k : IntKind)
  | bool
  | str
  | list (es : List Sh)

inductive Fit : Sh → AV → Prop where
  | int (k : IntKind) (n : Int) (h0 : k.min ≤ n) (h1 : n ≤ k.max) : Fit (.int k) (.int k n)
  | bool (b : Bool) : Fit .bool (.bool b)
  | str (s : ByteArray) (h : s.size ≤ maxLen) : Fit .str (.str s)
  | list (es : List Sh) (rows : List (List AV)) (hl : rows.length ≤ maxLen) (hn : ∀ r ∈ rows, r.length = es.length) (h : ∀ r ∈ rows, ∀ (i : Nat) (e : Sh) (a : AV), es[i]? = some e → r[i]? = some a → Fit e a) : Fit (.list es) (.list rows)

def FitR (es : List Sh) (r : List AV) : Prop := r.length = es.length ∧ ∀ (i : Nat) (e : Sh) (a : AV), es[i]? = some e → r[i]? = some a → Fit e a

theorem Fit.clean {e : Sh} {a : AV} (h : Fit e a) : a.clean 0 = true := by cases h <;> rfl

theorem FitR.app {es es' : List Sh} {r r' : List AV} (h : FitR es r) (h' : FitR es' r') : FitR (es ++ es') (r ++ r') := by
  refine ⟨by simp [h.1, h'.1], fun i e a he ha => ?_⟩
  by_cases hi : i < es.length
  · rw [List.getElem?_append_left hi] at he
    rw [List.getElem?_append_left (by rw [h.1]; exact hi)] at ha
    exact h.2 i e a he ha
  · rw [List.getElem?_append_right (by omega)] at he
    rw [List.getElem?_append_right (by rw [h.1]; omega)] at ha
    exact h'.2 _ e a he (by rw [← h.1]; exact ha)

theorem FitR.nil : FitR [] [] := ⟨rfl, fun i e a h => by simp at h⟩
theorem FitR.one {e : Sh} {a : AV} (h : Fit e a) : FitR [e] [a] := ⟨rfl, fun i e' a' he ha => by
  cases i with
  | zero => simp at he ha; subst he; subst ha; exact h
  | succ i => simp at he⟩

/-- What a row of cells stands for. -/
def RepL (w : World) (r : List AV) (cs : List Value) : Prop := r.length = cs.length ∧ ∀ (i : Nat) (a : AV) (v : Value), r[i]? = some a → cs[i]? = some v → RepV ⟨fun _ => none, [], w⟩ a v

theorem RepL.app {w : World} {r r' : List AV} {cs : List Value} {n : Nat} (h : RepL w r (cs.take n)) (h' : RepL w r' (cs.drop n)) : RepL w (r ++ r') cs := by
  have e : cs = cs.take n ++ cs.drop n := (List.take_append_drop n cs).symm
  refine ⟨by rw [List.length_append, h.1, h'.1, ← List.length_append, ← e], fun i a v ha hv => ?_⟩
  rw [e] at hv
  by_cases hi : i < r.length
  · rw [List.getElem?_append_left hi] at ha
    rw [List.getElem?_append_left (by rw [← h.1]; exact hi)] at hv
    exact h.2 i a v ha hv
  · rw [List.getElem?_append_right (by omega)] at ha
    rw [List.getElem?_append_right (by rw [← h.1]; omega)] at hv
    exact h'.2 _ a v ha (by rw [h.1]; exact hv)

theorem RepL.one {w : World} {a : AV} {v : Value} (h : RepV ⟨fun _ => none, [], w⟩ a v) : RepL w [a] [v] := ⟨rfl, fun i a' v' ha hv => by
  cases i with
  | zero => simp at ha hv; subst ha; subst hv; exact h
  | succ i => simp at ha⟩

def fieldShs (P : Program) (sh : TypeId → Option (List Sh)) : Nat → List Field → Option (List Sh)
  | _, [] => some []
  | off, f :: fs => match sh f.type with
    | some es => if f.offset = off ∧ P.cellsOf f.type = es.length then (fieldShs P sh (off + es.length) fs).map (es ++ ·) else none
    | none => none

def shapes (P : Program) : Nat → TypeId → Option (List Sh)
  | 0, _ => none
  | n + 1, t => match P.underlying t with
    | some (.int k) => some [.int k]
    | some .bool => some [.bool]
    | some .string => some [.str]
    | some (.slice e) => match shapes P n e with
      | some es => if P.cellsOf e = es.length ∧ 0 < es.length then some [.list es] else none
      | none => none
    | some (.array k e) => match shapes P n e with
      | some es => if P.cellsOf e = es.length ∧ P.cellsOf t = k * es.length then some (List.replicate k es).flatten else none
      | none => none
    | some (.struct fs) => match fieldShs P (shapes P n) 0 fs.toList with
      | some es => if P.cellsOf t = es.length then some es else none
      | none => none
    | _ => none

section
variable {H : Type} {enc : TypeId × Value → H} {P : Program} {w : World} {spare : Nat → Bool} {held : Bool}

theorem fields_open {sh : TypeId → Option (List Sh)} {m : Nat} {cs : List Value}
    (ih : ∀ (t : TypeId) (es : List Sh) (cs : List Value) (y : DataW H × List MemPlace), sh t = some es → DataW.trod enc P w 0 spare held m t cs = some y → ∃ r, FitR es r ∧ RepL w r cs) :
    ∀ (fs : List Field) (off : Nat) (es : List Sh), fieldShs P sh off fs = some es → off + es.length = cs.length →
      (∀ f ∈ fs, ∃ y, DataW.trod enc P w 0 spare held m f.type ((cs.drop f.offset).take (P.cellsOf f.type)) = some y) → ∃ r, FitR es r ∧ RepL w r (cs.drop off)
  | [], off, es, h, hl, _ => by
    simp only [fieldShs, Option.some.injEq] at h
    subst h
    refine ⟨[], FitR.nil, ?_, fun i a v h => by simp at h⟩
    simp at hl ⊢; omega
  | f :: fs, off, es, h, hl, hy => by
    simp only [fieldShs] at h
    split at h
    · rename_i es1 hs
      split at h
      · rename_i hc
        obtain ⟨e1, e2⟩ := hc
        simp only [Option.map_eq_some_iff] at h
        obtain ⟨es2, h2, rfl⟩ := h
        obtain ⟨y, hy1⟩ := hy f (by simp)
        obtain ⟨r1, f1, p1⟩ := ih _ _ _ _ hs hy1
        obtain ⟨r2, f2, p2⟩ := fields_open ih fs (off + es1.length) es2 h2 (by simp at hl; omega) (fun g hg => hy g (by simp [hg]))
        rw [e1, e2] at p1
        exact ⟨r1 ++ r2, f1.app f2, RepL.app (n := es1.length) p1 (by rw [List.drop_drop]; exact p2)⟩
      · simp at h
    · simp at h

theorem arr_open {e : TypeId} {es : List Sh} {m sz : Nat} {cs : List Value} (hsz : sz = es.length)
    (ih : ∀ (cs : List Value) (y : DataW H × List MemPlace), DataW.trod enc P w 0 spare held m e cs = some y → ∃ r, FitR es r ∧ RepL w r cs) :
    ∀ (k j : Nat), (j + k) * sz = cs.length → (∀ i, j ≤ i → i < j + k → ∃ y, DataW.trod enc P w 0 spare held m e ((cs.drop (i * sz)).take sz) = some y) → ∃ r, FitR (List.replicate k es).flatten r ∧ RepL w r (cs.drop (j * sz))
  | 0, j, hl, _ => ⟨[], FitR.nil, by simp at hl ⊢; omega, fun i a v h => by simp at h⟩
  | k + 1, j, hl, hy => by
    obtain ⟨y, hy1⟩ := hy j (Nat.le_refl _) (by omega)
    obtain ⟨r1, f1, p1⟩ := ih _ _ hy1
    obtain ⟨r2, f2, p2⟩ := arr_open hsz ih k (j + 1) (by rw [← hl]; congr 1; omega) (fun i h1 h2 => hy i (by omega) (by omega))
    refine ⟨r1 ++ r2, by rw [List.replicate_succ, List.flatten_cons]; exact f1.app f2, RepL.app (n := sz) p1 ?_⟩
    rw [List.drop_drop]
    rw [Nat.succ_mul] at p2
    exact p2

theorem World.cell?_spot' {w : World} {a : Addr} {v : Value} (h : w.cell? a = some v) : a.spot = none := by
  unfold World.cell? at h
  split at h
  · split at h
    · simp at h
    · rename_i hs; simpa using hs
  · simp at h

theorem sh_open : ∀ (n : Nat) (t : TypeId) (m : Nat) (es : List Sh) (cs : List Value) (y : DataW H × List MemPlace), shapes P n t = some es → DataW.trod enc P w 0 spare held m t cs = some y → ∃ r, FitR es r ∧ RepL w r cs
  | 0, t, m, es, cs, y, hs, h => by simp [shapes] at hs
  | n + 1, t, m, es, cs, y, hs, h => by
    simp only [shapes] at hs
    split at hs
    · rename_i k hu
      simp only [Option.some.injEq] at hs
      subst hs
      obtain ⟨i, rfl, _, hw⟩ := DataW.trod_int hu h
      simp only [Lit.wf, Bool.and_eq_true, decide_eq_true_eq] at hw
      exact ⟨[.int k i], FitR.one (.int k i hw.1 hw.2), RepL.one (.int k i)⟩
    · rename_i hu
      simp only [Option.some.injEq] at hs
      subst hs
      obtain ⟨b, rfl, _⟩ := DataW.trod_bool hu h
      exact ⟨[.bool b], FitR.one (.bool b), RepL.one (.bool b)⟩
    · rename_i hu
      simp only [Option.some.injEq] at hs
      subst hs
      obtain ⟨s, rfl, _, hl⟩ := DataW.trod_string hu h
      exact ⟨[.str s], FitR.one (.str s hl), RepL.one (.str s)⟩
    · rename_i e hu
      split at hs
      · rename_i es1 he
        split at hs
        · rename_i hc
          obtain ⟨hc1, hc2⟩ := hc
          simp only [Option.some.injEq] at hs
          subst hs
          rcases Go.Deep.open_slice hu h with ⟨rfl, _⟩ | ⟨a, len, cap, k, q, D, Pl, rfl, _, hl, hm, hk, _, hx⟩
          · exact ⟨[.list []], FitR.one (.list _ _ (by simp) (by simp) (by simp)), RepL.one (.lnil _ _)⟩
          · have hlk : len ≤ k := by rw [hk]; split <;> omega
            have hrow : ∀ i, ∃ r, i < len → FitR es1 r ∧ ∃ cs', w.cells? 0 (a.add (i * es1.length)) es1.length = some cs' ∧ RepL w r cs' := fun i => by
              by_cases hi : i < len
              · obtain ⟨cs', h1, h2⟩ := hx i (by omega)
                obtain ⟨r, f1, p1⟩ := sh_open n e q es1 cs' _ he h2
                rw [hc1] at h1
                exact ⟨r, fun _ => ⟨f1, cs', h1, p1⟩⟩
              · exact ⟨[], fun h => absurd h hi⟩
            obtain ⟨R, hR⟩ : ∃ R : Nat → List AV, ∀ i, i < len → FitR es1 (R i) ∧ ∃ cs', w.cells? 0 (a.add (i * es1.length)) es1.length = some cs' ∧ RepL w (R i) cs' := ⟨fun i => Classical.choose (hrow i), fun i hi => Classical.choose_spec (hrow i) hi⟩
            have hmem : ∀ r ∈ (List.range len).map R, ∃ i, i < len ∧ r = R i := fun r hr => by
              obtain ⟨i, hi, rfl⟩ := List.mem_map.1 hr
              exact ⟨i, List.mem_range.1 hi, rfl⟩
            have hlen : ((List.range len).map R).length = len := by simp
            refine ⟨[.list ((List.range len).map R)], FitR.one (.list _ _ (by simp; omega) (fun r hr => ?_) (fun r hr => ?_)), RepL.one ?_⟩
            · obtain ⟨i, hi, rfl⟩ := hmem r hr
              exact (hR i hi).1.1
            · obtain ⟨i, hi, rfl⟩ := hmem r hr
              exact (hR i hi).1.2
            · by_cases hz : len = 0
              · subst hz; exact .lnil _ _
              · have hcell : ∀ (i j : Nat) (x : AV), cellAt ((List.range len).map R) i j = some x → i < len ∧ j < es1.length ∧ (∃ u, w.cell? (a.add (i * es1.length + j)) = some u ∧ RepV ⟨fun _ => none, [], w⟩ x u) ∧ x.clean 0 = true := fun i j x hxx => by
                  simp only [cellAt, Option.bind_eq_some_iff, List.getElem?_map, Option.map_eq_some_iff] at hxx
                  obtain ⟨r, ⟨i', hi', rfl⟩, hj⟩ := hxx
                  obtain ⟨hi2, rfl⟩ : i < len ∧ i = i' := by
                    rw [List.getElem?_eq_some_iff] at hi'
                    obtain ⟨h1, h2⟩ := hi'
                    simp at h1 h2
                    exact ⟨h1, h2⟩
                  obtain ⟨f1, cs', h1, p1⟩ := hR i hi2
                  obtain ⟨_, hcl, hce⟩ := World.cells?_some h1
                  have hj1 : j < (R i).length := (List.getElem?_eq_some_iff.1 hj).1
                  have hj2 : j < es1.length := by rw [← f1.1]; exact hj1
                  have hj3 : cs'[j]? = some cs'[j] := List.getElem?_eq_getElem (by omega)
                  refine ⟨hi2, hj2, ⟨cs'[j], ?_, p1.2 j x _ hj hj3⟩, (f1.2 j _ x (List.getElem?_eq_getElem hj2) hj).clean⟩
                  have := hce j hj2
                  rw [hj3, Go.Deep.add_add] at this
                  exact this
                have ha : a.spot = none := by
                  obtain ⟨f1, cs', h1, p1⟩ := hR 0 (by omega)
                  obtain ⟨_, hcl, hce⟩ := World.cells?_some h1
                  have := hce 0 hc2
                  rw [List.getElem?_eq_getElem (by omega)] at this
                  have := World.cell?_spot' this
                  simpa [Addr.add] using this
                obtain ⟨b, o, sp⟩ := a
                simp only at ha
                subst ha
                have e0 : ∀ k, (⟨b, o, none⟩ : Addr).add k = ⟨b, o + k, none⟩ := fun k => by
                  unfold Addr.add
                  split
                  · rename_i h0; subst h0; rfl
                  · rfl
                have := RepV.list (c := ⟨fun _ => none, [], w⟩) es1.length ((List.range len).map R) b o cap (fun i j => (w.cell? ⟨b, o + (i * es1.length + j), none⟩).getD undef) hc2 (by intro h0; rw [h0] at hlen; simp at hlen; omega)
                  (fun r hr => by obtain ⟨i, hi, rfl⟩ := hmem r hr; exact (hR i hi).1.1) (by omega) (by omega) (fun ⟨_, _, h1, _⟩ => by simp at h1)
                  (fun i j x hx1 => (hcell i j x hx1).2.2.2)
                  (fun i j x hx1 => by
                    obtain ⟨_, _, ⟨u, h1, _⟩, _⟩ := hcell i j x hx1
                    rw [e0] at h1
                    simp [h1])
                  (fun i j x hx1 => by
                    obtain ⟨_, _, ⟨u, h1, h2⟩, _⟩ := hcell i j x hx1
                    rw [e0] at h1
                    simpa [h1] using h2)
                rw [hlen] at this
                exact this
        · simp at hs
      · simp at hs
    · rename_i k e hu
      split at hs
      · rename_i es1 he
        split at hs
        · rename_i hc
          simp only [Option.some.injEq] at hs
          subst hs
          obtain ⟨xs, q, rfl, _, hl, hxl, hx⟩ := DataW.trod_array hu h
          have := arr_open (es := es1) (m := q) (cs := cs) (sz := P.cellsOf e) hc.1 (fun cs y hy => sh_open n e q es1 cs y he hy) k 0 (by rw [hl, hc.2, hc.1]; simp) (fun i _ hi => ⟨xs[i]'(by omega), by rw [hx i (by omega), List.getElem?_eq_getElem]⟩)
          simpa using this
        · simp at hs
      · simp at hs
    · rename_i fs hu
      split at hs
      · rename_i es1 he
        split at hs
        · rename_i hc
          simp only [Option.some.injEq] at hs
          subst hs
          obtain ⟨xs, q, rfl, _, hl, hxl, hx⟩ := DataW.trod_struct hu h
          have := fields_open (cs := cs) (m := q) (fun t es cs y h1 h2 => sh_open n t q es cs y h1 h2) fs.toList 0 es1 he (by rw [hl, hc]; simp) (fun f hf => by
            obtain ⟨i, hi, rfl⟩ := Array.getElem_of_mem (by simpa using hf)
            exact ⟨xs[i]'(by omega), by rw [hx i _ (by simp [hi]), List.getElem?_eq_getElem]⟩)
          simpa using this
        · simp at hs
      · simp at hs
    · simp at hs

/-! ### A law's arguments -/
inductive ASh where
  | one (e : Sh)
  | agg (es : List Sh)

def isAgg (P : Program) (t : TypeId) : Bool := match P.underlying t with | some (.struct _) | some (.array _ _) => true | _ => false
def argSh (P : Program) (t : TypeId) : Option ASh := match shapes P 20 t, isAgg P t with
  | some es, true => some (.agg es)
  | some [e], false => some (.one e)
  | _, _ => none
def argShs (P : Program) : List TypeId → Option (List ASh)
  | [] => some []
  | t :: ts => (argSh P t).bind fun a => (argShs P ts).map fun l => a :: l

/-- What stands for an argument. -/
def FitA : ASh → AV → Prop
  | .one e, a => Fit e a
  | .agg es, a => ∃ r, a = .agg r ∧ FitR es r

def FitAs : List ASh → List AV → Prop
  | [], avs => avs = []
  | e :: es, avs => ∃ a r, avs = a :: r ∧ FitA e a ∧ FitAs es r

theorem cell_okWide_one {P : Program} {W : World} {base : Nat} {t : TypeId} {v : Value} {es : List Sh} (hu : ∀ fs, P.underlying t ≠ some (.struct fs)) (hu' : ∀ k e, P.underlying t ≠ some (.array k e)) {n : Nat} (hs : shapes P (n + 1) t = some es) (hv : Value.okWide P W .any base t v) : v.cells = #[v] := by
  simp only [shapes] at hs
  split at hs
  · rename_i h; obtain ⟨n, rfl⟩ := Go.WideShapes.okWide_int h hv; rfl
  · rename_i h; obtain ⟨n, rfl⟩ := Go.WideShapes.okWide_bool h hv; rfl
  · rename_i h; obtain ⟨n, rfl⟩ := Go.WideShapes.okWide_string h hv; rfl
  · rename_i h; obtain ⟨n, _, _, rfl⟩ := Go.WideShapes.okWide_slice h hv; rfl
  · rename_i h; exact absurd h (hu' _ _)
  · rename_i h; exact absurd h (hu _)
  · simp at hs

theorem arg_open {base : Nat} {W : World} {t : TypeId} {v : Value} {d : DataW H} {ps : List MemPlace} {es : ASh} (hs : argSh P t = some es) (hv : Value.okWide P W .any base t v) (h : DataW.Trod enc P W 0 spare held t v d ps) :
    ∃ a, FitA es a ∧ RepV ⟨fun _ => none, [], W⟩ a v := by
  obtain ⟨fuel, h⟩ := h
  unfold argSh at hs
  split at hs
  · rename_i es1 hs1 hagg
    simp only [Option.some.injEq] at hs
    subst hs
    obtain ⟨r, f1, p1⟩ := sh_open 20 t fuel _ _ _ hs1 h
    refine ⟨.agg r, ⟨r, rfl, f1⟩, ?_⟩
    obtain ⟨cs, rfl⟩ : ∃ cs, v = .agg cs := by
      unfold isAgg at hagg
      unfold Value.okWide at hv
      split at hagg
      · rename_i hf; rw [hf] at hv; obtain ⟨cs, h1, _⟩ := hv; exact ⟨cs, h1⟩
      · rename_i hf; rw [hf] at hv; obtain ⟨cs, h1, _⟩ := hv; exact ⟨cs, h1⟩
      · simp at hagg
    refine .agg r cs (by rw [p1.1]; simp [Value.cells]) fun i a ha => ?_
    have hi : i < cs.size := by
      have := (List.getElem?_eq_some_iff.1 ha).1
      rw [p1.1] at this
      simpa [Value.cells] using this
    have := p1.2 i a cs[i] ha (by simp [Value.cells, hi])
    simpa [hi] using this
  · rename_i e hs1 hagg
    simp only [Option.some.injEq] at hs
    subst hs
    obtain ⟨r, f1, p1⟩ := sh_open 20 t fuel _ _ _ hs1 h
    have h1 : ∀ fs, P.underlying t ≠ some (.struct fs) := fun fs h => by simp [isAgg, h] at hagg
    have h2 : ∀ k e, P.underlying t ≠ some (.array k e) := fun k e h => by simp [isAgg, h] at hagg
    have hc := cell_okWide_one (n := 19) h1 h2 hs1 hv
    rw [hc] at p1
    have hl := p1.1
    simp at hl
    obtain ⟨a, rfl⟩ := List.length_eq_one_iff.1 hl
    exact ⟨a, f1.2 0 _ _ rfl rfl, p1.2 0 a v rfl rfl⟩
  · simp at hs

theorem args_open {base : Nat} {W : World} : ∀ (ts : List TypeId) (vs : List Value) (ds : List (DataW H)) (ps : List MemPlace) (L : List ASh), argShs P ts = some L → (∀ (j : Nat) t v, ts[j]? = some t → vs[j]? = some v → Value.okWide P W .any base t v) →
    DataW.TrodAll enc P W 0 spare held ts vs ds ps → ∃ avs, FitAs L avs ∧ avs.length = vs.length ∧ ∀ (i : Nat) (a : AV) (v : Value), avs[i]? = some a → vs[i]? = some v → RepV ⟨fun _ => none, [], W⟩ a v
  | [], vs, ds, ps, L, hs, hv, h => by
    simp only [argShs, Option.some.injEq] at hs
    subst hs
    cases vs with
    | nil => exact ⟨[], rfl, rfl, fun i a v h => by simp at h⟩
    | cons v vs => simp [DataW.TrodAll] at h
  | t :: ts, vs, ds, ps, L, hs, hv, h => by
    simp only [argShs, Option.bind_eq_some_iff, Option.map_eq_some_iff] at hs
    obtain ⟨es, hs1, L2, hs2, rfl⟩ := hs
    cases vs with
    | nil => simp [DataW.TrodAll] at h
    | cons v vs =>
      cases ds with
      | nil => simp [DataW.TrodAll] at h
      | cons d ds =>
        obtain ⟨p, q, h1, h2, _⟩ := h
        obtain ⟨a, f1, r1⟩ := arg_open hs1 (hv 0 t v rfl rfl) h1
        obtain ⟨avs, f2, l2, r2⟩ := args_open ts vs ds q L2 hs2 (fun j t v h1 h2 => hv (j + 1) t v h1 h2) h2
        refine ⟨a :: avs, ⟨a, avs, rfl, f1, f2⟩, by simp [l2], fun i x u hx hu => ?_⟩
        cases i with
        | zero => simp at hx hu; subst hx; subst hu; exact r1
        | succ i => exact r2 i x u (by simpa using hx) (by simpa using hu)

theorem trodAll_stays {W W' : World} (hl : laidOutB P = true) (hb : Below W.heap.size W W') : ∀ (ts : List TypeId) (vs : List Value) (ds : List (DataW H)) (ps : List MemPlace), ts.all (fun t => P.readableRec t && decide (t < P.types.size)) = true → (∀ x ∈ ps, x.block < W.heap.size) →
    DataW.TrodAll enc P W 0 (fun _ => true) true ts vs ds ps → DataW.TrodAll enc P W' 0 (fun b => decide (b < W.heap.size)) true ts vs ds ps
  | [], vs, ds, ps, hr, hlt, h => by
    cases vs <;> cases ds <;> simp [DataW.TrodAll] at h ⊢
    exact h
  | t :: ts, vs, ds, ps, hr, hlt, h => by
    cases vs with
    | nil => simp [DataW.TrodAll] at h
    | cons v vs =>
      cases ds with
      | nil => simp [DataW.TrodAll] at h
      | cons d ds =>
        obtain ⟨p, q, h1, h2, rfl⟩ := h
        simp only [List.all_cons, Bool.and_eq_true, decide_eq_true_eq] at hr
        exact ⟨p, q, Below.trod hl hr.1.1 hr.1.2 h1 hb (fun x hx => hlt x (by simp [hx])), trodAll_stays hl hb ts vs ds q hr.2 (fun x hx => hlt x (by simp [hx])) h2, rfl⟩

theorem TrodAll_len {W : World} {sp : Nat → Bool} {hd : Bool} : ∀ (ts : List TypeId) (vs : List Value) (ds : List (DataW H)) (ps : List MemPlace), DataW.TrodAll enc P W 0 sp hd ts vs ds ps → ds.length = ts.length
  | [], vs, ds, ps, h => by cases vs <;> cases ds <;> simp [DataW.TrodAll] at h ⊢
  | t :: ts, vs, ds, ps, h => by
    cases vs with
    | nil => simp [DataW.TrodAll] at h
    | cons v vs =>
      cases ds with
      | nil => simp [DataW.TrodAll] at h
      | cons d ds =>
        obtain ⟨p, q, h1, h2, _⟩ := h
        simp [TrodAll_len ts vs ds q h2]

theorem Fr.below {ι ι' : Nat → Option Nat} {H' : List AObj} {W W' : World} (h : Fr ⟨ι, [], W⟩ ⟨ι', H', W'⟩) : Below W.heap.size W W' :=
  ⟨h.os, h.tape, h.output, h.size, fun k hk => (h.keep k hk (fun ⟨_, _, h1, _⟩ => by simp at h1)).1⟩

def boolRes (P : Program) (fn : Func) : Bool := match fn.resultTypes.toList with
  | [t] => match P.underlying t with | some .bool => true | _ => false
  | _ => false

/-- **From a law's answer to its row's contract.** -/
theorem law_contract {f : FuncId} {fn : Func} {s : ChangeSpec} {L : List ASh} {W : World} {base : Nat} {args : Array Value} {ds gs : List (DataW H)} {before : List MemPlace}
    (hlaid : laidOutB P = true) (hvars : s.vars = []) (hres : boolRes P fn = true)
    (hread : fn.params.toList.all (fun t => P.readableRec t && decide (t < P.types.size)) = true) (hsh : argShs P fn.params.toList = some L)
    (hs : ∀ ds : List (DataW H), ds.length = fn.params.size → s.fn H ds = { results := [.lit (.bool true)], args := ds })
    (hglob : GlobOk ⟨fun _ => none, [], W⟩)
    (law : ∀ avs, FitAs L avs → ACalls P f avs [] fun r _ => r = .bool true)
    (hval : ∀ (j : Nat) t v, fn.params[j]? = some t → args[j]? = some v → Value.okWide P W .any base t v)
    (hW : DataW.Whole enc P fn.params.toList s.vars false W args.toList ds gs before) :
    Calls P f args W fun e W' => ∃ v, e = .returned v ∧ s.post enc P fn false true false false W args v W' := by
  have hW' := hW
  obtain ⟨tb, hrt, htb⟩ : ∃ tb, fn.resultTypes.toList = [tb] ∧ P.underlying tb = some .bool := by
    unfold boolRes at hres
    split at hres
    · rename_i t ht
      split at hres
      · rename_i hb; exact ⟨t, ht, hb⟩
      · simp at hres
    · simp at hres
  have hsz : fn.resultTypes.size = 1 := by rw [← Array.length_toList, hrt]; rfl
  obtain ⟨p, q, hA, hV, rfl, _, _⟩ := hW
  rw [hvars] at hV
  obtain ⟨rfl, rfl⟩ := Go.ChangeShapes.trodVars_none hV
  obtain ⟨avs, hfit, hlen, hrep⟩ := args_open (base := base) fn.params.toList args.toList ds p L hsh (fun j t v h1 h2 => hval j t v (by simpa using h1) (by simpa using h2)) hA
  have hlt : ∀ y ∈ p, y.block < W.heap.size := fun y hy => by simpa using hW'.lt y (by simp [hy])
  have hdl := TrodAll_len _ _ _ _ hA
  refine ((law avs hfit).2 (fun _ => none) W args ⟨fun k o h => by simp at h, fun k o b h => by simp at h, fun k l o p b h => by simp at h, hglob⟩ ⟨by simpa using hlen.symm, fun i a ha => ?_⟩).mono fun e W' ⟨r, v, ι', H', he, hr, _, hv, hf⟩ => ?_
  · have hi : i < args.size := by
      have := (List.getElem?_eq_some_iff.1 ha).1
      rw [hlen] at this
      simpa using this
    have := hrep i a args[i] ha (by simp [hi])
    simpa [hi] using this
  · subst hr
    have hvb := hv.bool_inv
    subst hvb
    refine ⟨_, he, ds, [], p ++ [], [], p, [], hW', ?_, ?_, ?_, (Fr.below hf).frame _, fun h => by cases h⟩
    · rw [hs _ (by simpa using hdl), hrt, hsz]
      exact Go.ChangeShapes.trodAll_mk1 (shut_bool htb true)
    · rw [hs _ (by simpa using hdl), List.append_nil]
      exact trodAll_stays hlaid (Fr.below hf) _ _ _ _ hread hlt hA
    · rw [hs _ (by simpa using hdl), hvars]
      rfl
end
end Go.Proofs.YtbkbehkjndmabaaDoor
/-
  The last step, part 3: the table that the program's text lays.
-/
namespace Go.Proofs.YtbkbehkjndmabaaDoor
open Go.ChangeShapes Go.WideShapes Go.ChangeAt Go.RowKit
set_option linter.unusedVariables false
set_option linter.unusedSimpArgs false
set_option maxRecDepth 100000

theorem own_ok : ownKnob Tryd.prog.godebug = none := by kernel_rfl
theorem laid_ok : laidOutB Tryd.prog = true := by kernel_rfl

def laidL {H : Type} : List (String × DataW H) := [("joinery/ins.shapes", Rows.laid_joinery_ins_shapes)]

theorem door_met (os : Os) (args : Array Value) : laidMetH Tryd.prog laidL ((World.doorLaid Tryd.prog 400 os).forCall (fun _ _ => 0) ⟨#[], args, []⟩).memory :=
  laidMetH_of_parts3 (fuel := 8) (laidMet_of_run' 8 (by kernel_rfl) (by kernel_rfl)) (by kernel_rfl) (by kernel_rfl)

theorem gShapes : Tryd.prog.globalNamed "joinery/ins.shapes" = some 0 := by kernel_rfl

noncomputable def tblT : TypeId := ((Tryd.prog.globals[0]?).map (·.type)).getD 0
theorem tShapes : (Tryd.prog.globals[0]?).map (·.type) = some tblT := by kernel_rfl
noncomputable def elT : TypeId := match Tryd.prog.underlying tblT with | some (.array _ e) => e | _ => 0
theorem uTbl : Tryd.prog.underlying tblT = some (.array 18 elT) := by kernel_rfl
noncomputable def elF : Array Field := match Tryd.prog.underlying elT with | some (.struct fs) => fs | _ => #[]
theorem uEl : Tryd.prog.underlying elT = some (.struct #[elF.getD 0 default, elF.getD 1 default]) := by kernel_rfl
theorem uF0 : Tryd.prog.underlying (elF.getD 0 default).type = some .string := by kernel_rfl
theorem uF1 : Tryd.prog.underlying (elF.getD 1 default).type = some .string := by kernel_rfl
theorem oF0 : (elF.getD 0 default).offset = 0 := by kernel_rfl
theorem oF1 : (elF.getD 1 default).offset = 1 := by kernel_rfl
theorem cF0 : Tryd.prog.cellsOf (elF.getD 0 default).type = 1 := by kernel_rfl
theorem cF1 : Tryd.prog.cellsOf (elF.getD 1 default).type = 1 := by kernel_rfl
theorem cEl : Tryd.prog.cellsOf elT = 2 := by kernel_rfl

theorem laid_eq {H : Type} : (Rows.laid_joinery_ins_shapes : DataW H) = .agg (shapeTbl.map fun p => .agg [.lit (.string p.1.data.toList), .lit (.string p.2.data.toList)]) := rfl

theorem glob_of_laid {W : World} (h : laidMetH Tryd.prog laidL W) : GlobOk ⟨fun _ => none, [], W⟩ := by
  unfold laidL at h
  rw [MakeChecks.laidMetH_plain _ _ _ (by kernel_rfl)] at h
  obtain ⟨ps, ⟨g0, t0, cs0, f0, p0, q0, hg0, ht0, hv0, hd0, _⟩, _⟩ := h
  obtain rfl := Option.some.inj (gShapes.symm.trans hg0)
  obtain rfl := Option.some.inj (tShapes.symm.trans ht0)
  obtain ⟨xs, m, rfl, hx, hlen, hn, hel⟩ := DataW.trod_array uTbl hd0
  rw [laid_eq] at hx
  simp only [Prod.mk.injEq, DataW.agg.injEq] at hx
  have hx1 := hx.1
  clear hx hd0
  have hcell : ∀ j, W.cell? ⟨0, j, none⟩ = cs0.toList[j]? := fun j => by
    have := World.var?_cell gShapes hv0 j
    simpa using this
  have key : ∀ i : Nat, i < 18 → cs0.toList[i * 2]? = some (.string (bs (wordL ((i + 1 : Nat) : Int)))) ∧ cs0.toList[i * 2 + 1]? = some (.string (bs (fieldL ((i + 1 : Nat) : Int)))) := fun i hi => by
    have h1 := hel i hi
    rw [List.getElem?_eq_getElem (by omega)] at h1
    obtain ⟨y0, y1, n, e1, _, h2, h3⟩ := trod_struct2 uEl h1
    rw [cEl, oF0, cF0] at h2
    rw [cEl, oF1, cF1] at h3
    obtain ⟨s0, g1, g2, _⟩ := DataW.trod_string uF0 h2
    obtain ⟨s1, g3, g4, _⟩ := DataW.trod_string uF1 h3
    have e2 : (xs.map (·.1))[i]? = some xs[i].1 := by rw [List.getElem?_map, List.getElem?_eq_getElem (by omega)]; rfl
    rw [← hx1, e1, List.getElem?_map, List.getElem?_eq_getElem (by exact hi)] at e2
    simp only [Option.map_some, Option.some.injEq, DataW.agg.injEq, List.cons.injEq, and_true, g2, g4, DataW.lit.injEq, Lit.string.injEq] at e2
    have hw : wordL ((i + 1 : Nat) : Int) = (shapeTbl[i]'hi).1.data.toList := by
      unfold wordL shapeOf
      rw [show (((i + 1 : Nat) : Int) - 1).toNat = i by omega, List.getD_eq_getElem?_getD, List.getElem?_eq_getElem (by exact hi)]
      rfl
    have hf : fieldL ((i + 1 : Nat) : Int) = (shapeTbl[i]'hi).2.data.toList := by
      unfold fieldL shapeOf
      rw [show (((i + 1 : Nat) : Int) - 1).toNat = i by omega, List.getD_eq_getElem?_getD, List.getElem?_eq_getElem (by exact hi)]
      rfl
    have k0 : s0 = bs (wordL ((i + 1 : Nat) : Int)) := by rw [hw, e2.1]; exact bs_of s0
    have k1 : s1 = bs (fieldL ((i + 1 : Nat) : Int)) := by rw [hf, e2.2]; exact bs_of s1
    rw [← k0, ← k1]
    have f0 := congrArg (fun l => l[0]?) g1
    have f1 := congrArg (fun l => l[0]?) g3
    simp at f0 f1
    exact ⟨by simpa using f0, by simpa using f1⟩
  obtain ⟨row, hr, hl, -, hcr, hd⟩ := shape_tbl
  intro g row' hg
  have hrow : row' = row := by
    unfold GT at hg
    split at hg
    · simp only [Option.some.injEq] at hg
      rw [← hg, hr]
    · simp at hg
  have hg0' : g = 0 := by
    unfold GT at hg
    split at hg
    · assumption
    · simp at hg
  subst hrow hg0'
  refine ⟨fun h => by rw [h] at hl; simp at hl, fun ⟨_, _, h1, _⟩ => by simp at h1, fun j a ha => ?_⟩
  have hj : j < 36 := by rw [← hl]; exact (List.getElem?_eq_some_iff.1 ha).1
  obtain ⟨i, hi⟩ : ∃ i, j = i * 2 ∨ j = i * 2 + 1 := ⟨j / 2, by omega⟩
  have hd := hd i (by omega)
  have hk := key i (by omega)
  rcases hi with rfl | rfl
  · have e1 : row'[i * 2]? = some (.str (bs (wordL ((i + 1 : Nat) : Int)))) := by
      have := congrArg (fun l => l[0]?) hd
      simpa [List.getElem?_take] using this
    rw [e1] at ha
    simp only [Option.some.injEq] at ha
    subst ha
    exact ⟨rfl, _, (hcell _).trans hk.1, .str _⟩
  · have e1 : row'[i * 2 + 1]? = some (.str (bs (fieldL ((i + 1 : Nat) : Int)))) := by
      have := congrArg (fun l => l[1]?) hd
      simpa [List.getElem?_take] using this
    rw [e1] at ha
    simp only [Option.some.injEq] at ha
    subst ha
    exact ⟨rfl, _, (hcell _).trans hk.2, .str _⟩
end Go.Proofs.YtbkbehkjndmabaaDoor

/-
  The last step, part 2: what all rows of this seat share.
-/
namespace Go.Proofs.YtbkbehkjndmabaaDoor
open Go.ChangeShapes Go.WideShapes Go.ChangeAt Go.RowKit
set_option linter.unusedVariables false
set_option linter.unusedSimpArgs false

abbrev insSh : List Sh := [.int .i64, .int .i64, .int .i64, .int .i64, .int .i64, .int .i64]

theorem Fit.int_inv {k : IntKind} {a : AV} (h : Fit (.int k) a) : ∃ n, a = .int k n ∧ k.min ≤ n ∧ n ≤ k.max := by
  cases h with
  | int k n h0 h1 => exact ⟨n, rfl, h0, h1⟩
theorem Fit.i64 {a : AV} (h : Fit (.int .i64) a) : ∃ n, a = .int .i64 n ∧ in64 n := by
  obtain ⟨n, rfl, h0, h1⟩ := h.int_inv
  exact ⟨n, rfl, h0, h1⟩
theorem Fit.u8 {a : AV} (h : Fit (.int .u8) a) : ∃ n : Nat, a = .int .u8 (n : Int) ∧ n < 256 := by
  obtain ⟨n, rfl, h0, h1⟩ := h.int_inv
  have e0 : IntKind.u8.min = 0 := rfl
  have e1 : IntKind.u8.max = 255 := rfl
  exact ⟨n.toNat, by congr 1; omega, by omega⟩
theorem Fit.str_inv {a : AV} (h : Fit .str a) : ∃ l : List UInt8, a = .str (bs l) ∧ l.length ≤ maxLen := by
  cases h with
  | str s h => exact ⟨s.data.toList, congrArg AV.str (bs_of s), bs_size (l := s.data.toList) ▸ h⟩

theorem fit_ins {r : List AV} (hn : r.length = 6) (h : ∀ (i : Nat) (e : Sh) (a : AV), insSh[i]? = some e → r[i]? = some a → Fit e a) : ∃ x : Ins, r = encIns x ∧ (in64 x.op ∧ in64 x.d ∧ in64 x.a ∧ in64 x.b ∧ in64 x.n ∧ in64 x.to) := by
  match r, hn with
  | [a0, a1, a2, a3, a4, a5], _ =>
    obtain ⟨n0, rfl, g0⟩ := (h 0 _ _ rfl rfl).i64
    obtain ⟨n1, rfl, g1⟩ := (h 1 _ _ rfl rfl).i64
    obtain ⟨n2, rfl, g2⟩ := (h 2 _ _ rfl rfl).i64
    obtain ⟨n3, rfl, g3⟩ := (h 3 _ _ rfl rfl).i64
    obtain ⟨n4, rfl, g4⟩ := (h 4 _ _ rfl rfl).i64
    obtain ⟨n5, rfl, g5⟩ := (h 5 _ _ rfl rfl).i64
    exact ⟨⟨n0, n1, n2, n3, n4, n5⟩, rfl, g0, g1, g2, g3, g4, g5⟩
theorem FitA.ins {a : AV} (h : FitA (.agg insSh) a) : ∃ x : Ins, a = insA x ∧ (in64 x.op ∧ in64 x.d ∧ in64 x.a ∧ in64 x.b ∧ in64 x.n ∧ in64 x.to) := by
  obtain ⟨r, rfl, hr⟩ := h
  obtain ⟨x, rfl, hx⟩ := fit_ins hr.1 hr.2
  exact ⟨x, rfl, hx⟩

theorem Pure.law {P : Program} {f : FuncId} {args : List AV} (h : Pure P f args (.bool true)) : ACalls P f args [] fun r _ => r = .bool true := (h []).mono fun r _ ⟨h, _⟩ => h
end Go.Proofs.YtbkbehkjndmabaaDoor
/-
  The last step, part 4: lists of instructions.
-/
namespace Go.Proofs.YtbkbehkjndmabaaDoor
open Go.ChangeShapes Go.WideShapes Go.ChangeAt Go.RowKit
set_option linter.unusedVariables false
set_option linter.unusedSimpArgs false

theorem ok_of {x : Ins} (h : in64 x.op ∧ in64 x.d ∧ in64 x.a ∧ in64 x.b ∧ in64 x.n ∧ in64 x.to) : Ok64 x := ⟨h.1, h.2.1, h.2.2.1, h.2.2.2.1, h.2.2.2.2.1, h.2.2.2.2.2⟩
theorem rows_of {α : Type} (f : α → List AV) (q : α → Prop) (p : List AV → Prop) (hp : ∀ r, p r → ∃ x, r = f x ∧ q x) : ∀ rows : List (List AV), (∀ r ∈ rows, p r) → ∃ l : List α, rows = l.map f ∧ ∀ x ∈ l, q x
  | [], _ => ⟨[], rfl, by simp⟩
  | r :: rows, h => by
    obtain ⟨x, rfl, hx⟩ := hp r (h r (by simp))
    obtain ⟨l, rfl, hl⟩ := rows_of f q p hp rows (fun r hr => h r (by simp [hr]))
    exact ⟨x :: l, rfl, by simpa using ⟨hx, hl⟩⟩
theorem Fit.inss {a : AV} (h : Fit (.list insSh) a) : ∃ l : List Ins, a = encFn l ∧ (∀ x ∈ l, Ok64 x) ∧ l.length ≤ maxLen := by
  cases h with
  | list es rows hl hn h =>
    obtain ⟨l, rfl, hq⟩ := rows_of encIns Ok64 (fun r => r.length = 6 ∧ ∀ (i : Nat) (e : Sh) (a : AV), insSh[i]? = some e → r[i]? = some a → Fit e a) (fun r hr => by
      obtain ⟨x, h1, h2⟩ := fit_ins hr.1 hr.2
      exact ⟨x, h1, ok_of h2⟩) rows (fun r hr => ⟨hn r hr, h r hr⟩)
    exact ⟨l, rfl, hq, by simpa using hl⟩
end Go.Proofs.YtbkbehkjndmabaaDoor

/-
  The last step, part 5: states, numbers.
-/
namespace Go.Proofs.YtbkbehkjndmabaaDoor
open Go.ChangeShapes Go.WideShapes Go.ChangeAt Go.RowKit
set_option linter.unusedVariables false
set_option linter.unusedSimpArgs false
theorem FitR.cons_inv {e : Sh} {es : List Sh} {r : List AV} (h : FitR (e :: es) r) : ∃ a r', r = a :: r' ∧ Fit e a ∧ FitR es r' := by
  obtain ⟨h1, h2⟩ := h
  cases r with
  | nil => simp at h1
  | cons a r => exact ⟨a, r, rfl, h2 0 e a rfl rfl, by simpa using h1, fun i e' a' he ha => h2 (i + 1) e' a' (by simpa using he) (by simpa using ha)⟩
theorem FitR.nil_inv {r : List AV} (h : FitR [] r) : r = [] := List.length_eq_zero_iff.1 h.1
theorem Fit.bool_inv {a : AV} (h : Fit .bool a) : ∃ b, a = .bool b := by
  cases h with
  | bool b => exact ⟨b, rfl⟩
theorem Fit.ints {a : AV} (h : Fit (.list [.int .i64]) a) : ∃ l : List Int, a = ints l ∧ (∀ n ∈ l, in64 n) ∧ l.length ≤ maxLen := by
  cases h with
  | list es rows hl hn h =>
    obtain ⟨l, rfl, hq⟩ := rows_of encI in64 (fun r => FitR [.int .i64] r) (fun r hr => by
      obtain ⟨a, r', rfl, h1, h2⟩ := hr.cons_inv
      have := h2.nil_inv
      subst this
      obtain ⟨n, rfl, hn⟩ := h1.i64
      exact ⟨n, rfl, hn⟩) rows (fun r hr => ⟨hn r hr, h r hr⟩)
    exact ⟨l, rfl, hq, by simpa using hl⟩
abbrev wSh : List Sh := [.bool, .int .i64]
theorem fit_words {rest : List Sh} : ∀ (n : Nat) (r : List AV), FitR ((List.replicate n wSh).flatten ++ rest) r → ∃ (L : List W) (r' : List AV), r = wc L ++ r' ∧ L.length = n ∧ (∀ w ∈ L, in64 w.v) ∧ FitR rest r'
  | 0, r, h => ⟨[], r, rfl, rfl, by simp, by simpa using h⟩
  | n + 1, r, h => by
    have e : (List.replicate (n + 1) wSh).flatten ++ rest = .bool :: .int .i64 :: ((List.replicate n wSh).flatten ++ rest) := by rw [List.replicate_succ]; rfl
    rw [e] at h
    obtain ⟨a, r1, rfl, h1, h2⟩ := h.cons_inv
    obtain ⟨b, r2, rfl, h3, h4⟩ := h2.cons_inv
    obtain ⟨x, rfl⟩ := h1.bool_inv
    obtain ⟨v, rfl, hv⟩ := h3.i64
    obtain ⟨L, r', rfl, h5, h6, h7⟩ := fit_words n r2 h4
    exact ⟨⟨x, v⟩ :: L, r', rfl, by simp [h5], by simpa using ⟨hv, h6⟩, h7⟩
abbrev stSh : List Sh := (List.replicate 24 wSh).flatten ++ [.list [.int .i64], .int .i64, .int .i64]
theorem FitA.st {a : AV} (h : FitA (.agg stSh) a) : ∃ s : St, a = stA s ∧ s.L.length = 24 ∧ (∀ w ∈ s.L, in64 w.v) ∧ s.heap.length ≤ maxLen ∧ (∀ n ∈ s.heap, in64 n) ∧ in64 s.pc ∧ in64 s.asked := by
  obtain ⟨r, rfl, hr⟩ := h
  obtain ⟨L, r1, rfl, h1, h2, h3⟩ := fit_words 24 r hr
  obtain ⟨a, r2, rfl, g1, g2⟩ := h3.cons_inv
  obtain ⟨b, r3, rfl, g3, g4⟩ := g2.cons_inv
  obtain ⟨c, r4, rfl, g5, g6⟩ := g4.cons_inv
  have := g6.nil_inv
  subst this
  obtain ⟨hp, rfl, k1, k2⟩ := g1.ints
  obtain ⟨pc, rfl, k3⟩ := g3.i64
  obtain ⟨as', rfl, k4⟩ := g5.i64
  exact ⟨⟨L, hp, pc, as'⟩, rfl, h1, h2, k2, k1, k3, k4⟩
end Go.Proofs.YtbkbehkjndmabaaDoor

