/-
  The abstract layer, part 31: objects of one's own are given up where they stand: slices of them become lists.
-/
import Derived.Test.YtoiceinjademgaaDoorCC
namespace Go.Proofs.YtoiceinjademgaaDoor
open Go.RowKit
set_option linter.unusedVariables false
set_option linter.unusedSimpArgs false

mutual
/-- What a value may be taken for, when the objects of H become those of G. -/
inductive Lose (H G : List AObj) : AV → AV → Prop where
  | same (a : AV) : Lose H G a a
  | dead (a : AV) : Lose H G a .dead
  | nil : Lose H G (.imm (.slice none 0 0)) (.list [])
  | sl (sz k n off len : Nat) (xs ys : List (List AV)) (hk : H[k]? = some (.vec sz xs)) (hg : G[k]? = some .gone) (hn : n = xs.length) (hys : ys = (xs.drop off).take len) (hcl : rowsClean ys) : Lose H G (.sl sz k n off len) (.list ys)
  | agg (as bs : List AV) (h : Loses H G as bs) : Lose H G (.agg as) (.agg bs)
  | tup (as bs : List AV) (h : Loses H G as bs) : Lose H G (.tup as) (.tup bs)
inductive Loses (H G : List AObj) : List AV → List AV → Prop where
  | nil : Loses H G [] []
  | cons (a b : AV) (as bs : List AV) (h : Lose H G a b) (hs : Loses H G as bs) : Loses H G (a :: as) (b :: bs)
end

/-- What an object may be taken for. -/
def LoseO (H G : List AObj) (o p : AObj) : Prop :=
  p = o ∨ p = .gone ∨ ∃ sz xs ys, o = .vec sz xs ∧ p = .vec sz ys ∧ ys.length = xs.length ∧ (∀ r ∈ ys, r.length = sz) ∧ ∀ i j b, cellAt ys i j = some b → ∃ a, cellAt xs i j = some a ∧ Lose H G a b

def LoseH (H G : List AObj) : Prop := G.length = H.length ∧ ∀ (k : Nat) (o p : AObj), H[k]? = some o → G[k]? = some p → LoseO H G o p

theorem LoseH.back {H G : List AObj} (h : LoseH H G) {k : Nat} {p : AObj} (hk : G[k]? = some p) : ∃ o, H[k]? = some o ∧ LoseO H G o p := by
  have hlt : k < H.length := by rw [← h.1]; exact (List.getElem?_eq_some_iff.1 hk).1
  exact ⟨H[k], by simp [hlt], h.2 k _ p (by simp [hlt]) hk⟩

theorem LoseO.live {H G : List AObj} {o p : AObj} (h : LoseO H G o p) (hp : p.live = true) : o.live = true := by
  rcases h with rfl | rfl | ⟨sz, xs, ys, rfl, rfl, _⟩
  · exact hp
  · cases hp
  · rfl

section
variable {ι : Nat → Option Nat} {H G : List AObj} {w : World}
theorem Fr.lose (h : LoseH H G) : Fr ⟨ι, H, w⟩ ⟨ι, G, w⟩ where
  os := rfl
  tape := rfl
  output := rfl
  size := Nat.le_refl _
  keep := fun b hb hw => ⟨rfl, fun ⟨k, p, h1, h2, h3⟩ => by
    obtain ⟨o, g1, g2⟩ := h.back h1
    exact hw ⟨k, o, g1, g2.live h2, h3⟩⟩
  len := by simp [h.1]
  vec := fun k sz xs' hk hx => by
    obtain ⟨o, g1, g2⟩ := h.back hx
    rcases g2 with rfl | e | ⟨sz', xs, ys, rfl, e, hlen, _⟩
    · exact ⟨xs', g1, Nat.le_refl _, fun _ => ⟨rfl, fun _ _ => rfl⟩⟩
    · cases e
    · cases e
      exact ⟨xs, g1, by omega, fun _ => ⟨rfl, fun _ _ => rfl⟩⟩
  map := fun k es hk hx => by
    obtain ⟨o, g1, g2⟩ := h.back hx
    rcases g2 with rfl | e | ⟨sz', xs, ys, rfl, e, hlen, _⟩
    · exact ⟨⟨es, g1⟩, rfl⟩
    · cases e
    · cases e
  iter := fun k s p hk hx => by
    obtain ⟨o, g1, g2⟩ := h.back hx
    rcases g2 with rfl | e | ⟨sz', xs, ys, rfl, e, hlen, _⟩
    · exact ⟨⟨s, p, g1⟩, rfl⟩
    · cases e
    · cases e

theorem lose_sl (hH : RepH ⟨ι, H, w⟩) (h : LoseH H G) {sz k n off len : Nat} {xs ys : List (List AV)} (hk : H[k]? = some (.vec sz xs)) (hg : G[k]? = some .gone) (hn : n = xs.length) (hys : ys = (xs.drop off).take len) (hcl : rowsClean ys)
    {v : Value} (hv : RepV ⟨ι, H, w⟩ (.sl sz k n off len) v) : RepV ⟨ι, G, w⟩ (.list ys) v := by
  obtain ⟨h0, hrows, hlen, hobj⟩ := hH.obj k _ hk
  have hcl' : ∀ (i j : Nat) (a : AV), cellAt ys i j = some a → a.clean 0 = true := fun i j a ha => by
    simp only [cellAt, Option.bind_eq_some_iff] at ha
    obtain ⟨r, h6, h7⟩ := ha
    exact cleanAll_iff.1 (hcl r (List.mem_of_getElem? h6)) j a h7
  cases hv with
  | sl _ _ _ _ _ A cap hk' hclc hA hn' hval =>
    obtain ⟨hle, hdis⟩ := hval xs hk hn
    have hyl : ys.length = len := by rw [hys]; simp; omega
    by_cases hz : len = 0
    · subst hz
      have : ys = [] := List.eq_nil_of_length_eq_zero hyl
      subst this
      exact .lnil A cap
    · rcases hdis with ⟨b, hb, rfl, _⟩ | ⟨h1, _⟩
      · rw [hb] at hobj
        obtain ⟨cs, el, fr, g1, g2, g3, g4⟩ := hobj
        have hcell : ∀ (i j : Nat) (a : AV), cellAt ys i j = some a → cellAt xs (off + i) j = some a := fun i j a ha => by
          rw [hys] at ha
          simp only [cellAt, List.getElem?_take] at ha ⊢
          split at ha
          · rwa [List.getElem?_drop] at ha
          · simp at ha
        have hnw : ¬ (Cx.wr ⟨ι, G, w⟩ b) := fun ⟨j, p, h1, h2, h3⟩ => by
          obtain ⟨o, h4, h5⟩ := h.back h1
          have : j = k := hH.inj j k o _ b h4 hk (h5.live h2) rfl h3 hb
          subst this
          have h6 : some p = some AObj.gone := h1.symm.trans hg
          cases h6
          cases h2
        have := RepV.list (c := ⟨ι, G, w⟩) sz ys b (off * sz) cap (fun i j => cs.getD ((off + i) * sz + j) undef) h0 (fun e => by rw [e] at hyl; simp at hyl; omega) (fun r hr => hrows r (by rw [hys] at hr; exact List.mem_of_mem_drop (List.mem_of_mem_take hr))) (by omega) (by omega) hnw hcl'
          (fun i j a ha => by
            obtain ⟨_, _, h3⟩ := cellAt_lt hrows (hcell i j a ha)
            have hlt : (off + i) * sz + j < cs.size := by omega
            have e : off * sz + (i * sz + j) = (off + i) * sz + j := by rw [Nat.add_mul]; omega
            replace g1 : w.heap[b]? = _ := g1
            show w.cell? _ = _
            simp [World.cell?, g1, e, hlt])
          (fun i j a ha => (g4 _ _ a (hcell i j a ha)).mono (Fr.lose h))
        rwa [hyl] at this
      · exact absurd h1 hz

mutual
theorem lose_sound (hH : RepH ⟨ι, H, w⟩) (hG : LoseH H G) : ∀ {a b : AV}, Lose H G a b → ∀ {v : Value}, RepV ⟨ι, H, w⟩ a v → RepV ⟨ι, G, w⟩ b v
  | _, _, .same a, v, hv => hv.mono (Fr.lose hG)
  | _, _, .dead a, v, hv => .dead v
  | _, _, .nil, v, hv => by rw [hv.imm_inv]; exact .lnil _ _
  | _, _, .sl sz k n off len xs ys hk hg hn hys hcl, v, hv => lose_sl hH hG hk hg hn hys hcl hv
  | _, _, .agg as bs h, v, hv => by
    obtain ⟨vs, rfl, h1, h2⟩ := hv.agg_inv
    obtain ⟨h3, h4⟩ := loses_sound hH hG h
    exact .agg bs vs (by rw [h1, h3]) fun i b hb => h4 i b hb _ h2
  | _, _, .tup as bs h, v, hv => by
    obtain ⟨vs, rfl, h1, h2⟩ := hv.tup_inv
    obtain ⟨h3, h4⟩ := loses_sound hH hG h
    exact .tup bs vs (by rw [h1, h3]) fun i b hb => h4 i b hb _ h2
theorem loses_sound (hH : RepH ⟨ι, H, w⟩) (hG : LoseH H G) : ∀ {as bs : List AV}, Loses H G as bs → as.length = bs.length ∧ ∀ (i : Nat) (b : AV), bs[i]? = some b → ∀ (vs : Array Value), (∀ (i : Nat) (a : AV), as[i]? = some a → RepV ⟨ι, H, w⟩ a (vs.getD i undef)) → RepV ⟨ι, G, w⟩ b (vs.getD i undef)
  | _, _, .nil => ⟨rfl, fun i b hb => by simp at hb⟩
  | _, _, .cons a b as bs h hs => by
    obtain ⟨h1, h2⟩ := loses_sound hH hG hs
    refine ⟨by simp [h1], fun i x hx vs hvs => ?_⟩
    cases i with
    | zero =>
      simp only [List.getElem?_cons_zero, Option.some.injEq] at hx
      subst hx
      exact lose_sound hH hG h (hvs 0 a rfl)
    | succ i =>
      have hx' : bs[i]? = some x := by simpa using hx
      have e : ∀ j, (vs.extract 1 vs.size).getD j undef = vs.getD (j + 1) undef := fun j => by
        simp only [Array.getD_eq_getD_getElem?, Array.getElem?_extract]
        by_cases hl : j < vs.size - 1
        · rw [if_pos (by omega), Nat.add_comm]
        · rw [if_neg (by omega), Array.getElem?_eq_none (by omega)]
      have := h2 i x hx' (vs.extract 1 vs.size) (fun j a' ha => by
        have := hvs (j + 1) a' (by simpa using ha)
        rw [e]; exact this)
      rwa [e] at this
end

theorem RepH.lose (h : RepH ⟨ι, H, w⟩) (hG : LoseH H G) : RepH ⟨ι, G, w⟩ where
  obj := fun k p hk => by
    have F := Fr.lose (ι := ι) (w := w) hG
    obtain ⟨o, g1, g2⟩ := hG.back hk
    have hO := h.obj k o g1
    rcases g2 with rfl | rfl | ⟨sz, xs, ys, rfl, rfl, hlen, hrow, hcell⟩
    · exact hO.mono F rfl (fun _ _ _ => rfl)
    · trivial
    · obtain ⟨h1, h2, h3, h4⟩ := hO
      refine ⟨h1, hrow, by omega, ?_⟩
      show match ι k with
        | none => ys = []
        | some b => _
      replace h4 : match ι k with
        | none => xs = []
        | some b => _ := h4
      cases hi : ι k with
      | none =>
        rw [hi] at h4
        simp only at h4
        subst h4
        exact List.length_eq_zero_iff.1 (by simpa using hlen)
      | some b =>
        rw [hi] at h4
        obtain ⟨cs, e, fr, h5, h6, h7, h8⟩ := h4
        exact ⟨cs, e, fr, h5, by rw [hlen]; exact h6, h7, fun i j b hb => by
          obtain ⟨a, ha, hv⟩ := hcell i j b hb
          exact lose_sound h hG hv (h8 i j a ha)⟩
  lt := fun k p b hk hlv hi => by
    obtain ⟨o, g1, g2⟩ := hG.back hk
    exact h.lt k o b g1 (g2.live hlv) hi
  inj := fun k l p q b hk hl' h1 h2 h3 h4 => by
    obtain ⟨o, g1, g2⟩ := hG.back hk
    obtain ⟨o', f1, f2⟩ := hG.back hl'
    exact h.inj k l o o' b g1 f1 (g2.live h1) (f2.live h2) h3 h4
  glob := h.glob.mono (Fr.lose hG)

theorem RepVs.lose (hH : RepH ⟨ι, H, w⟩) (hG : LoseH H G) {as bs : List AV} {vs : Array Value} (h : Loses H G as bs) (hv : RepVs ⟨ι, H, w⟩ as vs) : RepVs ⟨ι, G, w⟩ bs vs := by
  obtain ⟨h1, h2⟩ := loses_sound hH hG h
  exact ⟨by rw [hv.1, h1], fun i b hb => h2 i b hb vs hv.2⟩
end

/-- A call, ahead of which objects are given up. -/
theorem ACalls.lose {P : Program} {f : FuncId} {H G : List AObj} {args args' : List AV} {K : AV → List AObj → Prop} (hG : LoseH H G) (hv : Loses H G args args') (h : ACalls P f args' G K) : ACalls P f args H K :=
  ⟨h.1, fun ι w vals h1 h2 => (h.2 ι w vals (h1.lose hG) (h2.lose h1 hG hv)).mono fun e w' ⟨r, v, ι', H', g1, g2, g3, g4, g5⟩ => ⟨r, v, ι', H', g1, g2, g3, g4, (Fr.lose hG).trans g5⟩⟩

/-- A state in which objects are given up. -/
theorem Weak.lose {B N : Nat} {t t' : Tm} {H G : List AObj} (hG : LoseH H G) (ht : ∀ n, Lose H G (t n) (t' n)) : Weak B N ⟨t, H⟩ ⟨t', G⟩ := fun ι a w hr =>
  ⟨ι, ⟨hr.h.lose hG, ⟨hr.t.size, fun n => lose_sound hr.h hG (ht n) (hr.t.val n), hr.t.defers⟩⟩, fun c0 hb hf => hf.trans (Fr.lose hG)⟩

/-- A part, behind which the frame is as it is said: one way, what follows already named. -/
theorem R.cutS {P : Program} {N B : Nat} {Q : Exit → AS → Prop} {σ : AS} {x y : LCode} (sl : List (Nat × AV)) (H' : List AObj) (h : LCB P N B x (CutQ N B ⟨mkT sl, H'⟩ Q) σ) (hy : LCB P N B y Q ⟨mkT sl, H'⟩) : LCB P N B x (SeqQ P N B y Q) σ := by
  refine LCB.post (h.mono fun e σ' he => ?_)
  cases e with
  | normal => exact ⟨_, he, hy⟩
  | _ => exact ⟨σ', Weak.refl _ _ _, he⟩

/-! ### By equations -/
def LoseL (H G : List AObj) : List AObj → List AObj → Prop
  | [], [] => True
  | o :: L, p :: M => LoseO H G o p ∧ LoseL H G L M
  | _, _ => False
theorem LoseL.spec {H G : List AObj} : ∀ {L M : List AObj}, LoseL H G L M → M.length = L.length ∧ ∀ (i : Nat) (o p : AObj), L[i]? = some o → M[i]? = some p → LoseO H G o p
  | [], [], _ => ⟨rfl, fun i o p h => by simp at h⟩
  | o :: L, p :: M, ⟨h1, h2⟩ => by
    obtain ⟨h3, h4⟩ := LoseL.spec h2
    refine ⟨by simp [h3], fun i o' p' h5 h6 => ?_⟩
    cases i with
    | zero => simp at h5 h6; subst h5; subst h6; exact h1
    | succ i => exact h4 i o' p' (by simpa using h5) (by simpa using h6)
theorem LoseH.app {H L M : List AObj} (h : LoseL (H ++ L) (H ++ M) L M) : LoseH (H ++ L) (H ++ M) := by
  obtain ⟨h1, h2⟩ := h.spec
  refine ⟨by simp [h1], fun k o p g1 g2 => ?_⟩
  rcases Nat.lt_or_ge k H.length with hk | hk
  · rw [List.getElem?_append_left hk] at g1 g2
    exact .inl (by rw [g1] at g2; cases g2; rfl)
  · rw [List.getElem?_append_right hk] at g1 g2
    exact h2 _ o p g1 g2
theorem ACalls.loseAt {P : Program} {f : FuncId} {H L : List AObj} {args : List AV} {K : AV → List AObj → Prop} (M : List AObj) (args' : List AV) (h : LoseL (H ++ L) (H ++ M) L M ∧ Loses (H ++ L) (H ++ M) args args') (hc : ACalls P f args' (H ++ M) K) : ACalls P f args (H ++ L) K :=
  ACalls.lose (LoseH.app h.1) h.2 hc
theorem Weak.loseAt {B N : Nat} {t : Tm} {H L : List AObj} (M : List AObj) (sl : List (Nat × AV)) (h : LoseL (H ++ L) (H ++ M) L M ∧ ∀ p ∈ sl, Lose (H ++ L) (H ++ M) (t p.1) p.2) : Weak B N ⟨t, H ++ L⟩ ⟨mkT sl, H ++ M⟩ :=
  Weak.lose (LoseH.app h.1) fun n => by
    have h2 := h.2
    clear h
    induction sl with
    | nil => exact .dead _
    | cons p r ih =>
      obtain ⟨k, v⟩ := p
      rw [mkT_cons]
      split
      · rename_i e; subst e; exact h2 (n, v) (by simp)
      · exact ih fun p hp => h2 p (by simp [hp])

section
variable {H G : List AObj}
theorem ll_nil : LoseL H G [] [] = True := rfl
theorem ll_cons {o p : AObj} {L M : List AObj} : LoseL H G (o :: L) (p :: M) = (LoseO H G o p ∧ LoseL H G L M) := rfl
theorem lo_gone {o : AObj} : LoseO H G o .gone = True := eq_true (.inr (.inl rfl))
theorem lo_same {o : AObj} : LoseO H G o o = True := eq_true (.inl rfl)
theorem ls_same {a : AV} : Lose H G a a = True := eq_true (.same a)
theorem ls_dead {a : AV} : Lose H G a .dead = True := eq_true (.dead a)
theorem ls_nil : Lose H G (.imm (.slice none 0 0)) (.list []) = True := eq_true .nil
theorem ls_int {k k' : IntKind} {a b : Int} (h : k = k' ∧ a = b) : Lose H G (.int k a) (.int k' b) := by obtain ⟨rfl, rfl⟩ := h; exact .same _
theorem ls_slist {z k n o l : Nat} {ys : List (List AV)} : Lose H G (.sl z k n o l) (.list ys) = match H[k]?, G[k]? with | some (.vec z' xs), some .gone => z' = z ∧ n = xs.length ∧ ys = (xs.drop o).take l ∧ rowsClean ys | _, _ => False := propext ⟨fun h => by
  cases h with
  | sl _ _ _ _ _ xs _ h1 h2 h3 h4 h5 =>
    rw [h1, h2]
    exact ⟨rfl, h3, h4, h5⟩, fun h => by
  split at h
  · rename_i z' xs hk hg
    obtain ⟨rfl, h3, h4, h5⟩ := h
    exact .sl _ _ _ _ _ xs _ hk hg h3 h4 h5
  · exact h.elim⟩
theorem lss_nil : Loses H G [] [] = True := eq_true .nil
theorem lss_cons {a b : AV} {as bs : List AV} : Loses H G (a :: as) (b :: bs) = (Lose H G a b ∧ Loses H G as bs) := propext ⟨fun h => by
  cases h with
  | cons _ _ _ _ h1 h2 => exact ⟨h1, h2⟩, fun ⟨h1, h2⟩ => .cons _ _ _ _ h1 h2⟩
theorem Loses.refl : ∀ (l : List AV), Loses H G l l
  | [] => .nil
  | a :: l => .cons a a l l (.same a) (Loses.refl l)
theorem lss_same {l : List AV} : Loses H G l l = True := eq_true (Loses.refl l)
theorem ls_agg {as bs : List AV} : Lose H G (.agg as) (.agg bs) = Loses H G as bs := propext ⟨fun h => by
  cases h with
  | same => exact Loses.refl _
  | agg _ _ h => exact h, fun h => .agg _ _ h⟩
theorem ls_tup {as bs : List AV} : Lose H G (.tup as) (.tup bs) = Loses H G as bs := propext ⟨fun h => by
  cases h with
  | same => exact Loses.refl _
  | tup _ _ h => exact h, fun h => .tup _ _ h⟩
theorem Loses.get : ∀ {as bs : List AV}, Loses H G as bs → ∀ (j : Nat) (b : AV), bs[j]? = some b → ∃ a, as[j]? = some a ∧ Lose H G a b
  | _, _, .nil, j, b, hb => by simp at hb
  | _, _, .cons a b as bs h hs, j, x, hx => by
    cases j with
    | zero => simp at hx; subst hx; exact ⟨a, rfl, h⟩
    | succ j => obtain ⟨y, h1, h2⟩ := hs.get j x (by simpa using hx); exact ⟨y, by simpa using h1, h2⟩
/-- One row of cells. -/
theorem lo_row {z : Nat} {r s : List AV} (h : s.length = z ∧ Loses H G r s) : LoseO H G (.vec z [r]) (.vec z [s]) = True := eq_true (.inr (.inr ⟨z, [r], [s], rfl, rfl, rfl, by simp [h.1], fun i j b hb => by
  cases i with
  | zero =>
    simp only [cellAt, List.getElem?_cons_zero, Option.bind_some] at hb ⊢
    exact h.2.get j b hb
  | succ i => simp [cellAt] at hb⟩))
end
theorem lk : type_of% (And.intro @ll_nil (And.intro @ll_cons (And.intro @lo_gone (And.intro @lo_same (And.intro @lo_row (And.intro @ls_same (And.intro @ls_dead (And.intro @ls_nil (And.intro @ls_slist (And.intro @lss_same (And.intro @lss_nil (And.intro @lss_cons (And.intro @ls_agg (@ls_tup)))))))))))))) :=
  And.intro @ll_nil (And.intro @ll_cons (And.intro @lo_gone (And.intro @lo_same (And.intro @lo_row (And.intro @ls_same (And.intro @ls_dead (And.intro @ls_nil (And.intro @ls_slist (And.intro @lss_same (And.intro @lss_nil (And.intro @lss_cons (And.intro @ls_agg (@ls_tup)))))))))))))
end Go.Proofs.YtoiceinjademgaaDoor
