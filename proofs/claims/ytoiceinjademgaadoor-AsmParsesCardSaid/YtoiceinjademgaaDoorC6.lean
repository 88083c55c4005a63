/-
  The abstract layer, part 24: the plain 'for', nil in a cell, arguments that say less.
-/
import Derived.Test.YtoiceinjademgaaDoorC5
namespace Go.Proofs.YtoiceinjademgaaDoor
open Go.RowKit
set_option linter.unusedVariables false
set_option linter.unusedSimpArgs false

section
variable {P : Program} {N B : Nat} {Q : Exit → AS → Prop} {σ : AS}

/-- 'for ..; i < n; i++', as it stands in the code: what comes ahead of the test, the body, what comes behind. -/
theorem LCB.cfor {b c : Nat} {pre post : List LOper} {body : LCode} (len : Nat) (I : Nat → AS → Prop) (k0 : Nat) (hk0 : k0 ≤ len) (hI : I k0 σ)
    (hpre : ∀ k σ, k ≤ len → I k σ → wpL P pre (fun σ' => σ'.t c = .bool (decide (k < len)) ∧ I k σ') σ)
    (hbody : ∀ k σ, k < len → I k σ → LCB P N B body (fun e σ' => match e with
      | .normal => ∃ σ'', Weak B N σ' σ'' ∧ wpL P post (I (k + 1)) σ''
      | .exit b' => if b' = b then Q .normal σ' else Q (.exit b') σ'
      | e => Q e σ') σ)
    (hend : ∀ σ, I len σ → Q .normal σ) :
    LCB P N B (.block b (.loop (.seq (.seq (.text pre) (.cond (.tmp c) .skip (.exit b))) (.seq body (.text post))))) Q σ := by
  refine LCB.block (LCB.loop (fun n σ => ∃ k, k ≤ len ∧ n = len - k ∧ I k σ) (len - k0) ⟨k0, hk0, rfl, hI⟩ ?_)
  rintro n σ ⟨k, hk, rfl, hIk⟩
  refine LCB.seq (LCB.seq (LCB.text (wpL_mono ?_ (hpre k σ hk hIk))))
  rintro σ ⟨hc, hIk⟩
  refine LCB.cond (t := decide (k < len)) hc (fun hlt => LCB.skip ?_) (fun hge => LCB.exit ?_)
  · have hlt' : k < len := by simpa using hlt
    refine LCB.seq ((hbody k σ hlt' hIk).mono fun e σ' he => ?_)
    cases e with
    | normal =>
      obtain ⟨σ'', hw, h⟩ := he
      exact LCB.pre hw (LCB.text (wpL_mono (fun σ h => ⟨len - (k + 1), by omega, k + 1, by omega, rfl, h⟩) h))
    | exit b' => exact he
    | _ => exact he
  · have hge' : k = len := by
      have : ¬ k < len := by simpa using hge
      omega
    subst hge'
    simp only [if_true]
    exact hend _ hIk

/-- The loops of 'range': the test, the body, the step. -/
theorem LCB.rfor {b c : Nat} {pre post : List LOper} {body : LCode} (len : Nat) (I : Nat → AS → Prop) (k0 : Nat) (hk0 : k0 ≤ len) (hI : I k0 σ)
    (hpre : ∀ k σ, k ≤ len → I k σ → wpL P pre (fun σ' => σ'.t c = .bool (decide (k < len)) ∧ I k σ') σ)
    (hbody : ∀ k σ, k < len → I k σ → LCB P N B body (fun e σ' => match e with
      | .normal => ∃ σ'', Weak B N σ' σ'' ∧ wpL P post (I (k + 1)) σ''
      | .exit b' => if b' = b then Q .normal σ' else Q (.exit b') σ'
      | e => Q e σ') σ)
    (hend : ∀ σ, I len σ → Q .normal σ) :
    LCB P N B (.block b (.loop (.seq (.text pre) (.seq (.cond (.tmp c) .skip (.exit b)) (.seq body (.text post)))))) Q σ := by
  refine LCB.block (LCB.loop (fun n σ => ∃ k, k ≤ len ∧ n = len - k ∧ I k σ) (len - k0) ⟨k0, hk0, rfl, hI⟩ ?_)
  rintro n σ ⟨k, hk, rfl, hIk⟩
  refine LCB.seq (LCB.text (wpL_mono ?_ (hpre k σ hk hIk)))
  rintro σ ⟨hc, hIk⟩
  refine LCB.seq (LCB.cond (t := decide (k < len)) hc (fun hlt => LCB.skip ?_) (fun hge => LCB.exit ?_))
  · have hlt' : k < len := by simpa using hlt
    refine LCB.seq ((hbody k σ hlt' hIk).mono fun e σ' he => ?_)
    cases e with
    | normal =>
      obtain ⟨σ'', hw, h⟩ := he
      exact LCB.pre hw (LCB.text (wpL_mono (fun σ h => ⟨len - (k + 1), by omega, k + 1, by omega, rfl, h⟩) h))
    | exit b' => exact he
    | _ => exact he
  · have hge' : k = len := by
      have : ¬ k < len := by simpa using hge
      omega
    subst hge'
    simp only [if_true]
    exact hend _ hIk
end

/-! ### nil in a cell -/
theorem Fr.setVec {c : Cx} {k sz : Nat} {xs xs' : List (List AV)} (hk : c.H[k]? = some (.vec sz xs)) (hl : xs'.length = xs.length) : Fr c ⟨c.ι, c.H.set k (.vec sz xs'), c.w⟩ where
  os := rfl
  tape := rfl
  output := rfl
  size := Nat.le_refl _
  keep := fun b hb hw => ⟨rfl, fun ⟨j, o, h1, h2, h3⟩ => by
    by_cases e : j = k
    · subst e; exact hw ⟨j, _, hk, rfl, h3⟩
    · exact hw ⟨j, o, by simpa [List.getElem?_set, Ne.symm e] using h1, h2, h3⟩⟩
  len := by simp
  vec := fun j sz' ys hj hy => by
    by_cases e : j = k
    · subst e
      simp [List.getElem?_set] at hy
      obtain ⟨_, rfl, rfl⟩ := hy
      exact ⟨xs, hk, by omega, fun _ => ⟨rfl, fun _ _ => rfl⟩⟩
    · exact ⟨ys, by simpa [List.getElem?_set, Ne.symm e] using hy, Nat.le_refl _, fun _ => ⟨rfl, fun _ _ => rfl⟩⟩
  map := fun j es hj he => by
    by_cases e : j = k
    · subst e; simp [List.getElem?_set] at he
    · exact ⟨⟨es, by simpa [List.getElem?_set, Ne.symm e] using he⟩, rfl⟩
  iter := fun j s p hj he => by
    by_cases e : j = k
    · subst e; simp [List.getElem?_set] at he
    · exact ⟨⟨s, p, by simpa [List.getElem?_set, Ne.symm e] using he⟩, rfl⟩

/-- nil in a cell becomes a slice that can grow. -/
theorem Weak.growCell {B N : Nat} {σ : AS} (k i j sz sz0 : Nat) {xs : List (List AV)} {row : List AV} (h0 : 0 < sz) (hk : σ.H[k]? = some (.vec sz0 xs)) (hi : xs[i]? = some row) (hj : row[j]? = some (.imm (.slice none 0 0))) :
    Weak B N σ ⟨σ.t, σ.H.set k (.vec sz0 (xs.set i (row.set j (.sl sz σ.H.length 0 0 0)))) ++ [.vec sz []]⟩ := fun ι a w hr => by
  have hf : Fr ⟨ι, σ.H, w⟩ (Cx.push ⟨ι, σ.H, w⟩ (.vec sz []) none w) := Fr.push rfl rfl rfl (Nat.le_refl _) (fun _ _ => rfl) (fun b e => by cases e) hr.h.lt
  have hR : RepH (Cx.push ⟨ι, σ.H, w⟩ (.vec sz []) none w) := hr.h.push rfl rfl rfl (Nat.le_refl _) (fun _ _ => rfl) (fun b e => by cases e) ⟨h0, by simp, by simp, by rw [push_ι (c := ⟨ι, σ.H, w⟩)]⟩
  have hklt : k < σ.H.length := (List.getElem?_eq_some_iff.1 hk).1
  have hsl : ∀ (c : Cx), c.H[σ.H.length]? = some (.vec sz []) → RepV c (.sl sz σ.H.length 0 0 0) (.slice none 0 0) := fun c hc =>
    .sl _ _ _ _ _ _ _ ((List.getElem?_eq_some_iff.1 hc).1) (Nat.le_refl _) (fun h => by simp at h) (fun sz' ys hx => by rw [hc] at hx; simp at hx; exact ⟨hx.1.symm, by simp⟩) (fun ys hx hn => ⟨by simp, .inr ⟨rfl, rfl⟩⟩)
  generalize hcc : (Cx.push ⟨ι, σ.H, w⟩ (.vec sz []) none w) = c at hf hR
  have hH : c.H = σ.H ++ [.vec sz []] := by rw [← hcc]; rfl
  have hw : c.w = w := by rw [← hcc]; rfl
  have hk' : c.H[k]? = some (.vec sz0 xs) := by rw [hH, List.getElem?_append_left hklt]; exact hk
  have hf2 := Fr.setVec (xs' := xs.set i (row.set j (.sl sz σ.H.length 0 0 0))) hk' (by simp)
  have hHe : c.H.set k (.vec sz0 (xs.set i (row.set j (.sl sz σ.H.length 0 0 0)))) = σ.H.set k (.vec sz0 (xs.set i (row.set j (.sl sz σ.H.length 0 0 0)))) ++ [.vec sz []] := by
    rw [hH, List.set_append, if_pos hklt]
  rw [hHe, hw] at hf2
  have hlast : (σ.H.set k (.vec sz0 (xs.set i (row.set j (.sl sz σ.H.length 0 0 0)))) ++ [AObj.vec sz []])[σ.H.length]? = some (.vec sz []) := by
    rw [List.getElem?_append_right (by simp)]; simp
  have hlt : i < xs.length := (List.getElem?_eq_some_iff.1 hi).1
  have hR2 : RepH ⟨c.ι, σ.H.set k (.vec sz0 (xs.set i (row.set j (.sl sz σ.H.length 0 0 0)))) ++ [.vec sz []], w⟩ := by
    have hget : ∀ q o, (σ.H.set k (.vec sz0 (xs.set i (row.set j (.sl sz σ.H.length 0 0 0)))) ++ [AObj.vec sz []])[q]? = some o → (q = k ∧ o = .vec sz0 (xs.set i (row.set j (.sl sz σ.H.length 0 0 0)))) ∨ (q ≠ k ∧ c.H[q]? = some o) := fun q o hq => by
      rw [← hHe] at hq
      by_cases e : q = k
      · subst e
        have : q < c.H.length := by rw [hH]; simp; omega
        simp [List.getElem?_set, this] at hq
        exact .inl ⟨rfl, hq.symm⟩
      · exact .inr ⟨e, by simpa [List.getElem?_set, Ne.symm e] using hq⟩
    refine ⟨fun q o hq => ?_, fun q o b hq hl hb => ?_, fun q l o p b hq hl h1 h2 h3 h4 => ?_, hR.glob.mono hf2⟩
    · rcases hget q o hq with ⟨rfl, rfl⟩ | ⟨hne, hq'⟩
      · obtain ⟨g1, g2, g3, g4⟩ := hR.obj q _ hk'
        refine ⟨g1, fun r hr2 => ?_, by simpa using g3, ?_⟩
        · rcases List.mem_or_eq_of_mem_set hr2 with h | h
          · exact g2 r h
          · rw [h, List.length_set]; exact g2 row (List.mem_of_getElem? hi)
        · cases hci : c.ι q with
          | none => simp only [hci] at g4 ⊢; subst g4; simp at hlt
          | some b =>
            simp only [hci] at g4 ⊢
            obtain ⟨cs, el, fr, k1, k2, k3, k4⟩ := g4
            rw [hw] at k1
            refine ⟨cs, el, fr, k1, by simpa using k2, k3, fun i' j' a' ha' => ?_⟩
            simp only [cellAt, List.getElem?_set] at ha'
            by_cases e1 : i = i'
            · subst e1
              simp only [if_true, hlt, Option.bind_some, List.getElem?_set] at ha'
              by_cases e2 : j = j'
              · subst e2
                have hjl : j < row.length := (List.getElem?_eq_some_iff.1 hj).1
                simp only [if_true, hjl, Option.some.injEq] at ha'
                subst ha'
                have := k4 i j (.imm (.slice none 0 0)) (by simp [cellAt, hi, hj])
                rw [this.imm_inv]
                exact hsl _ hlast
              · simp only [e2, if_false] at ha'
                exact (k4 i j' a' (by simp [cellAt, hi, ha'])).mono hf2
            · simp only [e1, if_false] at ha'
              exact (k4 i' j' a' ha').mono hf2
      · exact (hR.obj q o hq').mono hf2 rfl fun _ b _ => by show w.heap[b]? = c.w.heap[b]?; rw [hw]
    · rcases hget q o hq with ⟨rfl, rfl⟩ | ⟨hne, hq'⟩
      · have := hR.lt q _ b hk' rfl hb; rwa [hw] at this
      · have := hR.lt q _ b hq' hl hb; rwa [hw] at this
    · have g : ∀ (q : Nat) (o : AObj), (σ.H.set k (.vec sz0 (xs.set i (row.set j (.sl sz σ.H.length 0 0 0)))) ++ [AObj.vec sz []])[q]? = some o → o.live = true → ∃ o' : AObj, c.H[q]? = some o' ∧ o'.live = true := fun q o hq hlv => by
        rcases hget q o hq with ⟨rfl, rfl⟩ | ⟨_, hq'⟩
        · exact ⟨_, hk', rfl⟩
        · exact ⟨o, hq', hlv⟩
      obtain ⟨o', y1, y2⟩ := g q o hq h1
      obtain ⟨p', z1, z2⟩ := g l p hl h2
      exact hR.inj q l o' p' b y1 z1 y2 z2 h3 h4
  exact ⟨c.ι, ⟨hR2, ⟨hr.t.size, fun n => ((hr.t.val n).mono hf).mono hf2, hr.t.defers⟩⟩, fun c0 hb hf0 => (hf0.trans hf).trans hf2⟩

/-- Own slices become lists. -/
theorem Weak.views {B N : Nat} {t : Tm} {H L : List AObj} (t' : Tm) (hB : B ≤ H.length) (hH : Clean H.length H) (hv : ∀ n, View (H ++ L) H.length (t n) (t' n)) : Weak B N ⟨t, H ++ L⟩ ⟨t', H⟩ := by
  have := Weak.take (B := B) (N := N) (σ := ⟨t, H ++ L⟩) (t' := t') H.length hB (by simpa using hH) hv
  simpa using this

/-- A few slots are kept as they are, one says less. -/
def keepV (ks : List Nat) (vs : List (Nat × AV)) (t : Tm) : Tm := fun n => match vs.find? (fun p => p.1 == n) with
  | some p => p.2
  | none => if ks.contains n then t n else .dead

theorem Weak.viewV {B N : Nat} {t : Tm} {H L : List AObj} (ks : List Nat) (vs : List (Nat × AV)) (hB : B ≤ H.length) (hH : Clean H.length H) (hk : ∀ s ∈ ks, (t s).clean H.length = true) (hv : ∀ p ∈ vs, View (H ++ L) H.length (t p.1) p.2) : Weak B N ⟨t, H ++ L⟩ ⟨keepV ks vs t, H⟩ :=
  Weak.views _ hB hH fun n => by
    unfold keepV
    split
    · rename_i p hp
      have h1 := List.mem_of_find?_eq_some hp
      have h2 := List.find?_some hp
      simp at h2
      subst h2
      exact hv p h1
    · split
      · rename_i h
        exact .same _ (hk n (by simpa using h))
      · exact .dead _
end Go.Proofs.YtoiceinjademgaaDoor
