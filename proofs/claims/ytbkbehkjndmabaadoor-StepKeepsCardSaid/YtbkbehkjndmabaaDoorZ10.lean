/-
  Texts of this claim, put together.
-/
import Derived.Test.YtbkbehkjndmabaaDoorZ9
/-
  step: more plain laws of a step.
-/
namespace Go.Proofs.YtbkbehkjndmabaaDoor
open Go.RowKit
set_option linter.unusedVariables false
set_option linter.unusedSimpArgs false
theorem to_of {x : Ins} {n : Int} (h : chk x n = 0) (ho : x.op = 16 ∨ x.op = 17) : 0 ≤ x.to ∧ x.to < n := by
  rw [chk_same] at h
  unfold chkR at h
  cases hf : badFormR x with
  | true => rw [hf, if_pos rfl] at h; simp at h
  | false =>
    cases hp : badPlaceR x with
    | true => rw [hf, hp] at h; simp at h
    | false =>
      rw [hf, hp] at h
      by_cases hb : ((x.op == 16 || x.op == 17) && farOff x n) = true
      · rw [hb] at h; simp at h
      · have h1 : (x.op == 16 || x.op == 17) = true := by rcases ho with h | h <;> simp [h]
        rw [h1, Bool.true_and] at hb
        unfold farOff at hb
        simp only [Bool.or_eq_true, decide_eq_true_eq, not_or] at hb
        omega
theorem all_set {L : List W} {i : Nat} {w : W} (h : L.all okW = true) (hw : okW w = true) : (L.set i w).all okW = true := by
  rw [List.all_eq_true] at h ⊢
  intro x hx
  rcases List.mem_or_eq_of_mem_set hx with h1 | rfl
  · exact h x h1
  · exact hw
theorem okW_getD {L : List W} (h : L.all okW = true) (i : Nat) : okW (L.getD i noW) = true := by
  rw [List.all_eq_true] at h
  rw [List.getD_eq_getElem?_getD]
  cases hi : L[i]? with
  | none => rfl
  | some w => exact h w (List.mem_of_getElem? hi)
theorem okW_is (v : Int) : okW ⟨true, v⟩ = true := rfl
/-- What an instruction that is right has. -/
theorem ins_right {f : List Ins} {s : St} (hs : stRight f s = true) : f.getD s.pc.toNat noIns ∈ f ∧ chk (f.getD s.pc.toNat noIns) (f.length : Int) = 0 ∧ ((f.getD s.pc.toNat noIns).op ≠ 16 → (f.getD s.pc.toNat noIns).op ≠ 18 → s.pc + 1 < (f.length : Int)) := by
  obtain ⟨r1, r2, r3, _⟩ := stRight_iff.1 hs
  obtain ⟨f1, f2, f3, f4⟩ := fnOk_iff.1 r1
  have hn : s.pc.toNat < f.length := by omega
  have hmem : f.getD s.pc.toNat noIns ∈ f := by simp [List.getD, hn]
  refine ⟨hmem, f3 _ hmem, fun h1 h2 => ?_⟩
  rcases Nat.lt_or_ge (s.pc.toNat + 1) f.length with h | h
  · omega
  · exfalso
    have e : s.pc.toNat = f.length - 1 := by omega
    unfold lastOp at f4
    rw [← e] at f4
    rcases f4 with h3 | h3
    · exact h1 h3
    · exact h2 h3
theorem stepW_right {f : List Ins} {s : St} {ask : List Int} (hs : stRight f s = true) (h0 : (stepW s (f.getD s.pc.toNat noIns) ask).2.2.1 = 0) : stRight f (stepW s (f.getD s.pc.toNat noIns) ask).1 = true := by
  obtain ⟨_, hc, hnext⟩ := ins_right hs
  have hto := fun ho => to_of hc ho
  obtain ⟨r1, r2, r3, r4, r5, r6⟩ := stRight_iff.1 hs
  have hheap := stepW_heap s (f.getD s.pc.toNat noIns) ask
  generalize f.getD s.pc.toNat noIns = x at *
  have key : ∀ s' : St, 0 ≤ s'.pc ∧ s'.pc < (f.length : Int) → s'.heap.length = s.heap.length → 0 ≤ s'.asked → s'.L.all okW = true → stRight f s' = true := fun s' h1 h2 h3 h4 => stRight_iff.2 ⟨r1, h1.1, h1.2, by omega, h3, h4⟩
  unfold stepW at h0 hheap ⊢
  simp only at h0 hheap ⊢
  by_cases o13 : x.op = 13
  · rw [if_pos o13] at h0 hheap ⊢
    have := hnext (by omega) (by omega)
    split at h0
    · rename_i hh
      rw [if_pos hh] at hheap ⊢
      refine key _ ⟨by simp only; omega, by simp only; omega⟩ hheap (by simp only [setS_asked]; omega) ?_
      simp only [setS, if_true]
      exact all_set r6 (okW_is _)
    · rename_i hh; exact absurd h0 hh
  rw [if_neg o13] at h0 hheap ⊢
  by_cases o14 : x.op = 14
  · rw [if_pos o14] at h0 hheap ⊢
    have := hnext (by omega) (by omega)
    split at h0
    · rename_i hh
      rw [if_pos hh] at hheap ⊢
      exact key _ ⟨by simp only; omega, by simp only; omega⟩ hheap r5 r6
    · rename_i hh; exact absurd h0 hh
  rw [if_neg o14] at h0 hheap ⊢
  by_cases o15 : x.op = 15
  · rw [if_pos o15] at h0 hheap ⊢
    have := hnext (by omega) (by omega)
    split at h0
    · rename_i hh
      rw [if_pos hh] at hheap ⊢
      refine key _ ⟨by simp only; omega, by simp only; omega⟩ hheap (by simp only [callS]; omega) ?_
      simp only [callS]
      exact all_set r6 (okW_is _)
    · simp at h0
  rw [if_neg o15] at h0 hheap ⊢
  by_cases o18 : x.op = 18
  · rw [if_pos o18] at h0; simp at h0
  rw [if_neg o18] at h0 hheap ⊢
  by_cases o17 : x.op = 17
  · rw [if_pos o17] at h0 hheap ⊢
    have h1 := hnext (by omega) (by omega)
    have h2 := hto (.inr o17)
    refine key _ ?_ rfl r5 r6
    simp only
    split <;> omega
  rw [if_neg o17] at h0 hheap ⊢
  by_cases o16 : x.op = 16
  · rw [if_pos o16] at h0 hheap ⊢
    have h2 := hto (.inl o16)
    exact key _ ⟨by simp only; omega, by simp only; omega⟩ rfl r5 r6
  rw [if_neg o16] at h0 hheap ⊢
  have h1 := hnext o16 o18
  by_cases om : x.op = 1 ∨ x.op = 2 ∨ x.op = 3
  · rw [if_pos om] at h0 hheap ⊢
    refine key _ ⟨by simp only; omega, by simp only; omega⟩ hheap (by simp only [moveS_asked]; omega) ?_
    simp only [moveS]
    split
    · exact all_set r6 (okW_is _)
    · split
      · exact all_set r6 (okW_getD r6 _)
      · split
        · exact all_set (all_set r6 (okW_getD r6 _)) (okW_getD r6 _)
        · exact r6
  rw [if_neg om] at h0 hheap ⊢
  split at h0
  · rename_i hh
    rw [if_pos hh] at hheap ⊢
    refine key _ ⟨by simp only; omega, by simp only; omega⟩ hheap (by simp only [setS_asked]; omega) ?_
    simp only [setS, if_true]
    exact all_set r6 (okW_is _)
  · rename_i hh; exact absurd h0 hh
theorem stepF_right {f : List Ins} {s : St} {ask : List Int} (hs : stRight f s = true) (h0 : (stepF f s ask).2.2.how = 0) : stRight f (stepF f s ask).1 = true := by
  unfold stepF at h0 ⊢
  split at h0
  · rename_i h
    rw [if_pos h]
    exact stepW_right hs h0
  · simp at h0
theorem stepW_ends {s : St} {x : Ins} {ask : List Int} (h0 : ¬ (stepW s x ask).2.2.1 = 0) : (stepW s x ask).1 = s ∧ (stepW s x ask).2.1 = [] ∧ 1 ≤ (stepW s x ask).2.2.1 ∧ (stepW s x ask).2.2.1 ≤ 5 := by
  have h1 := hLoad_how s.heap (s.L.getD x.a.toNat noW).v
  have h2 := hStore_how s.heap (s.L.getD x.a.toNat noW).v (s.L.getD x.b.toNat noW).v
  have h3 := numDo_how x.op (s.L.getD x.a.toNat noW).v (s.L.getD x.b.toNat noW).v
  revert h0
  unfold stepW
  simp only
  generalize hLoad s.heap (s.L.getD x.a.toNat noW).v = p at *
  generalize hStore s.heap (s.L.getD x.a.toNat noW).v (s.L.getD x.b.toNat noW).v = q at *
  generalize numDo x.op (s.L.getD x.a.toNat noW).v (s.L.getD x.b.toNat noW).v = r at *
  obtain ⟨p1, p2⟩ := p
  obtain ⟨q1, q2⟩ := q
  obtain ⟨r1, r2⟩ := r
  simp only at h1 h2 h3 ⊢
  (repeat' split) <;> simp <;> omega
theorem stepF_ends {f : List Ins} {s : St} {ask : List Int} (h0 : ¬ (stepF f s ask).2.2.how = 0) : (stepF f s ask).1 = s ∧ (stepF f s ask).2.1 = [] ∧ 1 ≤ (stepF f s ask).2.2.how ∧ (stepF f s ask).2.2.how ≤ 5 := by
  unfold stepF at h0 ⊢
  split at h0
  · rename_i h
    rw [if_pos h]
    exact stepW_ends h0
  · rename_i h
    rw [if_neg h]
    simp
theorem stepF_moves {f : List Ins} {s : St} {ask : List Int} (hm : movesB (f.getD s.pc.toNat noIns).op = true) : (stepF f s ask).1.heap = s.heap ∧ (stepF f s ask).1.asked = s.asked ∧ (stepF f s ask).2.1 = [] ∧ (stepF f s ask).2.2.how = 0 := by
  have ho : (f.getD s.pc.toNat noIns).op = 1 ∨ (f.getD s.pc.toNat noIns).op = 2 ∨ (f.getD s.pc.toNat noIns).op = 3 ∨ (f.getD s.pc.toNat noIns).op = 16 := by simpa [movesB] using hm
  unfold stepF
  generalize f.getD s.pc.toNat noIns = x at *
  have hu : usesR x = [] := by
    unfold usesR
    rw [if_neg (by omega), if_neg (by omega)]
  rw [hu]
  simp only [List.all_nil, if_true]
  unfold stepW
  simp only
  rw [if_neg (by omega), if_neg (by omega), if_neg (by omega), if_neg (by omega), if_neg (by omega)]
  split
  · simp
  · rw [if_pos (by omega)]
    simp [moveS_heap, moveS_asked]
/-- Answers behind those that there are. -/
theorem stepF_more {f : List Ins} {s : St} {ask more : List Int} (h0 : 0 ≤ s.asked) (h : ¬ (stepF f s ask).2.2.how = 5) : stepF f s (ask ++ more) = stepF f s ask := by
  unfold stepF at h ⊢
  split
  · rename_i hu
    rw [if_pos hu] at h
    have e : stepW s (f.getD s.pc.toNat noIns) (ask ++ more) = stepW s (f.getD s.pc.toNat noIns) ask := by
      simp only at h
      revert h
      generalize f.getD s.pc.toNat noIns = x
      intro h
      unfold stepW at h ⊢
      simp only at h ⊢
      by_cases o15 : x.op = 15
      · have n13 : ¬ x.op = 13 := by omega
        have n14 : ¬ x.op = 14 := by omega
        rw [if_neg n13, if_neg n14, if_pos o15] at h
        rw [if_neg n13, if_neg n14, if_pos o15, if_neg n13, if_neg n14, if_pos o15]
        by_cases hlt : s.asked < (ask.length : Int)
        · have hlt2 : s.asked < ((ask ++ more).length : Int) := by rw [List.length_append]; omega
          rw [if_pos hlt2, if_pos hlt]
          have : (ask ++ more).getD s.asked.toNat 0 = ask.getD s.asked.toNat 0 := by
            rw [List.getD_eq_getElem?_getD, List.getElem?_append_left (by omega), List.getD_eq_getElem?_getD]
          rw [this]
        · rw [if_neg hlt] at h; simp at h
      · simp only [if_neg o15]
    rw [e]
  · rfl
end Go.Proofs.YtbkbehkjndmabaaDoor
