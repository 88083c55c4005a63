/-
  Places' texts, read.
-/
import Derived.Test.YtoiceinjademgaaDoorN5
namespace Go.Proofs.YtoiceinjademgaaDoor
open Go.RowKit
set_option linter.unusedVariables false
set_option linter.unusedSimpArgs false

/-- The place of a text. -/
def locOf (s : List UInt8) : Option Int := Option.map (fun i : Nat => (i : Int)) ((List.range 24).find? fun i : Nat => decide (locText (i : Int) = s))

theorem locText_inj : ∀ i : Fin 24, ∀ j : Fin 24, locText ((i.val : Nat) : Int) = locText ((j.val : Nat) : Int) → i = j := by decide +kernel

theorem locOf_iff {s : List UInt8} {l : Int} : locOf s = some l ↔ inR 24 l = true ∧ locText l = s := by
  unfold locOf
  constructor
  · intro h
    simp only [Option.map_eq_some_iff] at h
    obtain ⟨i, h1, rfl⟩ := h
    have h2 := List.mem_of_find?_eq_some h1
    have h3 := List.find?_some h1
    simp at h2 h3
    refine ⟨?_, h3⟩
    simp [inR]; omega
  · rintro ⟨h1, h2⟩
    simp [inR] at h1
    obtain ⟨i, rfl⟩ : ∃ i : Nat, l = (i : Int) := Int.eq_ofNat_of_zero_le h1.1
    have hi : i < 24 := by omega
    cases hf : (List.range 24).find? fun i : Nat => decide (locText (i : Int) = s) with
    | none =>
      exfalso
      have := List.find?_eq_none.1 hf i (by simp; exact hi)
      simp at this
      exact this h2
    | some j =>
      have hj := List.mem_of_find?_eq_some hf
      have hj2 := List.find?_some hf
      simp at hj hj2
      have := locText_inj ⟨j, hj⟩ ⟨i, hi⟩ (by simp only; rw [hj2, h2])
      simp at this
      subst this
      rfl

def locR (s : List UInt8) : AV := .tup [.int .i64 ((locOf s).getD 0), .bool (locOf s).isSome]
def locP (s : List UInt8) : AV := .tup [.int .i64 ((locOf s).getD 0), .int .i64 (if (locOf s).isSome then 0 else 2)]

theorem locR_some {s : List UInt8} {l : Int} (h : locOf s = some l) : locR s = .tup [.int .i64 l, .bool true] := by unfold locR; rw [h]; rfl
theorem locR_none {s : List UInt8} (h : locOf s = none) : locR s = .tup [.int .i64 0, .bool false] := by unfold locR; rw [h]; rfl
theorem locP_some {s : List UInt8} {l : Int} (h : locOf s = some l) : locP s = .tup [.int .i64 l, .int .i64 0] := by unfold locP; rw [h]; rfl
theorem locP_none {s : List UInt8} (h : locOf s = none) : locP s = .tup [.int .i64 0, .int .i64 2] := by unfold locP; rw [h]; rfl

theorem locOf_none {s : List UInt8} (h : ∀ i : Fin 24, locText ((i.val : Nat) : Int) ≠ s) : locOf s = none := by
  cases hl : locOf s with
  | none => rfl
  | some l =>
    exfalso
    obtain ⟨h1, h2⟩ := locOf_iff.1 hl
    simp [inR] at h1
    exact h ⟨l.toNat, by omega⟩ (by simp only; rw [show ((l.toNat : Nat) : Int) = l by omega]; exact h2)

theorem ref02_Parse_ok (s : List UInt8) : Pure Tryd.prog 44 [.str (bs s)] (locR s) := by
  intro H
  refine ACalls.go joineryref02_Parse.low (by simp) fun hcl => ?_
  (refine R.seq ?_; refine LCB.text ?_; repeat' (first | simp only [seval, ev1, ev2, ev3, ev4, beq_self_eq_true, encB_def, sb, *] | simp (disch := omega) only [if_pos, if_neg]))
  refine R.seq ?_
  (refine R.seq ?_; refine LCB.text ?_; repeat' (first | simp only [seval, ev1, ev2, ev3, ev4, beq_self_eq_true, encB_def, sb, *] | simp (disch := omega) only [if_pos, if_neg]))
  refine R.block (R.loop (S := Nat) ⟨fun k => [(0, .str (bs s)), (4, .int .i64 (k : Int))], fun _ => H ++ [], fun k => k ≤ 24 ∧ ∀ i, i < k → locText (i : Int) ≠ s, fun k => 24 - k⟩ 0 ⟨Nat.zero_le _, fun i hi => by omega⟩ (Weak.at hcl ?_) ?_)
  · simp only [seval, ev1, ev2, ev3, wk, List.forall_mem_cons, List.forall_mem_map, List.forall_mem_append, List.not_mem_nil, encB_def, sb, *]
  rintro k ⟨hk, ha⟩
  simp only at hk ha ⊢
  replace ha := Hold.mk ha
  by_cases hlt : k < 24
  · have e1 : (k : Int) < 24 := by omega
    have e2 : IntKind.i64.wrap ((k : Int) + 1) = ((k + 1 : Nat) : Int) := by rw [IntKind.wrap_i64]; omega
    repeat' (first | simp only [seval, ev1, ev2, ev3, ev4, beq_self_eq_true, encB_def, sb, *] | simp (disch := omega) only [if_pos, if_neg] | refine R.seq ?_ | refine LCB.text ?_ | refine LCB.quiet rfl ?_ | refine R.calls rfl ?_ | refine R.block ?_ | refine LCB.skip ?_ | refine LCB.exit ?_ | refine LCB.ret ?_ | (refine RetOk.val hcl ?_; simp only [seval, ev1, ev2, ev3, wk, List.forall_mem_cons, List.forall_mem_map, List.forall_mem_append, List.not_mem_nil, encB_def, sb, *]) | (refine Weak.at hcl ?_; simp only [seval, ev1, ev2, ev3, wk, List.forall_mem_cons, List.forall_mem_map, List.forall_mem_append, List.not_mem_nil, encB_def, sb, *]) | (refine LCB.cond (by (simp only [seval, ev1, ev2, ev3, ev4, beq_self_eq_true, encB_def, sb, *]) <;> rfl) (fun hc => ?_) (fun hc => ?_) <;> try simp only [seval, decide_eq_true_eq, decide_eq_false_iff_not, Bool.not_eq_true', Bool.not_eq_false', Bool.not_true, Bool.not_false] at hc) | (refine wpG_split (by (simp only [seval, ev1, ev2, ev3, ev4, beq_self_eq_true, encB_def, sb, *]) <;> rfl) (fun hc => ?_) (fun hc => ?_) <;> try simp only [seval, decide_eq_true_eq, decide_eq_false_iff_not, Bool.not_eq_true', Bool.not_eq_false', Bool.not_true, Bool.not_false] at hc) | (refine wqG_split (by (simp only [seval, ev1, ev2, ev3, ev4, beq_self_eq_true, encB_def, sb, *]) <;> rfl) (fun hc => ?_) (fun hc => ?_) <;> try simp only [seval, decide_eq_true_eq, decide_eq_false_iff_not, Bool.not_eq_true', Bool.not_eq_false', Bool.not_true, Bool.not_false] at hc) | refine ACalls.inst ?_ | refine CallP.inst rfl ?_)
    refine ACalls.pure (ref02_Text_ok (k : Int) (by unfold in64; omega)) ?_
    by_cases h : locText (k : Int) = s
    · have := locR_some (locOf_iff.2 ⟨by simp [inR]; omega, h⟩)
      repeat' (first | simp only [seval, ev1, ev2, ev3, ev4, beq_self_eq_true, encB_def, sb, *] | simp (disch := omega) only [if_pos, if_neg] | refine R.seq ?_ | refine LCB.text ?_ | refine LCB.quiet rfl ?_ | refine R.calls rfl ?_ | refine R.block ?_ | refine LCB.skip ?_ | refine LCB.exit ?_ | refine LCB.ret ?_ | (refine RetOk.val hcl ?_; simp only [seval, ev1, ev2, ev3, wk, List.forall_mem_cons, List.forall_mem_map, List.forall_mem_append, List.not_mem_nil, encB_def, sb, *]) | (refine Weak.at hcl ?_; simp only [seval, ev1, ev2, ev3, wk, List.forall_mem_cons, List.forall_mem_map, List.forall_mem_append, List.not_mem_nil, encB_def, sb, *]) | (refine LCB.cond (by (simp only [seval, ev1, ev2, ev3, ev4, beq_self_eq_true, encB_def, sb, *]) <;> rfl) (fun hc => ?_) (fun hc => ?_) <;> try simp only [seval, decide_eq_true_eq, decide_eq_false_iff_not, Bool.not_eq_true', Bool.not_eq_false', Bool.not_true, Bool.not_false] at hc) | (refine wpG_split (by (simp only [seval, ev1, ev2, ev3, ev4, beq_self_eq_true, encB_def, sb, *]) <;> rfl) (fun hc => ?_) (fun hc => ?_) <;> try simp only [seval, decide_eq_true_eq, decide_eq_false_iff_not, Bool.not_eq_true', Bool.not_eq_false', Bool.not_true, Bool.not_false] at hc) | (refine wqG_split (by (simp only [seval, ev1, ev2, ev3, ev4, beq_self_eq_true, encB_def, sb, *]) <;> rfl) (fun hc => ?_) (fun hc => ?_) <;> try simp only [seval, decide_eq_true_eq, decide_eq_false_iff_not, Bool.not_eq_true', Bool.not_eq_false', Bool.not_true, Bool.not_false] at hc) | refine ACalls.inst ?_ | refine CallP.inst rfl ?_)
    · repeat' (first | simp only [seval, ev1, ev2, ev3, ev4, beq_self_eq_true, encB_def, sb, *] | simp (disch := omega) only [if_pos, if_neg] | refine R.seq ?_ | refine LCB.text ?_ | refine LCB.quiet rfl ?_ | refine R.calls rfl ?_ | refine R.block ?_ | refine LCB.skip ?_ | refine LCB.exit ?_ | refine LCB.ret ?_ | (refine RetOk.val hcl ?_; simp only [seval, ev1, ev2, ev3, wk, List.forall_mem_cons, List.forall_mem_map, List.forall_mem_append, List.not_mem_nil, encB_def, sb, *]) | (refine Weak.at hcl ?_; simp only [seval, ev1, ev2, ev3, wk, List.forall_mem_cons, List.forall_mem_map, List.forall_mem_append, List.not_mem_nil, encB_def, sb, *]) | (refine LCB.cond (by (simp only [seval, ev1, ev2, ev3, ev4, beq_self_eq_true, encB_def, sb, *]) <;> rfl) (fun hc => ?_) (fun hc => ?_) <;> try simp only [seval, decide_eq_true_eq, decide_eq_false_iff_not, Bool.not_eq_true', Bool.not_eq_false', Bool.not_true, Bool.not_false] at hc) | (refine wpG_split (by (simp only [seval, ev1, ev2, ev3, ev4, beq_self_eq_true, encB_def, sb, *]) <;> rfl) (fun hc => ?_) (fun hc => ?_) <;> try simp only [seval, decide_eq_true_eq, decide_eq_false_iff_not, Bool.not_eq_true', Bool.not_eq_false', Bool.not_true, Bool.not_false] at hc) | (refine wqG_split (by (simp only [seval, ev1, ev2, ev3, ev4, beq_self_eq_true, encB_def, sb, *]) <;> rfl) (fun hc => ?_) (fun hc => ?_) <;> try simp only [seval, decide_eq_true_eq, decide_eq_false_iff_not, Bool.not_eq_true', Bool.not_eq_false', Bool.not_true, Bool.not_false] at hc) | refine ACalls.inst ?_ | refine CallP.inst rfl ?_)
      refine ⟨k + 1, ⟨hlt, fun i hi => ?_⟩, by simp only; omega, Weak.at hcl ?_⟩
      · rcases Nat.lt_or_ge i k with h1 | h1
        · exact ha.of i h1
        · have : i = k := by omega
          subst this; exact h
      · simp only [seval, ev1, ev2, ev3, wk, List.forall_mem_cons, List.forall_mem_map, List.forall_mem_append, List.not_mem_nil, encB_def, sb, *]
  · have : k = 24 := by omega
    subst this
    have := locR_none (locOf_none (s := s) fun i => ha.of i.val i.isLt)
    repeat' (first | simp only [seval, ev1, ev2, ev3, ev4, beq_self_eq_true, encB_def, sb, *] | simp (disch := omega) only [if_pos, if_neg] | refine R.seq ?_ | refine LCB.text ?_ | refine LCB.quiet rfl ?_ | refine R.calls rfl ?_ | refine R.block ?_ | refine LCB.skip ?_ | refine LCB.exit ?_ | refine LCB.ret ?_ | (refine RetOk.val hcl ?_; simp only [seval, ev1, ev2, ev3, wk, List.forall_mem_cons, List.forall_mem_map, List.forall_mem_append, List.not_mem_nil, encB_def, sb, *]) | (refine Weak.at hcl ?_; simp only [seval, ev1, ev2, ev3, wk, List.forall_mem_cons, List.forall_mem_map, List.forall_mem_append, List.not_mem_nil, encB_def, sb, *]) | (refine LCB.cond (by (simp only [seval, ev1, ev2, ev3, ev4, beq_self_eq_true, encB_def, sb, *]) <;> rfl) (fun hc => ?_) (fun hc => ?_) <;> try simp only [seval, decide_eq_true_eq, decide_eq_false_iff_not, Bool.not_eq_true', Bool.not_eq_false', Bool.not_true, Bool.not_false] at hc) | (refine wpG_split (by (simp only [seval, ev1, ev2, ev3, ev4, beq_self_eq_true, encB_def, sb, *]) <;> rfl) (fun hc => ?_) (fun hc => ?_) <;> try simp only [seval, decide_eq_true_eq, decide_eq_false_iff_not, Bool.not_eq_true', Bool.not_eq_false', Bool.not_true, Bool.not_false] at hc) | (refine wqG_split (by (simp only [seval, ev1, ev2, ev3, ev4, beq_self_eq_true, encB_def, sb, *]) <;> rfl) (fun hc => ?_) (fun hc => ?_) <;> try simp only [seval, decide_eq_true_eq, decide_eq_false_iff_not, Bool.not_eq_true', Bool.not_eq_false', Bool.not_true, Bool.not_false] at hc) | refine ACalls.inst ?_ | refine CallP.inst rfl ?_)

theorem numText_small {n : Nat} (h : n < 100) : numText (n : Int) = if n < 10 then [dig n] else [dig (n / 10), dig n] := by
  unfold numText
  rw [if_neg (by omega)]
  have : ((n : Nat) : Int).natAbs = n := by omega
  rw [this, decB_small h]

theorem loc_ok0 : ∀ i : Fin 24, 2 ≤ (locText ((i.val : Nat) : Int)).length ∧ (locText ((i.val : Nat) : Int)).length ≤ 3 := by decide +kernel
theorem loc_ok1 : ∀ i : Fin 24, ((locText ((i.val : Nat) : Int)).getD 0 0).toNat = 114 ∧ valD (locText ((i.val : Nat) : Int)).tail < 8 ∨ ((locText ((i.val : Nat) : Int)).getD 0 0).toNat = 115 ∧ valD (locText ((i.val : Nat) : Int)).tail < 16 := by decide +kernel
theorem loc_ok2 : ∀ i : Fin 24, isDig ((locText ((i.val : Nat) : Int)).getD 1 0) = true := by decide +kernel
theorem loc_ok3 : ∀ i : Fin 24, 2 < (locText ((i.val : Nat) : Int)).length → isDig ((locText ((i.val : Nat) : Int)).getD 2 0) = true ∧ dv ((locText ((i.val : Nat) : Int)).getD 1 0) ≠ 0 := by decide +kernel

/-- Why a text is no place's. -/
theorem loc_bad {s : List UInt8} (h : s.length < 2 ∨ 3 < s.length ∨ ((s.getD 0 0).toNat ≠ 114 ∧ (s.getD 0 0).toNat ≠ 115) ∨ isDig (s.getD 1 0) = false ∨ (2 < s.length ∧ (isDig (s.getD 2 0) = false ∨ dv (s.getD 1 0) = 0)) ∨ ((s.getD 0 0).toNat = 114 ∧ 8 ≤ valD s.tail) ∨ 16 ≤ valD s.tail) : locP s = .tup [.int .i64 0, .int .i64 2] := by
  refine locP_none (locOf_none fun i e => ?_)
  subst e
  have h0 := loc_ok0 i
  have h1 := loc_ok1 i
  have h2 := loc_ok2 i
  have h3 := loc_ok3 i
  rcases h with h | h | h | h | ⟨h, h'⟩ | h | h
  · omega
  · omega
  · omega
  · rw [h2] at h; simp at h
  · obtain ⟨h4, h5⟩ := h3 h
    rcases h' with h' | h'
    · rw [h4] at h'; simp at h'
    · exact h5 h'
  · omega
  · omega

theorem loc_good {s : List UInt8} (f m n : Nat) (h : ((s.getD 0 0).toNat = 114 ∧ f = 0 ∧ m = 8) ∨ ((s.getD 0 0).toNat = 115 ∧ f = 8 ∧ m = 16)) (hn : n < m)
    (h2 : (s.length = 2 ∧ isDig (s.getD 1 0) = true ∧ n = dv (s.getD 1 0)) ∨ (s.length = 3 ∧ isDig (s.getD 1 0) = true ∧ isDig (s.getD 2 0) = true ∧ dv (s.getD 1 0) ≠ 0 ∧ n = dv (s.getD 1 0) * 10 + dv (s.getD 2 0))) : locP s = .tup [.int .i64 ((f + n : Nat) : Int), .int .i64 0] := by
  refine locP_some (locOf_iff.2 ⟨by simp [inR]; omega, ?_⟩)
  have hs : s = s.getD 0 0 :: numText (n : Int) := by
    rw [numText_small (by omega)]
    match s, h2 with
    | [a, b], h2 =>
      simp at h2
      have hb : dv b ≤ 9 := by have := h2.1; simp [isDig] at this; unfold dv; omega
      rw [if_pos (by omega), h2.2]
      have := dig_dv h2.1 0
      simp at this
      simp [this]
    | [a, b, c], h2 =>
      simp at h2
      obtain ⟨h3, h4, h5, h6⟩ := h2
      have hb : dv b ≤ 9 := by have := h3; simp [isDig] at this; unfold dv; omega
      have hc : dv c ≤ 9 := by have := h4; simp [isDig] at this; unfold dv; omega
      rw [if_neg (by omega), h6]
      have e1 := dig_dv h4 (dv b)
      have e2 : dig ((dv b * 10 + dv c) / 10) = b := by
        have := dig_dv h3 0
        simp at this
        have h7 : (dv b * 10 + dv c) / 10 = dv b := by omega
        rw [h7, this]
      simp [e1, e2]
    | [], h2 => simp at h2
    | [a], h2 => simp at h2
    | a :: b :: c :: d :: r, h2 => simp at h2
  unfold locText
  rcases h with ⟨h3, rfl, rfl⟩ | ⟨h3, rfl, rfl⟩
  · rw [if_pos (by omega)]
    have : s.getD 0 0 = 114 := UInt8.toNat_inj.1 h3
    rw [this] at hs
    simpa using hs.symm
  · rw [if_neg (by omega)]
    have : s.getD 0 0 = 115 := UInt8.toNat_inj.1 h3
    rw [this] at hs
    have e : (((8 + n : Nat) : Int) - 8) = (n : Int) := by omega
    rw [e]
    exact hs.symm
end Go.Proofs.YtoiceinjademgaaDoor
