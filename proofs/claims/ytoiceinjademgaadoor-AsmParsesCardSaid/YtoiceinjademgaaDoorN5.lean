/-
  Numbers' texts, read: num.Parse.
-/
import Derived.Test.YtoiceinjademgaaDoorN4
namespace Go.Proofs.YtoiceinjademgaaDoor
open Go.RowKit
set_option linter.unusedVariables false
set_option linter.unusedSimpArgs false

theorem numOf_way {l d : List UInt8} {b : Bool} (hb : b = decide (l.head? = some 45)) (hd : d = if l.head? = some 45 then l.tail else l) :
    numOf l = if d.length = 0 ∨ 19 < d.length ∨ (d.head? = some 48 ∧ (b = true ∨ 1 < d.length)) then none else if d.all isDig = true ∧ (valD d : Int) ≤ (if b then 9223372036854775808 else 9223372036854775807) then some (if b then -(valD d : Int) else (valD d : Int)) else none := by
  by_cases h : l.head? = some 45
  · cases l with
    | nil => simp at h
    | cons c r =>
      simp at h
      subst h
      simp at hb hd
      subst hb
      rw [numOf_low, ← hd]
      clear hd
      generalize d = r
      simp only [true_or, and_true, if_true]
      congr 1
      by_cases h2 : r.all isDig = true ∧ valD r ≤ 9223372036854775808
      · rw [if_pos h2, if_pos ⟨h2.1, by omega⟩]
      · rw [if_neg h2, if_neg (fun h3 => h2 ⟨h3.1, by omega⟩)]
  · rw [if_neg h] at hd
    rw [decide_eq_false h] at hb
    subst hd hb
    rw [numOf_high h]
    simp only [Bool.false_eq_true, false_or, if_false]
    congr 1
    by_cases h2 : d.all isDig = true ∧ valD d ≤ 9223372036854775807
    · rw [if_pos h2, if_pos ⟨h2.1, by omega⟩]
    · rw [if_neg h2, if_neg (fun h3 => h2 ⟨h3.1, by omega⟩)]

set_option maxHeartbeats 2000000 in
theorem num_Parse_ok (l : List UInt8) (hl63 : l.length ≤ 9223372036854775807) : Pure Tryd.prog 47 [.str (bs l)] (numP l) := by
  intro H
  refine ACalls.go num_Parse.low (by simp) fun hcl => ?_
  have hneg : Hold (l.head? = some 45 ↔ (0 : Int) < (l.length : Int) ∧ ((l.getD 0 0).toNat : Int) = 45) := by
    refine ⟨?_⟩
    cases l with
    | nil => simp
    | cons c r =>
      simp only [List.head?_cons, Option.some.injEq, List.length_cons, List.getD_cons_zero]
      constructor
      · rintro rfl; exact ⟨by omega, rfl⟩
      · rintro ⟨_, h⟩; exact UInt8.toNat_inj.1 (by have : (45 : UInt8).toNat = 45 := rfl; omega)
  (refine R.seq ?_; refine LCB.text ?_; repeat' (first | simp only [seval, ev1, ev2, ev3, ev4, beq_self_eq_true, encB_def, sb, *] | simp (disch := omega) only [if_pos, if_neg]))
  (refine R.seq ?_; refine LCB.text ?_; repeat' (first | simp only [seval, ev1, ev2, ev3, ev4, beq_self_eq_true, encB_def, sb, *] | simp (disch := omega) only [if_pos, if_neg]))
  obtain ⟨d, hd⟩ : ∃ d, Hold (d = if l.head? = some 45 then l.tail else l) := ⟨_, ⟨rfl⟩⟩
  obtain ⟨b, hb⟩ : ∃ b : Bool, Hold (b = decide (l.head? = some 45)) := ⟨_, ⟨rfl⟩⟩
  have hw := Hold.mk (numOf_way hb.of hd.of)
  refine R.cut [(4, .str (bs d)), (5, .bool b)] (H ++ []) ?_ ?_
  · by_cases h45 : l.head? = some 45
    · have h1 := (hneg.of.1 h45).1
      have h2 := (hneg.of.1 h45).2
      have h3 := hd.of
      rw [if_pos h45] at h3
      have h4 := hb.of
      rw [decide_eq_true h45] at h4
      have h5 : l.drop 1 = l.tail := by simp
      subst h3 h4
      replace h45 := Hold.mk h45
      repeat' (first | simp only [seval, ev1, ev2, ev3, ev4, beq_self_eq_true, encB_def, sb, *] | simp (disch := omega) only [if_pos, if_neg] | refine R.seq ?_ | refine LCB.text ?_ | refine LCB.quiet rfl ?_ | refine R.calls rfl ?_ | refine R.block ?_ | refine LCB.skip ?_ | refine LCB.exit ?_ | refine LCB.ret ?_ | (refine RetOk.val hcl ?_; simp only [seval, ev1, ev2, ev3, wk, List.forall_mem_cons, List.forall_mem_map, List.forall_mem_append, List.not_mem_nil, encB_def, sb, *]) | (refine Weak.at hcl ?_; simp only [seval, ev1, ev2, ev3, wk, List.forall_mem_cons, List.forall_mem_map, List.forall_mem_append, List.not_mem_nil, encB_def, sb, *]) | (refine LCB.cond (by (simp only [seval, ev1, ev2, ev3, ev4, beq_self_eq_true, encB_def, sb, *]) <;> rfl) (fun hc => ?_) (fun hc => ?_) <;> try simp only [seval, decide_eq_true_eq, decide_eq_false_iff_not, Bool.not_eq_true', Bool.not_eq_false', Bool.not_true, Bool.not_false] at hc) | (refine wpG_split (by (simp only [seval, ev1, ev2, ev3, ev4, beq_self_eq_true, encB_def, sb, *]) <;> rfl) (fun hc => ?_) (fun hc => ?_) <;> try simp only [seval, decide_eq_true_eq, decide_eq_false_iff_not, Bool.not_eq_true', Bool.not_eq_false', Bool.not_true, Bool.not_false] at hc) | (refine wqG_split (by (simp only [seval, ev1, ev2, ev3, ev4, beq_self_eq_true, encB_def, sb, *]) <;> rfl) (fun hc => ?_) (fun hc => ?_) <;> try simp only [seval, decide_eq_true_eq, decide_eq_false_iff_not, Bool.not_eq_true', Bool.not_eq_false', Bool.not_true, Bool.not_false] at hc) | refine ACalls.inst ?_ | refine CallP.inst rfl ?_)
    · have h3 := hd.of
      rw [if_neg h45] at h3
      have h4 := hb.of
      rw [decide_eq_false h45] at h4
      subst h3 h4
      replace h45 := Hold.mk h45
      repeat' (first | simp only [seval, ev1, ev2, ev3, ev4, beq_self_eq_true, encB_def, sb, *] | simp (disch := omega) only [if_pos, if_neg] | refine R.seq ?_ | refine LCB.text ?_ | refine LCB.quiet rfl ?_ | refine R.calls rfl ?_ | refine R.block ?_ | refine LCB.skip ?_ | refine LCB.exit ?_ | refine LCB.ret ?_ | (refine RetOk.val hcl ?_; simp only [seval, ev1, ev2, ev3, wk, List.forall_mem_cons, List.forall_mem_map, List.forall_mem_append, List.not_mem_nil, encB_def, sb, *]) | (refine Weak.at hcl ?_; simp only [seval, ev1, ev2, ev3, wk, List.forall_mem_cons, List.forall_mem_map, List.forall_mem_append, List.not_mem_nil, encB_def, sb, *]) | (refine LCB.cond (by (simp only [seval, ev1, ev2, ev3, ev4, beq_self_eq_true, encB_def, sb, *]) <;> rfl) (fun hc => ?_) (fun hc => ?_) <;> try simp only [seval, decide_eq_true_eq, decide_eq_false_iff_not, Bool.not_eq_true', Bool.not_eq_false', Bool.not_true, Bool.not_false] at hc) | (refine wpG_split (by (simp only [seval, ev1, ev2, ev3, ev4, beq_self_eq_true, encB_def, sb, *]) <;> rfl) (fun hc => ?_) (fun hc => ?_) <;> try simp only [seval, decide_eq_true_eq, decide_eq_false_iff_not, Bool.not_eq_true', Bool.not_eq_false', Bool.not_true, Bool.not_false] at hc) | (refine wqG_split (by (simp only [seval, ev1, ev2, ev3, ev4, beq_self_eq_true, encB_def, sb, *]) <;> rfl) (fun hc => ?_) (fun hc => ?_) <;> try simp only [seval, decide_eq_true_eq, decide_eq_false_iff_not, Bool.not_eq_true', Bool.not_eq_false', Bool.not_true, Bool.not_false] at hc) | refine ACalls.inst ?_ | refine CallP.inst rfl ?_)
      exact h45.of (hneg.of.2 ⟨by assumption, by assumption⟩)
  have hdl : d.length ≤ l.length := by
    rw [hd.of]; split <;> simp
  have h48 : Hold (d.head? = some 48 ↔ d.length ≠ 0 ∧ ((d.getD 0 0).toNat : Int) = 48) := by
    refine ⟨?_⟩
    clear hw hd hdl
    cases d with
    | nil => simp
    | cons c r =>
      simp only [List.head?_cons, Option.some.injEq, List.length_cons, List.getD_cons_zero]
      constructor
      · rintro rfl; exact ⟨by omega, rfl⟩
      · rintro ⟨_, h⟩; exact UInt8.toNat_inj.1 (by have : (48 : UInt8).toNat = 48 := rfl; omega)
  clear hneg hd hb
  by_cases hbad : d.length = 0 ∨ 19 < d.length ∨ (d.head? = some 48 ∧ (b = true ∨ 1 < d.length))
  · have hn := hw.of
    rw [if_pos hbad] at hn
    have hz : numP l = .tup [.int .i64 0, .int .i64 2] := by unfold numP; rw [hn]; rfl
    clear hw hn
    replace hbad := Hold.mk hbad
    repeat' (first | simp only [seval, ev1, ev2, ev3, ev4, beq_self_eq_true, encB_def, sb, *] | simp (disch := omega) only [if_pos, if_neg] | refine R.seq ?_ | refine LCB.text ?_ | refine LCB.quiet rfl ?_ | refine R.calls rfl ?_ | refine R.block ?_ | refine LCB.skip ?_ | refine LCB.exit ?_ | refine LCB.ret ?_ | (refine RetOk.val hcl ?_; simp only [seval, ev1, ev2, ev3, wk, List.forall_mem_cons, List.forall_mem_map, List.forall_mem_append, List.not_mem_nil, encB_def, sb, *]) | (refine Weak.at hcl ?_; simp only [seval, ev1, ev2, ev3, wk, List.forall_mem_cons, List.forall_mem_map, List.forall_mem_append, List.not_mem_nil, encB_def, sb, *]) | (refine LCB.cond (by (simp only [seval, ev1, ev2, ev3, ev4, beq_self_eq_true, encB_def, sb, *]) <;> rfl) (fun hc => ?_) (fun hc => ?_) <;> try simp only [seval, decide_eq_true_eq, decide_eq_false_iff_not, Bool.not_eq_true', Bool.not_eq_false', Bool.not_true, Bool.not_false] at hc) | (refine wpG_split (by (simp only [seval, ev1, ev2, ev3, ev4, beq_self_eq_true, encB_def, sb, *]) <;> rfl) (fun hc => ?_) (fun hc => ?_) <;> try simp only [seval, decide_eq_true_eq, decide_eq_false_iff_not, Bool.not_eq_true', Bool.not_eq_false', Bool.not_true, Bool.not_false] at hc) | (refine wqG_split (by (simp only [seval, ev1, ev2, ev3, ev4, beq_self_eq_true, encB_def, sb, *]) <;> rfl) (fun hc => ?_) (fun hc => ?_) <;> try simp only [seval, decide_eq_true_eq, decide_eq_false_iff_not, Bool.not_eq_true', Bool.not_eq_false', Bool.not_true, Bool.not_false] at hc) | refine ACalls.inst ?_ | refine CallP.inst rfl ?_)
    all_goals (exfalso; rcases hbad.of with h | h | ⟨h, h'⟩ <;> first | omega | (have h2 := h48.of.1 h; first | omega | (rcases h' with h' | h' <;> first | omega | simp_all)))
  have hn := hw.of
  rw [if_neg hbad] at hn
  replace hw := Hold.mk hn
  clear hn
  replace hbad := Hold.mk hbad
  refine R.cut [(4, .str (bs d)), (5, .bool b)] (H ++ []) ?_ ?_
  · repeat' (first | simp only [seval, ev1, ev2, ev3, ev4, beq_self_eq_true, encB_def, sb, *] | simp (disch := omega) only [if_pos, if_neg] | refine R.seq ?_ | refine LCB.text ?_ | refine LCB.quiet rfl ?_ | refine R.calls rfl ?_ | refine R.block ?_ | refine LCB.skip ?_ | refine LCB.exit ?_ | refine LCB.ret ?_ | (refine RetOk.val hcl ?_; simp only [seval, ev1, ev2, ev3, wk, List.forall_mem_cons, List.forall_mem_map, List.forall_mem_append, List.not_mem_nil, encB_def, sb, *]) | (refine Weak.at hcl ?_; simp only [seval, ev1, ev2, ev3, wk, List.forall_mem_cons, List.forall_mem_map, List.forall_mem_append, List.not_mem_nil, encB_def, sb, *]) | (refine LCB.cond (by (simp only [seval, ev1, ev2, ev3, ev4, beq_self_eq_true, encB_def, sb, *]) <;> rfl) (fun hc => ?_) (fun hc => ?_) <;> try simp only [seval, decide_eq_true_eq, decide_eq_false_iff_not, Bool.not_eq_true', Bool.not_eq_false', Bool.not_true, Bool.not_false] at hc) | (refine wpG_split (by (simp only [seval, ev1, ev2, ev3, ev4, beq_self_eq_true, encB_def, sb, *]) <;> rfl) (fun hc => ?_) (fun hc => ?_) <;> try simp only [seval, decide_eq_true_eq, decide_eq_false_iff_not, Bool.not_eq_true', Bool.not_eq_false', Bool.not_true, Bool.not_false] at hc) | (refine wqG_split (by (simp only [seval, ev1, ev2, ev3, ev4, beq_self_eq_true, encB_def, sb, *]) <;> rfl) (fun hc => ?_) (fun hc => ?_) <;> try simp only [seval, decide_eq_true_eq, decide_eq_false_iff_not, Bool.not_eq_true', Bool.not_eq_false', Bool.not_true, Bool.not_false] at hc) | refine ACalls.inst ?_ | refine CallP.inst rfl ?_)
    all_goals (exfalso; apply hbad.of; first | (left; omega) | (right; left; omega) | (right; right; exact ⟨h48.of.2 ⟨by omega, by assumption⟩, by first | (left; assumption) | (right; omega)⟩))
  have hd19 : d.length ≤ 19 := by
    rcases Nat.lt_or_ge 19 d.length with h | h
    · exact absurd (.inr (.inl h)) hbad.of
    · exact h
  have hv0 : Hold (d.all isDig = true → b = true → 1 ≤ valD d) := by
    refine ⟨fun ha hb => ?_⟩
    subst hb
    have hl : lead d = true := by
      have hb := hbad.of
      clear h48 hdl hw hbad
      cases d with
      | nil => simp at hb
      | cons c r =>
        cases r with
        | nil => rfl
        | cons e r => simp [lead]; intro h; subst h; simp at hb
    have hb := decB_val d.length d rfl (by omega) ha hl
    rcases Nat.eq_zero_or_pos (valD d) with e | e
    · rw [e] at hb
      have : decB 0 = [48] := rfl
      rw [this] at hb
      exact absurd (.inr (.inr ⟨by rw [← hb]; rfl, .inl rfl⟩)) hbad.of
    · exact e
  clear hbad h48 hdl
  (refine R.seq ?_; refine LCB.text ?_; repeat' (first | simp only [seval, ev1, ev2, ev3, ev4, beq_self_eq_true, encB_def, sb, *] | simp (disch := omega) only [if_pos, if_neg]))
  refine R.join (S := Unit) ⟨fun _ => [(5, .bool b), (6, .int .u64 (valD d : Int))], fun _ => H ++ [], fun _ => d.all isDig = true, fun _ => 0⟩ ?_ ?_
  · (refine R.seq ?_; refine LCB.text ?_; repeat' (first | simp only [seval, ev1, ev2, ev3, ev4, beq_self_eq_true, encB_def, sb, *] | simp (disch := omega) only [if_pos, if_neg]))
    refine R.block (R.loop (S := Nat) ⟨fun p => [(5, .bool b), (6, .int .u64 (valD (d.take p) : Int)), (43, .iter H.length)], fun p => H ++ [.iter (bs d) p], fun p => p ≤ d.length ∧ (d.take p).all isDig = true, fun p => d.length - p⟩ 0 ⟨Nat.zero_le _, rfl⟩ (Weak.at hcl ?_) ?_)
    · simp only [seval, ev1, ev2, ev3, wk, List.forall_mem_cons, List.forall_mem_map, List.forall_mem_append, List.not_mem_nil, encB_def, sb, *]
      rfl
    rintro p ⟨hp, ha⟩
    simp only at hp ha ⊢
    by_cases hlt : p < d.length
    · have ht := Hold.mk (take_all hlt)
      have hna := Hold.mk (not_all hlt)
      have hv := valD_lt p (d.take p) (by simp; omega) ha
      have hv2 : 10 ^ p ≤ 10 ^ 18 := Nat.pow_le_pow_right (by omega) (by omega)
      by_cases hf : 128 ≤ (d.getD p 0).toNat
      · obtain ⟨f1, f2, f3, f4⟩ := dec_far hlt hf
        have hb := Hold.mk (hna.of (isDig_no (by omega)))
        have q1 : ¬ (((Utf8.decode (bs d) p).1 : Nat) : Int) < 48 := by omega
        have q2 : (57 : Int) < (((Utf8.decode (bs d) p).1 : Nat) : Int) := by omega
        have hz : numP l = .tup [.int .i64 0, .int .i64 2] := by unfold numP; rw [hw.of, if_neg (fun h => by rw [hb.of] at h; simp at h)]; rfl
        clear f4 f2 f3
        repeat' (first | simp only [seval, ev1, ev2, ev3, ev4, beq_self_eq_true, encB_def, sb, *] | simp (disch := omega) only [if_pos, if_neg] | refine R.seq ?_ | refine LCB.text ?_ | refine LCB.quiet rfl ?_ | refine R.calls rfl ?_ | refine R.block ?_ | refine LCB.skip ?_ | refine LCB.exit ?_ | refine LCB.ret ?_ | (refine RetOk.val hcl ?_; simp only [seval, ev1, ev2, ev3, wk, List.forall_mem_cons, List.forall_mem_map, List.forall_mem_append, List.not_mem_nil, encB_def, sb, *]) | (refine Weak.at hcl ?_; simp only [seval, ev1, ev2, ev3, wk, List.forall_mem_cons, List.forall_mem_map, List.forall_mem_append, List.not_mem_nil, encB_def, sb, *]) | (refine LCB.cond (by (simp only [seval, ev1, ev2, ev3, ev4, beq_self_eq_true, encB_def, sb, *]) <;> rfl) (fun hc => ?_) (fun hc => ?_) <;> try simp only [seval, decide_eq_true_eq, decide_eq_false_iff_not, Bool.not_eq_true', Bool.not_eq_false', Bool.not_true, Bool.not_false] at hc) | (refine wpG_split (by (simp only [seval, ev1, ev2, ev3, ev4, beq_self_eq_true, encB_def, sb, *]) <;> rfl) (fun hc => ?_) (fun hc => ?_) <;> try simp only [seval, decide_eq_true_eq, decide_eq_false_iff_not, Bool.not_eq_true', Bool.not_eq_false', Bool.not_true, Bool.not_false] at hc) | (refine wqG_split (by (simp only [seval, ev1, ev2, ev3, ev4, beq_self_eq_true, encB_def, sb, *]) <;> rfl) (fun hc => ?_) (fun hc => ?_) <;> try simp only [seval, decide_eq_true_eq, decide_eq_false_iff_not, Bool.not_eq_true', Bool.not_eq_false', Bool.not_true, Bool.not_false] at hc) | refine ACalls.inst ?_ | refine CallP.inst rfl ?_)
      · have hd := dec_near (l := d) (p := p) (by omega)
        generalize d.getD p 0 = c at *
        by_cases hdc : isDig c = true
        · simp [isDig] at hdc
          have q1 : ¬ ((c.toNat : Nat) : Int) < 48 := by omega
          have q2 : ¬ (57 : Int) < ((c.toNat : Nat) : Int) := by omega
          have q3 : IntKind.u64.wrap (IntKind.u64.wrap ((valD (d.take p) : Int) * 10) + IntKind.u64.wrap (IntKind.i32.wrap ((c.toNat : Int) - 48))) = ((valD (d.take p) * 10 + dv c : Nat) : Int) := by
            unfold dv
            rw [IntKind.wrap_u64, IntKind.wrap_u64, IntKind.wrap_u64, IntKind.wrap_i32]; omega
          repeat' (first | simp only [seval, ev1, ev2, ev3, ev4, beq_self_eq_true, encB_def, sb, *] | simp (disch := omega) only [if_pos, if_neg] | refine R.seq ?_ | refine LCB.text ?_ | refine LCB.quiet rfl ?_ | refine R.calls rfl ?_ | refine R.block ?_ | refine LCB.skip ?_ | refine LCB.exit ?_ | refine LCB.ret ?_ | (refine RetOk.val hcl ?_; simp only [seval, ev1, ev2, ev3, wk, List.forall_mem_cons, List.forall_mem_map, List.forall_mem_append, List.not_mem_nil, encB_def, sb, *]) | (refine Weak.at hcl ?_; simp only [seval, ev1, ev2, ev3, wk, List.forall_mem_cons, List.forall_mem_map, List.forall_mem_append, List.not_mem_nil, encB_def, sb, *]) | (refine LCB.cond (by (simp only [seval, ev1, ev2, ev3, ev4, beq_self_eq_true, encB_def, sb, *]) <;> rfl) (fun hc => ?_) (fun hc => ?_) <;> try simp only [seval, decide_eq_true_eq, decide_eq_false_iff_not, Bool.not_eq_true', Bool.not_eq_false', Bool.not_true, Bool.not_false] at hc) | (refine wpG_split (by (simp only [seval, ev1, ev2, ev3, ev4, beq_self_eq_true, encB_def, sb, *]) <;> rfl) (fun hc => ?_) (fun hc => ?_) <;> try simp only [seval, decide_eq_true_eq, decide_eq_false_iff_not, Bool.not_eq_true', Bool.not_eq_false', Bool.not_true, Bool.not_false] at hc) | (refine wqG_split (by (simp only [seval, ev1, ev2, ev3, ev4, beq_self_eq_true, encB_def, sb, *]) <;> rfl) (fun hc => ?_) (fun hc => ?_) <;> try simp only [seval, decide_eq_true_eq, decide_eq_false_iff_not, Bool.not_eq_true', Bool.not_eq_false', Bool.not_true, Bool.not_false] at hc) | refine ACalls.inst ?_ | refine CallP.inst rfl ?_)
          refine ⟨p + 1, ⟨hlt, by rw [ht.of, List.all_append, ha]; simp [isDig]; omega⟩, by simp only; omega, Weak.at hcl ?_⟩
          have hw : valD (d.take (p + 1)) = valD (d.take p) * 10 + dv c := by rw [ht.of, valD_snoc]
          simp only [seval, ev1, ev2, ev3, wk, List.forall_mem_cons, List.forall_mem_map, List.forall_mem_append, List.not_mem_nil, encB_def, sb, *]
        · have hb := Hold.mk (hna.of (by simpa using hdc))
          have hdd : ¬ (48 ≤ c.toNat ∧ c.toNat ≤ 57) := by simpa [isDig] using hdc
          have hz : numP l = .tup [.int .i64 0, .int .i64 2] := by unfold numP; rw [hw.of, if_neg (fun h => by rw [hb.of] at h; simp at h)]; rfl
          repeat' (first | simp only [seval, ev1, ev2, ev3, ev4, beq_self_eq_true, encB_def, sb, *] | simp (disch := omega) only [if_pos, if_neg] | refine R.seq ?_ | refine LCB.text ?_ | refine LCB.quiet rfl ?_ | refine R.calls rfl ?_ | refine R.block ?_ | refine LCB.skip ?_ | refine LCB.exit ?_ | refine LCB.ret ?_ | (refine RetOk.val hcl ?_; simp only [seval, ev1, ev2, ev3, wk, List.forall_mem_cons, List.forall_mem_map, List.forall_mem_append, List.not_mem_nil, encB_def, sb, *]) | (refine Weak.at hcl ?_; simp only [seval, ev1, ev2, ev3, wk, List.forall_mem_cons, List.forall_mem_map, List.forall_mem_append, List.not_mem_nil, encB_def, sb, *]) | (refine LCB.cond (by (simp only [seval, ev1, ev2, ev3, ev4, beq_self_eq_true, encB_def, sb, *]) <;> rfl) (fun hc => ?_) (fun hc => ?_) <;> try simp only [seval, decide_eq_true_eq, decide_eq_false_iff_not, Bool.not_eq_true', Bool.not_eq_false', Bool.not_true, Bool.not_false] at hc) | (refine wpG_split (by (simp only [seval, ev1, ev2, ev3, ev4, beq_self_eq_true, encB_def, sb, *]) <;> rfl) (fun hc => ?_) (fun hc => ?_) <;> try simp only [seval, decide_eq_true_eq, decide_eq_false_iff_not, Bool.not_eq_true', Bool.not_eq_false', Bool.not_true, Bool.not_false] at hc) | (refine wqG_split (by (simp only [seval, ev1, ev2, ev3, ev4, beq_self_eq_true, encB_def, sb, *]) <;> rfl) (fun hc => ?_) (fun hc => ?_) <;> try simp only [seval, decide_eq_true_eq, decide_eq_false_iff_not, Bool.not_eq_true', Bool.not_eq_false', Bool.not_true, Bool.not_false] at hc) | refine ACalls.inst ?_ | refine CallP.inst rfl ?_)
          exfalso; omega
    · have hp' : p = d.length := by omega
      subst hp'
      rw [List.take_length] at ha
      replace ha := Hold.mk ha
      repeat' (first | simp only [seval, ev1, ev2, ev3, ev4, beq_self_eq_true, encB_def, sb, *] | simp (disch := omega) only [if_pos, if_neg] | refine R.seq ?_ | refine LCB.text ?_ | refine LCB.quiet rfl ?_ | refine R.calls rfl ?_ | refine R.block ?_ | refine LCB.skip ?_ | refine LCB.exit ?_ | refine LCB.ret ?_ | (refine RetOk.val hcl ?_; simp only [seval, ev1, ev2, ev3, wk, List.forall_mem_cons, List.forall_mem_map, List.forall_mem_append, List.not_mem_nil, encB_def, sb, *]) | (refine Weak.at hcl ?_; simp only [seval, ev1, ev2, ev3, wk, List.forall_mem_cons, List.forall_mem_map, List.forall_mem_append, List.not_mem_nil, encB_def, sb, *]) | (refine LCB.cond (by (simp only [seval, ev1, ev2, ev3, ev4, beq_self_eq_true, encB_def, sb, *]) <;> rfl) (fun hc => ?_) (fun hc => ?_) <;> try simp only [seval, decide_eq_true_eq, decide_eq_false_iff_not, Bool.not_eq_true', Bool.not_eq_false', Bool.not_true, Bool.not_false] at hc) | (refine wpG_split (by (simp only [seval, ev1, ev2, ev3, ev4, beq_self_eq_true, encB_def, sb, *]) <;> rfl) (fun hc => ?_) (fun hc => ?_) <;> try simp only [seval, decide_eq_true_eq, decide_eq_false_iff_not, Bool.not_eq_true', Bool.not_eq_false', Bool.not_true, Bool.not_false] at hc) | (refine wqG_split (by (simp only [seval, ev1, ev2, ev3, ev4, beq_self_eq_true, encB_def, sb, *]) <;> rfl) (fun hc => ?_) (fun hc => ?_) <;> try simp only [seval, decide_eq_true_eq, decide_eq_false_iff_not, Bool.not_eq_true', Bool.not_eq_false', Bool.not_true, Bool.not_false] at hc) | refine ACalls.inst ?_ | refine CallP.inst rfl ?_)
      refine ⟨(), ha.of, Weak.at hcl ?_⟩
      simp only [seval, ev1, ev2, ev3, wk, List.forall_mem_cons, List.forall_mem_map, List.forall_mem_append, List.not_mem_nil, encB_def, sb, *]
  rintro ⟨⟩ ha
  simp only at ha ⊢
  have hv := valD_lt _ d rfl ha
  have hv2 : 10 ^ d.length ≤ 10 ^ 19 := Nat.pow_le_pow_right (by omega) hd19
  have hv1 := hv0.of ha
  clear hv0
  generalize valD d = v at *
  replace ha := Hold.mk ha
  replace hv1 := Hold.mk hv1
  have hn := hw.of
  clear hw
  have pos : ∀ n : Int, numOf l = some n → numP l = .tup [.int .i64 n, .int .i64 0] := fun n h => by unfold numP; rw [h]; rfl
  have neg : numOf l = none → numP l = .tup [.int .i64 0, .int .i64 2] := fun h => by unfold numP; rw [h]; rfl
  replace pos := Hold.mk pos
  replace neg := Hold.mk neg
  cases b
  · simp only [ha.of, true_and, Bool.false_eq_true, if_false] at hn
    replace hn := Hold.mk hn
    repeat' (first | simp only [seval, ev1, ev2, ev3, ev4, beq_self_eq_true, encB_def, sb, *] | simp (disch := omega) only [if_pos, if_neg] | refine R.seq ?_ | refine LCB.text ?_ | refine LCB.quiet rfl ?_ | refine R.calls rfl ?_ | refine R.block ?_ | refine LCB.skip ?_ | refine LCB.exit ?_ | refine LCB.ret ?_ | (refine RetOk.val hcl ?_; simp only [seval, ev1, ev2, ev3, wk, List.forall_mem_cons, List.forall_mem_map, List.forall_mem_append, List.not_mem_nil, encB_def, sb, *]) | (refine Weak.at hcl ?_; simp only [seval, ev1, ev2, ev3, wk, List.forall_mem_cons, List.forall_mem_map, List.forall_mem_append, List.not_mem_nil, encB_def, sb, *]) | (refine LCB.cond (by (simp only [seval, ev1, ev2, ev3, ev4, beq_self_eq_true, encB_def, sb, *]) <;> rfl) (fun hc => ?_) (fun hc => ?_) <;> try simp only [seval, decide_eq_true_eq, decide_eq_false_iff_not, Bool.not_eq_true', Bool.not_eq_false', Bool.not_true, Bool.not_false] at hc) | (refine wpG_split (by (simp only [seval, ev1, ev2, ev3, ev4, beq_self_eq_true, encB_def, sb, *]) <;> rfl) (fun hc => ?_) (fun hc => ?_) <;> try simp only [seval, decide_eq_true_eq, decide_eq_false_iff_not, Bool.not_eq_true', Bool.not_eq_false', Bool.not_true, Bool.not_false] at hc) | (refine wqG_split (by (simp only [seval, ev1, ev2, ev3, ev4, beq_self_eq_true, encB_def, sb, *]) <;> rfl) (fun hc => ?_) (fun hc => ?_) <;> try simp only [seval, decide_eq_true_eq, decide_eq_false_iff_not, Bool.not_eq_true', Bool.not_eq_false', Bool.not_true, Bool.not_false] at hc) | refine ACalls.inst ?_ | refine CallP.inst rfl ?_)
    · have hz := neg.of (by rw [hn.of, if_neg (by omega)])
      simp only [seval, ev1, ev2, ev3, wk, List.forall_mem_cons, List.forall_mem_map, List.forall_mem_append, List.not_mem_nil, encB_def, sb, *]
    · have hz := pos.of v (by rw [hn.of, if_pos (by omega)])
      have hq : IntKind.i64.wrap (v : Int) = (v : Int) := by rw [IntKind.wrap_i64]; omega
      simp only [seval, ev1, ev2, ev3, wk, List.forall_mem_cons, List.forall_mem_map, List.forall_mem_append, List.not_mem_nil, encB_def, sb, *]
  · have hv1 := hv1.of rfl
    simp only [ha.of, true_and, if_true] at hn
    replace hn := Hold.mk hn
    repeat' (first | simp only [seval, ev1, ev2, ev3, ev4, beq_self_eq_true, encB_def, sb, *] | simp (disch := omega) only [if_pos, if_neg] | refine R.seq ?_ | refine LCB.text ?_ | refine LCB.quiet rfl ?_ | refine R.calls rfl ?_ | refine R.block ?_ | refine LCB.skip ?_ | refine LCB.exit ?_ | refine LCB.ret ?_ | (refine RetOk.val hcl ?_; simp only [seval, ev1, ev2, ev3, wk, List.forall_mem_cons, List.forall_mem_map, List.forall_mem_append, List.not_mem_nil, encB_def, sb, *]) | (refine Weak.at hcl ?_; simp only [seval, ev1, ev2, ev3, wk, List.forall_mem_cons, List.forall_mem_map, List.forall_mem_append, List.not_mem_nil, encB_def, sb, *]) | (refine LCB.cond (by (simp only [seval, ev1, ev2, ev3, ev4, beq_self_eq_true, encB_def, sb, *]) <;> rfl) (fun hc => ?_) (fun hc => ?_) <;> try simp only [seval, decide_eq_true_eq, decide_eq_false_iff_not, Bool.not_eq_true', Bool.not_eq_false', Bool.not_true, Bool.not_false] at hc) | (refine wpG_split (by (simp only [seval, ev1, ev2, ev3, ev4, beq_self_eq_true, encB_def, sb, *]) <;> rfl) (fun hc => ?_) (fun hc => ?_) <;> try simp only [seval, decide_eq_true_eq, decide_eq_false_iff_not, Bool.not_eq_true', Bool.not_eq_false', Bool.not_true, Bool.not_false] at hc) | (refine wqG_split (by (simp only [seval, ev1, ev2, ev3, ev4, beq_self_eq_true, encB_def, sb, *]) <;> rfl) (fun hc => ?_) (fun hc => ?_) <;> try simp only [seval, decide_eq_true_eq, decide_eq_false_iff_not, Bool.not_eq_true', Bool.not_eq_false', Bool.not_true, Bool.not_false] at hc) | refine ACalls.inst ?_ | refine CallP.inst rfl ?_)
    · rw [IntKind.wrap_u64, IntKind.wrap_u64, IntKind.wrap_u64] at hc
      have hz := neg.of (by rw [hn.of, if_neg (by omega)])
      simp only [seval, ev1, ev2, ev3, wk, List.forall_mem_cons, List.forall_mem_map, List.forall_mem_append, List.not_mem_nil, encB_def, sb, *]
    · rw [IntKind.wrap_u64, IntKind.wrap_u64, IntKind.wrap_u64] at hc
      have hz := pos.of (-(v : Int)) (by rw [hn.of, if_pos (by omega)])
      have hq : IntKind.i64.wrap (IntKind.u64.wrap (0 - (v : Int))) = -(v : Int) := by rw [IntKind.wrap_u64, IntKind.wrap_i64]; omega
      simp only [seval, ev1, ev2, ev3, wk, List.forall_mem_cons, List.forall_mem_map, List.forall_mem_append, List.not_mem_nil, encB_def, sb, *]
end Go.Proofs.YtoiceinjademgaaDoor
