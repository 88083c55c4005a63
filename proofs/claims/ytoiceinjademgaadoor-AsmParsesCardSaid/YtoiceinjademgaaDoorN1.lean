/-
  Numbers' texts: the digits; num.Text.
-/
import Derived.Test.YtoiceinjademgaaDoorL
import Derived.Test.YtoiceinjademgaaDoorCB
namespace Go.Proofs.YtoiceinjademgaaDoor
open Go.RowKit
set_option linter.unusedVariables false
set_option linter.unusedSimpArgs false

def dig (n : Nat) : UInt8 := UInt8.ofNat (48 + n % 10)
/-- Digits, at most so many. -/
def decF : Nat → Nat → List UInt8
  | 0, _ => []
  | k + 1, n => if n < 10 then [dig n] else decF k (n / 10) ++ [dig n]
def decB (n : Nat) : List UInt8 := decF 20 n
/-- A number's text. -/
def numText (n : Int) : List UInt8 := if n < 0 then 45 :: decB n.natAbs else decB n.natAbs

theorem decF_more : ∀ (k n : Nat), n < 10 ^ (k + 1) → decF (k + 2) n = decF (k + 1) n
  | 0, n, h => by simp at h; simp [decF, h]
  | k + 1, n, h => by
    show (if n < 10 then [dig n] else decF (k + 2) (n / 10) ++ [dig n]) = (if n < 10 then [dig n] else decF (k + 1) (n / 10) ++ [dig n])
    rw [decF_more k (n / 10) (by rw [Nat.pow_succ] at h; omega)]
theorem decB_step {n : Nat} (h : n < 10 ^ 20) : decB n = if n < 10 then [dig n] else decB (n / 10) ++ [dig n] := by
  show decF 20 n = _
  rw [decF]
  split
  · rfl
  · show decF 19 (n / 10) ++ _ = decF 20 (n / 10) ++ _
    rw [decF_more 18 (n / 10) (by omega)]
theorem decF_len : ∀ (k n : Nat), (decF k n).length ≤ k
  | 0, n => by simp [decF]
  | k + 1, n => by
    rw [decF]
    split
    · simp
    · have := decF_len k (n / 10)
      simp; omega
theorem decB_len (n : Nat) : (decB n).length ≤ 20 := decF_len 20 n
theorem decB_pos {n : Nat} (h : n < 10 ^ 20) : 1 ≤ (decB n).length := by
  rw [decB_step h]
  split <;> simp

theorem dig_toNat (n : Nat) : (dig n).toNat = 48 + n % 10 := by
  unfold dig
  rw [UInt8.toNat_ofNat']
  omega

theorem dig_u64 (u : Nat) : IntKind.u8.wrap (IntKind.u64.wrap (48 + Int.tmod (u : Int) 10)) = ((dig u).toNat : Int) := by
  rw [dig_toNat, IntKind.wrap_u8, IntKind.wrap_u64, Int.tmod_eq_emod_of_nonneg (by omega)]
  omega

theorem small {n : Nat} (h : n ≤ 1000000) : n ≤ 140737488355328 ∧ n ≤ maxLen := by
  have : maxLen = 9223372036854775807 := rfl
  omega

theorem num_Text_ok (n : Int) (hn : in64 n) : Pure Tryd.prog 36 [.int .i64 n] (.str (bs (numText n))) := by
  intro H
  refine ACalls.go num_Text.low (by simp) fun hcl => ?_
  obtain ⟨hn1, hn2⟩ := hn
  (refine R.seq ?_; refine LCB.text ?_; repeat' (first | simp only [seval, ev1, ev2, ev3, ev4, beq_self_eq_true, encB_def, sb, *] | simp (disch := omega) only [if_pos, if_neg]))
  (refine R.seq ?_; refine LCB.text ?_; repeat' (first | simp only [seval, ev1, ev2, ev3, ev4, beq_self_eq_true, encB_def, sb, *] | simp (disch := omega) only [if_pos, if_neg]))
  (refine R.seq ?_; refine LCB.text ?_; repeat' (first | simp only [seval, ev1, ev2, ev3, ev4, beq_self_eq_true, encB_def, sb, *] | simp (disch := omega) only [if_pos, if_neg]))
  refine R.cut [(0, .int .i64 n), (3, .int .u64 (n.natAbs : Int)), (4, .imm (.slice none 0 0))] (H ++ []) ?_ ?_
  · repeat' (first | simp only [seval, ev1, ev2, ev3, ev4, beq_self_eq_true, encB_def, sb, *] | simp (disch := omega) only [if_pos, if_neg] | refine R.seq ?_ | refine LCB.text ?_ | refine LCB.quiet rfl ?_ | refine R.calls rfl ?_ | refine R.block ?_ | refine LCB.skip ?_ | refine LCB.exit ?_ | refine LCB.ret ?_ | (refine RetOk.val hcl ?_; simp only [seval, ev1, ev2, ev3, wk, List.forall_mem_cons, List.forall_mem_map, List.forall_mem_append, List.not_mem_nil, encB_def, sb, *]) | (refine Weak.at hcl ?_; simp only [seval, ev1, ev2, ev3, wk, List.forall_mem_cons, List.forall_mem_map, List.forall_mem_append, List.not_mem_nil, encB_def, sb, *]) | (refine LCB.cond (by (simp only [seval, ev1, ev2, ev3, ev4, beq_self_eq_true, encB_def, sb, *]) <;> rfl) (fun hc => ?_) (fun hc => ?_) <;> try simp only [seval, decide_eq_true_eq, decide_eq_false_iff_not, Bool.not_eq_true', Bool.not_eq_false', Bool.not_true, Bool.not_false] at hc) | (refine wpG_split (by (simp only [seval, ev1, ev2, ev3, ev4, beq_self_eq_true, encB_def, sb, *]) <;> rfl) (fun hc => ?_) (fun hc => ?_) <;> try simp only [seval, decide_eq_true_eq, decide_eq_false_iff_not, Bool.not_eq_true', Bool.not_eq_false', Bool.not_true, Bool.not_false] at hc) | (refine wqG_split (by (simp only [seval, ev1, ev2, ev3, ev4, beq_self_eq_true, encB_def, sb, *]) <;> rfl) (fun hc => ?_) (fun hc => ?_) <;> try simp only [seval, decide_eq_true_eq, decide_eq_false_iff_not, Bool.not_eq_true', Bool.not_eq_false', Bool.not_true, Bool.not_false] at hc) | refine ACalls.inst ?_ | refine CallP.inst rfl ?_)
    · rw [IntKind.wrap_u64, IntKind.wrap_u64]; omega
    · rw [IntKind.wrap_u64]; omega
  have hu : n.natAbs < 10 ^ 20 := by omega
  have hD := decB_len n.natAbs
  generalize hDe : decB n.natAbs = D at *
  refine R.join (S := Unit) ⟨fun _ => [(0, .int .i64 n), (4, .sl 1 H.length D.length 0 D.length)], fun _ => H ++ [.vec 1 (D.reverse.map encB)], fun _ => True, fun _ => 0⟩ ?_ ?_
  · (refine R.seq ?_; refine LCB.text ?_; repeat' (first | simp only [seval, ev1, ev2, ev3, ev4, beq_self_eq_true, encB_def, sb, *] | simp (disch := omega) only [if_pos, if_neg]))
    refine R.block (R.loop (S := Nat × List UInt8 × Bool) ⟨fun s => [(0, .int .i64 n), (3, .int .u64 (s.1 : Int)), (4, .sl 1 H.length s.2.1.length 0 s.2.1.length), (5, .bool s.2.2)], fun s => H ++ [.vec 1 (s.2.1.map encB)],
      fun s => s.1 < 10 ^ 20 ∧ (if s.2.2 then decB s.1 ++ s.2.1.reverse = D else s.2.1.reverse = D), fun s => if s.2.2 then s.1 + 1 else 0⟩ (n.natAbs, [], true) ⟨hu, by simp [hDe]⟩ ((Weak.growAt 4 1 (by omega) (by simp only [seval, ev1, ev2, ev3, ev4, beq_self_eq_true, encB_def, sb, *])).trans (Weak.at hcl (by simp only [seval, ev1, ev2, ev3, wk, List.forall_mem_cons, List.forall_mem_map, List.forall_mem_append, List.not_mem_nil, encB_def, sb, *]))) ?_)
    rintro ⟨u, l, more⟩ ⟨h1, h2⟩
    simp only at h1 h2 ⊢
    cases more
    · simp only [Bool.false_eq_true, if_false] at h2
      have hl : D.length = l.length := by rw [← h2]; simp
      have hr : D.reverse = l := by rw [← h2]; simp
      repeat' (first | simp only [seval, ev1, ev2, ev3, ev4, beq_self_eq_true, encB_def, sb, *] | simp (disch := omega) only [if_pos, if_neg] | refine R.seq ?_ | refine LCB.text ?_ | refine LCB.quiet rfl ?_ | refine R.calls rfl ?_ | refine R.block ?_ | refine LCB.skip ?_ | refine LCB.exit ?_ | refine LCB.ret ?_ | (refine RetOk.val hcl ?_; simp only [seval, ev1, ev2, ev3, wk, List.forall_mem_cons, List.forall_mem_map, List.forall_mem_append, List.not_mem_nil, encB_def, sb, *]) | (refine Weak.at hcl ?_; simp only [seval, ev1, ev2, ev3, wk, List.forall_mem_cons, List.forall_mem_map, List.forall_mem_append, List.not_mem_nil, encB_def, sb, *]) | (refine LCB.cond (by (simp only [seval, ev1, ev2, ev3, ev4, beq_self_eq_true, encB_def, sb, *]) <;> rfl) (fun hc => ?_) (fun hc => ?_) <;> try simp only [seval, decide_eq_true_eq, decide_eq_false_iff_not, Bool.not_eq_true', Bool.not_eq_false', Bool.not_true, Bool.not_false] at hc) | (refine wpG_split (by (simp only [seval, ev1, ev2, ev3, ev4, beq_self_eq_true, encB_def, sb, *]) <;> rfl) (fun hc => ?_) (fun hc => ?_) <;> try simp only [seval, decide_eq_true_eq, decide_eq_false_iff_not, Bool.not_eq_true', Bool.not_eq_false', Bool.not_true, Bool.not_false] at hc) | (refine wqG_split (by (simp only [seval, ev1, ev2, ev3, ev4, beq_self_eq_true, encB_def, sb, *]) <;> rfl) (fun hc => ?_) (fun hc => ?_) <;> try simp only [seval, decide_eq_true_eq, decide_eq_false_iff_not, Bool.not_eq_true', Bool.not_eq_false', Bool.not_true, Bool.not_false] at hc) | refine ACalls.inst ?_ | refine CallP.inst rfl ?_)
      refine ⟨(), trivial, ?_⟩
      repeat' (first | simp only [seval, ev1, ev2, ev3, ev4, beq_self_eq_true, encB_def, sb, *] | simp (disch := omega) only [if_pos, if_neg] | refine R.seq ?_ | refine LCB.text ?_ | refine LCB.quiet rfl ?_ | refine R.calls rfl ?_ | refine R.block ?_ | refine LCB.skip ?_ | refine LCB.exit ?_ | refine LCB.ret ?_ | (refine RetOk.val hcl ?_; simp only [seval, ev1, ev2, ev3, wk, List.forall_mem_cons, List.forall_mem_map, List.forall_mem_append, List.not_mem_nil, encB_def, sb, *]) | (refine Weak.at hcl ?_; simp only [seval, ev1, ev2, ev3, wk, List.forall_mem_cons, List.forall_mem_map, List.forall_mem_append, List.not_mem_nil, encB_def, sb, *]) | (refine LCB.cond (by (simp only [seval, ev1, ev2, ev3, ev4, beq_self_eq_true, encB_def, sb, *]) <;> rfl) (fun hc => ?_) (fun hc => ?_) <;> try simp only [seval, decide_eq_true_eq, decide_eq_false_iff_not, Bool.not_eq_true', Bool.not_eq_false', Bool.not_true, Bool.not_false] at hc) | (refine wpG_split (by (simp only [seval, ev1, ev2, ev3, ev4, beq_self_eq_true, encB_def, sb, *]) <;> rfl) (fun hc => ?_) (fun hc => ?_) <;> try simp only [seval, decide_eq_true_eq, decide_eq_false_iff_not, Bool.not_eq_true', Bool.not_eq_false', Bool.not_true, Bool.not_false] at hc) | (refine wqG_split (by (simp only [seval, ev1, ev2, ev3, ev4, beq_self_eq_true, encB_def, sb, *]) <;> rfl) (fun hc => ?_) (fun hc => ?_) <;> try simp only [seval, decide_eq_true_eq, decide_eq_false_iff_not, Bool.not_eq_true', Bool.not_eq_false', Bool.not_true, Bool.not_false] at hc) | refine ACalls.inst ?_ | refine CallP.inst rfl ?_)
    · simp only [if_true] at h2
      have hs := decB_step h1
      have hp := decB_pos h1
      have hl : l.length + 1 ≤ 20 := by
        have := congrArg List.length h2
        simp at this
        omega
      obtain ⟨b1, b2⟩ := small (n := l.length + 1) (by omega)
      have q : IntKind.u64.wrap ((u : Int).tdiv 10) = ((u / 10 : Nat) : Int) := by
        rw [IntKind.wrap_u64, Int.tdiv_eq_ediv_of_nonneg (by omega)]; omega
      have hd := dig_u64 u
      repeat' (first | simp only [seval, ev1, ev2, ev3, ev4, beq_self_eq_true, encB_def, sb, *] | simp (disch := omega) only [if_pos, if_neg] | refine R.seq ?_ | refine LCB.text ?_ | refine LCB.quiet rfl ?_ | refine R.calls rfl ?_ | refine R.block ?_ | refine LCB.skip ?_ | refine LCB.exit ?_ | refine LCB.ret ?_ | (refine RetOk.val hcl ?_; simp only [seval, ev1, ev2, ev3, wk, List.forall_mem_cons, List.forall_mem_map, List.forall_mem_append, List.not_mem_nil, encB_def, sb, *]) | (refine Weak.at hcl ?_; simp only [seval, ev1, ev2, ev3, wk, List.forall_mem_cons, List.forall_mem_map, List.forall_mem_append, List.not_mem_nil, encB_def, sb, *]) | (refine LCB.cond (by (simp only [seval, ev1, ev2, ev3, ev4, beq_self_eq_true, encB_def, sb, *]) <;> rfl) (fun hc => ?_) (fun hc => ?_) <;> try simp only [seval, decide_eq_true_eq, decide_eq_false_iff_not, Bool.not_eq_true', Bool.not_eq_false', Bool.not_true, Bool.not_false] at hc) | (refine wpG_split (by (simp only [seval, ev1, ev2, ev3, ev4, beq_self_eq_true, encB_def, sb, *]) <;> rfl) (fun hc => ?_) (fun hc => ?_) <;> try simp only [seval, decide_eq_true_eq, decide_eq_false_iff_not, Bool.not_eq_true', Bool.not_eq_false', Bool.not_true, Bool.not_false] at hc) | (refine wqG_split (by (simp only [seval, ev1, ev2, ev3, ev4, beq_self_eq_true, encB_def, sb, *]) <;> rfl) (fun hc => ?_) (fun hc => ?_) <;> try simp only [seval, decide_eq_true_eq, decide_eq_false_iff_not, Bool.not_eq_true', Bool.not_eq_false', Bool.not_true, Bool.not_false] at hc) | refine ACalls.inst ?_ | refine CallP.inst rfl ?_)
      refine ⟨(u / 10, l ++ [dig u], decide ((0 : Int) < ((u / 10 : Nat) : Int))), ⟨by simp only; omega, ?_⟩, ?_, ?_⟩
      · simp only
        by_cases hc : u < 10
        · have : ¬ ((0 : Int) < ((u / 10 : Nat) : Int)) := by omega
          rw [if_pos hc] at hs
          simp only [this, decide_false, Bool.false_eq_true, if_false]
          rw [← h2, hs]; simp
        · have : ((0 : Int) < ((u / 10 : Nat) : Int)) := by omega
          rw [if_neg hc] at hs
          simp only [this, decide_true, if_true]
          rw [← h2, hs]; simp
      · simp only [decide_eq_true_eq]; split <;> omega
      · repeat' (first | simp only [seval, ev1, ev2, ev3, ev4, beq_self_eq_true, encB_def, sb, *] | simp (disch := omega) only [if_pos, if_neg] | refine R.seq ?_ | refine LCB.text ?_ | refine LCB.quiet rfl ?_ | refine R.calls rfl ?_ | refine R.block ?_ | refine LCB.skip ?_ | refine LCB.exit ?_ | refine LCB.ret ?_ | (refine RetOk.val hcl ?_; simp only [seval, ev1, ev2, ev3, wk, List.forall_mem_cons, List.forall_mem_map, List.forall_mem_append, List.not_mem_nil, encB_def, sb, *]) | (refine Weak.at hcl ?_; simp only [seval, ev1, ev2, ev3, wk, List.forall_mem_cons, List.forall_mem_map, List.forall_mem_append, List.not_mem_nil, encB_def, sb, *]) | (refine LCB.cond (by (simp only [seval, ev1, ev2, ev3, ev4, beq_self_eq_true, encB_def, sb, *]) <;> rfl) (fun hc => ?_) (fun hc => ?_) <;> try simp only [seval, decide_eq_true_eq, decide_eq_false_iff_not, Bool.not_eq_true', Bool.not_eq_false', Bool.not_true, Bool.not_false] at hc) | (refine wpG_split (by (simp only [seval, ev1, ev2, ev3, ev4, beq_self_eq_true, encB_def, sb, *]) <;> rfl) (fun hc => ?_) (fun hc => ?_) <;> try simp only [seval, decide_eq_true_eq, decide_eq_false_iff_not, Bool.not_eq_true', Bool.not_eq_false', Bool.not_true, Bool.not_false] at hc) | (refine wqG_split (by (simp only [seval, ev1, ev2, ev3, ev4, beq_self_eq_true, encB_def, sb, *]) <;> rfl) (fun hc => ?_) (fun hc => ?_) <;> try simp only [seval, decide_eq_true_eq, decide_eq_false_iff_not, Bool.not_eq_true', Bool.not_eq_false', Bool.not_true, Bool.not_false] at hc) | refine ACalls.inst ?_ | refine CallP.inst rfl ?_)
  · rintro ⟨⟩ _
    simp only
    refine R.join (S := Unit) ⟨fun _ => [(4, .sl 1 H.length (numText n).length 0 (numText n).length)], fun _ => H ++ [.vec 1 ((numText n).reverse.map encB)], fun _ => (numText n).length ≤ 21, fun _ => 0⟩ ?_ ?_
    · have e : numText n = if n < 0 then 45 :: D else D := by rw [← hDe]; rfl
      obtain ⟨b1, b2⟩ := small (n := D.length + 1) (by omega)
      have z : encB 45 = [.int .u8 45] := rfl
      repeat' (first | simp only [seval, ev1, ev2, ev3, ev4, beq_self_eq_true, encB_def, sb, *] | simp (disch := omega) only [if_pos, if_neg] | refine R.seq ?_ | refine LCB.text ?_ | refine LCB.quiet rfl ?_ | refine R.calls rfl ?_ | refine R.block ?_ | refine LCB.skip ?_ | refine LCB.exit ?_ | refine LCB.ret ?_ | (refine RetOk.val hcl ?_; simp only [seval, ev1, ev2, ev3, wk, List.forall_mem_cons, List.forall_mem_map, List.forall_mem_append, List.not_mem_nil, encB_def, sb, *]) | (refine Weak.at hcl ?_; simp only [seval, ev1, ev2, ev3, wk, List.forall_mem_cons, List.forall_mem_map, List.forall_mem_append, List.not_mem_nil, encB_def, sb, *]) | (refine LCB.cond (by (simp only [seval, ev1, ev2, ev3, ev4, beq_self_eq_true, encB_def, sb, *]) <;> rfl) (fun hc => ?_) (fun hc => ?_) <;> try simp only [seval, decide_eq_true_eq, decide_eq_false_iff_not, Bool.not_eq_true', Bool.not_eq_false', Bool.not_true, Bool.not_false] at hc) | (refine wpG_split (by (simp only [seval, ev1, ev2, ev3, ev4, beq_self_eq_true, encB_def, sb, *]) <;> rfl) (fun hc => ?_) (fun hc => ?_) <;> try simp only [seval, decide_eq_true_eq, decide_eq_false_iff_not, Bool.not_eq_true', Bool.not_eq_false', Bool.not_true, Bool.not_false] at hc) | (refine wqG_split (by (simp only [seval, ev1, ev2, ev3, ev4, beq_self_eq_true, encB_def, sb, *]) <;> rfl) (fun hc => ?_) (fun hc => ?_) <;> try simp only [seval, decide_eq_true_eq, decide_eq_false_iff_not, Bool.not_eq_true', Bool.not_eq_false', Bool.not_true, Bool.not_false] at hc) | refine ACalls.inst ?_ | refine CallP.inst rfl ?_)
      all_goals refine ⟨(), by (simp <;> omega), ?_⟩
      all_goals repeat' (first | simp only [seval, ev1, ev2, ev3, ev4, beq_self_eq_true, encB_def, sb, *] | simp (disch := omega) only [if_pos, if_neg] | refine R.seq ?_ | refine LCB.text ?_ | refine LCB.quiet rfl ?_ | refine R.calls rfl ?_ | refine R.block ?_ | refine LCB.skip ?_ | refine LCB.exit ?_ | refine LCB.ret ?_ | (refine RetOk.val hcl ?_; simp only [seval, ev1, ev2, ev3, wk, List.forall_mem_cons, List.forall_mem_map, List.forall_mem_append, List.not_mem_nil, encB_def, sb, *]) | (refine Weak.at hcl ?_; simp only [seval, ev1, ev2, ev3, wk, List.forall_mem_cons, List.forall_mem_map, List.forall_mem_append, List.not_mem_nil, encB_def, sb, *]) | (refine LCB.cond (by (simp only [seval, ev1, ev2, ev3, ev4, beq_self_eq_true, encB_def, sb, *]) <;> rfl) (fun hc => ?_) (fun hc => ?_) <;> try simp only [seval, decide_eq_true_eq, decide_eq_false_iff_not, Bool.not_eq_true', Bool.not_eq_false', Bool.not_true, Bool.not_false] at hc) | (refine wpG_split (by (simp only [seval, ev1, ev2, ev3, ev4, beq_self_eq_true, encB_def, sb, *]) <;> rfl) (fun hc => ?_) (fun hc => ?_) <;> try simp only [seval, decide_eq_true_eq, decide_eq_false_iff_not, Bool.not_eq_true', Bool.not_eq_false', Bool.not_true, Bool.not_false] at hc) | (refine wqG_split (by (simp only [seval, ev1, ev2, ev3, ev4, beq_self_eq_true, encB_def, sb, *]) <;> rfl) (fun hc => ?_) (fun hc => ?_) <;> try simp only [seval, decide_eq_true_eq, decide_eq_false_iff_not, Bool.not_eq_true', Bool.not_eq_false', Bool.not_true, Bool.not_false] at hc) | refine ACalls.inst ?_ | refine CallP.inst rfl ?_)
    rintro ⟨⟩ ht
    simp only at ht ⊢
    generalize numText n = T at *
    have m0 : (0 : Int) ≤ (T.length : Int) := by omega
    have m1 : (T.length : Int) ≤ 140737488355328 := by omega
    have m2 : (T.length : Int) ≤ 9223372036854775807 := by omega
    have m3 : (T.length : Int) ≤ (T.length : Int) := by omega
    have mr : List.replicate T.length [AV.int .u8 0] = (List.replicate T.length 0).map encB := by simp [encB]
    have b0 : (T.length : Nat) - 0 = T.length := rfl
    have b3 : T.drop T.length = [] := by simp
    have b4 : ∀ l : List UInt8, l ++ [] = l := fun l => by simp
    obtain ⟨b1, b2⟩ := small (n := T.length) (by omega)
    (refine R.seq ?_; refine LCB.text ?_; repeat' (first | simp only [seval, ev1, ev2, ev3, ev4, beq_self_eq_true, encB_def, sb, *] | simp (disch := omega) only [if_pos, if_neg]))
    refine R.seq ?_
    (refine R.seq ?_; refine LCB.text ?_; repeat' (first | simp only [seval, ev1, ev2, ev3, ev4, beq_self_eq_true, encB_def, sb, *] | simp (disch := omega) only [if_pos, if_neg]))
    refine R.block (R.loop (S := Nat) ⟨fun k => [(4, .sl 1 H.length T.length 0 T.length), (6, .sl 1 (H.length + 1) T.length 0 T.length), (35, .sl 1 H.length T.length 0 T.length), (36, .int .i64 (T.length : Int)), (37, .int .i64 (k : Int))],
      fun k => H ++ [.vec 1 (T.reverse.map encB), .vec 1 ((List.replicate (T.length - k) 0 ++ T.drop (T.length - k)).map encB)], fun k => k ≤ T.length, fun k => T.length - k⟩ 0 (Nat.zero_le _) (Weak.at hcl ?_) ?_)
    · simp only [seval, ev1, ev2, ev3, wk, List.forall_mem_cons, List.forall_mem_map, List.forall_mem_append, List.not_mem_nil, encB_def, sb, *]
    intro k hk
    simp only at hk ⊢
    by_cases hlt : k < T.length
    · have hlt' : (k : Int) < (T.length : Int) := by omega
      have e1 : IntKind.i64.wrap (IntKind.i64.wrap ((T.length : Int) - 1) - (k : Int)) = ((T.length - 1 - k : Nat) : Int) := by
        rw [IntKind.wrap_i64, IntKind.wrap_i64]; omega
      have e2 : IntKind.i64.wrap ((k : Int) + 1) = ((k + 1 : Nat) : Int) := by rw [IntKind.wrap_i64]; omega
      have e3 : (0 : Int) ≤ (k : Int) := by omega
      have e4 : (0 : Int) ≤ ((T.length - 1 - k : Nat) : Int) := by omega
      have e5 : ((T.length - 1 - k : Nat) : Int) < (T.length : Int) := by omega
      have e6 : T.reverse[k]? = some (T.getD (T.length - 1 - k) 0) := by
        simp [List.getElem?_reverse, hlt, List.getD]
        rw [List.getElem?_eq_getElem (by omega)]
        rfl
      have e7 : ((List.replicate (T.length - k) 0 ++ T.drop (T.length - k)).map encB).length = T.length := by (simp <;> omega)
      obtain ⟨old, e8⟩ : ∃ old, ((List.replicate (T.length - k) 0 ++ T.drop (T.length - k)).map encB)[T.length - 1 - k]? = some [old] := by
        rw [List.getElem?_map]
        have : T.length - 1 - k < (List.replicate (T.length - k) 0 ++ T.drop (T.length - k)).length := by (simp <;> omega)
        rw [List.getElem?_eq_getElem this]
        exact ⟨_, rfl⟩
      have e9 : ((List.replicate (T.length - k) 0 ++ T.drop (T.length - k)).map encB).set (T.length - 1 - k) [.int .u8 ((T.getD (T.length - 1 - k) 0).toNat : Int)] = (List.replicate (T.length - (k + 1)) 0 ++ T.drop (T.length - (k + 1))).map encB := by
        have : [AV.int .u8 ((T.getD (T.length - 1 - k) 0).toNat : Int)] = encB (T.getD (T.length - 1 - k) 0) := rfl
        rw [this, ← List.map_set]
        congr 1
        obtain ⟨j, hj⟩ : ∃ j, T.length - k = j + 1 := ⟨T.length - k - 1, by omega⟩
        have hj2 : T.length - 1 - k = j := by omega
        have hj3 : T.length - (k + 1) = j := by omega
        rw [hj, hj2, hj3, List.replicate_succ', List.append_assoc]
        have hjl : j < T.length := by omega
        rw [List.drop_eq_getElem_cons hjl]
        simp [List.set_append, List.getD, hjl]
      generalize hX : (List.replicate (T.length - k) 0 ++ T.drop (T.length - k)).map encB = X at *
      repeat' (first | simp only [seval, ev1, ev2, ev3, ev4, beq_self_eq_true, encB_def, sb, *] | simp (disch := omega) only [if_pos, if_neg] | refine R.seq ?_ | refine LCB.text ?_ | refine LCB.quiet rfl ?_ | refine R.calls rfl ?_ | refine R.block ?_ | refine LCB.skip ?_ | refine LCB.exit ?_ | refine LCB.ret ?_ | (refine RetOk.val hcl ?_; simp only [seval, ev1, ev2, ev3, wk, List.forall_mem_cons, List.forall_mem_map, List.forall_mem_append, List.not_mem_nil, encB_def, sb, *]) | (refine Weak.at hcl ?_; simp only [seval, ev1, ev2, ev3, wk, List.forall_mem_cons, List.forall_mem_map, List.forall_mem_append, List.not_mem_nil, encB_def, sb, *]) | (refine LCB.cond (by (simp only [seval, ev1, ev2, ev3, ev4, beq_self_eq_true, encB_def, sb, *]) <;> rfl) (fun hc => ?_) (fun hc => ?_) <;> try simp only [seval, decide_eq_true_eq, decide_eq_false_iff_not, Bool.not_eq_true', Bool.not_eq_false', Bool.not_true, Bool.not_false] at hc) | (refine wpG_split (by (simp only [seval, ev1, ev2, ev3, ev4, beq_self_eq_true, encB_def, sb, *]) <;> rfl) (fun hc => ?_) (fun hc => ?_) <;> try simp only [seval, decide_eq_true_eq, decide_eq_false_iff_not, Bool.not_eq_true', Bool.not_eq_false', Bool.not_true, Bool.not_false] at hc) | (refine wqG_split (by (simp only [seval, ev1, ev2, ev3, ev4, beq_self_eq_true, encB_def, sb, *]) <;> rfl) (fun hc => ?_) (fun hc => ?_) <;> try simp only [seval, decide_eq_true_eq, decide_eq_false_iff_not, Bool.not_eq_true', Bool.not_eq_false', Bool.not_true, Bool.not_false] at hc) | refine ACalls.inst ?_ | refine CallP.inst rfl ?_)
      refine ⟨k + 1, hlt, by simp only; omega, ?_⟩
      repeat' (first | simp only [seval, ev1, ev2, ev3, ev4, beq_self_eq_true, encB_def, sb, *] | simp (disch := omega) only [if_pos, if_neg] | refine R.seq ?_ | refine LCB.text ?_ | refine LCB.quiet rfl ?_ | refine R.calls rfl ?_ | refine R.block ?_ | refine LCB.skip ?_ | refine LCB.exit ?_ | refine LCB.ret ?_ | (refine RetOk.val hcl ?_; simp only [seval, ev1, ev2, ev3, wk, List.forall_mem_cons, List.forall_mem_map, List.forall_mem_append, List.not_mem_nil, encB_def, sb, *]) | (refine Weak.at hcl ?_; simp only [seval, ev1, ev2, ev3, wk, List.forall_mem_cons, List.forall_mem_map, List.forall_mem_append, List.not_mem_nil, encB_def, sb, *]) | (refine LCB.cond (by (simp only [seval, ev1, ev2, ev3, ev4, beq_self_eq_true, encB_def, sb, *]) <;> rfl) (fun hc => ?_) (fun hc => ?_) <;> try simp only [seval, decide_eq_true_eq, decide_eq_false_iff_not, Bool.not_eq_true', Bool.not_eq_false', Bool.not_true, Bool.not_false] at hc) | (refine wpG_split (by (simp only [seval, ev1, ev2, ev3, ev4, beq_self_eq_true, encB_def, sb, *]) <;> rfl) (fun hc => ?_) (fun hc => ?_) <;> try simp only [seval, decide_eq_true_eq, decide_eq_false_iff_not, Bool.not_eq_true', Bool.not_eq_false', Bool.not_true, Bool.not_false] at hc) | (refine wqG_split (by (simp only [seval, ev1, ev2, ev3, ev4, beq_self_eq_true, encB_def, sb, *]) <;> rfl) (fun hc => ?_) (fun hc => ?_) <;> try simp only [seval, decide_eq_true_eq, decide_eq_false_iff_not, Bool.not_eq_true', Bool.not_eq_false', Bool.not_true, Bool.not_false] at hc) | refine ACalls.inst ?_ | refine CallP.inst rfl ?_)
    · have hk' : k = T.length := by omega
      subst hk'
      have e1 : T.length - T.length = 0 := by omega
      have e3 : ¬ ((T.length : Int) < (T.length : Int)) := by omega
      have e2 : List.replicate 0 (0 : UInt8) ++ T.drop 0 = T := by simp
      repeat' (first | simp only [seval, ev1, ev2, ev3, ev4, beq_self_eq_true, encB_def, sb, *] | simp (disch := omega) only [if_pos, if_neg] | refine R.seq ?_ | refine LCB.text ?_ | refine LCB.quiet rfl ?_ | refine R.calls rfl ?_ | refine R.block ?_ | refine LCB.skip ?_ | refine LCB.exit ?_ | refine LCB.ret ?_ | (refine RetOk.val hcl ?_; simp only [seval, ev1, ev2, ev3, wk, List.forall_mem_cons, List.forall_mem_map, List.forall_mem_append, List.not_mem_nil, encB_def, sb, *]) | (refine Weak.at hcl ?_; simp only [seval, ev1, ev2, ev3, wk, List.forall_mem_cons, List.forall_mem_map, List.forall_mem_append, List.not_mem_nil, encB_def, sb, *]) | (refine LCB.cond (by (simp only [seval, ev1, ev2, ev3, ev4, beq_self_eq_true, encB_def, sb, *]) <;> rfl) (fun hc => ?_) (fun hc => ?_) <;> try simp only [seval, decide_eq_true_eq, decide_eq_false_iff_not, Bool.not_eq_true', Bool.not_eq_false', Bool.not_true, Bool.not_false] at hc) | (refine wpG_split (by (simp only [seval, ev1, ev2, ev3, ev4, beq_self_eq_true, encB_def, sb, *]) <;> rfl) (fun hc => ?_) (fun hc => ?_) <;> try simp only [seval, decide_eq_true_eq, decide_eq_false_iff_not, Bool.not_eq_true', Bool.not_eq_false', Bool.not_true, Bool.not_false] at hc) | (refine wqG_split (by (simp only [seval, ev1, ev2, ev3, ev4, beq_self_eq_true, encB_def, sb, *]) <;> rfl) (fun hc => ?_) (fun hc => ?_) <;> try simp only [seval, decide_eq_true_eq, decide_eq_false_iff_not, Bool.not_eq_true', Bool.not_eq_false', Bool.not_true, Bool.not_false] at hc) | refine ACalls.inst ?_ | refine CallP.inst rfl ?_)
end Go.Proofs.YtoiceinjademgaaDoor
