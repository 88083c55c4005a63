/-
  Words of a text.
-/
import Derived.Test.YtoiceinjademgaaDoorN7
namespace Go.Proofs.YtoiceinjademgaaDoor
open Go.RowKit
set_option linter.unusedVariables false
set_option linter.unusedSimpArgs false

def glueL (w : List UInt8) : List (List UInt8) → List (List UInt8)
  | [] => [w]
  | v :: vs => (w ++ v) :: vs
/-- A text's words. -/
def splitSp : List UInt8 → List (List UInt8)
  | [] => [[]]
  | c :: r => if c = 32 then [] :: splitSp r else glueL [c] (splitSp r)

theorem splitSp_ne : ∀ (l : List UInt8), splitSp l ≠ []
  | [] => by simp [splitSp]
  | c :: r => by
    rw [splitSp]
    split
    · simp
    · cases splitSp r <;> simp [glueL]
theorem glueL_nil {l : List UInt8} : glueL [] (splitSp l) = splitSp l := by
  cases h : splitSp l with
  | nil => exact absurd h (splitSp_ne l)
  | cons v vs => rfl
theorem glueL_glueL (w v : List UInt8) (X : List (List UInt8)) : glueL w (glueL v X) = glueL (w ++ v) X := by
  cases X <;> simp [glueL]
theorem splitSp_len : ∀ (l : List UInt8), (splitSp l).length ≤ l.length + 1
  | [] => by simp [splitSp]
  | c :: r => by
    have := splitSp_len r
    rw [splitSp]
    split
    · simp; omega
    · cases h : splitSp r with
      | nil => simp [glueL]
      | cons v vs => rw [h] at this; simp [glueL] at this ⊢; omega

theorem drop_at {s : List UInt8} {p : Nat} (h : p < s.length) : s.drop p = s.getD p 0 :: s.drop (p + 1) := by
  rw [List.drop_eq_getElem_cons h]
  simp [List.getD, h]

theorem split_sp {s w : List UInt8} {p : Nat} (h : p < s.length) (h32 : s.getD p 0 = 32) : glueL w (splitSp (s.drop p)) = w :: splitSp (s.drop (p + 1)) := by
  rw [drop_at h, splitSp, if_pos h32]
  simp [glueL]
theorem split_no {s w : List UInt8} {p : Nat} (h : p < s.length) (h32 : s.getD p 0 ≠ 32) : glueL w (splitSp (s.drop p)) = glueL (w ++ [s.getD p 0]) (splitSp (s.drop (p + 1))) := by
  rw [drop_at h, splitSp, if_neg h32, glueL_glueL]
theorem split_nos {s : List UInt8} {a : Nat} : ∀ (w p : Nat), a ≤ p → p + w ≤ s.length → (∀ q, p ≤ q → q < p + w → s.getD q 0 ≠ 32) → glueL ((s.take p).drop a) (splitSp (s.drop p)) = glueL ((s.take (p + w)).drop a) (splitSp (s.drop (p + w)))
  | 0, p, _, _, _ => rfl
  | w + 1, p, ha, hp, hq => by
    rw [split_no (by omega) (hq p (Nat.le_refl _) (by omega))]
    have e : (s.take p).drop a ++ [s.getD p 0] = (s.take (p + 1)).drop a := by
      rw [take_all (by omega), List.drop_append_of_le_length (by simp; omega)]
    rw [e, split_nos w (p + 1) (by omega) (by omega) (fun q h1 h2 => hq q (by omega) (by omega)), Nat.add_right_comm, Nat.add_assoc]

def encS (w : List UInt8) : List AV := [.str (bs w)]
theorem encS_def {w : List UInt8} : encS w = [.str (bs w)] := rfl

theorem ref03_Words_ok (s : List UInt8) (hs : s.length ≤ 1000000) : Pure Tryd.prog 43 [.str (bs s)] (.list ((splitSp s).map encS)) := by
  intro H
  refine ACalls.go joineryref03_Words.low (by simp) fun hcl => ?_
  have hl := splitSp_len s
  (refine R.seq ?_; refine LCB.text ?_; repeat' (first | simp only [seval, ev1, ev2, ev3, ev4, beq_self_eq_true, encB_def, encS_def, sb, *] | simp (disch := omega) only [if_pos, if_neg]))
  (refine R.seq ?_; refine LCB.text ?_; repeat' (first | simp only [seval, ev1, ev2, ev3, ev4, beq_self_eq_true, encB_def, encS_def, sb, *] | simp (disch := omega) only [if_pos, if_neg]))
  (refine R.seq ?_; refine LCB.text ?_; repeat' (first | simp only [seval, ev1, ev2, ev3, ev4, beq_self_eq_true, encB_def, encS_def, sb, *] | simp (disch := omega) only [if_pos, if_neg]))
  refine R.seq ?_
  (refine R.seq ?_; refine LCB.text ?_; repeat' (first | simp only [seval, ev1, ev2, ev3, ev4, beq_self_eq_true, encB_def, encS_def, sb, *] | simp (disch := omega) only [if_pos, if_neg]))
  refine R.block (R.loop (S := Nat × List (List UInt8) × List UInt8) ⟨fun x => [(0, .str (bs s)), (3, .sl 1 H.length x.2.1.length 0 x.2.1.length), (4, .str (bs x.2.2)), (5, .int .i64 (x.1 : Int))], fun x => H ++ [.vec 1 (x.2.1.map encS)],
    fun x => x.1 ≤ s.length ∧ x.2.2.length ≤ x.1 ∧ x.2.1 ++ glueL x.2.2 (splitSp (s.drop x.1)) = splitSp s, fun x => s.length - x.1⟩ (0, [], []) ⟨Nat.zero_le _, Nat.zero_le _, by simp [glueL_nil]⟩ ((Weak.growAt 3 1 (by omega) (by simp only [seval, ev1, ev2, ev3, ev4, beq_self_eq_true, encB_def, encS_def, sb, *])).trans (Weak.at hcl (by simp only [seval, ev1, ev2, ev3, wk, List.forall_mem_cons, List.forall_mem_map, List.forall_mem_append, List.not_mem_nil, encB_def, encS_def, sb, *]))) ?_)
  rintro ⟨p, out, w⟩ ⟨hp, hwl, hq⟩
  simp only at hp hwl hq ⊢
  have hol : out.length + 1 ≤ s.length + 1 := by
    have := congrArg List.length hq
    have h2 : 1 ≤ (glueL w (splitSp (s.drop p))).length := by cases splitSp (s.drop p) <;> simp [glueL]
    rw [List.length_append] at this
    omega
  replace hq := Hold.mk hq
  replace hl := Hold.mk hl
  by_cases hlt : p < s.length
  · have e1 : (p : Int) < (s.length : Int) := by omega
    have e2 : IntKind.i64.wrap ((p : Int) + 1) = ((p + 1 : Nat) : Int) := by rw [IntKind.wrap_i64]; omega
    by_cases h32 : s.getD p 0 = 32
    · have e3 : ((32 : UInt8).toNat : Int) = 32 := rfl
      have hx := Hold.mk (split_sp (w := w) hlt h32)
      repeat' (first | simp only [seval, ev1, ev2, ev3, ev4, beq_self_eq_true, encB_def, encS_def, sb, *] | simp (disch := omega) only [if_pos, if_neg] | refine R.seq ?_ | refine LCB.text ?_ | refine LCB.quiet rfl ?_ | refine R.calls rfl ?_ | refine R.block ?_ | refine LCB.skip ?_ | refine LCB.exit ?_ | refine LCB.ret ?_ | (refine RetOk.val hcl ?_; simp only [seval, ev1, ev2, ev3, wk, List.forall_mem_cons, List.forall_mem_map, List.forall_mem_append, List.not_mem_nil, encB_def, encS_def, sb, *]) | (refine Weak.at hcl ?_; simp only [seval, ev1, ev2, ev3, wk, List.forall_mem_cons, List.forall_mem_map, List.forall_mem_append, List.not_mem_nil, encB_def, encS_def, sb, *]) | (refine LCB.cond (by (simp only [seval, ev1, ev2, ev3, ev4, beq_self_eq_true, encB_def, encS_def, sb, *]) <;> rfl) (fun hc => ?_) (fun hc => ?_) <;> try simp only [seval, decide_eq_true_eq, decide_eq_false_iff_not, Bool.not_eq_true', Bool.not_eq_false', Bool.not_true, Bool.not_false] at hc) | (refine wpG_split (by (simp only [seval, ev1, ev2, ev3, ev4, beq_self_eq_true, encB_def, encS_def, sb, *]) <;> rfl) (fun hc => ?_) (fun hc => ?_) <;> try simp only [seval, decide_eq_true_eq, decide_eq_false_iff_not, Bool.not_eq_true', Bool.not_eq_false', Bool.not_true, Bool.not_false] at hc) | (refine wqG_split (by (simp only [seval, ev1, ev2, ev3, ev4, beq_self_eq_true, encB_def, encS_def, sb, *]) <;> rfl) (fun hc => ?_) (fun hc => ?_) <;> try simp only [seval, decide_eq_true_eq, decide_eq_false_iff_not, Bool.not_eq_true', Bool.not_eq_false', Bool.not_true, Bool.not_false] at hc) | refine ACalls.inst ?_ | refine CallP.inst rfl ?_)
      refine ⟨(p + 1, out ++ [w], []), ⟨hlt, Nat.zero_le _, ?_⟩, by simp only; omega, Weak.at hcl ?_⟩
      · simp only
        rw [glueL_nil, ← hq.of, hx.of]; simp
      · simp only [seval, ev1, ev2, ev3, wk, List.forall_mem_cons, List.forall_mem_map, List.forall_mem_append, List.not_mem_nil, encB_def, encS_def, sb, *]
    · have e3 : ¬ ((s.getD p 0).toNat : Int) = 32 := fun h => h32 (UInt8.toNat_inj.1 (by have : (32 : UInt8).toNat = 32 := rfl; omega))
      have hx := Hold.mk (split_no (w := w) hlt h32)
      have e4 : (s.take (p + 1)).drop p = [s.getD p 0] := by
        rw [take_all hlt, List.drop_append_of_le_length (by simp; omega)]; simp
      replace h32 := Hold.mk h32
      repeat' (first | simp only [seval, ev1, ev2, ev3, ev4, beq_self_eq_true, encB_def, encS_def, sb, *] | simp (disch := omega) only [if_pos, if_neg] | refine R.seq ?_ | refine LCB.text ?_ | refine LCB.quiet rfl ?_ | refine R.calls rfl ?_ | refine R.block ?_ | refine LCB.skip ?_ | refine LCB.exit ?_ | refine LCB.ret ?_ | (refine RetOk.val hcl ?_; simp only [seval, ev1, ev2, ev3, wk, List.forall_mem_cons, List.forall_mem_map, List.forall_mem_append, List.not_mem_nil, encB_def, encS_def, sb, *]) | (refine Weak.at hcl ?_; simp only [seval, ev1, ev2, ev3, wk, List.forall_mem_cons, List.forall_mem_map, List.forall_mem_append, List.not_mem_nil, encB_def, encS_def, sb, *]) | (refine LCB.cond (by (simp only [seval, ev1, ev2, ev3, ev4, beq_self_eq_true, encB_def, encS_def, sb, *]) <;> rfl) (fun hc => ?_) (fun hc => ?_) <;> try simp only [seval, decide_eq_true_eq, decide_eq_false_iff_not, Bool.not_eq_true', Bool.not_eq_false', Bool.not_true, Bool.not_false] at hc) | (refine wpG_split (by (simp only [seval, ev1, ev2, ev3, ev4, beq_self_eq_true, encB_def, encS_def, sb, *]) <;> rfl) (fun hc => ?_) (fun hc => ?_) <;> try simp only [seval, decide_eq_true_eq, decide_eq_false_iff_not, Bool.not_eq_true', Bool.not_eq_false', Bool.not_true, Bool.not_false] at hc) | (refine wqG_split (by (simp only [seval, ev1, ev2, ev3, ev4, beq_self_eq_true, encB_def, encS_def, sb, *]) <;> rfl) (fun hc => ?_) (fun hc => ?_) <;> try simp only [seval, decide_eq_true_eq, decide_eq_false_iff_not, Bool.not_eq_true', Bool.not_eq_false', Bool.not_true, Bool.not_false] at hc) | refine ACalls.inst ?_ | refine CallP.inst rfl ?_)
      refine ⟨(p + 1, out, w ++ [s.getD p 0]), ⟨hlt, by simp only [List.length_append, List.length_cons, List.length_nil]; omega, ?_⟩, by simp only; omega, Weak.at hcl ?_⟩
      · simp only
        rw [← hq.of, hx.of]
      · simp only [seval, ev1, ev2, ev3, wk, List.forall_mem_cons, List.forall_mem_map, List.forall_mem_append, List.not_mem_nil, encB_def, encS_def, sb, *]
  · have hp' : p = s.length := by omega
    subst hp'
    have hx : out ++ [w] = splitSp s := by
      rw [← hq.of]; simp [splitSp, glueL]
    have e3 : ¬ ((s.length : Int) < (s.length : Int)) := by omega
    rw [← hx]
    replace hx := Hold.mk hx
    repeat' (first | simp only [seval, ev1, ev2, ev3, ev4, beq_self_eq_true, encB_def, encS_def, sb, *] | simp (disch := omega) only [if_pos, if_neg] | refine R.seq ?_ | refine LCB.text ?_ | refine LCB.quiet rfl ?_ | refine R.calls rfl ?_ | refine R.block ?_ | refine LCB.skip ?_ | refine LCB.exit ?_ | refine LCB.ret ?_ | (refine RetOk.val hcl ?_; simp only [seval, ev1, ev2, ev3, wk, List.forall_mem_cons, List.forall_mem_map, List.forall_mem_append, List.not_mem_nil, encB_def, encS_def, sb, *]) | (refine Weak.at hcl ?_; simp only [seval, ev1, ev2, ev3, wk, List.forall_mem_cons, List.forall_mem_map, List.forall_mem_append, List.not_mem_nil, encB_def, encS_def, sb, *]) | (refine LCB.cond (by (simp only [seval, ev1, ev2, ev3, ev4, beq_self_eq_true, encB_def, encS_def, sb, *]) <;> rfl) (fun hc => ?_) (fun hc => ?_) <;> try simp only [seval, decide_eq_true_eq, decide_eq_false_iff_not, Bool.not_eq_true', Bool.not_eq_false', Bool.not_true, Bool.not_false] at hc) | (refine wpG_split (by (simp only [seval, ev1, ev2, ev3, ev4, beq_self_eq_true, encB_def, encS_def, sb, *]) <;> rfl) (fun hc => ?_) (fun hc => ?_) <;> try simp only [seval, decide_eq_true_eq, decide_eq_false_iff_not, Bool.not_eq_true', Bool.not_eq_false', Bool.not_true, Bool.not_false] at hc) | (refine wqG_split (by (simp only [seval, ev1, ev2, ev3, ev4, beq_self_eq_true, encB_def, encS_def, sb, *]) <;> rfl) (fun hc => ?_) (fun hc => ?_) <;> try simp only [seval, decide_eq_true_eq, decide_eq_false_iff_not, Bool.not_eq_true', Bool.not_eq_false', Bool.not_true, Bool.not_false] at hc) | refine ACalls.inst ?_ | refine CallP.inst rfl ?_)
end Go.Proofs.YtoiceinjademgaaDoor
