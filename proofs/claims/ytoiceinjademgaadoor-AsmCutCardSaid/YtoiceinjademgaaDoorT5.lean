/-
  AsmCut, of every function: its text without its last byte is none's.
-/
import Derived.Test.YtoiceinjademgaaDoorE7
import Derived.Test.YtoiceinjademgaaDoorGB
namespace Go.Proofs.YtoiceinjademgaaDoor
open Go.ChangeShapes Go.WideShapes Go.ChangeAt Go.RowKit
set_option linter.unusedVariables false
set_option linter.unusedSimpArgs false
/-- Where the line begins in which place i lies. -/
def lineB (s : List UInt8) : Nat → Nat
  | 0 => 0
  | i + 1 => if s.getD i 0 = 10 then i + 1 else lineB s i
theorem lineB_le (s : List UInt8) : ∀ i, lineB s i ≤ i
  | 0 => Nat.le_refl _
  | i + 1 => by
    have := lineB_le s i
    rw [lineB]
    split <;> omega
theorem lineB_at {s : List UInt8} {a : Nat} (ha : a = 0 ∨ s.getD (a - 1) 0 = 10) : ∀ n, a ≤ n → (∀ i, a ≤ i → i < n → s.getD i 0 ≠ 10) → lineB s n = a
  | 0, h, _ => by
    have : a = 0 := by omega
    subst this
    rfl
  | n + 1, h, hn => by
    rw [lineB]
    by_cases e : a = n + 1
    · subst e
      rcases ha with h0 | h0
      · omega
      · rw [if_pos (by simpa using h0)]
    · rw [if_neg (hn n (by omega) (by omega))]
      exact lineB_at ha n (by omega) fun i h1 h2 => hn i h1 (by omega)
theorem fn_good {f : List Ins} (hf : ∀ x ∈ f, Ok64 x) (h : fnOk f = true) : ∀ x ∈ f, chk x 200 = 0 ∧ Ok64 x := by
  obtain ⟨k1, k2, k3, _⟩ := fnOk_iff.1 h
  exact fun x hx => ⟨chk_more (by omega) (k3 x hx), hf x hx⟩
theorem fnText_len : ∀ f : List Ins, (fnText f).length ≤ 81 * f.length
  | [] => by simp [fnText]
  | x :: f => by
    have h1 := fnText_len f
    have h2 := insText_len x
    have e : fnText (x :: f) = insText x ++ [10] ++ fnText f := rfl
    rw [e]
    simp only [List.length_append, List.length_cons, List.length_nil]
    omega
theorem words_pos : ∀ p ∈ shapeTbl, 0 < p.1.data.toList.length := by decide
theorem wordL_pos {op : Int} (h : opOk op = true) : 0 < (wordL op).length := by
  rcases op_cases h with rfl | rfl | rfl | rfl | rfl | rfl | rfl | rfl | rfl | rfl | rfl | rfl | rfl | rfl | rfl | rfl | rfl | rfl <;> decide
theorem fnText_end : ∀ f : List Ins, f = [] ∨ (fnText f).getD ((fnText f).length - 1) 0 = 10
  | [] => .inl rfl
  | x :: f => by
    right
    have e : fnText (x :: f) = (insText x ++ [10]) ++ fnText f := rfl
    rcases fnText_end f with h | h
    · subst h
      rw [e]
      simp [fnText, List.getD]
    · by_cases h0 : fnText f = []
      · rw [e, h0]
        simp [List.getD]
      · have hp : 0 < (fnText f).length := List.length_pos_iff.2 h0
        rw [e]
        rw [List.getD_eq_getElem?_getD] at h ⊢
        rw [List.getElem?_append_right (by simp; omega)]
        rw [← h]
        congr 2
        simp
        omega
theorem cut_law {f : List Ins} (hf : ∀ x ∈ f, Ok64 x) (h : fnOk f = true) : 0 < (fnText f).length ∧ fnParse ((fnText f).take ((fnText f).length - 1)) = ([], ((lineB (fnText f) ((fnText f).length - 1) : Nat) : Int), 2) := by
  have hg := fn_good hf h
  obtain ⟨k1, k2, _, _⟩ := fnOk_iff.1 h
  have hlen := fnText_len f
  rcases List.eq_nil_or_concat f with rfl | ⟨g, x, rfl⟩
  · simp at k2
  · have e : fnText (g.concat x) = fnText g ++ insText x ++ [10] := by simp [fnText, lineT]
    have hx := hg x (by simp)
    have hgg : ∀ y ∈ g, chk y 200 = 0 ∧ Ok64 y := fun y hy => hg y (by simp [hy])
    have hop := (chk_good hx.1).1
    have hpos : 0 < (insText x).length := by
      have := wordL_pos hop
      unfold insText
      rw [List.length_append]
      omega
    rw [e] at hlen ⊢
    have el : (fnText g ++ insText x ++ [10]).length - 1 = (fnText g ++ insText x).length := by simp
    rw [el, List.take_left' rfl]
    refine ⟨by simp; omega, ?_⟩
    have hline : lineB (fnText g ++ insText x ++ [10]) (fnText g ++ insText x).length = (fnText g).length := by
      refine lineB_at ?_ _ (by simp) ?_
      · rcases fnText_end g with h1 | h1
        · subst h1; left; rfl
        · by_cases h0 : fnText g = []
          · left; rw [h0]; rfl
          · right
            have hp : 0 < (fnText g).length := List.length_pos_iff.2 h0
            rw [List.getD_eq_getElem?_getD] at h1 ⊢
            rw [List.append_assoc, List.getElem?_append_left (by omega)]
            exact h1
      · intro i h1 h2
        rw [List.length_append] at h2
        rw [List.getD_eq_getElem?_getD, List.append_assoc, List.getElem?_append_right h1, List.getElem?_append_left (by omega)]
        have hi : i - (fnText g).length < (insText x).length := by omega
        rw [List.getElem?_eq_getElem hi, Option.getD_some]
        exact insText_no10 x _ (List.getElem_mem hi)
    rw [hline]
    unfold fnParse
    simp only [List.length_append, List.length_cons, List.length_nil, List.length_concat] at hlen k1
    rw [if_neg (by simp only [List.length_append]; omega)]
    rw [scan_text g 0 (insText x) [] [] hgg]
    have := scan_chars (fr := 0 + (fnText g).length) (f := [] ++ g) (bg := [] ++ beginsOf 0 g) (insText x) [] [] (insText_no10 x)
    rw [List.append_nil] at this
    rw [this, List.nil_append, scan, if_neg (by omega)]
    simp
theorem AsmCut_ok (f : List Ins) (hf : ∀ x ∈ f, Ok64 x) : Pure Tryd.prog 8 [encFn f] (.bool true) := by
  intro H
  refine ACalls.go joinerylaw04_AsmCut.low (by simp) fun hcl => ?_
  have h1 := asm_Print_ok f hf
  by_cases hl : (300 : Int) < (f.length : Int)
  · unfold encFn at *
    replace h1 := Hold.mk h1
    repeat' (first | simp only [seval, ev1, ev2, ev3, ev4, beq_self_eq_true, encB_def, encN_def, sb, insA, ins_dec, ins_eta, List.map_nil, List.length_nil, *] | simp (disch := omega) only [if_pos, if_neg] | refine R.seq ?_ | refine LCB.text ?_ | refine LCB.quiet rfl ?_ | refine R.calls rfl ?_ | refine R.block ?_ | refine LCB.skip ?_ | refine LCB.exit ?_ | refine LCB.ret ?_ | (refine RetOk.val hcl ?_; simp only [seval, ev1, ev2, ev3, wk, List.forall_mem_cons, List.forall_mem_map, List.forall_mem_append, List.not_mem_nil, encB_def, encN_def, sb, insA, ins_dec, ins_eta, List.map_nil, List.length_nil, *]) | (refine Weak.at hcl ?_; simp only [seval, ev1, ev2, ev3, wk, List.forall_mem_cons, List.forall_mem_map, List.forall_mem_append, List.not_mem_nil, encB_def, encN_def, sb, insA, ins_dec, ins_eta, List.map_nil, List.length_nil, *]) | (refine LCB.cond (by (simp only [seval, ev1, ev2, ev3, ev4, beq_self_eq_true, encB_def, encN_def, sb, insA, ins_dec, ins_eta, List.map_nil, List.length_nil, *]) <;> rfl) (fun hc => ?_) (fun hc => ?_) <;> try simp only [seval, decide_eq_true_eq, decide_eq_false_iff_not, Bool.not_eq_true', Bool.not_eq_false', Bool.not_true, Bool.not_false] at hc) | (refine wpG_split (by (simp only [seval, ev1, ev2, ev3, ev4, beq_self_eq_true, encB_def, encN_def, sb, insA, ins_dec, ins_eta, List.map_nil, List.length_nil, *]) <;> rfl) (fun hc => ?_) (fun hc => ?_) <;> try simp only [seval, decide_eq_true_eq, decide_eq_false_iff_not, Bool.not_eq_true', Bool.not_eq_false', Bool.not_true, Bool.not_false] at hc) | (refine wqG_split (by (simp only [seval, ev1, ev2, ev3, ev4, beq_self_eq_true, encB_def, encN_def, sb, insA, ins_dec, ins_eta, List.map_nil, List.length_nil, *]) <;> rfl) (fun hc => ?_) (fun hc => ?_) <;> try simp only [seval, decide_eq_true_eq, decide_eq_false_iff_not, Bool.not_eq_true', Bool.not_eq_false', Bool.not_true, Bool.not_false] at hc) | refine ACalls.inst ?_ | refine CallP.inst rfl ?_)
  have hlen := fnText_len f
  unfold fnP at h1
  by_cases k1 : fnOk f = true
  · rw [if_pos k1] at h1
    obtain ⟨c1, c2⟩ := cut_law hf k1
    have h2 := asm_Parse_ok ((fnText f).take ((fnText f).length - 1)) (by rw [maxLen_def]; simp; omega)
    rw [c2] at h2
    unfold fnR encFn at *
    simp only at h2
    generalize fnText f = T at *
    clear c2 k1
    have hT : T.length ≤ 30000 := by omega
    clear hlen hf
    have e0 : ¬ (T.length : Int) = 0 := by omega
    have lb0 : lineB T 0 = 0 := rfl
    have e9 : IntKind.i64.wrap ((T.length : Int) - 1) = ((T.length - 1 : Nat) : Int) := by rw [IntKind.wrap_i64]; omega
    replace h1 := Hold.mk h1
    replace h2 := Hold.mk h2
    repeat' (first | simp only [seval, ev1, ev2, ev3, ev4, beq_self_eq_true, encB_def, encN_def, sb, insA, ins_dec, ins_eta, List.map_nil, List.length_nil, *] | simp (disch := omega) only [if_pos, if_neg] | refine R.seq ?_ | refine LCB.text ?_ | refine LCB.quiet rfl ?_ | refine R.calls rfl ?_ | refine R.block ?_ | refine LCB.skip ?_ | refine LCB.exit ?_ | refine LCB.ret ?_ | (refine RetOk.val hcl ?_; simp only [seval, ev1, ev2, ev3, wk, List.forall_mem_cons, List.forall_mem_map, List.forall_mem_append, List.not_mem_nil, encB_def, encN_def, sb, insA, ins_dec, ins_eta, List.map_nil, List.length_nil, *]) | (refine Weak.at hcl ?_; simp only [seval, ev1, ev2, ev3, wk, List.forall_mem_cons, List.forall_mem_map, List.forall_mem_append, List.not_mem_nil, encB_def, encN_def, sb, insA, ins_dec, ins_eta, List.map_nil, List.length_nil, *]) | (refine LCB.cond (by (simp only [seval, ev1, ev2, ev3, ev4, beq_self_eq_true, encB_def, encN_def, sb, insA, ins_dec, ins_eta, List.map_nil, List.length_nil, *]) <;> rfl) (fun hc => ?_) (fun hc => ?_) <;> try simp only [seval, decide_eq_true_eq, decide_eq_false_iff_not, Bool.not_eq_true', Bool.not_eq_false', Bool.not_true, Bool.not_false] at hc) | (refine wpG_split (by (simp only [seval, ev1, ev2, ev3, ev4, beq_self_eq_true, encB_def, encN_def, sb, insA, ins_dec, ins_eta, List.map_nil, List.length_nil, *]) <;> rfl) (fun hc => ?_) (fun hc => ?_) <;> try simp only [seval, decide_eq_true_eq, decide_eq_false_iff_not, Bool.not_eq_true', Bool.not_eq_false', Bool.not_true, Bool.not_false] at hc) | (refine wqG_split (by (simp only [seval, ev1, ev2, ev3, ev4, beq_self_eq_true, encB_def, encN_def, sb, insA, ins_dec, ins_eta, List.map_nil, List.length_nil, *]) <;> rfl) (fun hc => ?_) (fun hc => ?_) <;> try simp only [seval, decide_eq_true_eq, decide_eq_false_iff_not, Bool.not_eq_true', Bool.not_eq_false', Bool.not_true, Bool.not_false] at hc) | refine ACalls.inst ?_ | refine CallP.inst rfl ?_)
    first | refine ACalls.pure (h1.of) ?_ | refine CallP.pure (h1.of) rfl ?_
    repeat' (first | simp only [seval, ev1, ev2, ev3, ev4, beq_self_eq_true, encB_def, encN_def, sb, insA, ins_dec, ins_eta, List.map_nil, List.length_nil, *] | simp (disch := omega) only [if_pos, if_neg] | refine R.seq ?_ | refine LCB.text ?_ | refine LCB.quiet rfl ?_ | refine R.calls rfl ?_ | refine R.block ?_ | refine LCB.skip ?_ | refine LCB.exit ?_ | refine LCB.ret ?_ | (refine RetOk.val hcl ?_; simp only [seval, ev1, ev2, ev3, wk, List.forall_mem_cons, List.forall_mem_map, List.forall_mem_append, List.not_mem_nil, encB_def, encN_def, sb, insA, ins_dec, ins_eta, List.map_nil, List.length_nil, *]) | (refine Weak.at hcl ?_; simp only [seval, ev1, ev2, ev3, wk, List.forall_mem_cons, List.forall_mem_map, List.forall_mem_append, List.not_mem_nil, encB_def, encN_def, sb, insA, ins_dec, ins_eta, List.map_nil, List.length_nil, *]) | (refine LCB.cond (by (simp only [seval, ev1, ev2, ev3, ev4, beq_self_eq_true, encB_def, encN_def, sb, insA, ins_dec, ins_eta, List.map_nil, List.length_nil, *]) <;> rfl) (fun hc => ?_) (fun hc => ?_) <;> try simp only [seval, decide_eq_true_eq, decide_eq_false_iff_not, Bool.not_eq_true', Bool.not_eq_false', Bool.not_true, Bool.not_false] at hc) | (refine wpG_split (by (simp only [seval, ev1, ev2, ev3, ev4, beq_self_eq_true, encB_def, encN_def, sb, insA, ins_dec, ins_eta, List.map_nil, List.length_nil, *]) <;> rfl) (fun hc => ?_) (fun hc => ?_) <;> try simp only [seval, decide_eq_true_eq, decide_eq_false_iff_not, Bool.not_eq_true', Bool.not_eq_false', Bool.not_true, Bool.not_false] at hc) | (refine wqG_split (by (simp only [seval, ev1, ev2, ev3, ev4, beq_self_eq_true, encB_def, encN_def, sb, insA, ins_dec, ins_eta, List.map_nil, List.length_nil, *]) <;> rfl) (fun hc => ?_) (fun hc => ?_) <;> try simp only [seval, decide_eq_true_eq, decide_eq_false_iff_not, Bool.not_eq_true', Bool.not_eq_false', Bool.not_true, Bool.not_false] at hc) | refine ACalls.inst ?_ | refine CallP.inst rfl ?_)
    refine R.loop (S := Nat) ⟨fun i => [(3, .str (bs T)), (5, .int .i64 (lineB T i : Int)), (6, .int .i64 (i : Int))], fun i => H ++ [], fun i => i ≤ T.length - 1, fun i => T.length - i⟩ 0 (Nat.zero_le _) (Weak.at hcl ?_) ?_
    · simp only [seval, ev1, ev2, ev3, wk, List.forall_mem_cons, List.forall_mem_map, List.forall_mem_append, List.not_mem_nil, encB_def, encN_def, sb, insA, ins_dec, ins_eta, List.map_nil, List.length_nil, *]
    intro i hi
    simp only at hi ⊢
    have e4 : IntKind.i64.wrap ((i : Int) + 1) = ((i + 1 : Nat) : Int) := by rw [IntKind.wrap_i64]; omega
    by_cases hlt : i + 1 < T.length
    · have e5 : ((i + 1 : Nat) : Int) < (T.length : Int) := by omega
      have e6 : i < T.length := by omega
      by_cases hc10 : T.getD i 0 = 10
      · have hb : lineB T (i + 1) = i + 1 := by rw [lineB, if_pos hc10]
        have e7 : ((T.getD i 0).toNat : Int) = 10 := by rw [hc10]; rfl
        replace hc10 := Hold.mk hc10
        repeat' (first | simp only [seval, ev1, ev2, ev3, ev4, beq_self_eq_true, encB_def, encN_def, sb, insA, ins_dec, ins_eta, List.map_nil, List.length_nil, *] | simp (disch := omega) only [if_pos, if_neg] | refine R.seq ?_ | refine LCB.text ?_ | refine LCB.quiet rfl ?_ | refine R.calls rfl ?_ | refine R.block ?_ | refine LCB.skip ?_ | refine LCB.exit ?_ | refine LCB.ret ?_ | (refine RetOk.val hcl ?_; simp only [seval, ev1, ev2, ev3, wk, List.forall_mem_cons, List.forall_mem_map, List.forall_mem_append, List.not_mem_nil, encB_def, encN_def, sb, insA, ins_dec, ins_eta, List.map_nil, List.length_nil, *]) | (refine Weak.at hcl ?_; simp only [seval, ev1, ev2, ev3, wk, List.forall_mem_cons, List.forall_mem_map, List.forall_mem_append, List.not_mem_nil, encB_def, encN_def, sb, insA, ins_dec, ins_eta, List.map_nil, List.length_nil, *]) | (refine LCB.cond (by (simp only [seval, ev1, ev2, ev3, ev4, beq_self_eq_true, encB_def, encN_def, sb, insA, ins_dec, ins_eta, List.map_nil, List.length_nil, *]) <;> rfl) (fun hc => ?_) (fun hc => ?_) <;> try simp only [seval, decide_eq_true_eq, decide_eq_false_iff_not, Bool.not_eq_true', Bool.not_eq_false', Bool.not_true, Bool.not_false] at hc) | (refine wpG_split (by (simp only [seval, ev1, ev2, ev3, ev4, beq_self_eq_true, encB_def, encN_def, sb, insA, ins_dec, ins_eta, List.map_nil, List.length_nil, *]) <;> rfl) (fun hc => ?_) (fun hc => ?_) <;> try simp only [seval, decide_eq_true_eq, decide_eq_false_iff_not, Bool.not_eq_true', Bool.not_eq_false', Bool.not_true, Bool.not_false] at hc) | (refine wqG_split (by (simp only [seval, ev1, ev2, ev3, ev4, beq_self_eq_true, encB_def, encN_def, sb, insA, ins_dec, ins_eta, List.map_nil, List.length_nil, *]) <;> rfl) (fun hc => ?_) (fun hc => ?_) <;> try simp only [seval, decide_eq_true_eq, decide_eq_false_iff_not, Bool.not_eq_true', Bool.not_eq_false', Bool.not_true, Bool.not_false] at hc) | refine ACalls.inst ?_ | refine CallP.inst rfl ?_)
        refine ⟨i + 1, by simp only; omega, by simp only; omega, Weak.at hcl ?_⟩
        simp only [seval, ev1, ev2, ev3, wk, List.forall_mem_cons, List.forall_mem_map, List.forall_mem_append, List.not_mem_nil, encB_def, encN_def, sb, insA, ins_dec, ins_eta, List.map_nil, List.length_nil, *]
      · have hb : lineB T (i + 1) = lineB T i := by rw [lineB, if_neg hc10]
        have e7 : ¬ ((T.getD i 0).toNat : Int) = 10 := fun e => hc10 (UInt8.toNat_inj.1 (by have : (10 : UInt8).toNat = 10 := rfl; omega))
        replace hc10 := Hold.mk hc10
        repeat' (first | simp only [seval, ev1, ev2, ev3, ev4, beq_self_eq_true, encB_def, encN_def, sb, insA, ins_dec, ins_eta, List.map_nil, List.length_nil, *] | simp (disch := omega) only [if_pos, if_neg] | refine R.seq ?_ | refine LCB.text ?_ | refine LCB.quiet rfl ?_ | refine R.calls rfl ?_ | refine R.block ?_ | refine LCB.skip ?_ | refine LCB.exit ?_ | refine LCB.ret ?_ | (refine RetOk.val hcl ?_; simp only [seval, ev1, ev2, ev3, wk, List.forall_mem_cons, List.forall_mem_map, List.forall_mem_append, List.not_mem_nil, encB_def, encN_def, sb, insA, ins_dec, ins_eta, List.map_nil, List.length_nil, *]) | (refine Weak.at hcl ?_; simp only [seval, ev1, ev2, ev3, wk, List.forall_mem_cons, List.forall_mem_map, List.forall_mem_append, List.not_mem_nil, encB_def, encN_def, sb, insA, ins_dec, ins_eta, List.map_nil, List.length_nil, *]) | (refine LCB.cond (by (simp only [seval, ev1, ev2, ev3, ev4, beq_self_eq_true, encB_def, encN_def, sb, insA, ins_dec, ins_eta, List.map_nil, List.length_nil, *]) <;> rfl) (fun hc => ?_) (fun hc => ?_) <;> try simp only [seval, decide_eq_true_eq, decide_eq_false_iff_not, Bool.not_eq_true', Bool.not_eq_false', Bool.not_true, Bool.not_false] at hc) | (refine wpG_split (by (simp only [seval, ev1, ev2, ev3, ev4, beq_self_eq_true, encB_def, encN_def, sb, insA, ins_dec, ins_eta, List.map_nil, List.length_nil, *]) <;> rfl) (fun hc => ?_) (fun hc => ?_) <;> try simp only [seval, decide_eq_true_eq, decide_eq_false_iff_not, Bool.not_eq_true', Bool.not_eq_false', Bool.not_true, Bool.not_false] at hc) | (refine wqG_split (by (simp only [seval, ev1, ev2, ev3, ev4, beq_self_eq_true, encB_def, encN_def, sb, insA, ins_dec, ins_eta, List.map_nil, List.length_nil, *]) <;> rfl) (fun hc => ?_) (fun hc => ?_) <;> try simp only [seval, decide_eq_true_eq, decide_eq_false_iff_not, Bool.not_eq_true', Bool.not_eq_false', Bool.not_true, Bool.not_false] at hc) | refine ACalls.inst ?_ | refine CallP.inst rfl ?_)
        refine ⟨i + 1, by simp only; omega, by simp only; omega, Weak.at hcl ?_⟩
        simp only [seval, ev1, ev2, ev3, wk, List.forall_mem_cons, List.forall_mem_map, List.forall_mem_append, List.not_mem_nil, encB_def, encN_def, sb, insA, ins_dec, ins_eta, List.map_nil, List.length_nil, *]
    · have e5 : ¬ ((i + 1 : Nat) : Int) < (T.length : Int) := by omega
      have hie : i = T.length - 1 := by omega
      subst hie
      have l1 : (T.length - 1 : Nat) ≤ T.length := by omega
      have l2 : ((T.length - 1 : Nat) : Int) ≤ (T.length : Int) := by omega
      repeat' (first | simp only [seval, ev1, ev2, ev3, ev4, beq_self_eq_true, encB_def, encN_def, sb, insA, ins_dec, ins_eta, List.map_nil, List.length_nil, *] | simp (disch := omega) only [if_pos, if_neg] | refine R.seq ?_ | refine LCB.text ?_ | refine LCB.quiet rfl ?_ | refine R.calls rfl ?_ | refine R.block ?_ | refine LCB.skip ?_ | refine LCB.exit ?_ | refine LCB.ret ?_ | (refine RetOk.val hcl ?_; simp only [seval, ev1, ev2, ev3, wk, List.forall_mem_cons, List.forall_mem_map, List.forall_mem_append, List.not_mem_nil, encB_def, encN_def, sb, insA, ins_dec, ins_eta, List.map_nil, List.length_nil, *]) | (refine Weak.at hcl ?_; simp only [seval, ev1, ev2, ev3, wk, List.forall_mem_cons, List.forall_mem_map, List.forall_mem_append, List.not_mem_nil, encB_def, encN_def, sb, insA, ins_dec, ins_eta, List.map_nil, List.length_nil, *]) | (refine LCB.cond (by (simp only [seval, ev1, ev2, ev3, ev4, beq_self_eq_true, encB_def, encN_def, sb, insA, ins_dec, ins_eta, List.map_nil, List.length_nil, *]) <;> rfl) (fun hc => ?_) (fun hc => ?_) <;> try simp only [seval, decide_eq_true_eq, decide_eq_false_iff_not, Bool.not_eq_true', Bool.not_eq_false', Bool.not_true, Bool.not_false] at hc) | (refine wpG_split (by (simp only [seval, ev1, ev2, ev3, ev4, beq_self_eq_true, encB_def, encN_def, sb, insA, ins_dec, ins_eta, List.map_nil, List.length_nil, *]) <;> rfl) (fun hc => ?_) (fun hc => ?_) <;> try simp only [seval, decide_eq_true_eq, decide_eq_false_iff_not, Bool.not_eq_true', Bool.not_eq_false', Bool.not_true, Bool.not_false] at hc) | (refine wqG_split (by (simp only [seval, ev1, ev2, ev3, ev4, beq_self_eq_true, encB_def, encN_def, sb, insA, ins_dec, ins_eta, List.map_nil, List.length_nil, *]) <;> rfl) (fun hc => ?_) (fun hc => ?_) <;> try simp only [seval, decide_eq_true_eq, decide_eq_false_iff_not, Bool.not_eq_true', Bool.not_eq_false', Bool.not_true, Bool.not_false] at hc) | refine ACalls.inst ?_ | refine CallP.inst rfl ?_)
      first | refine ACalls.pure (h2.of) ?_ | refine CallP.pure (h2.of) rfl ?_
      repeat' (first | simp only [seval, ev1, ev2, ev3, ev4, beq_self_eq_true, encB_def, encN_def, sb, insA, ins_dec, ins_eta, List.map_nil, List.length_nil, *] | simp (disch := omega) only [if_pos, if_neg] | refine R.seq ?_ | refine LCB.text ?_ | refine LCB.quiet rfl ?_ | refine R.calls rfl ?_ | refine R.block ?_ | refine LCB.skip ?_ | refine LCB.exit ?_ | refine LCB.ret ?_ | (refine RetOk.val hcl ?_; simp only [seval, ev1, ev2, ev3, wk, List.forall_mem_cons, List.forall_mem_map, List.forall_mem_append, List.not_mem_nil, encB_def, encN_def, sb, insA, ins_dec, ins_eta, List.map_nil, List.length_nil, *]) | (refine Weak.at hcl ?_; simp only [seval, ev1, ev2, ev3, wk, List.forall_mem_cons, List.forall_mem_map, List.forall_mem_append, List.not_mem_nil, encB_def, encN_def, sb, insA, ins_dec, ins_eta, List.map_nil, List.length_nil, *]) | (refine LCB.cond (by (simp only [seval, ev1, ev2, ev3, ev4, beq_self_eq_true, encB_def, encN_def, sb, insA, ins_dec, ins_eta, List.map_nil, List.length_nil, *]) <;> rfl) (fun hc => ?_) (fun hc => ?_) <;> try simp only [seval, decide_eq_true_eq, decide_eq_false_iff_not, Bool.not_eq_true', Bool.not_eq_false', Bool.not_true, Bool.not_false] at hc) | (refine wpG_split (by (simp only [seval, ev1, ev2, ev3, ev4, beq_self_eq_true, encB_def, encN_def, sb, insA, ins_dec, ins_eta, List.map_nil, List.length_nil, *]) <;> rfl) (fun hc => ?_) (fun hc => ?_) <;> try simp only [seval, decide_eq_true_eq, decide_eq_false_iff_not, Bool.not_eq_true', Bool.not_eq_false', Bool.not_true, Bool.not_false] at hc) | (refine wqG_split (by (simp only [seval, ev1, ev2, ev3, ev4, beq_self_eq_true, encB_def, encN_def, sb, insA, ins_dec, ins_eta, List.map_nil, List.length_nil, *]) <;> rfl) (fun hc => ?_) (fun hc => ?_) <;> try simp only [seval, decide_eq_true_eq, decide_eq_false_iff_not, Bool.not_eq_true', Bool.not_eq_false', Bool.not_true, Bool.not_false] at hc) | refine ACalls.inst ?_ | refine CallP.inst rfl ?_)
  · rw [if_neg k1] at h1
    unfold encFn at *
    replace h1 := Hold.mk h1
    repeat' (first | simp only [seval, ev1, ev2, ev3, ev4, beq_self_eq_true, encB_def, encN_def, sb, insA, ins_dec, ins_eta, List.map_nil, List.length_nil, *] | simp (disch := omega) only [if_pos, if_neg] | refine R.seq ?_ | refine LCB.text ?_ | refine LCB.quiet rfl ?_ | refine R.calls rfl ?_ | refine R.block ?_ | refine LCB.skip ?_ | refine LCB.exit ?_ | refine LCB.ret ?_ | (refine RetOk.val hcl ?_; simp only [seval, ev1, ev2, ev3, wk, List.forall_mem_cons, List.forall_mem_map, List.forall_mem_append, List.not_mem_nil, encB_def, encN_def, sb, insA, ins_dec, ins_eta, List.map_nil, List.length_nil, *]) | (refine Weak.at hcl ?_; simp only [seval, ev1, ev2, ev3, wk, List.forall_mem_cons, List.forall_mem_map, List.forall_mem_append, List.not_mem_nil, encB_def, encN_def, sb, insA, ins_dec, ins_eta, List.map_nil, List.length_nil, *]) | (refine LCB.cond (by (simp only [seval, ev1, ev2, ev3, ev4, beq_self_eq_true, encB_def, encN_def, sb, insA, ins_dec, ins_eta, List.map_nil, List.length_nil, *]) <;> rfl) (fun hc => ?_) (fun hc => ?_) <;> try simp only [seval, decide_eq_true_eq, decide_eq_false_iff_not, Bool.not_eq_true', Bool.not_eq_false', Bool.not_true, Bool.not_false] at hc) | (refine wpG_split (by (simp only [seval, ev1, ev2, ev3, ev4, beq_self_eq_true, encB_def, encN_def, sb, insA, ins_dec, ins_eta, List.map_nil, List.length_nil, *]) <;> rfl) (fun hc => ?_) (fun hc => ?_) <;> try simp only [seval, decide_eq_true_eq, decide_eq_false_iff_not, Bool.not_eq_true', Bool.not_eq_false', Bool.not_true, Bool.not_false] at hc) | (refine wqG_split (by (simp only [seval, ev1, ev2, ev3, ev4, beq_self_eq_true, encB_def, encN_def, sb, insA, ins_dec, ins_eta, List.map_nil, List.length_nil, *]) <;> rfl) (fun hc => ?_) (fun hc => ?_) <;> try simp only [seval, decide_eq_true_eq, decide_eq_false_iff_not, Bool.not_eq_true', Bool.not_eq_false', Bool.not_true, Bool.not_false] at hc) | refine ACalls.inst ?_ | refine CallP.inst rfl ?_)
    first | refine ACalls.pure (h1.of) ?_ | refine CallP.pure (h1.of) rfl ?_
    repeat' (first | simp only [seval, ev1, ev2, ev3, ev4, beq_self_eq_true, encB_def, encN_def, sb, insA, ins_dec, ins_eta, List.map_nil, List.length_nil, *] | simp (disch := omega) only [if_pos, if_neg] | refine R.seq ?_ | refine LCB.text ?_ | refine LCB.quiet rfl ?_ | refine R.calls rfl ?_ | refine R.block ?_ | refine LCB.skip ?_ | refine LCB.exit ?_ | refine LCB.ret ?_ | (refine RetOk.val hcl ?_; simp only [seval, ev1, ev2, ev3, wk, List.forall_mem_cons, List.forall_mem_map, List.forall_mem_append, List.not_mem_nil, encB_def, encN_def, sb, insA, ins_dec, ins_eta, List.map_nil, List.length_nil, *]) | (refine Weak.at hcl ?_; simp only [seval, ev1, ev2, ev3, wk, List.forall_mem_cons, List.forall_mem_map, List.forall_mem_append, List.not_mem_nil, encB_def, encN_def, sb, insA, ins_dec, ins_eta, List.map_nil, List.length_nil, *]) | (refine LCB.cond (by (simp only [seval, ev1, ev2, ev3, ev4, beq_self_eq_true, encB_def, encN_def, sb, insA, ins_dec, ins_eta, List.map_nil, List.length_nil, *]) <;> rfl) (fun hc => ?_) (fun hc => ?_) <;> try simp only [seval, decide_eq_true_eq, decide_eq_false_iff_not, Bool.not_eq_true', Bool.not_eq_false', Bool.not_true, Bool.not_false] at hc) | (refine wpG_split (by (simp only [seval, ev1, ev2, ev3, ev4, beq_self_eq_true, encB_def, encN_def, sb, insA, ins_dec, ins_eta, List.map_nil, List.length_nil, *]) <;> rfl) (fun hc => ?_) (fun hc => ?_) <;> try simp only [seval, decide_eq_true_eq, decide_eq_false_iff_not, Bool.not_eq_true', Bool.not_eq_false', Bool.not_true, Bool.not_false] at hc) | (refine wqG_split (by (simp only [seval, ev1, ev2, ev3, ev4, beq_self_eq_true, encB_def, encN_def, sb, insA, ins_dec, ins_eta, List.map_nil, List.length_nil, *]) <;> rfl) (fun hc => ?_) (fun hc => ?_) <;> try simp only [seval, decide_eq_true_eq, decide_eq_false_iff_not, Bool.not_eq_true', Bool.not_eq_false', Bool.not_true, Bool.not_false] at hc) | refine ACalls.inst ?_ | refine CallP.inst rfl ?_)

theorem asmCut_law : ∀ av, FitAs [.one (.list insSh)] av → ACalls Tryd.prog 8 av [] fun r _ => r = .bool true := by
  rintro _ ⟨a, _, rfl, h1, rfl⟩
  obtain ⟨f, rfl, hf, _⟩ := h1.inss
  exact (AsmCut_ok f hf).law

set_option maxRecDepth 100000 in
theorem asmCut_lifted (os : Os) (started : os.Started) (H : Type) (enc : TypeId × Value → H) :
    ReturnsInHanded {} Tryd.checked os 8 .any (fun w args => (Rows.asmCutSpec.pre enc Tryd.prog Tryd.f8 [] false w args ∧ laidMetH Tryd.prog laidL w) ∧ sizedMet enc Tryd.prog Tryd.f8 (OpenSpec.ofChange Rows.asmCutSpec) false w args)
      (Rows.asmCutSpec.post enc Tryd.prog Tryd.f8 false true false false) := by
  refine returnsInHanded_of_change_and (C := Tryd.checked) (X := fun w _ => laidMetH Tryd.prog laidL w) (fun _ _ _ hh h => h.of_heap hh) own_ok started (by kernel_rfl) Tryd.func8
    (ChangeSpec.witness_shaped (enc := enc) (C := Tryd.checked) (os := os) (X := fun w _ => laidMetH Tryd.prog laidL w) false (World.doorLaid Tryd.prog 400 os) #[.slice none 0 0] 8 rfl (World.shaped_of_RefB (by kernel_rfl) (by kernel_rfl)) (by kernel_rfl) (by kernel_rfl) (by kernel_rfl) (door_met os _)) ?_
  intro W base args ds gs before hval0 hW _ _ hL _
  exact law_contract (base := base) laid_ok rfl (by kernel_rfl) (by kernel_rfl) (by kernel_rfl)
    (fun ds hl => by
      match ds, hl with
      | [d1], _ => rfl) (glob_of_laid hL) asmCut_law hval0 hW

set_option maxRecDepth 100000 in
theorem asmCut_row : Rows.AsmCutSaid :=
  OpenClaim.holds_of_wide 8 Tryd.f8 rfl rfl rfl rfl rfl rfl rfl ⟨rfl, rfl, rfl, rfl, rfl⟩ rfl rfl rfl rfl rfl (by kernel_rfl) Tryd.func8 (by kernel_rfl)
    (of_decide_eq_true (by kernel_rfl)) (by unfold Func.isWrapper; first | (rw [if_pos (by decide +kernel)]; kernel_rfl) | (rw [if_neg (by decide +kernel)]; exact ⟨rfl, rfl⟩))
    (fun os started H enc _ => asmCut_lifted os started H enc)

set_option maxRecDepth 100000 in
/-- **AsmCut.** -/
theorem asmCut_holds : Rows.AsmCutCardSaid :=
  Claim7.holds_tied_plain_at .later [] [.data] true (true, "65a70772e3f582673ffc292e02c5536b159eae890dd58bce1e5979f24075c7c7") false
    asmCut_row (fun _ h => by cases h) (by kernel_rfl) (fun _ h => by cases h) asmCut_row_tie rfl ⟨rfl, rfl⟩ (by kernel_rfl) rfl
    (fun f fn hf hfn => by
      obtain rfl : f = 8 := Option.some.inj ((show Tryd.prog.funcNamed "joinery/joinerylaw04.AsmCut" = some 8 by kernel_rfl).symm.trans hf) |>.symm
      obtain rfl : fn = Tryd.f8 := (Option.some.inj (Tryd.func8.symm.trans hfn)).symm
      exact ⟨by kernel_rfl, fun j t ht => by
        have hall : (Tryd.f8.params.toList.all fun u => !Tryd.prog.wantsStandIn u) = true := by kernel_rfl
        have hm : t ∈ Tryd.f8.params.toList := by
          have := Array.mem_of_getElem? ht
          simpa using this
        exact (show Tryd.prog.wantsStandIn t = false by simpa using List.all_eq_true.1 hall t hm)⟩)
    (by kernel_rfl)
end Go.Proofs.YtoiceinjademgaaDoor
