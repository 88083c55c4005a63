/-
  An instruction's text, read.
-/
import Derived.Test.YtoiceinjademgaaDoorP5
namespace Go.Proofs.YtoiceinjademgaaDoor
open Go.RowKit
set_option linter.unusedVariables false
set_option linter.unusedSimpArgs false

def matchOp (w : List (List UInt8)) (i : Nat) : Bool := decide (wordL ((i + 1 : Nat) : Int) = w.headD []) && decide ((fieldL ((i + 1 : Nat) : Int)).length + 1 = w.length)
def fillAll : Ins → List UInt8 → List (List UInt8) → Option Ins
  | x, [], _ => some x
  | x, c :: fs, w :: ws => match fillV c w with
    | some v => fillAll (setField x c v) fs ws
    | none => none
  | _, _ :: _, [] => none
def parseAt (w : List (List UInt8)) (i : Nat) : Option Ins := match fillAll { noIns with op := ((i + 1 : Nat) : Int) } (fieldL ((i + 1 : Nat) : Int)) w.tail with
  | some x => if chk x 200 = 0 then some x else none
  | none => none
/-- The instruction of a text's words. -/
def parseW (w : List (List UInt8)) : Option Ins := match (List.range 18).find? (matchOp w) with
  | some i => parseAt w i
  | none => none
def parseIns (s : List UInt8) : Option Ins := parseW (splitSp s)
def insR (r : Option Ins) : AV := match r with
  | some x => .tup [insA x, .int .i64 0]
  | none => .tup [insA noIns, .int .i64 2]

theorem find_range {f : Nat → Bool} : ∀ {n i : Nat}, i < n → f i = true → (∀ j, j < i → f j = false) → (List.range n).find? f = some i := by
  intro n i hi hf hj
  rw [List.find?_range_eq_some]
  exact ⟨hf, by simpa using hi, fun j h => by simp [hj j h]⟩
theorem find_range_none {f : Nat → Bool} {n : Nat} (h : ∀ j, j < n → f j = false) : (List.range n).find? f = none := by
  rw [List.find?_eq_none]
  intro j hj
  simp at hj
  simp [h j hj]

theorem setField_op (x : Ins) (c : UInt8) (v : Int) : (setField x c v).op = x.op := by
  unfold setField
  split; rfl
  split; rfl
  split; rfl
  split <;> rfl

theorem splitSp_word : ∀ (l : List UInt8) (w : List UInt8), w ∈ splitSp l → w.length ≤ l.length
  | [], w, h => by simp [splitSp] at h; simp [h]
  | c :: r, w, h => by
    rw [splitSp] at h
    split at h
    · rcases List.mem_cons.1 h with rfl | h
      · simp
      · have := splitSp_word r w h; simp; omega
    · cases hr : splitSp r with
      | nil => exact absurd hr (splitSp_ne r)
      | cons v vs =>
        rw [hr] at h
        rcases List.mem_cons.1 h with rfl | h
        · have := splitSp_word r v (by rw [hr]; simp); simp; omega
        · have := splitSp_word r w (by rw [hr]; simp [h]); simp; omega

theorem getD_map {W : List (List UInt8)} {j : Nat} (h : j < W.length) : (W.map encS).getD j [] = [.str (bs (W.getD j []))] := by
  simp [List.getD, h, encS]

set_option maxHeartbeats 2000000 in
theorem ins_Parse_ok (s : List UInt8) (hs : s.length ≤ 1000000) : Pure Tryd.prog 25 [.str (bs s)] (insR (parseIns s)) := by
  intro H
  refine ACalls.go ins_Parse.low (by simp) fun hcl => ?_
  have hww := ins_words_ok s hs
  (refine R.seq ?_; refine LCB.text ?_; repeat' (first | simp only [seval, ev1, ev2, ev3, ev4, beq_self_eq_true, encB_def, encS_def, sb, insA, encIns, ins_dec, ins_eta, noIns, *] | simp (disch := omega) only [if_pos, if_neg]))
  refine R.seq (LCB.text ?_)
  repeat' (first | simp only [seval, ev1, ev2, ev3, ev4, beq_self_eq_true, encB_def, encS_def, sb, insA, encIns, ins_dec, ins_eta, noIns, *] | simp (disch := omega) only [if_pos, if_neg])
  refine ACalls.pure hww ?_
  clear hww
  have hW0 := splitSp_ne s
  have hWl := splitSp_len s
  have hWs : ∀ w ∈ splitSp s, w.length ≤ 1000000 := fun w hw => by have := splitSp_word s w hw; omega
  have hsp : parseIns s = parseW (splitSp s) := rfl
  rw [hsp]
  generalize splitSp s = W at *
  have hW1 : 0 < W.length := by
    cases W with
    | nil => exact absurd rfl hW0
    | cons a b => simp
  obtain ⟨row, htb, hl36, htk, hcr, hrow⟩ := shape_tbl
  replace hW0 := Hold.mk hW0
  replace hWs := Hold.mk hWs
  replace hrow := Hold.mk hrow
  replace hsp := Hold.mk hsp
  repeat' (first | simp only [seval, ev1, ev2, ev3, ev4, beq_self_eq_true, encB_def, encS_def, sb, insA, encIns, ins_dec, ins_eta, noIns, *] | simp (disch := omega) only [if_pos, if_neg] | refine R.seq ?_ | refine LCB.text ?_ | refine LCB.quiet rfl ?_ | refine R.calls rfl ?_ | refine R.block ?_ | refine LCB.skip ?_ | refine LCB.exit ?_ | refine LCB.ret ?_ | (refine RetOk.val hcl ?_; simp only [seval, ev1, ev2, ev3, wk, List.forall_mem_cons, List.forall_mem_map, List.forall_mem_append, List.not_mem_nil, encB_def, encS_def, sb, insA, encIns, ins_dec, ins_eta, noIns, *]) | (refine Weak.at hcl ?_; simp only [seval, ev1, ev2, ev3, wk, List.forall_mem_cons, List.forall_mem_map, List.forall_mem_append, List.not_mem_nil, encB_def, encS_def, sb, insA, encIns, ins_dec, ins_eta, noIns, *]) | (refine LCB.cond (by (simp only [seval, ev1, ev2, ev3, ev4, beq_self_eq_true, encB_def, encS_def, sb, insA, encIns, ins_dec, ins_eta, noIns, *]) <;> rfl) (fun hc => ?_) (fun hc => ?_) <;> try simp only [seval, decide_eq_true_eq, decide_eq_false_iff_not, Bool.not_eq_true', Bool.not_eq_false', Bool.not_true, Bool.not_false] at hc) | (refine wpG_split (by (simp only [seval, ev1, ev2, ev3, ev4, beq_self_eq_true, encB_def, encS_def, sb, insA, encIns, ins_dec, ins_eta, noIns, *]) <;> rfl) (fun hc => ?_) (fun hc => ?_) <;> try simp only [seval, decide_eq_true_eq, decide_eq_false_iff_not, Bool.not_eq_true', Bool.not_eq_false', Bool.not_true, Bool.not_false] at hc) | (refine wqG_split (by (simp only [seval, ev1, ev2, ev3, ev4, beq_self_eq_true, encB_def, encS_def, sb, insA, encIns, ins_dec, ins_eta, noIns, *]) <;> rfl) (fun hc => ?_) (fun hc => ?_) <;> try simp only [seval, decide_eq_true_eq, decide_eq_false_iff_not, Bool.not_eq_true', Bool.not_eq_false', Bool.not_true, Bool.not_false] at hc) | refine ACalls.inst ?_ | refine CallP.inst rfl ?_)
  clear htb
  refine R.loop (S := Nat) ⟨fun i => [(2, .ptr H.length 1 0 0), (4, .list (W.map encS)), (13, .agg row), (14, .int .i64 (i : Int))], fun i => H ++ [.vec 6 [encIns noIns]], fun i => i ≤ 18 ∧ ∀ j, j < i → matchOp W j = false, fun i => 18 - i⟩ 0 ⟨Nat.zero_le _, fun j hj => by omega⟩ (Weak.at hcl ?_) ?_
  · simp only [seval, ev1, ev2, ev3, wk, List.forall_mem_cons, List.forall_mem_map, List.forall_mem_append, List.not_mem_nil, encB_def, encS_def, sb, insA, encIns, ins_dec, ins_eta, noIns, *]
  rintro i ⟨hi, hj⟩
  simp only at hi hj ⊢
  replace hj := Hold.mk hj
  by_cases hlt : ¬ i < 18
  · have : i = 18 := by omega
    subst this
    have : insR (parseW W) = .tup [insA noIns, .int .i64 2] := by unfold parseW; rw [find_range_none hj.of]; rfl
    repeat' (first | simp only [seval, ev1, ev2, ev3, ev4, beq_self_eq_true, encB_def, encS_def, sb, insA, encIns, ins_dec, ins_eta, noIns, *] | simp (disch := omega) only [if_pos, if_neg] | refine R.seq ?_ | refine LCB.text ?_ | refine LCB.quiet rfl ?_ | refine R.calls rfl ?_ | refine R.block ?_ | refine LCB.skip ?_ | refine LCB.exit ?_ | refine LCB.ret ?_ | (refine RetOk.val hcl ?_; simp only [seval, ev1, ev2, ev3, wk, List.forall_mem_cons, List.forall_mem_map, List.forall_mem_append, List.not_mem_nil, encB_def, encS_def, sb, insA, encIns, ins_dec, ins_eta, noIns, *]) | (refine Weak.at hcl ?_; simp only [seval, ev1, ev2, ev3, wk, List.forall_mem_cons, List.forall_mem_map, List.forall_mem_append, List.not_mem_nil, encB_def, encS_def, sb, insA, encIns, ins_dec, ins_eta, noIns, *]) | (refine LCB.cond (by (simp only [seval, ev1, ev2, ev3, ev4, beq_self_eq_true, encB_def, encS_def, sb, insA, encIns, ins_dec, ins_eta, noIns, *]) <;> rfl) (fun hc => ?_) (fun hc => ?_) <;> try simp only [seval, decide_eq_true_eq, decide_eq_false_iff_not, Bool.not_eq_true', Bool.not_eq_false', Bool.not_true, Bool.not_false] at hc) | (refine wpG_split (by (simp only [seval, ev1, ev2, ev3, ev4, beq_self_eq_true, encB_def, encS_def, sb, insA, encIns, ins_dec, ins_eta, noIns, *]) <;> rfl) (fun hc => ?_) (fun hc => ?_) <;> try simp only [seval, decide_eq_true_eq, decide_eq_false_iff_not, Bool.not_eq_true', Bool.not_eq_false', Bool.not_true, Bool.not_false] at hc) | (refine wqG_split (by (simp only [seval, ev1, ev2, ev3, ev4, beq_self_eq_true, encB_def, encS_def, sb, insA, encIns, ins_dec, ins_eta, noIns, *]) <;> rfl) (fun hc => ?_) (fun hc => ?_) <;> try simp only [seval, decide_eq_true_eq, decide_eq_false_iff_not, Bool.not_eq_true', Bool.not_eq_false', Bool.not_true, Bool.not_false] at hc) | refine ACalls.inst ?_ | refine CallP.inst rfl ?_)
  replace hlt : i < 18 := by omega
  have e1 : (i : Int) < 18 := by omega
  have e2 : IntKind.i64.wrap ((i : Int) + 1) = ((i + 1 : Nat) : Int) := by rw [IntKind.wrap_i64]; omega
  have e2' : IntKind.i64.wrap (1 + (i : Int)) = ((i + 1 : Nat) : Int) := by rw [IntKind.wrap_i64]; omega
  have hr := hrow.of i hlt
  have hg0 := getD_map hW1
  have hm : Hold (matchOp W i = (decide (wordL ((i + 1 : Nat) : Int) = W.getD 0 []) && decide ((fieldL ((i + 1 : Nat) : Int)).length + 1 = W.length))) := ⟨by unfold matchOp; cases W <;> rfl⟩
  have hpa : Hold (parseAt W i = match fillAll { noIns with op := ((i + 1 : Nat) : Int) } (fieldL ((i + 1 : Nat) : Int)) W.tail with | some x => if chk x 200 = 0 then some x else none | none => none) := ⟨rfl⟩
  obtain ⟨_, hF3, hFa⟩ := shape_short ((i + 1 : Nat) : Int)
  replace hFa := Hold.mk hFa
  have e5 : IntKind.i64.wrap ((W.length : Int) - 1) = ((W.length - 1 : Nat) : Int) := by rw [IntKind.wrap_i64]; omega
  generalize wordL ((i + 1 : Nat) : Int) = wd at *
  generalize fieldL ((i + 1 : Nat) : Int) = F at *
  have e6 : i * 2 + 2 ≤ 36 := by omega
  have e7 : (i : Int) < ((18 : Nat) : Int) := by omega
  cases hmt : matchOp W i with
  | false =>
    have hjn : ∀ j, j < i + 1 → matchOp W j = false := fun j hj1 => by
      rcases Nat.lt_or_ge j i with h | h
      · exact hj.of j h
      · have : j = i := by omega
        subst this; exact hmt
    have hdw := hm.of
    rw [hmt] at hdw
    replace hjn := Hold.mk hjn
    replace hmt := Hold.mk hmt
    by_cases hwd : wd = W.getD 0 []
    · rw [decide_eq_true hwd, Bool.true_and] at hdw
      have hne : ¬ ((F.length : Nat) : Int) = ((W.length - 1 : Nat) : Int) := fun e => by
        have := of_decide_eq_false hdw.symm
        omega
      replace hdw := Hold.mk hdw
      repeat' (first | simp only [seval, ev1, ev2, ev3, ev4, beq_self_eq_true, encB_def, encS_def, sb, insA, encIns, ins_dec, ins_eta, noIns, *] | simp (disch := omega) only [if_pos, if_neg] | refine R.seq ?_ | refine LCB.text ?_ | refine LCB.quiet rfl ?_ | refine R.calls rfl ?_ | refine R.block ?_ | refine LCB.skip ?_ | refine LCB.exit ?_ | refine LCB.ret ?_ | (refine RetOk.val hcl ?_; simp only [seval, ev1, ev2, ev3, wk, List.forall_mem_cons, List.forall_mem_map, List.forall_mem_append, List.not_mem_nil, encB_def, encS_def, sb, insA, encIns, ins_dec, ins_eta, noIns, *]) | (refine Weak.at hcl ?_; simp only [seval, ev1, ev2, ev3, wk, List.forall_mem_cons, List.forall_mem_map, List.forall_mem_append, List.not_mem_nil, encB_def, encS_def, sb, insA, encIns, ins_dec, ins_eta, noIns, *]) | (refine LCB.cond (by (simp only [seval, ev1, ev2, ev3, ev4, beq_self_eq_true, encB_def, encS_def, sb, insA, encIns, ins_dec, ins_eta, noIns, *]) <;> rfl) (fun hc => ?_) (fun hc => ?_) <;> try simp only [seval, decide_eq_true_eq, decide_eq_false_iff_not, Bool.not_eq_true', Bool.not_eq_false', Bool.not_true, Bool.not_false] at hc) | (refine wpG_split (by (simp only [seval, ev1, ev2, ev3, ev4, beq_self_eq_true, encB_def, encS_def, sb, insA, encIns, ins_dec, ins_eta, noIns, *]) <;> rfl) (fun hc => ?_) (fun hc => ?_) <;> try simp only [seval, decide_eq_true_eq, decide_eq_false_iff_not, Bool.not_eq_true', Bool.not_eq_false', Bool.not_true, Bool.not_false] at hc) | (refine wqG_split (by (simp only [seval, ev1, ev2, ev3, ev4, beq_self_eq_true, encB_def, encS_def, sb, insA, encIns, ins_dec, ins_eta, noIns, *]) <;> rfl) (fun hc => ?_) (fun hc => ?_) <;> try simp only [seval, decide_eq_true_eq, decide_eq_false_iff_not, Bool.not_eq_true', Bool.not_eq_false', Bool.not_true, Bool.not_false] at hc) | refine ACalls.inst ?_ | refine CallP.inst rfl ?_)
      refine ⟨i + 1, ⟨hlt, hjn.of⟩, by simp only; omega, Weak.at hcl ?_⟩
      simp only [seval, ev1, ev2, ev3, wk, List.forall_mem_cons, List.forall_mem_map, List.forall_mem_append, List.not_mem_nil, encB_def, encS_def, sb, insA, encIns, ins_dec, ins_eta, noIns, *]
    · replace hdw := Hold.mk hdw
      repeat' (first | simp only [seval, ev1, ev2, ev3, ev4, beq_self_eq_true, encB_def, encS_def, sb, insA, encIns, ins_dec, ins_eta, noIns, *] | simp (disch := omega) only [if_pos, if_neg] | refine R.seq ?_ | refine LCB.text ?_ | refine LCB.quiet rfl ?_ | refine R.calls rfl ?_ | refine R.block ?_ | refine LCB.skip ?_ | refine LCB.exit ?_ | refine LCB.ret ?_ | (refine RetOk.val hcl ?_; simp only [seval, ev1, ev2, ev3, wk, List.forall_mem_cons, List.forall_mem_map, List.forall_mem_append, List.not_mem_nil, encB_def, encS_def, sb, insA, encIns, ins_dec, ins_eta, noIns, *]) | (refine Weak.at hcl ?_; simp only [seval, ev1, ev2, ev3, wk, List.forall_mem_cons, List.forall_mem_map, List.forall_mem_append, List.not_mem_nil, encB_def, encS_def, sb, insA, encIns, ins_dec, ins_eta, noIns, *]) | (refine LCB.cond (by (simp only [seval, ev1, ev2, ev3, ev4, beq_self_eq_true, encB_def, encS_def, sb, insA, encIns, ins_dec, ins_eta, noIns, *]) <;> rfl) (fun hc => ?_) (fun hc => ?_) <;> try simp only [seval, decide_eq_true_eq, decide_eq_false_iff_not, Bool.not_eq_true', Bool.not_eq_false', Bool.not_true, Bool.not_false] at hc) | (refine wpG_split (by (simp only [seval, ev1, ev2, ev3, ev4, beq_self_eq_true, encB_def, encS_def, sb, insA, encIns, ins_dec, ins_eta, noIns, *]) <;> rfl) (fun hc => ?_) (fun hc => ?_) <;> try simp only [seval, decide_eq_true_eq, decide_eq_false_iff_not, Bool.not_eq_true', Bool.not_eq_false', Bool.not_true, Bool.not_false] at hc) | (refine wqG_split (by (simp only [seval, ev1, ev2, ev3, ev4, beq_self_eq_true, encB_def, encS_def, sb, insA, encIns, ins_dec, ins_eta, noIns, *]) <;> rfl) (fun hc => ?_) (fun hc => ?_) <;> try simp only [seval, decide_eq_true_eq, decide_eq_false_iff_not, Bool.not_eq_true', Bool.not_eq_false', Bool.not_true, Bool.not_false] at hc) | refine ACalls.inst ?_ | refine CallP.inst rfl ?_)
      refine ⟨i + 1, ⟨hlt, hjn.of⟩, by simp only; omega, Weak.at hcl ?_⟩
      simp only [seval, ev1, ev2, ev3, wk, List.forall_mem_cons, List.forall_mem_map, List.forall_mem_append, List.not_mem_nil, encB_def, encS_def, sb, insA, encIns, ins_dec, ins_eta, noIns, *]
  | true =>
    have hdw := hm.of
    rw [hmt] at hdw
    replace hdw := hdw.symm
    simp only [Bool.and_eq_true, decide_eq_true_eq] at hdw
    obtain ⟨hwd, hFl⟩ := hdw
    subst hwd
    have hres : Hold (parseW W = parseAt W i) := ⟨by unfold parseW; rw [find_range hlt hmt hj.of]⟩
    replace hmt := Hold.mk hmt
    have heq : ((F.length : Nat) : Int) = ((W.length - 1 : Nat) : Int) := by omega
    have hF1 : F.length = W.length - 1 := by omega
    replace hFl := Hold.mk hFl
    clear heq
    repeat' (first | simp only [seval, ev1, ev2, ev3, ev4, beq_self_eq_true, encB_def, encS_def, sb, insA, encIns, ins_dec, ins_eta, noIns, *] | simp (disch := omega) only [if_pos, if_neg] | refine R.seq ?_ | refine LCB.text ?_ | refine LCB.quiet rfl ?_ | refine R.calls rfl ?_ | refine R.block ?_ | refine LCB.skip ?_ | refine LCB.exit ?_ | refine LCB.ret ?_ | (refine RetOk.val hcl ?_; simp only [seval, ev1, ev2, ev3, wk, List.forall_mem_cons, List.forall_mem_map, List.forall_mem_append, List.not_mem_nil, encB_def, encS_def, sb, insA, encIns, ins_dec, ins_eta, noIns, *]) | (refine Weak.at hcl ?_; simp only [seval, ev1, ev2, ev3, wk, List.forall_mem_cons, List.forall_mem_map, List.forall_mem_append, List.not_mem_nil, encB_def, encS_def, sb, insA, encIns, ins_dec, ins_eta, noIns, *]) | (refine LCB.cond (by (simp only [seval, ev1, ev2, ev3, ev4, beq_self_eq_true, encB_def, encS_def, sb, insA, encIns, ins_dec, ins_eta, noIns, *]) <;> rfl) (fun hc => ?_) (fun hc => ?_) <;> try simp only [seval, decide_eq_true_eq, decide_eq_false_iff_not, Bool.not_eq_true', Bool.not_eq_false', Bool.not_true, Bool.not_false] at hc) | (refine wpG_split (by (simp only [seval, ev1, ev2, ev3, ev4, beq_self_eq_true, encB_def, encS_def, sb, insA, encIns, ins_dec, ins_eta, noIns, *]) <;> rfl) (fun hc => ?_) (fun hc => ?_) <;> try simp only [seval, decide_eq_true_eq, decide_eq_false_iff_not, Bool.not_eq_true', Bool.not_eq_false', Bool.not_true, Bool.not_false] at hc) | (refine wqG_split (by (simp only [seval, ev1, ev2, ev3, ev4, beq_self_eq_true, encB_def, encS_def, sb, insA, encIns, ins_dec, ins_eta, noIns, *]) <;> rfl) (fun hc => ?_) (fun hc => ?_) <;> try simp only [seval, decide_eq_true_eq, decide_eq_false_iff_not, Bool.not_eq_true', Bool.not_eq_false', Bool.not_true, Bool.not_false] at hc) | refine ACalls.inst ?_ | refine CallP.inst rfl ?_)
    refine R.loop (S := Nat × Ins) ⟨fun y => [(2, .ptr H.length 1 0 0), (4, .list (W.map encS)), (7, .ptr (H.length + 2) 1 0 0), (38, .iter (H.length + 3))], fun y => H ++ [.vec 6 [encIns noIns], .vec 2 [[.str (bs (W.getD 0 [])), .str (bs F)]], .vec 6 [encIns y.2], .iter (bs F) y.1],
      fun y => y.1 ≤ F.length ∧ y.2.op = ((i + 1 : Nat) : Int) ∧ fillAll y.2 (F.drop y.1) (W.drop (y.1 + 1)) = fillAll { noIns with op := ((i + 1 : Nat) : Int) } F W.tail, fun y => F.length - y.1⟩ (0, { noIns with op := ((i + 1 : Nat) : Int) }) ⟨Nat.zero_le _, rfl, by simp⟩ (Weak.at hcl ?_) ?_
    · simp only [seval, ev1, ev2, ev3, wk, List.forall_mem_cons, List.forall_mem_map, List.forall_mem_append, List.not_mem_nil, encB_def, encS_def, sb, insA, encIns, ins_dec, ins_eta, noIns, *]
    rintro ⟨p, x⟩ ⟨hp, hxo, hq⟩
    simp only at hp hxo hq ⊢
    replace hq := Hold.mk hq
    replace hxo := Hold.mk hxo
    replace hF1 := Hold.mk hF1
    by_cases hlt2 : p < F.length
    · have hmem : F.getD p 0 ∈ F := by simp [List.getD, hlt2]
      have hd := dec_near (l := F) (p := p) (hFa.of _ hmem)
      have hdr := drop_at hlt2
      have hwp : p + 1 < W.length := by have := hF1.of; omega
      have hgp := getD_map hwp
      have hdw2 : W.drop (p + 1) = W.getD (p + 1) [] :: W.drop (p + 2) := by
        rw [List.drop_eq_getElem_cons hwp]
        simp [List.getD, hwp]
      have hq2 := hq.of
      rw [hdr, hdw2] at hq2
      replace hq2 := Hold.mk hq2
      have e8 : IntKind.i64.wrap ((p : Int) + 1) = ((p + 1 : Nat) : Int) := by rw [IntKind.wrap_i64]; omega
      have hwm : W.getD (p + 1) [] ∈ W := by simp [List.getD, hwp]
      have hwlen := hWs.of _ hwm
      clear hdr hdw2 hmem hwm hg0
      generalize F.getD p 0 = c at *
      generalize W.getD (p + 1) [] = wnx at *
      repeat' (first | simp only [seval, ev1, ev2, ev3, ev4, beq_self_eq_true, encB_def, encS_def, sb, insA, encIns, ins_dec, ins_eta, noIns, *] | simp (disch := omega) only [if_pos, if_neg] | refine R.seq ?_ | refine LCB.text ?_ | refine LCB.quiet rfl ?_ | refine R.calls rfl ?_ | refine R.block ?_ | refine LCB.skip ?_ | refine LCB.exit ?_ | refine LCB.ret ?_ | (refine RetOk.val hcl ?_; simp only [seval, ev1, ev2, ev3, wk, List.forall_mem_cons, List.forall_mem_map, List.forall_mem_append, List.not_mem_nil, encB_def, encS_def, sb, insA, encIns, ins_dec, ins_eta, noIns, *]) | (refine Weak.at hcl ?_; simp only [seval, ev1, ev2, ev3, wk, List.forall_mem_cons, List.forall_mem_map, List.forall_mem_append, List.not_mem_nil, encB_def, encS_def, sb, insA, encIns, ins_dec, ins_eta, noIns, *]) | (refine LCB.cond (by (simp only [seval, ev1, ev2, ev3, ev4, beq_self_eq_true, encB_def, encS_def, sb, insA, encIns, ins_dec, ins_eta, noIns, *]) <;> rfl) (fun hc => ?_) (fun hc => ?_) <;> try simp only [seval, decide_eq_true_eq, decide_eq_false_iff_not, Bool.not_eq_true', Bool.not_eq_false', Bool.not_true, Bool.not_false] at hc) | (refine wpG_split (by (simp only [seval, ev1, ev2, ev3, ev4, beq_self_eq_true, encB_def, encS_def, sb, insA, encIns, ins_dec, ins_eta, noIns, *]) <;> rfl) (fun hc => ?_) (fun hc => ?_) <;> try simp only [seval, decide_eq_true_eq, decide_eq_false_iff_not, Bool.not_eq_true', Bool.not_eq_false', Bool.not_true, Bool.not_false] at hc) | (refine wqG_split (by (simp only [seval, ev1, ev2, ev3, ev4, beq_self_eq_true, encB_def, encS_def, sb, insA, encIns, ins_dec, ins_eta, noIns, *]) <;> rfl) (fun hc => ?_) (fun hc => ?_) <;> try simp only [seval, decide_eq_true_eq, decide_eq_false_iff_not, Bool.not_eq_true', Bool.not_eq_false', Bool.not_true, Bool.not_false] at hc) | refine ACalls.inst ?_ | refine CallP.inst rfl ?_)
      refine (ins_fill_ok (x := x) c wnx hwlen (by simp) (by simp only [seval, ev1, ev2, ev3, ev4, beq_self_eq_true, encB_def, encS_def, sb, insA, encIns, ins_dec, ins_eta, noIns, *])).mono ?_
      rintro r' H' ⟨rfl, rfl⟩
      cases hv : fillV c wnx with
      | some v =>
        have hs1 : (some v).isSome = true := rfl
        have hs2 : (some v).getD 0 = v := rfl
        have hq3 := hq2.of
        rw [fillAll, hv] at hq3
        replace hq3 := Hold.mk hq3
        repeat' (first | simp only [seval, ev1, ev2, ev3, ev4, beq_self_eq_true, encB_def, encS_def, sb, insA, encIns, ins_dec, ins_eta, noIns, *] | simp (disch := omega) only [if_pos, if_neg] | refine R.seq ?_ | refine LCB.text ?_ | refine LCB.quiet rfl ?_ | refine R.calls rfl ?_ | refine R.block ?_ | refine LCB.skip ?_ | refine LCB.exit ?_ | refine LCB.ret ?_ | (refine RetOk.val hcl ?_; simp only [seval, ev1, ev2, ev3, wk, List.forall_mem_cons, List.forall_mem_map, List.forall_mem_append, List.not_mem_nil, encB_def, encS_def, sb, insA, encIns, ins_dec, ins_eta, noIns, *]) | (refine Weak.at hcl ?_; simp only [seval, ev1, ev2, ev3, wk, List.forall_mem_cons, List.forall_mem_map, List.forall_mem_append, List.not_mem_nil, encB_def, encS_def, sb, insA, encIns, ins_dec, ins_eta, noIns, *]) | (refine LCB.cond (by (simp only [seval, ev1, ev2, ev3, ev4, beq_self_eq_true, encB_def, encS_def, sb, insA, encIns, ins_dec, ins_eta, noIns, *]) <;> rfl) (fun hc => ?_) (fun hc => ?_) <;> try simp only [seval, decide_eq_true_eq, decide_eq_false_iff_not, Bool.not_eq_true', Bool.not_eq_false', Bool.not_true, Bool.not_false] at hc) | (refine wpG_split (by (simp only [seval, ev1, ev2, ev3, ev4, beq_self_eq_true, encB_def, encS_def, sb, insA, encIns, ins_dec, ins_eta, noIns, *]) <;> rfl) (fun hc => ?_) (fun hc => ?_) <;> try simp only [seval, decide_eq_true_eq, decide_eq_false_iff_not, Bool.not_eq_true', Bool.not_eq_false', Bool.not_true, Bool.not_false] at hc) | (refine wqG_split (by (simp only [seval, ev1, ev2, ev3, ev4, beq_self_eq_true, encB_def, encS_def, sb, insA, encIns, ins_dec, ins_eta, noIns, *]) <;> rfl) (fun hc => ?_) (fun hc => ?_) <;> try simp only [seval, decide_eq_true_eq, decide_eq_false_iff_not, Bool.not_eq_true', Bool.not_eq_false', Bool.not_true, Bool.not_false] at hc) | refine ACalls.inst ?_ | refine CallP.inst rfl ?_)
        refine ⟨(p + 1, setField x c v), ⟨hlt2, by simp only; rw [setField_op]; exact hxo.of, hq3.of⟩, by simp only; omega, Weak.at hcl ?_⟩
        simp only [seval, ev1, ev2, ev3, wk, List.forall_mem_cons, List.forall_mem_map, List.forall_mem_append, List.not_mem_nil, encB_def, encS_def, sb, insA, encIns, ins_dec, ins_eta, noIns, *]
      | none =>
        have hs1 : (none : Option Int).isSome = false := rfl
        have hs2 : (none : Option Int).getD 0 = 0 := rfl
        have hq3 := hq2.of
        rw [fillAll, hv] at hq3
        have hfin : insR (parseW W) = .tup [insA noIns, .int .i64 2] := by
          rw [hres.of, hpa.of, ← hq3]; rfl
        clear hq3
        repeat' (first | simp only [seval, ev1, ev2, ev3, ev4, beq_self_eq_true, encB_def, encS_def, sb, insA, encIns, ins_dec, ins_eta, noIns, *] | simp (disch := omega) only [if_pos, if_neg] | refine R.seq ?_ | refine LCB.text ?_ | refine LCB.quiet rfl ?_ | refine R.calls rfl ?_ | refine R.block ?_ | refine LCB.skip ?_ | refine LCB.exit ?_ | refine LCB.ret ?_ | (refine RetOk.val hcl ?_; simp only [seval, ev1, ev2, ev3, wk, List.forall_mem_cons, List.forall_mem_map, List.forall_mem_append, List.not_mem_nil, encB_def, encS_def, sb, insA, encIns, ins_dec, ins_eta, noIns, *]) | (refine Weak.at hcl ?_; simp only [seval, ev1, ev2, ev3, wk, List.forall_mem_cons, List.forall_mem_map, List.forall_mem_append, List.not_mem_nil, encB_def, encS_def, sb, insA, encIns, ins_dec, ins_eta, noIns, *]) | (refine LCB.cond (by (simp only [seval, ev1, ev2, ev3, ev4, beq_self_eq_true, encB_def, encS_def, sb, insA, encIns, ins_dec, ins_eta, noIns, *]) <;> rfl) (fun hc => ?_) (fun hc => ?_) <;> try simp only [seval, decide_eq_true_eq, decide_eq_false_iff_not, Bool.not_eq_true', Bool.not_eq_false', Bool.not_true, Bool.not_false] at hc) | (refine wpG_split (by (simp only [seval, ev1, ev2, ev3, ev4, beq_self_eq_true, encB_def, encS_def, sb, insA, encIns, ins_dec, ins_eta, noIns, *]) <;> rfl) (fun hc => ?_) (fun hc => ?_) <;> try simp only [seval, decide_eq_true_eq, decide_eq_false_iff_not, Bool.not_eq_true', Bool.not_eq_false', Bool.not_true, Bool.not_false] at hc) | (refine wqG_split (by (simp only [seval, ev1, ev2, ev3, ev4, beq_self_eq_true, encB_def, encS_def, sb, insA, encIns, ins_dec, ins_eta, noIns, *]) <;> rfl) (fun hc => ?_) (fun hc => ?_) <;> try simp only [seval, decide_eq_true_eq, decide_eq_false_iff_not, Bool.not_eq_true', Bool.not_eq_false', Bool.not_true, Bool.not_false] at hc) | refine ACalls.inst ?_ | refine CallP.inst rfl ?_)
    · have hp' : p = F.length := by omega
      subst hp'
      have hq2 := hq.of
      rw [List.drop_length, fillAll] at hq2
      have hx : Hold (parseW W = if chk x 200 = 0 then some x else none) := ⟨by rw [hres.of, hpa.of, ← hq2]⟩
      clear hq2
      have hck := ins_Check_ok x 200
      rw [insA_eq] at hck
      replace hck := Hold.mk hck
      repeat' (first | simp only [seval, ev1, ev2, ev3, ev4, beq_self_eq_true, encB_def, encS_def, sb, insA, encIns, ins_dec, ins_eta, noIns, *] | simp (disch := omega) only [if_pos, if_neg] | refine R.seq ?_ | refine LCB.text ?_ | refine LCB.quiet rfl ?_ | refine R.calls rfl ?_ | refine R.block ?_ | refine LCB.skip ?_ | refine LCB.exit ?_ | refine LCB.ret ?_ | (refine RetOk.val hcl ?_; simp only [seval, ev1, ev2, ev3, wk, List.forall_mem_cons, List.forall_mem_map, List.forall_mem_append, List.not_mem_nil, encB_def, encS_def, sb, insA, encIns, ins_dec, ins_eta, noIns, *]) | (refine Weak.at hcl ?_; simp only [seval, ev1, ev2, ev3, wk, List.forall_mem_cons, List.forall_mem_map, List.forall_mem_append, List.not_mem_nil, encB_def, encS_def, sb, insA, encIns, ins_dec, ins_eta, noIns, *]) | (refine LCB.cond (by (simp only [seval, ev1, ev2, ev3, ev4, beq_self_eq_true, encB_def, encS_def, sb, insA, encIns, ins_dec, ins_eta, noIns, *]) <;> rfl) (fun hc => ?_) (fun hc => ?_) <;> try simp only [seval, decide_eq_true_eq, decide_eq_false_iff_not, Bool.not_eq_true', Bool.not_eq_false', Bool.not_true, Bool.not_false] at hc) | (refine wpG_split (by (simp only [seval, ev1, ev2, ev3, ev4, beq_self_eq_true, encB_def, encS_def, sb, insA, encIns, ins_dec, ins_eta, noIns, *]) <;> rfl) (fun hc => ?_) (fun hc => ?_) <;> try simp only [seval, decide_eq_true_eq, decide_eq_false_iff_not, Bool.not_eq_true', Bool.not_eq_false', Bool.not_true, Bool.not_false] at hc) | (refine wqG_split (by (simp only [seval, ev1, ev2, ev3, ev4, beq_self_eq_true, encB_def, encS_def, sb, insA, encIns, ins_dec, ins_eta, noIns, *]) <;> rfl) (fun hc => ?_) (fun hc => ?_) <;> try simp only [seval, decide_eq_true_eq, decide_eq_false_iff_not, Bool.not_eq_true', Bool.not_eq_false', Bool.not_true, Bool.not_false] at hc) | refine ACalls.inst ?_ | refine CallP.inst rfl ?_)
      refine ACalls.pure hck.of ?_
      by_cases hk : chk x 200 = 0
      · have hfin : insR (parseW W) = .tup [insA x, .int .i64 0] := by rw [hx.of, if_pos hk]; rfl
        repeat' (first | simp only [seval, ev1, ev2, ev3, ev4, beq_self_eq_true, encB_def, encS_def, sb, insA, encIns, ins_dec, ins_eta, noIns, *] | simp (disch := omega) only [if_pos, if_neg] | refine R.seq ?_ | refine LCB.text ?_ | refine LCB.quiet rfl ?_ | refine R.calls rfl ?_ | refine R.block ?_ | refine LCB.skip ?_ | refine LCB.exit ?_ | refine LCB.ret ?_ | (refine RetOk.val hcl ?_; simp only [seval, ev1, ev2, ev3, wk, List.forall_mem_cons, List.forall_mem_map, List.forall_mem_append, List.not_mem_nil, encB_def, encS_def, sb, insA, encIns, ins_dec, ins_eta, noIns, *]) | (refine Weak.at hcl ?_; simp only [seval, ev1, ev2, ev3, wk, List.forall_mem_cons, List.forall_mem_map, List.forall_mem_append, List.not_mem_nil, encB_def, encS_def, sb, insA, encIns, ins_dec, ins_eta, noIns, *]) | (refine LCB.cond (by (simp only [seval, ev1, ev2, ev3, ev4, beq_self_eq_true, encB_def, encS_def, sb, insA, encIns, ins_dec, ins_eta, noIns, *]) <;> rfl) (fun hc => ?_) (fun hc => ?_) <;> try simp only [seval, decide_eq_true_eq, decide_eq_false_iff_not, Bool.not_eq_true', Bool.not_eq_false', Bool.not_true, Bool.not_false] at hc) | (refine wpG_split (by (simp only [seval, ev1, ev2, ev3, ev4, beq_self_eq_true, encB_def, encS_def, sb, insA, encIns, ins_dec, ins_eta, noIns, *]) <;> rfl) (fun hc => ?_) (fun hc => ?_) <;> try simp only [seval, decide_eq_true_eq, decide_eq_false_iff_not, Bool.not_eq_true', Bool.not_eq_false', Bool.not_true, Bool.not_false] at hc) | (refine wqG_split (by (simp only [seval, ev1, ev2, ev3, ev4, beq_self_eq_true, encB_def, encS_def, sb, insA, encIns, ins_dec, ins_eta, noIns, *]) <;> rfl) (fun hc => ?_) (fun hc => ?_) <;> try simp only [seval, decide_eq_true_eq, decide_eq_false_iff_not, Bool.not_eq_true', Bool.not_eq_false', Bool.not_true, Bool.not_false] at hc) | refine ACalls.inst ?_ | refine CallP.inst rfl ?_)
      · have hfin : insR (parseW W) = .tup [insA noIns, .int .i64 2] := by rw [hx.of, if_neg hk]; rfl
        repeat' (first | simp only [seval, ev1, ev2, ev3, ev4, beq_self_eq_true, encB_def, encS_def, sb, insA, encIns, ins_dec, ins_eta, noIns, *] | simp (disch := omega) only [if_pos, if_neg] | refine R.seq ?_ | refine LCB.text ?_ | refine LCB.quiet rfl ?_ | refine R.calls rfl ?_ | refine R.block ?_ | refine LCB.skip ?_ | refine LCB.exit ?_ | refine LCB.ret ?_ | (refine RetOk.val hcl ?_; simp only [seval, ev1, ev2, ev3, wk, List.forall_mem_cons, List.forall_mem_map, List.forall_mem_append, List.not_mem_nil, encB_def, encS_def, sb, insA, encIns, ins_dec, ins_eta, noIns, *]) | (refine Weak.at hcl ?_; simp only [seval, ev1, ev2, ev3, wk, List.forall_mem_cons, List.forall_mem_map, List.forall_mem_append, List.not_mem_nil, encB_def, encS_def, sb, insA, encIns, ins_dec, ins_eta, noIns, *]) | (refine LCB.cond (by (simp only [seval, ev1, ev2, ev3, ev4, beq_self_eq_true, encB_def, encS_def, sb, insA, encIns, ins_dec, ins_eta, noIns, *]) <;> rfl) (fun hc => ?_) (fun hc => ?_) <;> try simp only [seval, decide_eq_true_eq, decide_eq_false_iff_not, Bool.not_eq_true', Bool.not_eq_false', Bool.not_true, Bool.not_false] at hc) | (refine wpG_split (by (simp only [seval, ev1, ev2, ev3, ev4, beq_self_eq_true, encB_def, encS_def, sb, insA, encIns, ins_dec, ins_eta, noIns, *]) <;> rfl) (fun hc => ?_) (fun hc => ?_) <;> try simp only [seval, decide_eq_true_eq, decide_eq_false_iff_not, Bool.not_eq_true', Bool.not_eq_false', Bool.not_true, Bool.not_false] at hc) | (refine wqG_split (by (simp only [seval, ev1, ev2, ev3, ev4, beq_self_eq_true, encB_def, encS_def, sb, insA, encIns, ins_dec, ins_eta, noIns, *]) <;> rfl) (fun hc => ?_) (fun hc => ?_) <;> try simp only [seval, decide_eq_true_eq, decide_eq_false_iff_not, Bool.not_eq_true', Bool.not_eq_false', Bool.not_true, Bool.not_false] at hc) | refine ACalls.inst ?_ | refine CallP.inst rfl ?_)
end Go.Proofs.YtoiceinjademgaaDoor
