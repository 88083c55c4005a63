/-
  ins: what an instruction has besides its fields; Check.
-/
import Derived.Test.YtoiceinjademgaaDoorK1
namespace Go.Proofs.YtoiceinjademgaaDoor
open Go.RowKit
set_option linter.unusedVariables false
set_option linter.unusedSimpArgs false

/-- A field is made nothing. -/
def zeroAt (x : Ins) (c : Int) : Ins := if c = 78 then { x with n := 0 } else if c = 84 then { x with to := 0 } else if c = 68 ∨ c = 100 then { x with d := 0 } else if c = 65 ∨ c = 97 then { x with a := 0 } else { x with b := 0 }
def letters (F : List UInt8) : List Int := F.map fun c => (c.toNat : Int)
def restOf (x : Ins) (F : List UInt8) : Ins := (letters F).foldl zeroAt { x with op := 0 }
def fieldVal (x : Ins) (c : Int) : Int := if c = 68 ∨ c = 100 then x.d else if c = 65 ∨ c = 97 then x.a else x.b
def badPlace (x : Ins) (c : Int) : Bool := c != 78 && c != 84 && !(if 97 ≤ c then inR 24 (fieldVal x c) else inR 8 (fieldVal x c))
def noIns : Ins := ⟨0, 0, 0, 0, 0, 0⟩
def badForm (x : Ins) : Bool := !opOk x.op || restOf x (fieldL x.op) != noIns || (x.op == 15 && (decide (x.n < 0) || decide (99 < x.n)))
def farOff (x : Ins) (n : Int) : Bool := decide (x.to < 0) || decide (n ≤ x.to)
def chk (x : Ins) (n : Int) : Int := if badForm x then 1 else if (letters (fieldL x.op)).any (badPlace x) then 6 else if (letters (fieldL x.op)).contains 84 && farOff x n then 4 else 0

theorem ins_dec (x y : Ins) : (decide (x.op = y.op) && (decide (x.d = y.d) && (decide (x.a = y.a) && (decide (x.b = y.b) && (decide (x.n = y.n) && decide (x.to = y.to)))))) = decide (x = y) := by
  cases x; cases y
  rw [Bool.eq_iff_iff]
  simp
theorem ins_dec0 (x : Ins) : (decide (x.op = 0) && (decide (x.d = 0) && (decide (x.a = 0) && (decide (x.b = 0) && (decide (x.n = 0) && decide (x.to = 0)))))) = decide (x = noIns) := ins_dec x noIns
theorem ins_eta (x : Ins) : (⟨x.op, x.d, x.a, x.b, x.n, x.to⟩ : Ins) = x := rfl

theorem field_at (x : Ins) (c : Int) : (encIns x)[offOf c]? = some (.int .i64 (fieldVal x c)) := by
  unfold offOf fieldVal
  by_cases h1 : c = 68 ∨ c = 100
  · simp [h1, encIns]
  · by_cases h2 : c = 65 ∨ c = 97
    · simp [h1, h2, encIns]
    · simp [h1, h2, encIns]

theorem zero_at (x : Ins) (c : Int) (h1 : ¬ c = 78) (h2 : ¬ c = 84) : (encIns x).take (offOf c) ++ [.int .i64 0] ++ (encIns x).drop (offOf c + 1) = encIns (zeroAt x c) := by
  unfold zeroAt
  rw [if_neg h1, if_neg h2]
  unfold offOf
  split
  · simp [encIns]
  · split <;> simp [encIns]

theorem take_at {F : List UInt8} {p : Nat} (h : p < F.length) : F.take (p + 1) = F.take p ++ [F.getD p 0] := by
  rw [List.take_succ_eq_append_getElem h]
  simp [List.getD, h]

set_option maxHeartbeats 1000000 in
theorem ins_rest_ok (x : Ins) (w : ByteArray) (F : List UInt8) (hF : ∀ c ∈ F, c.toNat < 128) : Pure Tryd.prog 29 [insA x, .agg [.str w, .str (bs F)]] (insA (restOf x F)) := by
  intro H
  refine ACalls.go ins_rest.low (by simp) fun hcl => ?_
  rw [insA_eq]
  replace hF := Hold.mk hF
  repeat' (first | simp only [seval, ev1, ev2, ev3, ev4, beq_self_eq_true, sb, insA, encIns, ins_eta, *] | simp (disch := omega) only [if_pos, if_neg] | refine R.seq ?_ | refine LCB.text ?_ | refine LCB.quiet rfl ?_ | refine R.calls rfl ?_ | refine R.block ?_ | refine LCB.skip ?_ | refine LCB.exit ?_ | refine LCB.ret ?_ | (refine RetOk.val hcl ?_; simp only [seval, ev1, ev2, ev3, wk, List.forall_mem_cons, List.forall_mem_map, List.forall_mem_append, List.not_mem_nil, sb, insA, encIns, ins_eta, *]) | (refine Weak.at hcl ?_; simp only [seval, ev1, ev2, ev3, wk, List.forall_mem_cons, List.forall_mem_map, List.forall_mem_append, List.not_mem_nil, sb, insA, encIns, ins_eta, *]) | (refine LCB.cond (by (simp only [seval, ev1, ev2, ev3, ev4, beq_self_eq_true, sb, insA, encIns, ins_eta, *]) <;> rfl) (fun hc => ?_) (fun hc => ?_) <;> try simp only [seval, decide_eq_true_eq, decide_eq_false_iff_not, Bool.not_eq_true', Bool.not_eq_false', Bool.not_true, Bool.not_false] at hc) | (refine wpG_split (by (simp only [seval, ev1, ev2, ev3, ev4, beq_self_eq_true, sb, insA, encIns, ins_eta, *]) <;> rfl) (fun hc => ?_) (fun hc => ?_) <;> try simp only [seval, decide_eq_true_eq, decide_eq_false_iff_not, Bool.not_eq_true', Bool.not_eq_false', Bool.not_true, Bool.not_false] at hc) | (refine wqG_split (by (simp only [seval, ev1, ev2, ev3, ev4, beq_self_eq_true, sb, insA, encIns, ins_eta, *]) <;> rfl) (fun hc => ?_) (fun hc => ?_) <;> try simp only [seval, decide_eq_true_eq, decide_eq_false_iff_not, Bool.not_eq_true', Bool.not_eq_false', Bool.not_true, Bool.not_false] at hc) | refine ACalls.inst ?_ | refine CallP.inst rfl ?_)
  refine R.loop (S := Nat × Ins) ⟨fun s => [(2, .ptr H.length 1 0 0), (4, .ptr (H.length + 2) 1 0 0), (10, .iter (H.length + 3))], fun s => H ++ [.vec 6 [encIns s.2], .vec 2 [[.str w, .str (bs F)]], .vec 6 [[.int .i64 0, .int .i64 0, .int .i64 0, .int .i64 0, .int .i64 0, .int .i64 0]], .iter (bs F) s.1],
    fun s => s.1 ≤ F.length ∧ (letters (F.drop s.1)).foldl zeroAt s.2 = restOf x F, fun s => F.length - s.1⟩ (0, { x with op := 0 }) ⟨Nat.zero_le _, rfl⟩ (Weak.at hcl ?_) ?_
  · simp only [seval, ev1, ev2, ev3, wk, List.forall_mem_cons, List.forall_mem_map, List.forall_mem_append, List.not_mem_nil, sb, insA, encIns, ins_eta, *]
  rintro ⟨p, y⟩ ⟨hp, hq⟩
  simp only at hp hq ⊢
  replace hq := Hold.mk hq
  by_cases hlt : p < F.length
  · have hd : Utf8.decode (bs F) p = ((F.getD p 0).toNat, 1) := dec_near (hF.of _ (by simp [List.getD, hlt]))
    have hnext : (letters (F.drop (p + 1))).foldl zeroAt (zeroAt y ((F.getD p 0).toNat : Int)) = restOf x F := by
      rw [← hq.of]
      have : F.drop p = F.getD p 0 :: F.drop (p + 1) := by
        rw [List.drop_eq_getElem_cons hlt]
        simp [List.getD, hlt]
      rw [this]
      rfl
    generalize ((F.getD p 0).toNat) = c at *
    replace hnext := Hold.mk hnext
    by_cases h1 : (c : Int) = 78
    · repeat' (first | simp only [seval, ev1, ev2, ev3, ev4, beq_self_eq_true, sb, insA, encIns, ins_eta, *] | simp (disch := omega) only [if_pos, if_neg] | refine R.seq ?_ | refine LCB.text ?_ | refine LCB.quiet rfl ?_ | refine R.calls rfl ?_ | refine R.block ?_ | refine LCB.skip ?_ | refine LCB.exit ?_ | refine LCB.ret ?_ | (refine RetOk.val hcl ?_; simp only [seval, ev1, ev2, ev3, wk, List.forall_mem_cons, List.forall_mem_map, List.forall_mem_append, List.not_mem_nil, sb, insA, encIns, ins_eta, *]) | (refine Weak.at hcl ?_; simp only [seval, ev1, ev2, ev3, wk, List.forall_mem_cons, List.forall_mem_map, List.forall_mem_append, List.not_mem_nil, sb, insA, encIns, ins_eta, *]) | (refine LCB.cond (by (simp only [seval, ev1, ev2, ev3, ev4, beq_self_eq_true, sb, insA, encIns, ins_eta, *]) <;> rfl) (fun hc => ?_) (fun hc => ?_) <;> try simp only [seval, decide_eq_true_eq, decide_eq_false_iff_not, Bool.not_eq_true', Bool.not_eq_false', Bool.not_true, Bool.not_false] at hc) | (refine wpG_split (by (simp only [seval, ev1, ev2, ev3, ev4, beq_self_eq_true, sb, insA, encIns, ins_eta, *]) <;> rfl) (fun hc => ?_) (fun hc => ?_) <;> try simp only [seval, decide_eq_true_eq, decide_eq_false_iff_not, Bool.not_eq_true', Bool.not_eq_false', Bool.not_true, Bool.not_false] at hc) | (refine wqG_split (by (simp only [seval, ev1, ev2, ev3, ev4, beq_self_eq_true, sb, insA, encIns, ins_eta, *]) <;> rfl) (fun hc => ?_) (fun hc => ?_) <;> try simp only [seval, decide_eq_true_eq, decide_eq_false_iff_not, Bool.not_eq_true', Bool.not_eq_false', Bool.not_true, Bool.not_false] at hc) | refine ACalls.inst ?_ | refine CallP.inst rfl ?_)
      refine ⟨(p + 1, zeroAt y c), ⟨hlt, hnext.of⟩, by simp only; omega, Weak.at hcl ?_⟩
      have : zeroAt y 78 = { y with n := 0 } := rfl
      simp only [seval, ev1, ev2, ev3, wk, List.forall_mem_cons, List.forall_mem_map, List.forall_mem_append, List.not_mem_nil, sb, insA, encIns, ins_eta, *]
    by_cases h2 : (c : Int) = 84
    · repeat' (first | simp only [seval, ev1, ev2, ev3, ev4, beq_self_eq_true, sb, insA, encIns, ins_eta, *] | simp (disch := omega) only [if_pos, if_neg] | refine R.seq ?_ | refine LCB.text ?_ | refine LCB.quiet rfl ?_ | refine R.calls rfl ?_ | refine R.block ?_ | refine LCB.skip ?_ | refine LCB.exit ?_ | refine LCB.ret ?_ | (refine RetOk.val hcl ?_; simp only [seval, ev1, ev2, ev3, wk, List.forall_mem_cons, List.forall_mem_map, List.forall_mem_append, List.not_mem_nil, sb, insA, encIns, ins_eta, *]) | (refine Weak.at hcl ?_; simp only [seval, ev1, ev2, ev3, wk, List.forall_mem_cons, List.forall_mem_map, List.forall_mem_append, List.not_mem_nil, sb, insA, encIns, ins_eta, *]) | (refine LCB.cond (by (simp only [seval, ev1, ev2, ev3, ev4, beq_self_eq_true, sb, insA, encIns, ins_eta, *]) <;> rfl) (fun hc => ?_) (fun hc => ?_) <;> try simp only [seval, decide_eq_true_eq, decide_eq_false_iff_not, Bool.not_eq_true', Bool.not_eq_false', Bool.not_true, Bool.not_false] at hc) | (refine wpG_split (by (simp only [seval, ev1, ev2, ev3, ev4, beq_self_eq_true, sb, insA, encIns, ins_eta, *]) <;> rfl) (fun hc => ?_) (fun hc => ?_) <;> try simp only [seval, decide_eq_true_eq, decide_eq_false_iff_not, Bool.not_eq_true', Bool.not_eq_false', Bool.not_true, Bool.not_false] at hc) | (refine wqG_split (by (simp only [seval, ev1, ev2, ev3, ev4, beq_self_eq_true, sb, insA, encIns, ins_eta, *]) <;> rfl) (fun hc => ?_) (fun hc => ?_) <;> try simp only [seval, decide_eq_true_eq, decide_eq_false_iff_not, Bool.not_eq_true', Bool.not_eq_false', Bool.not_true, Bool.not_false] at hc) | refine ACalls.inst ?_ | refine CallP.inst rfl ?_)
      refine ⟨(p + 1, zeroAt y c), ⟨hlt, hnext.of⟩, by simp only; omega, Weak.at hcl ?_⟩
      have : zeroAt y 84 = { y with to := 0 } := rfl
      simp only [seval, ev1, ev2, ev3, wk, List.forall_mem_cons, List.forall_mem_map, List.forall_mem_append, List.not_mem_nil, sb, insA, encIns, ins_eta, *]
    have hz := zero_at y c h1 h2
    have hof : offOf (c : Int) + 1 ≤ 6 := by unfold offOf; split; omega; split <;> omega
    simp only [encIns, List.drop_succ_cons] at hz
    have hcl0 : Hold (∀ m, cleanAll m (encIns (zeroAt y (c : Int))) = true) := ⟨fun m => by simp [encIns, cleanAll, AV.clean]⟩
    repeat' (first | simp only [seval, ev1, ev2, ev3, ev4, beq_self_eq_true, sb, insA, encIns, ins_eta, *] | simp (disch := omega) only [if_pos, if_neg] | refine R.seq ?_ | refine LCB.text ?_ | refine LCB.quiet rfl ?_ | refine R.calls rfl ?_ | refine R.block ?_ | refine LCB.skip ?_ | refine LCB.exit ?_ | refine LCB.ret ?_ | (refine RetOk.val hcl ?_; simp only [seval, ev1, ev2, ev3, wk, List.forall_mem_cons, List.forall_mem_map, List.forall_mem_append, List.not_mem_nil, sb, insA, encIns, ins_eta, *]) | (refine Weak.at hcl ?_; simp only [seval, ev1, ev2, ev3, wk, List.forall_mem_cons, List.forall_mem_map, List.forall_mem_append, List.not_mem_nil, sb, insA, encIns, ins_eta, *]) | (refine LCB.cond (by (simp only [seval, ev1, ev2, ev3, ev4, beq_self_eq_true, sb, insA, encIns, ins_eta, *]) <;> rfl) (fun hc => ?_) (fun hc => ?_) <;> try simp only [seval, decide_eq_true_eq, decide_eq_false_iff_not, Bool.not_eq_true', Bool.not_eq_false', Bool.not_true, Bool.not_false] at hc) | (refine wpG_split (by (simp only [seval, ev1, ev2, ev3, ev4, beq_self_eq_true, sb, insA, encIns, ins_eta, *]) <;> rfl) (fun hc => ?_) (fun hc => ?_) <;> try simp only [seval, decide_eq_true_eq, decide_eq_false_iff_not, Bool.not_eq_true', Bool.not_eq_false', Bool.not_true, Bool.not_false] at hc) | (refine wqG_split (by (simp only [seval, ev1, ev2, ev3, ev4, beq_self_eq_true, sb, insA, encIns, ins_eta, *]) <;> rfl) (fun hc => ?_) (fun hc => ?_) <;> try simp only [seval, decide_eq_true_eq, decide_eq_false_iff_not, Bool.not_eq_true', Bool.not_eq_false', Bool.not_true, Bool.not_false] at hc) | refine ACalls.inst ?_ | refine CallP.inst rfl ?_)
    refine (ins_field_ok (c : Int) (by simp)).mono ?_
    rintro r' H' ⟨rfl, rfl⟩
    repeat' (first | simp only [seval, ev1, ev2, ev3, ev4, beq_self_eq_true, sb, insA, encIns, ins_eta, *] | simp (disch := omega) only [if_pos, if_neg] | refine R.seq ?_ | refine LCB.text ?_ | refine LCB.quiet rfl ?_ | refine R.calls rfl ?_ | refine R.block ?_ | refine LCB.skip ?_ | refine LCB.exit ?_ | refine LCB.ret ?_ | (refine RetOk.val hcl ?_; simp only [seval, ev1, ev2, ev3, wk, List.forall_mem_cons, List.forall_mem_map, List.forall_mem_append, List.not_mem_nil, sb, insA, encIns, ins_eta, *]) | (refine Weak.at hcl ?_; simp only [seval, ev1, ev2, ev3, wk, List.forall_mem_cons, List.forall_mem_map, List.forall_mem_append, List.not_mem_nil, sb, insA, encIns, ins_eta, *]) | (refine LCB.cond (by (simp only [seval, ev1, ev2, ev3, ev4, beq_self_eq_true, sb, insA, encIns, ins_eta, *]) <;> rfl) (fun hc => ?_) (fun hc => ?_) <;> try simp only [seval, decide_eq_true_eq, decide_eq_false_iff_not, Bool.not_eq_true', Bool.not_eq_false', Bool.not_true, Bool.not_false] at hc) | (refine wpG_split (by (simp only [seval, ev1, ev2, ev3, ev4, beq_self_eq_true, sb, insA, encIns, ins_eta, *]) <;> rfl) (fun hc => ?_) (fun hc => ?_) <;> try simp only [seval, decide_eq_true_eq, decide_eq_false_iff_not, Bool.not_eq_true', Bool.not_eq_false', Bool.not_true, Bool.not_false] at hc) | (refine wqG_split (by (simp only [seval, ev1, ev2, ev3, ev4, beq_self_eq_true, sb, insA, encIns, ins_eta, *]) <;> rfl) (fun hc => ?_) (fun hc => ?_) <;> try simp only [seval, decide_eq_true_eq, decide_eq_false_iff_not, Bool.not_eq_true', Bool.not_eq_false', Bool.not_true, Bool.not_false] at hc) | refine ACalls.inst ?_ | refine CallP.inst rfl ?_)
    refine ⟨(p + 1, zeroAt y c), ⟨hlt, hnext.of⟩, by simp only; omega, Weak.at hcl ?_⟩
    simp only [seval, ev1, ev2, ev3, wk, List.forall_mem_cons, List.forall_mem_map, List.forall_mem_append, List.not_mem_nil, sb, insA, encIns, ins_eta, *]
  · have hp' : p = F.length := by omega
    subst hp'
    have hy : y = restOf x F := by
      have := hq.of
      simpa [letters] using this
    rw [← hy]
    repeat' (first | simp only [seval, ev1, ev2, ev3, ev4, beq_self_eq_true, sb, insA, encIns, ins_eta, *] | simp (disch := omega) only [if_pos, if_neg] | refine R.seq ?_ | refine LCB.text ?_ | refine LCB.quiet rfl ?_ | refine R.calls rfl ?_ | refine R.block ?_ | refine LCB.skip ?_ | refine LCB.exit ?_ | refine LCB.ret ?_ | (refine RetOk.val hcl ?_; simp only [seval, ev1, ev2, ev3, wk, List.forall_mem_cons, List.forall_mem_map, List.forall_mem_append, List.not_mem_nil, sb, insA, encIns, ins_eta, *]) | (refine Weak.at hcl ?_; simp only [seval, ev1, ev2, ev3, wk, List.forall_mem_cons, List.forall_mem_map, List.forall_mem_append, List.not_mem_nil, sb, insA, encIns, ins_eta, *]) | (refine LCB.cond (by (simp only [seval, ev1, ev2, ev3, ev4, beq_self_eq_true, sb, insA, encIns, ins_eta, *]) <;> rfl) (fun hc => ?_) (fun hc => ?_) <;> try simp only [seval, decide_eq_true_eq, decide_eq_false_iff_not, Bool.not_eq_true', Bool.not_eq_false', Bool.not_true, Bool.not_false] at hc) | (refine wpG_split (by (simp only [seval, ev1, ev2, ev3, ev4, beq_self_eq_true, sb, insA, encIns, ins_eta, *]) <;> rfl) (fun hc => ?_) (fun hc => ?_) <;> try simp only [seval, decide_eq_true_eq, decide_eq_false_iff_not, Bool.not_eq_true', Bool.not_eq_false', Bool.not_true, Bool.not_false] at hc) | (refine wqG_split (by (simp only [seval, ev1, ev2, ev3, ev4, beq_self_eq_true, sb, insA, encIns, ins_eta, *]) <;> rfl) (fun hc => ?_) (fun hc => ?_) <;> try simp only [seval, decide_eq_true_eq, decide_eq_false_iff_not, Bool.not_eq_true', Bool.not_eq_false', Bool.not_true, Bool.not_false] at hc) | refine ACalls.inst ?_ | refine CallP.inst rfl ?_)
end Go.Proofs.YtoiceinjademgaaDoor
