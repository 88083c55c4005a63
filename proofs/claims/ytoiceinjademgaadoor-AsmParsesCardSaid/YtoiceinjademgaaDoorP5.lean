/-
  An instruction's text, read: one field.
-/
import Derived.Test.YtoiceinjademgaaDoorP4
namespace Go.Proofs.YtoiceinjademgaaDoor
open Go.RowKit
set_option linter.unusedVariables false
set_option linter.unusedSimpArgs false

def setField (x : Ins) (c : UInt8) (v : Int) : Ins := if c = 78 then { x with n := v } else if c = 84 then { x with to := v } else if c = 68 ∨ c = 100 then { x with d := v } else if c = 65 ∨ c = 97 then { x with a := v } else { x with b := v }
def fillV (c : UInt8) (w : List UInt8) : Option Int := if c = 78 ∨ c = 84 then numOf w else locOf w

theorem encIns_set {x : Ins} {c : UInt8} {v : Int} (h1 : c ≠ 78) (h2 : c ≠ 84) : (encIns x).take (offOf (c.toNat : Int)) ++ [.int .i64 v] ++ (encIns x).drop (offOf (c.toNat : Int) + 1) = encIns (setField x c v) := by
  unfold setField
  rw [if_neg h1, if_neg h2]
  have e (k : UInt8) : ((c.toNat : Int) = (k.toNat : Int)) ↔ c = k := ⟨fun h => UInt8.toNat_inj.1 (by omega), fun h => by rw [h]⟩
  have e1 := e 68
  have e2 := e 100
  have e3 := e 65
  have e4 := e 97
  have t1 : ((68 : UInt8).toNat : Int) = 68 := rfl
  have t2 : ((100 : UInt8).toNat : Int) = 100 := rfl
  have t3 : ((65 : UInt8).toNat : Int) = 65 := rfl
  have t4 : ((97 : UInt8).toNat : Int) = 97 := rfl
  rw [t1] at e1; rw [t2] at e2; rw [t3] at e3; rw [t4] at e4
  unfold offOf
  simp only [e1, e2, e3, e4]
  split
  · simp [encIns]
  · split <;> simp [encIns]

theorem ins_fill_ok {H : List AObj} {k : Nat} {x : Ins} (c : UInt8) (w : List UInt8) (hw : w.length ≤ 1000000) (hk : k < H.length) (hx : H[k]? = some (.vec 6 [encIns x])) :
    ACalls Tryd.prog 42 [.ptr k 1 0 0, .int .i32 (c.toNat : Int), .str (bs w)] H fun r H' => r = .int .i64 (if (fillV c w).isSome then 0 else 2) ∧ H' = H.set k (.vec 6 [encIns (setField x c ((fillV c w).getD 0))]) := by
  refine ACalls.go ins_fill.low (by simp) fun hcl => ?_
  have g1 : ∀ L : List AObj, (H ++ L)[k]? = some (.vec 6 [encIns x]) := fun L => by rw [in_get hk, hx]
  have g2 : ∀ (L : List AObj) (o : AObj), (H ++ L).set k o = H.set k o ++ L := fun L o => in_set hk
  have g3 : ∀ y : Ins, Clean (H.set k (.vec 6 [encIns y])).length (H.set k (.vec 6 [encIns y])) := fun y => by rw [List.length_set]; exact hcl.set (vec_clean (by simp [encIns, cleanAll, AV.clean]))
  have g4 : ∀ o : AObj, H.length ≤ (H.set k o).length := fun o => by simp
  clear hx
  by_cases h78 : c = 78
  · subst h78
    have e3 : ((UInt8.toNat 78 : Nat) : Int) = 78 := rfl
    have hp := num_Parse_ok w (by omega)
    have hf : fillV 78 w = numOf w := rfl
    have hs : ∀ v, setField x 78 v = { x with n := v } := fun v => rfl
    rw [hf, hs]
    unfold numP at hp
    generalize numOf w = r at *
    replace hp := Hold.mk hp
    replace g3 := Hold.mk g3
    replace g4 := Hold.mk g4
    repeat' (first | simp only [seval, ev1, ev2, ev3, ev4, beq_self_eq_true, encB_def, encS_def, sb, insA, encIns, ins_dec, ins_eta, *] | simp (disch := omega) only [if_pos, if_neg] | refine R.seq ?_ | refine LCB.text ?_ | refine LCB.quiet rfl ?_ | refine R.calls rfl ?_ | refine R.block ?_ | refine LCB.skip ?_ | refine LCB.exit ?_ | refine LCB.ret ?_ | (refine RetOk.val hcl ?_; simp only [seval, ev1, ev2, ev3, wk, List.forall_mem_cons, List.forall_mem_map, List.forall_mem_append, List.not_mem_nil, encB_def, encS_def, sb, insA, encIns, ins_dec, ins_eta, *]) | (refine Weak.at hcl ?_; simp only [seval, ev1, ev2, ev3, wk, List.forall_mem_cons, List.forall_mem_map, List.forall_mem_append, List.not_mem_nil, encB_def, encS_def, sb, insA, encIns, ins_dec, ins_eta, *]) | (refine LCB.cond (by (simp only [seval, ev1, ev2, ev3, ev4, beq_self_eq_true, encB_def, encS_def, sb, insA, encIns, ins_dec, ins_eta, *]) <;> rfl) (fun hc => ?_) (fun hc => ?_) <;> try simp only [seval, decide_eq_true_eq, decide_eq_false_iff_not, Bool.not_eq_true', Bool.not_eq_false', Bool.not_true, Bool.not_false] at hc) | (refine wpG_split (by (simp only [seval, ev1, ev2, ev3, ev4, beq_self_eq_true, encB_def, encS_def, sb, insA, encIns, ins_dec, ins_eta, *]) <;> rfl) (fun hc => ?_) (fun hc => ?_) <;> try simp only [seval, decide_eq_true_eq, decide_eq_false_iff_not, Bool.not_eq_true', Bool.not_eq_false', Bool.not_true, Bool.not_false] at hc) | (refine wqG_split (by (simp only [seval, ev1, ev2, ev3, ev4, beq_self_eq_true, encB_def, encS_def, sb, insA, encIns, ins_dec, ins_eta, *]) <;> rfl) (fun hc => ?_) (fun hc => ?_) <;> try simp only [seval, decide_eq_true_eq, decide_eq_false_iff_not, Bool.not_eq_true', Bool.not_eq_false', Bool.not_true, Bool.not_false] at hc) | refine ACalls.inst ?_ | refine CallP.inst rfl ?_)
    refine ACalls.pure hp.of ?_
    repeat' (first | simp only [seval, ev1, ev2, ev3, ev4, beq_self_eq_true, encB_def, encS_def, sb, insA, encIns, ins_dec, ins_eta, *] | simp (disch := omega) only [if_pos, if_neg] | refine R.seq ?_ | refine LCB.text ?_ | refine LCB.quiet rfl ?_ | refine R.calls rfl ?_ | refine R.block ?_ | refine LCB.skip ?_ | refine LCB.exit ?_ | refine LCB.ret ?_ | (refine RetOk.val hcl ?_; simp only [seval, ev1, ev2, ev3, wk, List.forall_mem_cons, List.forall_mem_map, List.forall_mem_append, List.not_mem_nil, encB_def, encS_def, sb, insA, encIns, ins_dec, ins_eta, *]) | (refine Weak.at hcl ?_; simp only [seval, ev1, ev2, ev3, wk, List.forall_mem_cons, List.forall_mem_map, List.forall_mem_append, List.not_mem_nil, encB_def, encS_def, sb, insA, encIns, ins_dec, ins_eta, *]) | (refine LCB.cond (by (simp only [seval, ev1, ev2, ev3, ev4, beq_self_eq_true, encB_def, encS_def, sb, insA, encIns, ins_dec, ins_eta, *]) <;> rfl) (fun hc => ?_) (fun hc => ?_) <;> try simp only [seval, decide_eq_true_eq, decide_eq_false_iff_not, Bool.not_eq_true', Bool.not_eq_false', Bool.not_true, Bool.not_false] at hc) | (refine wpG_split (by (simp only [seval, ev1, ev2, ev3, ev4, beq_self_eq_true, encB_def, encS_def, sb, insA, encIns, ins_dec, ins_eta, *]) <;> rfl) (fun hc => ?_) (fun hc => ?_) <;> try simp only [seval, decide_eq_true_eq, decide_eq_false_iff_not, Bool.not_eq_true', Bool.not_eq_false', Bool.not_true, Bool.not_false] at hc) | (refine wqG_split (by (simp only [seval, ev1, ev2, ev3, ev4, beq_self_eq_true, encB_def, encS_def, sb, insA, encIns, ins_dec, ins_eta, *]) <;> rfl) (fun hc => ?_) (fun hc => ?_) <;> try simp only [seval, decide_eq_true_eq, decide_eq_false_iff_not, Bool.not_eq_true', Bool.not_eq_false', Bool.not_true, Bool.not_false] at hc) | refine ACalls.inst ?_ | refine CallP.inst rfl ?_)
    refine RetOk.upd (.int .i64 (if r.isSome = true then 0 else 2)) (g4.of _) (g3.of { x with n := r.getD 0 }) ?_ ⟨rfl, rfl⟩
    simp only [seval, ev1, ev2, ev3, wk, List.forall_mem_cons, List.forall_mem_map, List.forall_mem_append, List.not_mem_nil, encB_def, encS_def, sb, insA, encIns, ins_dec, ins_eta, *]
  have n78 : ¬ ((c.toNat : Int) = 78) := fun e => h78 (UInt8.toNat_inj.1 (by have : (78 : UInt8).toNat = 78 := rfl; omega))
  by_cases h84 : c = 84
  · subst h84
    have e3 : ((UInt8.toNat 84 : Nat) : Int) = 84 := rfl
    have hp := num_Parse_ok w (by omega)
    have hf : fillV 84 w = numOf w := rfl
    have hs : ∀ v, setField x 84 v = { x with to := v } := fun v => rfl
    have h64 : in64 ((numOf w).getD 0) := by
      cases h : numOf w with
      | none => exact ⟨by simp, by simp⟩
      | some n => exact (numOf_iff.1 h).1
    have hwr := wrap64 h64
    rw [hf, hs]
    unfold numP at hp
    generalize numOf w = r at *
    replace hp := Hold.mk hp
    replace g3 := Hold.mk g3
    replace g4 := Hold.mk g4
    clear n78
    repeat' (first | simp only [seval, ev1, ev2, ev3, ev4, beq_self_eq_true, encB_def, encS_def, sb, insA, encIns, ins_dec, ins_eta, *] | simp (disch := omega) only [if_pos, if_neg] | refine R.seq ?_ | refine LCB.text ?_ | refine LCB.quiet rfl ?_ | refine R.calls rfl ?_ | refine R.block ?_ | refine LCB.skip ?_ | refine LCB.exit ?_ | refine LCB.ret ?_ | (refine RetOk.val hcl ?_; simp only [seval, ev1, ev2, ev3, wk, List.forall_mem_cons, List.forall_mem_map, List.forall_mem_append, List.not_mem_nil, encB_def, encS_def, sb, insA, encIns, ins_dec, ins_eta, *]) | (refine Weak.at hcl ?_; simp only [seval, ev1, ev2, ev3, wk, List.forall_mem_cons, List.forall_mem_map, List.forall_mem_append, List.not_mem_nil, encB_def, encS_def, sb, insA, encIns, ins_dec, ins_eta, *]) | (refine LCB.cond (by (simp only [seval, ev1, ev2, ev3, ev4, beq_self_eq_true, encB_def, encS_def, sb, insA, encIns, ins_dec, ins_eta, *]) <;> rfl) (fun hc => ?_) (fun hc => ?_) <;> try simp only [seval, decide_eq_true_eq, decide_eq_false_iff_not, Bool.not_eq_true', Bool.not_eq_false', Bool.not_true, Bool.not_false] at hc) | (refine wpG_split (by (simp only [seval, ev1, ev2, ev3, ev4, beq_self_eq_true, encB_def, encS_def, sb, insA, encIns, ins_dec, ins_eta, *]) <;> rfl) (fun hc => ?_) (fun hc => ?_) <;> try simp only [seval, decide_eq_true_eq, decide_eq_false_iff_not, Bool.not_eq_true', Bool.not_eq_false', Bool.not_true, Bool.not_false] at hc) | (refine wqG_split (by (simp only [seval, ev1, ev2, ev3, ev4, beq_self_eq_true, encB_def, encS_def, sb, insA, encIns, ins_dec, ins_eta, *]) <;> rfl) (fun hc => ?_) (fun hc => ?_) <;> try simp only [seval, decide_eq_true_eq, decide_eq_false_iff_not, Bool.not_eq_true', Bool.not_eq_false', Bool.not_true, Bool.not_false] at hc) | refine ACalls.inst ?_ | refine CallP.inst rfl ?_)
    refine ACalls.pure hp.of ?_
    repeat' (first | simp only [seval, ev1, ev2, ev3, ev4, beq_self_eq_true, encB_def, encS_def, sb, insA, encIns, ins_dec, ins_eta, *] | simp (disch := omega) only [if_pos, if_neg] | refine R.seq ?_ | refine LCB.text ?_ | refine LCB.quiet rfl ?_ | refine R.calls rfl ?_ | refine R.block ?_ | refine LCB.skip ?_ | refine LCB.exit ?_ | refine LCB.ret ?_ | (refine RetOk.val hcl ?_; simp only [seval, ev1, ev2, ev3, wk, List.forall_mem_cons, List.forall_mem_map, List.forall_mem_append, List.not_mem_nil, encB_def, encS_def, sb, insA, encIns, ins_dec, ins_eta, *]) | (refine Weak.at hcl ?_; simp only [seval, ev1, ev2, ev3, wk, List.forall_mem_cons, List.forall_mem_map, List.forall_mem_append, List.not_mem_nil, encB_def, encS_def, sb, insA, encIns, ins_dec, ins_eta, *]) | (refine LCB.cond (by (simp only [seval, ev1, ev2, ev3, ev4, beq_self_eq_true, encB_def, encS_def, sb, insA, encIns, ins_dec, ins_eta, *]) <;> rfl) (fun hc => ?_) (fun hc => ?_) <;> try simp only [seval, decide_eq_true_eq, decide_eq_false_iff_not, Bool.not_eq_true', Bool.not_eq_false', Bool.not_true, Bool.not_false] at hc) | (refine wpG_split (by (simp only [seval, ev1, ev2, ev3, ev4, beq_self_eq_true, encB_def, encS_def, sb, insA, encIns, ins_dec, ins_eta, *]) <;> rfl) (fun hc => ?_) (fun hc => ?_) <;> try simp only [seval, decide_eq_true_eq, decide_eq_false_iff_not, Bool.not_eq_true', Bool.not_eq_false', Bool.not_true, Bool.not_false] at hc) | (refine wqG_split (by (simp only [seval, ev1, ev2, ev3, ev4, beq_self_eq_true, encB_def, encS_def, sb, insA, encIns, ins_dec, ins_eta, *]) <;> rfl) (fun hc => ?_) (fun hc => ?_) <;> try simp only [seval, decide_eq_true_eq, decide_eq_false_iff_not, Bool.not_eq_true', Bool.not_eq_false', Bool.not_true, Bool.not_false] at hc) | refine ACalls.inst ?_ | refine CallP.inst rfl ?_)
    refine RetOk.upd (.int .i64 (if r.isSome = true then 0 else 2)) (g4.of _) (g3.of { x with to := r.getD 0 }) ?_ ⟨rfl, rfl⟩
    simp only [seval, ev1, ev2, ev3, wk, List.forall_mem_cons, List.forall_mem_map, List.forall_mem_append, List.not_mem_nil, encB_def, encS_def, sb, insA, encIns, ins_dec, ins_eta, *]
  have n84 : ¬ ((c.toNat : Int) = 84) := fun e => h84 (UInt8.toNat_inj.1 (by have : (84 : UInt8).toNat = 84 := rfl; omega))
  have hp := loc_Parse_ok w (by omega)
  have hf : fillV c w = locOf w := by unfold fillV; rw [if_neg (by rintro (h | h); exact h78 h; exact h84 h)]
  rw [hf]
  unfold locP at hp
  generalize locOf w = r at *
  have hset := encIns_set (x := x) (v := r.getD 0) h78 h84
  have hof : offOf (c.toNat : Int) + 1 ≤ 6 := by unfold offOf; split; omega; split <;> omega
  have hcl0 := vec_clean (m := H.length) (sz := 6) (xs := [encIns (setField x c (r.getD 0))]) (by simp [encIns, cleanAll, AV.clean])
  generalize encIns (setField x c (r.getD 0)) = E at *
  replace hp := Hold.mk hp
  replace g3 := Hold.mk g3
  replace g4 := Hold.mk g4
  replace hcl0 := Hold.mk hcl0
  rw [show encIns x = [.int .i64 x.op, .int .i64 x.d, .int .i64 x.a, .int .i64 x.b, .int .i64 x.n, .int .i64 x.to] from rfl] at *
  simp only [List.drop_succ_cons] at hset
  repeat' (first | simp only [seval, ev1, ev2, ev3, ev4, beq_self_eq_true, encB_def, encS_def, sb, insA, encIns, ins_dec, ins_eta, *] | simp (disch := omega) only [if_pos, if_neg] | refine R.seq ?_ | refine LCB.text ?_ | refine LCB.quiet rfl ?_ | refine R.calls rfl ?_ | refine R.block ?_ | refine LCB.skip ?_ | refine LCB.exit ?_ | refine LCB.ret ?_ | (refine RetOk.val hcl ?_; simp only [seval, ev1, ev2, ev3, wk, List.forall_mem_cons, List.forall_mem_map, List.forall_mem_append, List.not_mem_nil, encB_def, encS_def, sb, insA, encIns, ins_dec, ins_eta, *]) | (refine Weak.at hcl ?_; simp only [seval, ev1, ev2, ev3, wk, List.forall_mem_cons, List.forall_mem_map, List.forall_mem_append, List.not_mem_nil, encB_def, encS_def, sb, insA, encIns, ins_dec, ins_eta, *]) | (refine LCB.cond (by (simp only [seval, ev1, ev2, ev3, ev4, beq_self_eq_true, encB_def, encS_def, sb, insA, encIns, ins_dec, ins_eta, *]) <;> rfl) (fun hc => ?_) (fun hc => ?_) <;> try simp only [seval, decide_eq_true_eq, decide_eq_false_iff_not, Bool.not_eq_true', Bool.not_eq_false', Bool.not_true, Bool.not_false] at hc) | (refine wpG_split (by (simp only [seval, ev1, ev2, ev3, ev4, beq_self_eq_true, encB_def, encS_def, sb, insA, encIns, ins_dec, ins_eta, *]) <;> rfl) (fun hc => ?_) (fun hc => ?_) <;> try simp only [seval, decide_eq_true_eq, decide_eq_false_iff_not, Bool.not_eq_true', Bool.not_eq_false', Bool.not_true, Bool.not_false] at hc) | (refine wqG_split (by (simp only [seval, ev1, ev2, ev3, ev4, beq_self_eq_true, encB_def, encS_def, sb, insA, encIns, ins_dec, ins_eta, *]) <;> rfl) (fun hc => ?_) (fun hc => ?_) <;> try simp only [seval, decide_eq_true_eq, decide_eq_false_iff_not, Bool.not_eq_true', Bool.not_eq_false', Bool.not_true, Bool.not_false] at hc) | refine ACalls.inst ?_ | refine CallP.inst rfl ?_)
  refine ACalls.pure hp.of ?_
  repeat' (first | simp only [seval, ev1, ev2, ev3, ev4, beq_self_eq_true, encB_def, encS_def, sb, insA, encIns, ins_dec, ins_eta, *] | simp (disch := omega) only [if_pos, if_neg] | refine R.seq ?_ | refine LCB.text ?_ | refine LCB.quiet rfl ?_ | refine R.calls rfl ?_ | refine R.block ?_ | refine LCB.skip ?_ | refine LCB.exit ?_ | refine LCB.ret ?_ | (refine RetOk.val hcl ?_; simp only [seval, ev1, ev2, ev3, wk, List.forall_mem_cons, List.forall_mem_map, List.forall_mem_append, List.not_mem_nil, encB_def, encS_def, sb, insA, encIns, ins_dec, ins_eta, *]) | (refine Weak.at hcl ?_; simp only [seval, ev1, ev2, ev3, wk, List.forall_mem_cons, List.forall_mem_map, List.forall_mem_append, List.not_mem_nil, encB_def, encS_def, sb, insA, encIns, ins_dec, ins_eta, *]) | (refine LCB.cond (by (simp only [seval, ev1, ev2, ev3, ev4, beq_self_eq_true, encB_def, encS_def, sb, insA, encIns, ins_dec, ins_eta, *]) <;> rfl) (fun hc => ?_) (fun hc => ?_) <;> try simp only [seval, decide_eq_true_eq, decide_eq_false_iff_not, Bool.not_eq_true', Bool.not_eq_false', Bool.not_true, Bool.not_false] at hc) | (refine wpG_split (by (simp only [seval, ev1, ev2, ev3, ev4, beq_self_eq_true, encB_def, encS_def, sb, insA, encIns, ins_dec, ins_eta, *]) <;> rfl) (fun hc => ?_) (fun hc => ?_) <;> try simp only [seval, decide_eq_true_eq, decide_eq_false_iff_not, Bool.not_eq_true', Bool.not_eq_false', Bool.not_true, Bool.not_false] at hc) | (refine wqG_split (by (simp only [seval, ev1, ev2, ev3, ev4, beq_self_eq_true, encB_def, encS_def, sb, insA, encIns, ins_dec, ins_eta, *]) <;> rfl) (fun hc => ?_) (fun hc => ?_) <;> try simp only [seval, decide_eq_true_eq, decide_eq_false_iff_not, Bool.not_eq_true', Bool.not_eq_false', Bool.not_true, Bool.not_false] at hc) | refine ACalls.inst ?_ | refine CallP.inst rfl ?_)
  refine (ins_field_ok (c.toNat : Int) (by rw [List.length_append]; omega)).mono ?_
  rintro r' H' ⟨rfl, rfl⟩
  repeat' (first | simp only [seval, ev1, ev2, ev3, ev4, beq_self_eq_true, encB_def, encS_def, sb, insA, encIns, ins_dec, ins_eta, *] | simp (disch := omega) only [if_pos, if_neg] | refine R.seq ?_ | refine LCB.text ?_ | refine LCB.quiet rfl ?_ | refine R.calls rfl ?_ | refine R.block ?_ | refine LCB.skip ?_ | refine LCB.exit ?_ | refine LCB.ret ?_ | (refine RetOk.val hcl ?_; simp only [seval, ev1, ev2, ev3, wk, List.forall_mem_cons, List.forall_mem_map, List.forall_mem_append, List.not_mem_nil, encB_def, encS_def, sb, insA, encIns, ins_dec, ins_eta, *]) | (refine Weak.at hcl ?_; simp only [seval, ev1, ev2, ev3, wk, List.forall_mem_cons, List.forall_mem_map, List.forall_mem_append, List.not_mem_nil, encB_def, encS_def, sb, insA, encIns, ins_dec, ins_eta, *]) | (refine LCB.cond (by (simp only [seval, ev1, ev2, ev3, ev4, beq_self_eq_true, encB_def, encS_def, sb, insA, encIns, ins_dec, ins_eta, *]) <;> rfl) (fun hc => ?_) (fun hc => ?_) <;> try simp only [seval, decide_eq_true_eq, decide_eq_false_iff_not, Bool.not_eq_true', Bool.not_eq_false', Bool.not_true, Bool.not_false] at hc) | (refine wpG_split (by (simp only [seval, ev1, ev2, ev3, ev4, beq_self_eq_true, encB_def, encS_def, sb, insA, encIns, ins_dec, ins_eta, *]) <;> rfl) (fun hc => ?_) (fun hc => ?_) <;> try simp only [seval, decide_eq_true_eq, decide_eq_false_iff_not, Bool.not_eq_true', Bool.not_eq_false', Bool.not_true, Bool.not_false] at hc) | (refine wqG_split (by (simp only [seval, ev1, ev2, ev3, ev4, beq_self_eq_true, encB_def, encS_def, sb, insA, encIns, ins_dec, ins_eta, *]) <;> rfl) (fun hc => ?_) (fun hc => ?_) <;> try simp only [seval, decide_eq_true_eq, decide_eq_false_iff_not, Bool.not_eq_true', Bool.not_eq_false', Bool.not_true, Bool.not_false] at hc) | refine ACalls.inst ?_ | refine CallP.inst rfl ?_)
  refine RetOk.upd (.int .i64 (if r.isSome = true then 0 else 2)) (g4.of _) (by rw [List.length_set]; exact hcl.set hcl0.of) ?_ ⟨rfl, rfl⟩
  simp only [seval, ev1, ev2, ev3, wk, List.forall_mem_cons, List.forall_mem_map, List.forall_mem_append, List.not_mem_nil, encB_def, encS_def, sb, insA, encIns, ins_dec, ins_eta, *]
end Go.Proofs.YtoiceinjademgaaDoor
