/-
  InsSpaces, of every instruction and place: a text with a space more is no instruction's.
-/
import Derived.Test.YtegelpmmnddmnaaDoorE4
import Derived.Test.YtegelpmmnddmnaaDoorCards
import Derived.Test.YtegelpmmnddmnaaDoorP7
import Derived.Test.YtegelpmmnddmnaaDoorP9
namespace Go.Proofs.YtegelpmmnddmnaaDoor
open Go.ChangeShapes Go.WideShapes Go.ChangeAt Go.RowKit
set_option linter.unusedVariables false
set_option linter.unusedSimpArgs false

theorem ok_of {x : Ins} (h : in64 x.op ∧ in64 x.d ∧ in64 x.a ∧ in64 x.b ∧ in64 x.n ∧ in64 x.to) : Ok64 x := ⟨h.1, h.2.1, h.2.2.1, h.2.2.2.1, h.2.2.2.2.1, h.2.2.2.2.2⟩
theorem split_more : ∀ (a b : List UInt8), (splitSp (a ++ 32 :: b)).length = (splitSp (a ++ b)).length + 1
  | [], b => by simp [splitSp]
  | c :: a, b => by
    have ih := split_more a b
    rw [List.cons_append, List.cons_append, splitSp, splitSp]
    split
    · simp [ih]
    · cases h1 : splitSp (a ++ 32 :: b) with
      | nil => exact absurd h1 (splitSp_ne _)
      | cons v vs =>
        cases h2 : splitSp (a ++ b) with
        | nil => exact absurd h2 (splitSp_ne _)
        | cons u us =>
          rw [h1, h2] at ih
          simpa [glueL] using ih
theorem split_head : ∀ (a b b' : List UInt8), (32 : UInt8) ∈ a → (splitSp (a ++ b)).head? = (splitSp (a ++ b')).head?
  | [], _, _, h => by simp at h
  | c :: a, b, b', h => by
    rw [List.cons_append, List.cons_append, splitSp, splitSp]
    split
    · rfl
    · rename_i hc
      have ih := split_head a b b' (by rcases List.mem_cons.1 h with e | e; exact absurd e.symm hc; exact e)
      cases h1 : splitSp (a ++ b) with
      | nil => exact absurd h1 (splitSp_ne _)
      | cons v vs =>
        cases h2 : splitSp (a ++ b') with
        | nil => exact absurd h2 (splitSp_ne _)
        | cons u us =>
          rw [h1, h2] at ih
          simp at ih
          simp [glueL, ih]
theorem words_free : ∀ i : Fin 18, ∀ j : Fin 18, ∀ n : Fin 6, (wordL ((i.val + 1 : Nat) : Int)).take n.val = wordL ((j.val + 1 : Nat) : Int) → i = j := by decide +kernel
theorem fields_any : ∀ i : Fin 18, fieldL ((i.val + 1 : Nat) : Int) ≠ [] := by decide +kernel
theorem op_fin {op : Int} (h : opOk op = true) : ∃ i : Fin 18, op = ((i.val + 1 : Nat) : Int) := by
  have ho : 1 ≤ op ∧ op ≤ 18 := by simpa [opOk] using h
  exact ⟨⟨(op - 1).toNat, by omega⟩, by simp only; omega⟩
theorem spaces_none {x : Ins} (hk : chk x 200 = 0) {i : Nat} (hi : i ≤ (insText x).length) : parseIns ((insText x).take i ++ 32 :: (insText x).drop i) = none := by
  cases hp : parseIns ((insText x).take i ++ 32 :: (insText x).drop i) with
  | none => rfl
  | some y =>
    exfalso
    obtain ⟨y1, y2, y3⟩ := print_parse hp
    obtain ⟨p, hpx⟩ := op_fin (chk_good hk).1
    obtain ⟨q, hqy⟩ := op_fin (chk_good y1).1
    have s1 := split_more ((insText x).take i) ((insText x).drop i)
    rw [List.take_append_drop, ← y3, split_text, split_text] at s1
    simp only [List.length_cons, List.length_map] at s1
    have key : p ≠ q := fun e => by
      rw [hpx, hqy, e] at s1
      omega
    by_cases h32 : (32 : UInt8) ∈ (insText x).take i
    · have h := split_head _ (32 :: (insText x).drop i) ((insText x).drop i) h32
      rw [List.take_append_drop, ← y3, split_text, split_text] at h
      simp only [List.head?_cons, Option.some.injEq] at h
      rw [hpx, hqy] at h
      exact key (word_inj q p h).symm
    · have hno : ∀ c ∈ (insText x).take i, c ≠ 32 := fun c hc e => h32 (e ▸ hc)
      have h := split_word _ ((insText x).drop i) hno
      rw [← y3, split_text] at h
      have h2 := (List.cons.inj h).1
      have hle : i ≤ (wordL x.op).length := by
        rcases Nat.lt_or_ge (wordL x.op).length i with hlt | hge
        · exfalso
          apply h32
          have hne := fields_any p
          rw [← hpx] at hne
          cases hF : fieldL x.op with
          | nil => exact absurd hF hne
          | cons c F =>
            have e : insText x = (wordL x.op ++ [32]) ++ (fieldT x c ++ fieldsT x F) := by
              unfold insText
              rw [hF]
              simp [fieldsT]
            rw [e, List.take_append]
            refine List.mem_append_left _ ?_
            rw [List.take_of_length_le (by simp; omega)]
            simp
        · exact hge
      have e : (insText x).take i = (wordL x.op).take i := by
        unfold insText
        rw [List.take_append_of_le_length hle]
      rw [e, hpx, hqy] at h2
      have hw := (shape_short x.op).1
      exact key (words_free p q ⟨i, by omega⟩ h2.symm)

theorem InsSpaces_ok (x : Ins) (hx : Ok64 x) (m : Nat) (hm : m < 256) : Pure Tryd.prog 11 [insA x, .int .u8 (m : Int)] (.bool true) := by
  intro H
  refine ACalls.go joinerylaw03_InsSpaces.low (by simp) fun hcl => ?_
  rw [insA_eq]
  have h1 := ins_Print_ok x hx
  have hlen : (insText x).length ≤ 1000 := by
    have h1 := fieldsT_len x (fieldL x.op)
    obtain ⟨s1, s2, _⟩ := shape_short x.op
    unfold insText
    rw [List.length_append]
    omega
  unfold insP at h1
  rw [insA_eq] at h1
  by_cases k1 : chk x 200 = 0
  · rw [if_pos k1] at h1
    have hsp := fun (i : Nat) => spaces_none k1 (i := i)
    generalize insText x = T at *
    have e1 : IntKind.i64.wrap (m : Int) = (m : Int) := wrap64 (by unfold in64; omega)
    have e2 : IntKind.i64.wrap ((T.length : Int) + 1) = ((T.length + 1 : Nat) : Int) := by rw [wrap64 (by unfold in64; omega)]; omega
    have e3 : Int.tmod (m : Int) ((T.length + 1 : Nat) : Int) = ((m % (T.length + 1) : Nat) : Int) := rfl
    have hi : m % (T.length + 1) ≤ T.length := by have := Nat.mod_lt m (show 0 < T.length + 1 by omega); omega
    have e4 : ¬ ((T.length + 1 : Nat) : Int) = 0 := by omega
    have hp := hsp _ hi
    generalize m % (T.length + 1) = i at *
    have e6 : (i : Int) ≤ (T.length : Int) := by omega
    have l1 : (T.take i).length = i := by simp; omega
    have l2 : (T.drop i).length = T.length - i := by simp
    have h2 := ins_Parse_ok (T.take i ++ 32 :: T.drop i) (by simp; omega)
    rw [hp] at h2
    unfold insR at h2
    clear hsp hp
    replace h1 := Hold.mk h1
    replace h2 := Hold.mk h2
    repeat' (first | simp only [seval, ev1, ev2, ev3, ev4, beq_self_eq_true, encB_def, encS_def, encI_def, sb, List.append_assoc, List.length_append, insA, encIns, ins_dec, ins_dec0, ins_eta, noIns, *] | simp (disch := omega) only [if_pos, if_neg] | refine R.seq ?_ | refine LCB.text ?_ | refine LCB.quiet rfl ?_ | refine R.calls rfl ?_ | refine R.block ?_ | refine LCB.skip ?_ | refine LCB.exit ?_ | refine LCB.ret ?_ | (refine RetOk.val hcl ?_; simp only [seval, ev1, ev2, ev3, wk, List.forall_mem_cons, List.forall_mem_map, List.forall_mem_append, List.not_mem_nil, encB_def, encS_def, encI_def, sb, List.append_assoc, List.length_append, insA, encIns, ins_dec, ins_dec0, ins_eta, noIns, *]) | (refine Weak.at hcl ?_; simp only [seval, ev1, ev2, ev3, wk, List.forall_mem_cons, List.forall_mem_map, List.forall_mem_append, List.not_mem_nil, encB_def, encS_def, encI_def, sb, List.append_assoc, List.length_append, insA, encIns, ins_dec, ins_dec0, ins_eta, noIns, *]) | (refine LCB.cond (by (simp only [seval, ev1, ev2, ev3, ev4, beq_self_eq_true, encB_def, encS_def, encI_def, sb, List.append_assoc, List.length_append, insA, encIns, ins_dec, ins_dec0, ins_eta, noIns, *]) <;> rfl) (fun hc => ?_) (fun hc => ?_) <;> try simp only [seval, decide_eq_true_eq, decide_eq_false_iff_not, Bool.not_eq_true', Bool.not_eq_false', Bool.not_true, Bool.not_false] at hc) | (refine wpG_split (by (simp only [seval, ev1, ev2, ev3, ev4, beq_self_eq_true, encB_def, encS_def, encI_def, sb, List.append_assoc, List.length_append, insA, encIns, ins_dec, ins_dec0, ins_eta, noIns, *]) <;> rfl) (fun hc => ?_) (fun hc => ?_) <;> try simp only [seval, decide_eq_true_eq, decide_eq_false_iff_not, Bool.not_eq_true', Bool.not_eq_false', Bool.not_true, Bool.not_false] at hc) | (refine wqG_split (by (simp only [seval, ev1, ev2, ev3, ev4, beq_self_eq_true, encB_def, encS_def, encI_def, sb, List.append_assoc, List.length_append, insA, encIns, ins_dec, ins_dec0, ins_eta, noIns, *]) <;> rfl) (fun hc => ?_) (fun hc => ?_) <;> try simp only [seval, decide_eq_true_eq, decide_eq_false_iff_not, Bool.not_eq_true', Bool.not_eq_false', Bool.not_true, Bool.not_false] at hc) | refine ACalls.inst ?_ | refine CallP.inst rfl ?_)
    first | refine ACalls.pure (h1.of) ?_ | refine CallP.pure (h1.of) rfl ?_
    repeat' (first | simp only [seval, ev1, ev2, ev3, ev4, beq_self_eq_true, encB_def, encS_def, encI_def, sb, List.append_assoc, List.length_append, insA, encIns, ins_dec, ins_dec0, ins_eta, noIns, *] | simp (disch := omega) only [if_pos, if_neg] | refine R.seq ?_ | refine LCB.text ?_ | refine LCB.quiet rfl ?_ | refine R.calls rfl ?_ | refine R.block ?_ | refine LCB.skip ?_ | refine LCB.exit ?_ | refine LCB.ret ?_ | (refine RetOk.val hcl ?_; simp only [seval, ev1, ev2, ev3, wk, List.forall_mem_cons, List.forall_mem_map, List.forall_mem_append, List.not_mem_nil, encB_def, encS_def, encI_def, sb, List.append_assoc, List.length_append, insA, encIns, ins_dec, ins_dec0, ins_eta, noIns, *]) | (refine Weak.at hcl ?_; simp only [seval, ev1, ev2, ev3, wk, List.forall_mem_cons, List.forall_mem_map, List.forall_mem_append, List.not_mem_nil, encB_def, encS_def, encI_def, sb, List.append_assoc, List.length_append, insA, encIns, ins_dec, ins_dec0, ins_eta, noIns, *]) | (refine LCB.cond (by (simp only [seval, ev1, ev2, ev3, ev4, beq_self_eq_true, encB_def, encS_def, encI_def, sb, List.append_assoc, List.length_append, insA, encIns, ins_dec, ins_dec0, ins_eta, noIns, *]) <;> rfl) (fun hc => ?_) (fun hc => ?_) <;> try simp only [seval, decide_eq_true_eq, decide_eq_false_iff_not, Bool.not_eq_true', Bool.not_eq_false', Bool.not_true, Bool.not_false] at hc) | (refine wpG_split (by (simp only [seval, ev1, ev2, ev3, ev4, beq_self_eq_true, encB_def, encS_def, encI_def, sb, List.append_assoc, List.length_append, insA, encIns, ins_dec, ins_dec0, ins_eta, noIns, *]) <;> rfl) (fun hc => ?_) (fun hc => ?_) <;> try simp only [seval, decide_eq_true_eq, decide_eq_false_iff_not, Bool.not_eq_true', Bool.not_eq_false', Bool.not_true, Bool.not_false] at hc) | (refine wqG_split (by (simp only [seval, ev1, ev2, ev3, ev4, beq_self_eq_true, encB_def, encS_def, encI_def, sb, List.append_assoc, List.length_append, insA, encIns, ins_dec, ins_dec0, ins_eta, noIns, *]) <;> rfl) (fun hc => ?_) (fun hc => ?_) <;> try simp only [seval, decide_eq_true_eq, decide_eq_false_iff_not, Bool.not_eq_true', Bool.not_eq_false', Bool.not_true, Bool.not_false] at hc) | refine ACalls.inst ?_ | refine CallP.inst rfl ?_)
    refine LCB.any ?_
    repeat' (first | simp only [wpP, wpPs, wpT_none, pureStep, seval, ev1, ev2, ev3, ev4, encB_def, encS_def, encI_def, sb, List.append_assoc, List.length_append, insA, encIns, ins_dec, ins_dec0, ins_eta, noIns, *] | simp (disch := omega) only [if_pos, if_neg] | refine ACalls.pure h2.of ?_ | constructor)
    all_goals repeat' (first | simp only [seval, ev1, ev2, ev3, ev4, beq_self_eq_true, encB_def, encS_def, encI_def, sb, List.append_assoc, List.length_append, insA, encIns, ins_dec, ins_dec0, ins_eta, noIns, *] | simp (disch := omega) only [if_pos, if_neg] | refine R.seq ?_ | refine LCB.text ?_ | refine LCB.quiet rfl ?_ | refine R.calls rfl ?_ | refine R.block ?_ | refine LCB.skip ?_ | refine LCB.exit ?_ | refine LCB.ret ?_ | (refine RetOk.val hcl ?_; simp only [seval, ev1, ev2, ev3, wk, List.forall_mem_cons, List.forall_mem_map, List.forall_mem_append, List.not_mem_nil, encB_def, encS_def, encI_def, sb, List.append_assoc, List.length_append, insA, encIns, ins_dec, ins_dec0, ins_eta, noIns, *]) | (refine Weak.at hcl ?_; simp only [seval, ev1, ev2, ev3, wk, List.forall_mem_cons, List.forall_mem_map, List.forall_mem_append, List.not_mem_nil, encB_def, encS_def, encI_def, sb, List.append_assoc, List.length_append, insA, encIns, ins_dec, ins_dec0, ins_eta, noIns, *]) | (refine LCB.cond (by (simp only [seval, ev1, ev2, ev3, ev4, beq_self_eq_true, encB_def, encS_def, encI_def, sb, List.append_assoc, List.length_append, insA, encIns, ins_dec, ins_dec0, ins_eta, noIns, *]) <;> rfl) (fun hc => ?_) (fun hc => ?_) <;> try simp only [seval, decide_eq_true_eq, decide_eq_false_iff_not, Bool.not_eq_true', Bool.not_eq_false', Bool.not_true, Bool.not_false] at hc) | (refine wpG_split (by (simp only [seval, ev1, ev2, ev3, ev4, beq_self_eq_true, encB_def, encS_def, encI_def, sb, List.append_assoc, List.length_append, insA, encIns, ins_dec, ins_dec0, ins_eta, noIns, *]) <;> rfl) (fun hc => ?_) (fun hc => ?_) <;> try simp only [seval, decide_eq_true_eq, decide_eq_false_iff_not, Bool.not_eq_true', Bool.not_eq_false', Bool.not_true, Bool.not_false] at hc) | (refine wqG_split (by (simp only [seval, ev1, ev2, ev3, ev4, beq_self_eq_true, encB_def, encS_def, encI_def, sb, List.append_assoc, List.length_append, insA, encIns, ins_dec, ins_dec0, ins_eta, noIns, *]) <;> rfl) (fun hc => ?_) (fun hc => ?_) <;> try simp only [seval, decide_eq_true_eq, decide_eq_false_iff_not, Bool.not_eq_true', Bool.not_eq_false', Bool.not_true, Bool.not_false] at hc) | refine ACalls.inst ?_ | refine CallP.inst rfl ?_)
  · rw [if_neg k1] at h1
    replace h1 := Hold.mk h1
    repeat' (first | simp only [seval, ev1, ev2, ev3, ev4, beq_self_eq_true, encB_def, encS_def, encI_def, sb, List.append_assoc, List.length_append, insA, encIns, ins_dec, ins_dec0, ins_eta, noIns, *] | simp (disch := omega) only [if_pos, if_neg] | refine R.seq ?_ | refine LCB.text ?_ | refine LCB.quiet rfl ?_ | refine R.calls rfl ?_ | refine R.block ?_ | refine LCB.skip ?_ | refine LCB.exit ?_ | refine LCB.ret ?_ | (refine RetOk.val hcl ?_; simp only [seval, ev1, ev2, ev3, wk, List.forall_mem_cons, List.forall_mem_map, List.forall_mem_append, List.not_mem_nil, encB_def, encS_def, encI_def, sb, List.append_assoc, List.length_append, insA, encIns, ins_dec, ins_dec0, ins_eta, noIns, *]) | (refine Weak.at hcl ?_; simp only [seval, ev1, ev2, ev3, wk, List.forall_mem_cons, List.forall_mem_map, List.forall_mem_append, List.not_mem_nil, encB_def, encS_def, encI_def, sb, List.append_assoc, List.length_append, insA, encIns, ins_dec, ins_dec0, ins_eta, noIns, *]) | (refine LCB.cond (by (simp only [seval, ev1, ev2, ev3, ev4, beq_self_eq_true, encB_def, encS_def, encI_def, sb, List.append_assoc, List.length_append, insA, encIns, ins_dec, ins_dec0, ins_eta, noIns, *]) <;> rfl) (fun hc => ?_) (fun hc => ?_) <;> try simp only [seval, decide_eq_true_eq, decide_eq_false_iff_not, Bool.not_eq_true', Bool.not_eq_false', Bool.not_true, Bool.not_false] at hc) | (refine wpG_split (by (simp only [seval, ev1, ev2, ev3, ev4, beq_self_eq_true, encB_def, encS_def, encI_def, sb, List.append_assoc, List.length_append, insA, encIns, ins_dec, ins_dec0, ins_eta, noIns, *]) <;> rfl) (fun hc => ?_) (fun hc => ?_) <;> try simp only [seval, decide_eq_true_eq, decide_eq_false_iff_not, Bool.not_eq_true', Bool.not_eq_false', Bool.not_true, Bool.not_false] at hc) | (refine wqG_split (by (simp only [seval, ev1, ev2, ev3, ev4, beq_self_eq_true, encB_def, encS_def, encI_def, sb, List.append_assoc, List.length_append, insA, encIns, ins_dec, ins_dec0, ins_eta, noIns, *]) <;> rfl) (fun hc => ?_) (fun hc => ?_) <;> try simp only [seval, decide_eq_true_eq, decide_eq_false_iff_not, Bool.not_eq_true', Bool.not_eq_false', Bool.not_true, Bool.not_false] at hc) | refine ACalls.inst ?_ | refine CallP.inst rfl ?_)
    first | refine ACalls.pure (h1.of) ?_ | refine CallP.pure (h1.of) rfl ?_
    repeat' (first | simp only [seval, ev1, ev2, ev3, ev4, beq_self_eq_true, encB_def, encS_def, encI_def, sb, List.append_assoc, List.length_append, insA, encIns, ins_dec, ins_dec0, ins_eta, noIns, *] | simp (disch := omega) only [if_pos, if_neg] | refine R.seq ?_ | refine LCB.text ?_ | refine LCB.quiet rfl ?_ | refine R.calls rfl ?_ | refine R.block ?_ | refine LCB.skip ?_ | refine LCB.exit ?_ | refine LCB.ret ?_ | (refine RetOk.val hcl ?_; simp only [seval, ev1, ev2, ev3, wk, List.forall_mem_cons, List.forall_mem_map, List.forall_mem_append, List.not_mem_nil, encB_def, encS_def, encI_def, sb, List.append_assoc, List.length_append, insA, encIns, ins_dec, ins_dec0, ins_eta, noIns, *]) | (refine Weak.at hcl ?_; simp only [seval, ev1, ev2, ev3, wk, List.forall_mem_cons, List.forall_mem_map, List.forall_mem_append, List.not_mem_nil, encB_def, encS_def, encI_def, sb, List.append_assoc, List.length_append, insA, encIns, ins_dec, ins_dec0, ins_eta, noIns, *]) | (refine LCB.cond (by (simp only [seval, ev1, ev2, ev3, ev4, beq_self_eq_true, encB_def, encS_def, encI_def, sb, List.append_assoc, List.length_append, insA, encIns, ins_dec, ins_dec0, ins_eta, noIns, *]) <;> rfl) (fun hc => ?_) (fun hc => ?_) <;> try simp only [seval, decide_eq_true_eq, decide_eq_false_iff_not, Bool.not_eq_true', Bool.not_eq_false', Bool.not_true, Bool.not_false] at hc) | (refine wpG_split (by (simp only [seval, ev1, ev2, ev3, ev4, beq_self_eq_true, encB_def, encS_def, encI_def, sb, List.append_assoc, List.length_append, insA, encIns, ins_dec, ins_dec0, ins_eta, noIns, *]) <;> rfl) (fun hc => ?_) (fun hc => ?_) <;> try simp only [seval, decide_eq_true_eq, decide_eq_false_iff_not, Bool.not_eq_true', Bool.not_eq_false', Bool.not_true, Bool.not_false] at hc) | (refine wqG_split (by (simp only [seval, ev1, ev2, ev3, ev4, beq_self_eq_true, encB_def, encS_def, encI_def, sb, List.append_assoc, List.length_append, insA, encIns, ins_dec, ins_dec0, ins_eta, noIns, *]) <;> rfl) (fun hc => ?_) (fun hc => ?_) <;> try simp only [seval, decide_eq_true_eq, decide_eq_false_iff_not, Bool.not_eq_true', Bool.not_eq_false', Bool.not_true, Bool.not_false] at hc) | refine ACalls.inst ?_ | refine CallP.inst rfl ?_)

theorem insSpaces_law : ∀ av, FitAs [.agg insSh, .one (.int .u8)] av → ACalls Tryd.prog 11 av [] fun r _ => r = .bool true := by
  rintro _ ⟨a, _, rfl, h1, b, _, rfl, h2, rfl⟩
  obtain ⟨x, rfl, hx⟩ := h1.ins
  obtain ⟨m, rfl, hm⟩ := h2.u8
  exact (InsSpaces_ok x (ok_of hx) m hm).law

set_option maxRecDepth 100000 in
theorem insSpaces_lifted (os : Os) (started : os.Started) (H : Type) (enc : TypeId × Value → H) :
    ReturnsInHanded {} Tryd.checked os 11 .any (fun w args => (Rows.insSpacesSpec.pre enc Tryd.prog Tryd.f11 [] false w args ∧ laidMetH Tryd.prog laidL w) ∧ sizedMet enc Tryd.prog Tryd.f11 (OpenSpec.ofChange Rows.insSpacesSpec) false w args)
      (Rows.insSpacesSpec.post enc Tryd.prog Tryd.f11 false true false false) := by
  refine returnsInHanded_of_change_and (C := Tryd.checked) (X := fun w _ => laidMetH Tryd.prog laidL w) (fun _ _ _ hh h => h.of_heap hh) own_ok started (by kernel_rfl) Tryd.func11
    (ChangeSpec.witness_shaped (enc := enc) (C := Tryd.checked) (os := os) (X := fun w _ => laidMetH Tryd.prog laidL w) false (World.doorLaid Tryd.prog 400 os) #[.agg #[.int .i64 0, .int .i64 0, .int .i64 0, .int .i64 0, .int .i64 0, .int .i64 0], .int .u8 0] 8 rfl (World.shaped_of_RefB (by kernel_rfl) (by kernel_rfl)) (by kernel_rfl) (by kernel_rfl) (by kernel_rfl) (door_met os _)) ?_
  intro W base args ds gs before hval0 hW _ _ hL _
  exact law_contract (base := base) laid_ok rfl (by kernel_rfl) (by kernel_rfl) (by kernel_rfl)
    (fun ds hl => by
      match ds, hl with
      | [d1, d2], _ => rfl) (glob_of_laid hL) insSpaces_law hval0 hW

set_option maxRecDepth 100000 in
theorem insSpaces_row : Rows.InsSpacesSaid :=
  OpenClaim.holds_of_wide 11 Tryd.f11 rfl rfl rfl rfl rfl rfl rfl ⟨rfl, rfl, rfl, rfl, rfl⟩ rfl rfl rfl rfl rfl (by kernel_rfl) Tryd.func11 (by kernel_rfl)
    (of_decide_eq_true (by kernel_rfl)) (by unfold Func.isWrapper; first | (rw [if_pos (by decide +kernel)]; kernel_rfl) | (rw [if_neg (by decide +kernel)]; exact ⟨rfl, rfl⟩))
    (fun os started H enc _ => insSpaces_lifted os started H enc)

set_option maxRecDepth 100000 in
/-- **InsSpaces.** -/
theorem insSpaces_holds : Rows.InsSpacesCardSaid :=
  Claim7.holds_tied_plain_at .later [] [.data] true (true, "ea436687d0deeacd77ca67d6f208ce3885f48303042962dd21798ef3c4b6c9cf") false
    insSpaces_row (fun _ h => by cases h) (by kernel_rfl) (fun _ h => by cases h) insSpaces_row_tie rfl ⟨rfl, rfl⟩ (by kernel_rfl) rfl
    (fun f fn hf hfn => by
      obtain rfl : f = 11 := Option.some.inj ((show Tryd.prog.funcNamed "joinery/joinerylaw03.InsSpaces" = some 11 by kernel_rfl).symm.trans hf) |>.symm
      obtain rfl : fn = Tryd.f11 := (Option.some.inj (Tryd.func11.symm.trans hfn)).symm
      exact ⟨by kernel_rfl, fun j t ht => by
        have hall : (Tryd.f11.params.toList.all fun u => !Tryd.prog.wantsStandIn u) = true := by kernel_rfl
        have hm : t ∈ Tryd.f11.params.toList := by
          have := Array.mem_of_getElem? ht
          simpa using this
        exact (show Tryd.prog.wantsStandIn t = false by simpa using List.all_eq_true.1 hall t hm)⟩)
    (by kernel_rfl)
end Go.Proofs.YtegelpmmnddmnaaDoor
