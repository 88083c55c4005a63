/-
  AsmParses, of every text: it is the function that the document says, or the place and the error are told; the place is not beyond the text's end.
-/
import Derived.Test.YtoiceinjademgaaDoorE7
import Derived.Test.YtoiceinjademgaaDoorGP
namespace Go.Proofs.YtoiceinjademgaaDoor
open Go.ChangeShapes Go.WideShapes Go.ChangeAt Go.RowKit
set_option linter.unusedVariables false
set_option linter.unusedSimpArgs false
/-- A text's lines, with what ends them. -/
def lns : List UInt8 → List UInt8 → List (List UInt8)
  | cur, [] => if cur.length = 0 then [] else [cur]
  | cur, c :: r => if c = 10 then (cur ++ [10]) :: lns [] r else lns (cur ++ [c]) r
theorem lns_skip {cur r : List UInt8} {c : UInt8} (h : ¬ c = 10) : lns cur (c :: r) = lns (cur ++ [c]) r := by rw [lns, if_neg h]
theorem lns_cut {cur r : List UInt8} : lns cur (10 :: r) = (cur ++ [10]) :: lns [] r := by rw [lns, if_pos rfl]
theorem lns_pos : ∀ (r cur : List UInt8), ∀ l ∈ lns cur r, 0 < l.length
  | [], cur, l, h => by
    rw [lns] at h
    split at h
    · simp at h
    · rw [List.mem_singleton.1 h]; omega
  | c :: r, cur, l, h => by
    rw [lns] at h
    split at h
    · rcases List.mem_cons.1 h with rfl | h
      · simp
      · exact lns_pos r [] l h
    · exact lns_pos r _ l h
def sumL (L : List (List UInt8)) : Nat := (L.map List.length).sum
theorem sumL_cons {l : List UInt8} {L : List (List UInt8)} : sumL (l :: L) = l.length + sumL L := by simp [sumL]
theorem lns_sum : ∀ (r cur : List UInt8), sumL (lns cur r) = cur.length + r.length
  | [], cur => by
    rw [lns]
    split
    · rename_i h; simp [sumL, h]
    · simp [sumL]
  | c :: r, cur => by
    rw [lns]
    split
    · rw [sumL_cons, lns_sum r []]; simp; omega
    · rw [lns_sum r _]; simp; omega
theorem sumL_le : ∀ (L : List (List UInt8)), (∀ l ∈ L, 0 < l.length) → L.length ≤ sumL L
  | [], _ => Nat.zero_le _
  | l :: L, h => by
    have h1 := sumL_le L fun x hx => h x (by simp [hx])
    have h2 := h l (by simp)
    rw [sumL_cons, List.length_cons]
    omega
/-- What lines are. -/
def scanL : Nat → List (List UInt8) → List Ins → List Nat → Except Nat (List Ins × List Nat)
  | _, [], f, bg => .ok (f, bg)
  | fr, l :: L, f, bg => if l.getD (l.length - 1) 0 = 10 then match parseIns (l.take (l.length - 1)) with
      | some x => scanL (fr + l.length) L (f ++ [x]) (bg ++ [fr])
      | none => .error fr
    else .error fr
theorem scanL_lns : ∀ (r cur : List UInt8) (fr : Nat) (f : List Ins) (bg : List Nat), (∀ c ∈ cur, c ≠ 10) → scanL fr (lns cur r) f bg = scan fr cur r f bg
  | [], cur, fr, f, bg, h => by
    rw [lns, scan]
    split
    · rfl
    · rename_i h0
      rw [scanL, if_neg]
      have : cur.length - 1 < cur.length := by omega
      rw [List.getD_eq_getElem?_getD, List.getElem?_eq_getElem this, Option.getD_some]
      exact h _ (List.getElem_mem this)
  | c :: r, cur, fr, f, bg, h => by
    rw [lns, scan]
    split
    · have e1 : (cur ++ [10]).length - 1 = cur.length := by simp
      rw [scanL, e1, List.take_left' rfl, if_pos (by simp [List.getD])]
      cases hp : parseIns cur with
      | none => rfl
      | some x =>
        simp only
        rw [scanL_lns r [] _ _ _ (by simp)]
        congr 1
        simp; omega
    · rename_i hc
      rw [scanL_lns r _ _ _ _ (fun d hd => by
        rcases List.mem_append.1 hd with hd | hd
        · exact h d hd
        · rw [List.mem_singleton.1 hd]; exact hc)]
theorem ref04_lines_ok (s : List UInt8) (hs : s.length ≤ 1000000) : Pure Tryd.prog 26 [.str (bs s)] (.list ((lns [] s).map encS)) := by
  intro H
  refine ACalls.go joineryref04_lines.low (by simp) fun hcl => ?_
  generalize hL : lns [] s = L
  replace hL := Hold.mk hL
  repeat' (first | simp only [seval, ev1, ev2, ev3, ev4, beq_self_eq_true, encB_def, encS_def, encN_def, sb, insA, encIns, ins_dec, ins_eta, *] | simp (disch := omega) only [if_pos, if_neg] | refine R.seq ?_ | refine LCB.text ?_ | refine LCB.quiet rfl ?_ | refine R.calls rfl ?_ | refine R.block ?_ | refine LCB.skip ?_ | refine LCB.exit ?_ | refine LCB.ret ?_ | (refine RetOk.val hcl ?_; simp only [seval, ev1, ev2, ev3, wk, List.forall_mem_cons, List.forall_mem_map, List.forall_mem_append, List.not_mem_nil, encB_def, encS_def, encN_def, sb, insA, encIns, ins_dec, ins_eta, *]) | (refine Weak.at hcl ?_; simp only [seval, ev1, ev2, ev3, wk, List.forall_mem_cons, List.forall_mem_map, List.forall_mem_append, List.not_mem_nil, encB_def, encS_def, encN_def, sb, insA, encIns, ins_dec, ins_eta, *]) | (refine LCB.cond (by (simp only [seval, ev1, ev2, ev3, ev4, beq_self_eq_true, encB_def, encS_def, encN_def, sb, insA, encIns, ins_dec, ins_eta, *]) <;> rfl) (fun hc => ?_) (fun hc => ?_) <;> try simp only [seval, decide_eq_true_eq, decide_eq_false_iff_not, Bool.not_eq_true', Bool.not_eq_false', Bool.not_true, Bool.not_false] at hc) | (refine wpG_split (by (simp only [seval, ev1, ev2, ev3, ev4, beq_self_eq_true, encB_def, encS_def, encN_def, sb, insA, encIns, ins_dec, ins_eta, *]) <;> rfl) (fun hc => ?_) (fun hc => ?_) <;> try simp only [seval, decide_eq_true_eq, decide_eq_false_iff_not, Bool.not_eq_true', Bool.not_eq_false', Bool.not_true, Bool.not_false] at hc) | (refine wqG_split (by (simp only [seval, ev1, ev2, ev3, ev4, beq_self_eq_true, encB_def, encS_def, encN_def, sb, insA, encIns, ins_dec, ins_eta, *]) <;> rfl) (fun hc => ?_) (fun hc => ?_) <;> try simp only [seval, decide_eq_true_eq, decide_eq_false_iff_not, Bool.not_eq_true', Bool.not_eq_false', Bool.not_true, Bool.not_false] at hc) | refine ACalls.inst ?_ | refine CallP.inst rfl ?_)
  refine R.loop (S := Nat × Nat × List (List UInt8)) ⟨fun x => [(0, .str (bs s)), (3, .sl 1 H.length x.2.2.length 0 x.2.2.length), (4, .int .i64 (x.2.1 : Int)), (5, .int .i64 (x.1 : Int))], fun x => H ++ [.vec 1 (x.2.2.map encS)],
    fun x => x.1 ≤ s.length ∧ x.2.1 ≤ x.1 ∧ x.2.2.length ≤ x.1 ∧ x.2.2 ++ lns ((s.take x.1).drop x.2.1) (s.drop x.1) = L, fun x => s.length - x.1⟩ (0, 0, []) ⟨Nat.zero_le _, Nat.zero_le _, Nat.zero_le _, by rw [← hL.of]; simp⟩ ((Weak.growAt 3 1 (by omega) (by simp only [seval, ev1, ev2, ev3, ev4, beq_self_eq_true, encB_def, encS_def, encN_def, sb, insA, encIns, ins_dec, ins_eta, *])).trans (Weak.at hcl ?_)) ?_
  · simp only [seval, ev1, ev2, ev3, wk, List.forall_mem_cons, List.forall_mem_map, List.forall_mem_append, List.not_mem_nil, encB_def, encS_def, encN_def, sb, insA, encIns, ins_dec, ins_eta, *]
  rintro ⟨p, fr, out⟩ ⟨hp, hfr, hol, hq⟩
  simp only at hp hfr hol hq ⊢
  have b1 : (out.length + 1) * 16 ≤ 140737488355328 := by omega
  have b2 : out.length ≤ 9223372036854775806 := by omega
  by_cases hlt : p < s.length
  · have e1 : (p : Int) < (s.length : Int) := by omega
    have e2 : IntKind.i64.wrap ((p : Int) + 1) = ((p + 1 : Nat) : Int) := by rw [IntKind.wrap_i64]; omega
    have e3 : (fr : Int) ≤ ((p + 1 : Nat) : Int) := by omega
    have e4 : ((p + 1 : Nat) : Int) ≤ (s.length : Int) := by omega
    have hx : (s.take p).drop fr ++ [s.getD p 0] = (s.take (p + 1)).drop fr := by
      rw [take_all hlt, List.drop_append_of_le_length (by simp; omega)]
    rw [drop_at hlt] at hq
    by_cases hc10 : s.getD p 0 = 10
    · rw [hc10, lns_cut, ← hc10, hx] at hq
      have e7 : ((s.getD p 0).toNat : Int) = 10 := by rw [hc10]; rfl
      replace hq := Hold.mk hq
      replace hx := Hold.mk hx
      replace hc10 := Hold.mk hc10
      repeat' (first | simp only [seval, ev1, ev2, ev3, ev4, beq_self_eq_true, encB_def, encS_def, encN_def, sb, insA, encIns, ins_dec, ins_eta, *] | simp (disch := omega) only [if_pos, if_neg] | refine R.seq ?_ | refine LCB.text ?_ | refine LCB.quiet rfl ?_ | refine R.calls rfl ?_ | refine R.block ?_ | refine LCB.skip ?_ | refine LCB.exit ?_ | refine LCB.ret ?_ | (refine RetOk.val hcl ?_; simp only [seval, ev1, ev2, ev3, wk, List.forall_mem_cons, List.forall_mem_map, List.forall_mem_append, List.not_mem_nil, encB_def, encS_def, encN_def, sb, insA, encIns, ins_dec, ins_eta, *]) | (refine Weak.at hcl ?_; simp only [seval, ev1, ev2, ev3, wk, List.forall_mem_cons, List.forall_mem_map, List.forall_mem_append, List.not_mem_nil, encB_def, encS_def, encN_def, sb, insA, encIns, ins_dec, ins_eta, *]) | (refine LCB.cond (by (simp only [seval, ev1, ev2, ev3, ev4, beq_self_eq_true, encB_def, encS_def, encN_def, sb, insA, encIns, ins_dec, ins_eta, *]) <;> rfl) (fun hc => ?_) (fun hc => ?_) <;> try simp only [seval, decide_eq_true_eq, decide_eq_false_iff_not, Bool.not_eq_true', Bool.not_eq_false', Bool.not_true, Bool.not_false] at hc) | (refine wpG_split (by (simp only [seval, ev1, ev2, ev3, ev4, beq_self_eq_true, encB_def, encS_def, encN_def, sb, insA, encIns, ins_dec, ins_eta, *]) <;> rfl) (fun hc => ?_) (fun hc => ?_) <;> try simp only [seval, decide_eq_true_eq, decide_eq_false_iff_not, Bool.not_eq_true', Bool.not_eq_false', Bool.not_true, Bool.not_false] at hc) | (refine wqG_split (by (simp only [seval, ev1, ev2, ev3, ev4, beq_self_eq_true, encB_def, encS_def, encN_def, sb, insA, encIns, ins_dec, ins_eta, *]) <;> rfl) (fun hc => ?_) (fun hc => ?_) <;> try simp only [seval, decide_eq_true_eq, decide_eq_false_iff_not, Bool.not_eq_true', Bool.not_eq_false', Bool.not_true, Bool.not_false] at hc) | refine ACalls.inst ?_ | refine CallP.inst rfl ?_)
      refine ⟨(p + 1, p + 1, out ++ [(s.take (p + 1)).drop fr]), ⟨hlt, Nat.le_refl _, by simp only [List.length_append, List.length_cons, List.length_nil]; omega, ?_⟩, by simp only; omega, Weak.at hcl ?_⟩
      · simp only
        rw [← hq.of]
        simp
      · simp only [seval, ev1, ev2, ev3, wk, List.forall_mem_cons, List.forall_mem_map, List.forall_mem_append, List.not_mem_nil, encB_def, encS_def, encN_def, sb, insA, encIns, ins_dec, ins_eta, *]
    · rw [lns_skip hc10, hx] at hq
      have e7 : ¬ ((s.getD p 0).toNat : Int) = 10 := fun e => hc10 (UInt8.toNat_inj.1 (by have : (10 : UInt8).toNat = 10 := rfl; omega))
      replace hq := Hold.mk hq
      replace hx := Hold.mk hx
      replace hc10 := Hold.mk hc10
      repeat' (first | simp only [seval, ev1, ev2, ev3, ev4, beq_self_eq_true, encB_def, encS_def, encN_def, sb, insA, encIns, ins_dec, ins_eta, *] | simp (disch := omega) only [if_pos, if_neg] | refine R.seq ?_ | refine LCB.text ?_ | refine LCB.quiet rfl ?_ | refine R.calls rfl ?_ | refine R.block ?_ | refine LCB.skip ?_ | refine LCB.exit ?_ | refine LCB.ret ?_ | (refine RetOk.val hcl ?_; simp only [seval, ev1, ev2, ev3, wk, List.forall_mem_cons, List.forall_mem_map, List.forall_mem_append, List.not_mem_nil, encB_def, encS_def, encN_def, sb, insA, encIns, ins_dec, ins_eta, *]) | (refine Weak.at hcl ?_; simp only [seval, ev1, ev2, ev3, wk, List.forall_mem_cons, List.forall_mem_map, List.forall_mem_append, List.not_mem_nil, encB_def, encS_def, encN_def, sb, insA, encIns, ins_dec, ins_eta, *]) | (refine LCB.cond (by (simp only [seval, ev1, ev2, ev3, ev4, beq_self_eq_true, encB_def, encS_def, encN_def, sb, insA, encIns, ins_dec, ins_eta, *]) <;> rfl) (fun hc => ?_) (fun hc => ?_) <;> try simp only [seval, decide_eq_true_eq, decide_eq_false_iff_not, Bool.not_eq_true', Bool.not_eq_false', Bool.not_true, Bool.not_false] at hc) | (refine wpG_split (by (simp only [seval, ev1, ev2, ev3, ev4, beq_self_eq_true, encB_def, encS_def, encN_def, sb, insA, encIns, ins_dec, ins_eta, *]) <;> rfl) (fun hc => ?_) (fun hc => ?_) <;> try simp only [seval, decide_eq_true_eq, decide_eq_false_iff_not, Bool.not_eq_true', Bool.not_eq_false', Bool.not_true, Bool.not_false] at hc) | (refine wqG_split (by (simp only [seval, ev1, ev2, ev3, ev4, beq_self_eq_true, encB_def, encS_def, encN_def, sb, insA, encIns, ins_dec, ins_eta, *]) <;> rfl) (fun hc => ?_) (fun hc => ?_) <;> try simp only [seval, decide_eq_true_eq, decide_eq_false_iff_not, Bool.not_eq_true', Bool.not_eq_false', Bool.not_true, Bool.not_false] at hc) | refine ACalls.inst ?_ | refine CallP.inst rfl ?_)
      refine ⟨(p + 1, fr, out), ⟨hlt, by simp only; omega, by simp only; omega, hq.of⟩, by simp only; omega, Weak.at hcl ?_⟩
      simp only [seval, ev1, ev2, ev3, wk, List.forall_mem_cons, List.forall_mem_map, List.forall_mem_append, List.not_mem_nil, encB_def, encS_def, encN_def, sb, insA, encIns, ins_dec, ins_eta, *]
  · have hp' : p = s.length := by omega
    subst hp'
    have e1 : ¬ (s.length : Int) < (s.length : Int) := by omega
    rw [List.drop_length, List.take_length, lns] at hq
    by_cases hend : fr < s.length
    · have e5 : (fr : Int) < (s.length : Int) := by omega
      have e6 : (fr : Int) ≤ (s.length : Int) := by omega
      rw [if_neg (by simp; omega)] at hq
      rw [← hq]
      replace hq := Hold.mk hq
      repeat' (first | simp only [seval, ev1, ev2, ev3, ev4, beq_self_eq_true, encB_def, encS_def, encN_def, sb, insA, encIns, ins_dec, ins_eta, *] | simp (disch := omega) only [if_pos, if_neg] | refine R.seq ?_ | refine LCB.text ?_ | refine LCB.quiet rfl ?_ | refine R.calls rfl ?_ | refine R.block ?_ | refine LCB.skip ?_ | refine LCB.exit ?_ | refine LCB.ret ?_ | (refine RetOk.val hcl ?_; simp only [seval, ev1, ev2, ev3, wk, List.forall_mem_cons, List.forall_mem_map, List.forall_mem_append, List.not_mem_nil, encB_def, encS_def, encN_def, sb, insA, encIns, ins_dec, ins_eta, *]) | (refine Weak.at hcl ?_; simp only [seval, ev1, ev2, ev3, wk, List.forall_mem_cons, List.forall_mem_map, List.forall_mem_append, List.not_mem_nil, encB_def, encS_def, encN_def, sb, insA, encIns, ins_dec, ins_eta, *]) | (refine LCB.cond (by (simp only [seval, ev1, ev2, ev3, ev4, beq_self_eq_true, encB_def, encS_def, encN_def, sb, insA, encIns, ins_dec, ins_eta, *]) <;> rfl) (fun hc => ?_) (fun hc => ?_) <;> try simp only [seval, decide_eq_true_eq, decide_eq_false_iff_not, Bool.not_eq_true', Bool.not_eq_false', Bool.not_true, Bool.not_false] at hc) | (refine wpG_split (by (simp only [seval, ev1, ev2, ev3, ev4, beq_self_eq_true, encB_def, encS_def, encN_def, sb, insA, encIns, ins_dec, ins_eta, *]) <;> rfl) (fun hc => ?_) (fun hc => ?_) <;> try simp only [seval, decide_eq_true_eq, decide_eq_false_iff_not, Bool.not_eq_true', Bool.not_eq_false', Bool.not_true, Bool.not_false] at hc) | (refine wqG_split (by (simp only [seval, ev1, ev2, ev3, ev4, beq_self_eq_true, encB_def, encS_def, encN_def, sb, insA, encIns, ins_dec, ins_eta, *]) <;> rfl) (fun hc => ?_) (fun hc => ?_) <;> try simp only [seval, decide_eq_true_eq, decide_eq_false_iff_not, Bool.not_eq_true', Bool.not_eq_false', Bool.not_true, Bool.not_false] at hc) | refine ACalls.inst ?_ | refine CallP.inst rfl ?_)
    · have e5 : ¬ (fr : Int) < (s.length : Int) := by omega
      rw [if_pos (by simp; omega), List.append_nil] at hq
      subst hq
      repeat' (first | simp only [seval, ev1, ev2, ev3, ev4, beq_self_eq_true, encB_def, encS_def, encN_def, sb, insA, encIns, ins_dec, ins_eta, *] | simp (disch := omega) only [if_pos, if_neg] | refine R.seq ?_ | refine LCB.text ?_ | refine LCB.quiet rfl ?_ | refine R.calls rfl ?_ | refine R.block ?_ | refine LCB.skip ?_ | refine LCB.exit ?_ | refine LCB.ret ?_ | (refine RetOk.val hcl ?_; simp only [seval, ev1, ev2, ev3, wk, List.forall_mem_cons, List.forall_mem_map, List.forall_mem_append, List.not_mem_nil, encB_def, encS_def, encN_def, sb, insA, encIns, ins_dec, ins_eta, *]) | (refine Weak.at hcl ?_; simp only [seval, ev1, ev2, ev3, wk, List.forall_mem_cons, List.forall_mem_map, List.forall_mem_append, List.not_mem_nil, encB_def, encS_def, encN_def, sb, insA, encIns, ins_dec, ins_eta, *]) | (refine LCB.cond (by (simp only [seval, ev1, ev2, ev3, ev4, beq_self_eq_true, encB_def, encS_def, encN_def, sb, insA, encIns, ins_dec, ins_eta, *]) <;> rfl) (fun hc => ?_) (fun hc => ?_) <;> try simp only [seval, decide_eq_true_eq, decide_eq_false_iff_not, Bool.not_eq_true', Bool.not_eq_false', Bool.not_true, Bool.not_false] at hc) | (refine wpG_split (by (simp only [seval, ev1, ev2, ev3, ev4, beq_self_eq_true, encB_def, encS_def, encN_def, sb, insA, encIns, ins_dec, ins_eta, *]) <;> rfl) (fun hc => ?_) (fun hc => ?_) <;> try simp only [seval, decide_eq_true_eq, decide_eq_false_iff_not, Bool.not_eq_true', Bool.not_eq_false', Bool.not_true, Bool.not_false] at hc) | (refine wqG_split (by (simp only [seval, ev1, ev2, ev3, ev4, beq_self_eq_true, encB_def, encS_def, encN_def, sb, insA, encIns, ins_dec, ins_eta, *]) <;> rfl) (fun hc => ?_) (fun hc => ?_) <;> try simp only [seval, decide_eq_true_eq, decide_eq_false_iff_not, Bool.not_eq_true', Bool.not_eq_false', Bool.not_true, Bool.not_false] at hc) | refine ACalls.inst ?_ | refine CallP.inst rfl ?_)
theorem fnChk_in {f : List Ins} (h : ¬ f.length = 0) : ∃ k : Nat, (fnChk f).1 = (k : Int) ∧ k < f.length := by
  by_cases h1 : 200 < f.length
  · exact ⟨0, by rw [fnChk_full h1]; rfl, by omega⟩
  · cases hb : badAt (f.length : Int) 0 f with
    | some q =>
      obtain ⟨i, e⟩ := q
      have := (badAt_some _ _ _ _ hb).2.2
      exact ⟨i, by rw [fnChk_bad h1 h hb], by omega⟩
    | none =>
      rw [fnChk_good h1 h hb]
      split
      · exact ⟨0, rfl, by omega⟩
      · exact ⟨f.length - 1, rfl, by omega⟩
theorem drop_lns {L : List (List UInt8)} {i : Nat} (h : i < L.length) : L.drop i = L.getD i [] :: L.drop (i + 1) := by
  rw [List.drop_eq_getElem_cons h]
  simp [List.getD, h]
set_option maxHeartbeats 2000000 in
theorem ref04_Parse_ok (s : List UInt8) (hs : s.length ≤ maxLen) : Pure Tryd.prog 18 [.str (bs s)] (fnR (fnParse s)) := by
  intro H
  refine ACalls.go joineryref04_Parse.low (by simp) fun hcl => ?_
  by_cases hbig : 20000 < s.length
  · have e1 : (20000 : Int) < (s.length : Int) := by omega
    have hr : fnR (fnParse s) = .tup [.list [], .int .i64 0, .int .i64 3] := by unfold fnParse; rw [if_pos hbig]; rfl
    repeat' (first | simp only [seval, ev1, ev2, ev3, ev4, beq_self_eq_true, encB_def, encS_def, encN_def, sb, insA, encIns, ins_dec, ins_eta, *] | simp (disch := omega) only [if_pos, if_neg] | refine R.seq ?_ | refine LCB.text ?_ | refine LCB.quiet rfl ?_ | refine R.calls rfl ?_ | refine R.block ?_ | refine LCB.skip ?_ | refine LCB.exit ?_ | refine LCB.ret ?_ | (refine RetOk.val hcl ?_; simp only [seval, ev1, ev2, ev3, wk, List.forall_mem_cons, List.forall_mem_map, List.forall_mem_append, List.not_mem_nil, encB_def, encS_def, encN_def, sb, insA, encIns, ins_dec, ins_eta, *]) | (refine Weak.at hcl ?_; simp only [seval, ev1, ev2, ev3, wk, List.forall_mem_cons, List.forall_mem_map, List.forall_mem_append, List.not_mem_nil, encB_def, encS_def, encN_def, sb, insA, encIns, ins_dec, ins_eta, *]) | (refine LCB.cond (by (simp only [seval, ev1, ev2, ev3, ev4, beq_self_eq_true, encB_def, encS_def, encN_def, sb, insA, encIns, ins_dec, ins_eta, *]) <;> rfl) (fun hc => ?_) (fun hc => ?_) <;> try simp only [seval, decide_eq_true_eq, decide_eq_false_iff_not, Bool.not_eq_true', Bool.not_eq_false', Bool.not_true, Bool.not_false] at hc) | (refine wpG_split (by (simp only [seval, ev1, ev2, ev3, ev4, beq_self_eq_true, encB_def, encS_def, encN_def, sb, insA, encIns, ins_dec, ins_eta, *]) <;> rfl) (fun hc => ?_) (fun hc => ?_) <;> try simp only [seval, decide_eq_true_eq, decide_eq_false_iff_not, Bool.not_eq_true', Bool.not_eq_false', Bool.not_true, Bool.not_false] at hc) | (refine wqG_split (by (simp only [seval, ev1, ev2, ev3, ev4, beq_self_eq_true, encB_def, encS_def, encN_def, sb, insA, encIns, ins_dec, ins_eta, *]) <;> rfl) (fun hc => ?_) (fun hc => ?_) <;> try simp only [seval, decide_eq_true_eq, decide_eq_false_iff_not, Bool.not_eq_true', Bool.not_eq_false', Bool.not_true, Bool.not_false] at hc) | refine ACalls.inst ?_ | refine CallP.inst rfl ?_)
  have e1 : ¬ (20000 : Int) < (s.length : Int) := by omega
  have hR : Hold (fnParse s = match scan 0 [] s [] [] with
    | .error fr => ([], (fr : Int), 2)
    | .ok (f, bg) => if (fnChk f).2 = 0 then (f, 0, 0) else ([], (if (fnChk f).1.toNat < bg.length then ((bg.getD (fnChk f).1.toNat 0 : Nat) : Int) else (fnChk f).1), (fnChk f).2)) := ⟨by unfold fnParse; rw [if_neg hbig]; cases scan 0 [] s [] [] <;> rfl⟩
  have hlines := ref04_lines_ok s (by omega)
  have hsc := scanL_lns s [] 0 [] [] (by simp)
  have hpos := lns_pos s []
  have hsum := lns_sum s []
  rw [List.length_nil, Nat.zero_add] at hsum
  generalize fnParse s = PR at *
  generalize scan 0 [] s [] [] = SC at *
  generalize lns [] s = L at *
  replace hsc := Hold.mk hsc
  replace hpos := Hold.mk hpos
  replace hsum := Hold.mk hsum
  replace hlines := Hold.mk hlines
  repeat' (first | simp only [seval, ev1, ev2, ev3, ev4, beq_self_eq_true, encB_def, encS_def, encN_def, sb, insA, encIns, ins_dec, ins_eta, *] | simp (disch := omega) only [if_pos, if_neg] | refine R.seq ?_ | refine LCB.text ?_ | refine LCB.quiet rfl ?_ | refine R.calls rfl ?_ | refine R.block ?_ | refine LCB.skip ?_ | refine LCB.exit ?_ | refine LCB.ret ?_ | (refine RetOk.val hcl ?_; simp only [seval, ev1, ev2, ev3, wk, List.forall_mem_cons, List.forall_mem_map, List.forall_mem_append, List.not_mem_nil, encB_def, encS_def, encN_def, sb, insA, encIns, ins_dec, ins_eta, *]) | (refine Weak.at hcl ?_; simp only [seval, ev1, ev2, ev3, wk, List.forall_mem_cons, List.forall_mem_map, List.forall_mem_append, List.not_mem_nil, encB_def, encS_def, encN_def, sb, insA, encIns, ins_dec, ins_eta, *]) | (refine LCB.cond (by (simp only [seval, ev1, ev2, ev3, ev4, beq_self_eq_true, encB_def, encS_def, encN_def, sb, insA, encIns, ins_dec, ins_eta, *]) <;> rfl) (fun hc => ?_) (fun hc => ?_) <;> try simp only [seval, decide_eq_true_eq, decide_eq_false_iff_not, Bool.not_eq_true', Bool.not_eq_false', Bool.not_true, Bool.not_false] at hc) | (refine wpG_split (by (simp only [seval, ev1, ev2, ev3, ev4, beq_self_eq_true, encB_def, encS_def, encN_def, sb, insA, encIns, ins_dec, ins_eta, *]) <;> rfl) (fun hc => ?_) (fun hc => ?_) <;> try simp only [seval, decide_eq_true_eq, decide_eq_false_iff_not, Bool.not_eq_true', Bool.not_eq_false', Bool.not_true, Bool.not_false] at hc) | (refine wqG_split (by (simp only [seval, ev1, ev2, ev3, ev4, beq_self_eq_true, encB_def, encS_def, encN_def, sb, insA, encIns, ins_dec, ins_eta, *]) <;> rfl) (fun hc => ?_) (fun hc => ?_) <;> try simp only [seval, decide_eq_true_eq, decide_eq_false_iff_not, Bool.not_eq_true', Bool.not_eq_false', Bool.not_true, Bool.not_false] at hc) | refine ACalls.inst ?_ | refine CallP.inst rfl ?_)
  first | refine ACalls.pure (hlines.of) ?_ | refine CallP.pure (hlines.of) rfl ?_
  repeat' (first | simp only [seval, ev1, ev2, ev3, ev4, beq_self_eq_true, encB_def, encS_def, encN_def, sb, insA, encIns, ins_dec, ins_eta, *] | simp (disch := omega) only [if_pos, if_neg] | refine R.seq ?_ | refine LCB.text ?_ | refine LCB.quiet rfl ?_ | refine R.calls rfl ?_ | refine R.block ?_ | refine LCB.skip ?_ | refine LCB.exit ?_ | refine LCB.ret ?_ | (refine RetOk.val hcl ?_; simp only [seval, ev1, ev2, ev3, wk, List.forall_mem_cons, List.forall_mem_map, List.forall_mem_append, List.not_mem_nil, encB_def, encS_def, encN_def, sb, insA, encIns, ins_dec, ins_eta, *]) | (refine Weak.at hcl ?_; simp only [seval, ev1, ev2, ev3, wk, List.forall_mem_cons, List.forall_mem_map, List.forall_mem_append, List.not_mem_nil, encB_def, encS_def, encN_def, sb, insA, encIns, ins_dec, ins_eta, *]) | (refine LCB.cond (by (simp only [seval, ev1, ev2, ev3, ev4, beq_self_eq_true, encB_def, encS_def, encN_def, sb, insA, encIns, ins_dec, ins_eta, *]) <;> rfl) (fun hc => ?_) (fun hc => ?_) <;> try simp only [seval, decide_eq_true_eq, decide_eq_false_iff_not, Bool.not_eq_true', Bool.not_eq_false', Bool.not_true, Bool.not_false] at hc) | (refine wpG_split (by (simp only [seval, ev1, ev2, ev3, ev4, beq_self_eq_true, encB_def, encS_def, encN_def, sb, insA, encIns, ins_dec, ins_eta, *]) <;> rfl) (fun hc => ?_) (fun hc => ?_) <;> try simp only [seval, decide_eq_true_eq, decide_eq_false_iff_not, Bool.not_eq_true', Bool.not_eq_false', Bool.not_true, Bool.not_false] at hc) | (refine wqG_split (by (simp only [seval, ev1, ev2, ev3, ev4, beq_self_eq_true, encB_def, encS_def, encN_def, sb, insA, encIns, ins_dec, ins_eta, *]) <;> rfl) (fun hc => ?_) (fun hc => ?_) <;> try simp only [seval, decide_eq_true_eq, decide_eq_false_iff_not, Bool.not_eq_true', Bool.not_eq_false', Bool.not_true, Bool.not_false] at hc) | refine ACalls.inst ?_ | refine CallP.inst rfl ?_)
  refine R.loop (S := Nat × Nat × List Ins × List Nat) ⟨fun x => [(0, .str (bs s)), (5, .list (L.map encS)), (6, .sl 6 H.length x.2.2.1.length 0 x.2.2.1.length), (7, .sl 1 (H.length + 1) x.2.2.2.length 0 x.2.2.2.length), (8, .int .i64 (x.2.1 : Int)), (9, .int .i64 (x.1 : Int))],
    fun x => H ++ [.vec 6 (x.2.2.1.map encIns), .vec 1 (x.2.2.2.map encN)],
    fun x => x.1 ≤ L.length ∧ x.2.2.1.length = x.1 ∧ x.2.2.2.length = x.1 ∧ x.2.1 + sumL (L.drop x.1) = s.length ∧ scanL x.2.1 (L.drop x.1) x.2.2.1 x.2.2.2 = SC, fun x => L.length - x.1⟩ (0, 0, [], []) ⟨Nat.zero_le _, rfl, rfl, by simp [hsum.of], hsc.of⟩
    ((Weak.growAt 6 6 (by omega) (by simp only [seval, ev1, ev2, ev3, ev4, beq_self_eq_true, encB_def, encS_def, encN_def, sb, insA, encIns, ins_dec, ins_eta, *])).trans ((Weak.growAt 7 1 (by omega) (by simp only [seval, ev1, ev2, ev3, ev4, beq_self_eq_true, encB_def, encS_def, encN_def, sb, insA, encIns, ins_dec, ins_eta, *])).trans (Weak.at hcl ?_))) ?_
  · simp only [seval, ev1, ev2, ev3, wk, List.forall_mem_cons, List.forall_mem_map, List.forall_mem_append, List.not_mem_nil, encB_def, encS_def, encN_def, sb, insA, encIns, ins_dec, ins_eta, *]
  rintro ⟨i, fr, f, bg⟩ ⟨hi, hfl, hbl, hsm, hq⟩
  simp only at hi hfl hbl hsm hq ⊢
  have hLs : L.length ≤ 20000 := by
    have h1 := sumL_le L hpos.of
    have h2 := hsum.of
    omega
  by_cases hlt : i < L.length
  · have hg := getD_map hlt
    have hlp : 0 < (L.getD i []).length := hpos.of _ (by simp [List.getD, hlt])
    rw [drop_lns hlt, scanL] at hq
    rw [drop_lns hlt, sumL_cons] at hsm
    have e2 : (i : Int) < (L.length : Int) := by omega
    have e3 : IntKind.i64.wrap ((i : Int) + 1) = ((i + 1 : Nat) : Int) := by rw [IntKind.wrap_i64]; omega
    have hpx := ref03_Parse_ok ((L.getD i []).take ((L.getD i []).length - 1)) (by rw [List.length_take]; omega)
    generalize L.getD i [] = l at *
    have e4 : IntKind.i64.wrap ((l.length : Int) - 1) = ((l.length - 1 : Nat) : Int) := by rw [IntKind.wrap_i64]; omega
    have e5 : ((l.length - 1 : Nat) : Int) < (l.length : Int) := by omega
    have e6 : ((l.length - 1 : Nat) : Int) ≤ (l.length : Int) := by omega
    have e8 : IntKind.i64.wrap ((fr : Int) + ((l.length - 1 : Nat) : Int)) = ((fr + (l.length - 1) : Nat) : Int) := by rw [IntKind.wrap_i64]; omega
    have e9 : IntKind.i64.wrap (((fr + (l.length - 1) : Nat) : Int) + 1) = ((fr + l.length : Nat) : Int) := by rw [IntKind.wrap_i64]; omega
    have b1 : (f.length + 1) * 48 ≤ 140737488355328 := by omega
    have b2 : f.length ≤ 9223372036854775806 := by omega
    have b3 : (bg.length + 1) * 8 ≤ 140737488355328 := by omega
    have b4 : bg.length ≤ 9223372036854775806 := by omega
    replace hsm := Hold.mk hsm
    replace hfl := Hold.mk hfl
    replace hbl := Hold.mk hbl
    by_cases hc10 : l.getD (l.length - 1) 0 = 10
    · rw [if_pos hc10] at hq
      have e7 : ((l.getD (l.length - 1) 0).toNat : Int) = 10 := by rw [hc10]; rfl
      replace hc10 := Hold.mk hc10
      cases hpi : parseIns (l.take (l.length - 1)) with
      | some x =>
        rw [hpi] at hq hpx
        simp only at hq
        unfold refR at hpx
        simp only at hpx
        replace hpx := Hold.mk hpx
        replace hq := Hold.mk hq
        replace hpi := Hold.mk hpi
        repeat' (first | simp only [seval, ev1, ev2, ev3, ev4, beq_self_eq_true, encB_def, encS_def, encN_def, sb, insA, encIns, ins_dec, ins_eta, *] | simp (disch := omega) only [if_pos, if_neg] | refine R.seq ?_ | refine LCB.text ?_ | refine LCB.quiet rfl ?_ | refine R.calls rfl ?_ | refine R.block ?_ | refine LCB.skip ?_ | refine LCB.exit ?_ | refine LCB.ret ?_ | (refine RetOk.val hcl ?_; simp only [seval, ev1, ev2, ev3, wk, List.forall_mem_cons, List.forall_mem_map, List.forall_mem_append, List.not_mem_nil, encB_def, encS_def, encN_def, sb, insA, encIns, ins_dec, ins_eta, *]) | (refine Weak.at hcl ?_; simp only [seval, ev1, ev2, ev3, wk, List.forall_mem_cons, List.forall_mem_map, List.forall_mem_append, List.not_mem_nil, encB_def, encS_def, encN_def, sb, insA, encIns, ins_dec, ins_eta, *]) | (refine LCB.cond (by (simp only [seval, ev1, ev2, ev3, ev4, beq_self_eq_true, encB_def, encS_def, encN_def, sb, insA, encIns, ins_dec, ins_eta, *]) <;> rfl) (fun hc => ?_) (fun hc => ?_) <;> try simp only [seval, decide_eq_true_eq, decide_eq_false_iff_not, Bool.not_eq_true', Bool.not_eq_false', Bool.not_true, Bool.not_false] at hc) | (refine wpG_split (by (simp only [seval, ev1, ev2, ev3, ev4, beq_self_eq_true, encB_def, encS_def, encN_def, sb, insA, encIns, ins_dec, ins_eta, *]) <;> rfl) (fun hc => ?_) (fun hc => ?_) <;> try simp only [seval, decide_eq_true_eq, decide_eq_false_iff_not, Bool.not_eq_true', Bool.not_eq_false', Bool.not_true, Bool.not_false] at hc) | (refine wqG_split (by (simp only [seval, ev1, ev2, ev3, ev4, beq_self_eq_true, encB_def, encS_def, encN_def, sb, insA, encIns, ins_dec, ins_eta, *]) <;> rfl) (fun hc => ?_) (fun hc => ?_) <;> try simp only [seval, decide_eq_true_eq, decide_eq_false_iff_not, Bool.not_eq_true', Bool.not_eq_false', Bool.not_true, Bool.not_false] at hc) | refine ACalls.inst ?_ | refine CallP.inst rfl ?_)
        first | refine ACalls.pure (hpx.of) ?_ | refine CallP.pure (hpx.of) rfl ?_
        repeat' (first | simp only [seval, ev1, ev2, ev3, ev4, beq_self_eq_true, encB_def, encS_def, encN_def, sb, insA, encIns, ins_dec, ins_eta, *] | simp (disch := omega) only [if_pos, if_neg] | refine R.seq ?_ | refine LCB.text ?_ | refine LCB.quiet rfl ?_ | refine R.calls rfl ?_ | refine R.block ?_ | refine LCB.skip ?_ | refine LCB.exit ?_ | refine LCB.ret ?_ | (refine RetOk.val hcl ?_; simp only [seval, ev1, ev2, ev3, wk, List.forall_mem_cons, List.forall_mem_map, List.forall_mem_append, List.not_mem_nil, encB_def, encS_def, encN_def, sb, insA, encIns, ins_dec, ins_eta, *]) | (refine Weak.at hcl ?_; simp only [seval, ev1, ev2, ev3, wk, List.forall_mem_cons, List.forall_mem_map, List.forall_mem_append, List.not_mem_nil, encB_def, encS_def, encN_def, sb, insA, encIns, ins_dec, ins_eta, *]) | (refine LCB.cond (by (simp only [seval, ev1, ev2, ev3, ev4, beq_self_eq_true, encB_def, encS_def, encN_def, sb, insA, encIns, ins_dec, ins_eta, *]) <;> rfl) (fun hc => ?_) (fun hc => ?_) <;> try simp only [seval, decide_eq_true_eq, decide_eq_false_iff_not, Bool.not_eq_true', Bool.not_eq_false', Bool.not_true, Bool.not_false] at hc) | (refine wpG_split (by (simp only [seval, ev1, ev2, ev3, ev4, beq_self_eq_true, encB_def, encS_def, encN_def, sb, insA, encIns, ins_dec, ins_eta, *]) <;> rfl) (fun hc => ?_) (fun hc => ?_) <;> try simp only [seval, decide_eq_true_eq, decide_eq_false_iff_not, Bool.not_eq_true', Bool.not_eq_false', Bool.not_true, Bool.not_false] at hc) | (refine wqG_split (by (simp only [seval, ev1, ev2, ev3, ev4, beq_self_eq_true, encB_def, encS_def, encN_def, sb, insA, encIns, ins_dec, ins_eta, *]) <;> rfl) (fun hc => ?_) (fun hc => ?_) <;> try simp only [seval, decide_eq_true_eq, decide_eq_false_iff_not, Bool.not_eq_true', Bool.not_eq_false', Bool.not_true, Bool.not_false] at hc) | refine ACalls.inst ?_ | refine CallP.inst rfl ?_)
        have hsm2 := hsm.of
        have hfl2 := hfl.of
        have hbl2 := hbl.of
        refine ⟨(i + 1, fr + l.length, f ++ [x], bg ++ [fr]), ⟨hlt, by simp only [List.length_append, List.length_cons, List.length_nil]; omega, by simp only [List.length_append, List.length_cons, List.length_nil]; omega, by simp only; omega, hq.of⟩, by simp only; omega, Weak.at hcl ?_⟩
        simp only [seval, ev1, ev2, ev3, wk, List.forall_mem_cons, List.forall_mem_map, List.forall_mem_append, List.not_mem_nil, encB_def, encS_def, encN_def, sb, insA, encIns, ins_dec, ins_eta, *]
      | none =>
        rw [hpi] at hq hpx
        simp only at hq
        unfold refR at hpx
        simp only at hpx
        have hres : fnR PR = .tup [.list [], .int .i64 (fr : Int), .int .i64 2] := by rw [hR.of, ← hq]; rfl
        replace hpx := Hold.mk hpx
        replace hq := Hold.mk hq
        replace hpi := Hold.mk hpi
        repeat' (first | simp only [seval, ev1, ev2, ev3, ev4, beq_self_eq_true, encB_def, encS_def, encN_def, sb, insA, encIns, ins_dec, ins_eta, *] | simp (disch := omega) only [if_pos, if_neg] | refine R.seq ?_ | refine LCB.text ?_ | refine LCB.quiet rfl ?_ | refine R.calls rfl ?_ | refine R.block ?_ | refine LCB.skip ?_ | refine LCB.exit ?_ | refine LCB.ret ?_ | (refine RetOk.val hcl ?_; simp only [seval, ev1, ev2, ev3, wk, List.forall_mem_cons, List.forall_mem_map, List.forall_mem_append, List.not_mem_nil, encB_def, encS_def, encN_def, sb, insA, encIns, ins_dec, ins_eta, *]) | (refine Weak.at hcl ?_; simp only [seval, ev1, ev2, ev3, wk, List.forall_mem_cons, List.forall_mem_map, List.forall_mem_append, List.not_mem_nil, encB_def, encS_def, encN_def, sb, insA, encIns, ins_dec, ins_eta, *]) | (refine LCB.cond (by (simp only [seval, ev1, ev2, ev3, ev4, beq_self_eq_true, encB_def, encS_def, encN_def, sb, insA, encIns, ins_dec, ins_eta, *]) <;> rfl) (fun hc => ?_) (fun hc => ?_) <;> try simp only [seval, decide_eq_true_eq, decide_eq_false_iff_not, Bool.not_eq_true', Bool.not_eq_false', Bool.not_true, Bool.not_false] at hc) | (refine wpG_split (by (simp only [seval, ev1, ev2, ev3, ev4, beq_self_eq_true, encB_def, encS_def, encN_def, sb, insA, encIns, ins_dec, ins_eta, *]) <;> rfl) (fun hc => ?_) (fun hc => ?_) <;> try simp only [seval, decide_eq_true_eq, decide_eq_false_iff_not, Bool.not_eq_true', Bool.not_eq_false', Bool.not_true, Bool.not_false] at hc) | (refine wqG_split (by (simp only [seval, ev1, ev2, ev3, ev4, beq_self_eq_true, encB_def, encS_def, encN_def, sb, insA, encIns, ins_dec, ins_eta, *]) <;> rfl) (fun hc => ?_) (fun hc => ?_) <;> try simp only [seval, decide_eq_true_eq, decide_eq_false_iff_not, Bool.not_eq_true', Bool.not_eq_false', Bool.not_true, Bool.not_false] at hc) | refine ACalls.inst ?_ | refine CallP.inst rfl ?_)
        first | refine ACalls.pure (hpx.of) ?_ | refine CallP.pure (hpx.of) rfl ?_
        repeat' (first | simp only [seval, ev1, ev2, ev3, ev4, beq_self_eq_true, encB_def, encS_def, encN_def, sb, insA, encIns, ins_dec, ins_eta, *] | simp (disch := omega) only [if_pos, if_neg] | refine R.seq ?_ | refine LCB.text ?_ | refine LCB.quiet rfl ?_ | refine R.calls rfl ?_ | refine R.block ?_ | refine LCB.skip ?_ | refine LCB.exit ?_ | refine LCB.ret ?_ | (refine RetOk.val hcl ?_; simp only [seval, ev1, ev2, ev3, wk, List.forall_mem_cons, List.forall_mem_map, List.forall_mem_append, List.not_mem_nil, encB_def, encS_def, encN_def, sb, insA, encIns, ins_dec, ins_eta, *]) | (refine Weak.at hcl ?_; simp only [seval, ev1, ev2, ev3, wk, List.forall_mem_cons, List.forall_mem_map, List.forall_mem_append, List.not_mem_nil, encB_def, encS_def, encN_def, sb, insA, encIns, ins_dec, ins_eta, *]) | (refine LCB.cond (by (simp only [seval, ev1, ev2, ev3, ev4, beq_self_eq_true, encB_def, encS_def, encN_def, sb, insA, encIns, ins_dec, ins_eta, *]) <;> rfl) (fun hc => ?_) (fun hc => ?_) <;> try simp only [seval, decide_eq_true_eq, decide_eq_false_iff_not, Bool.not_eq_true', Bool.not_eq_false', Bool.not_true, Bool.not_false] at hc) | (refine wpG_split (by (simp only [seval, ev1, ev2, ev3, ev4, beq_self_eq_true, encB_def, encS_def, encN_def, sb, insA, encIns, ins_dec, ins_eta, *]) <;> rfl) (fun hc => ?_) (fun hc => ?_) <;> try simp only [seval, decide_eq_true_eq, decide_eq_false_iff_not, Bool.not_eq_true', Bool.not_eq_false', Bool.not_true, Bool.not_false] at hc) | (refine wqG_split (by (simp only [seval, ev1, ev2, ev3, ev4, beq_self_eq_true, encB_def, encS_def, encN_def, sb, insA, encIns, ins_dec, ins_eta, *]) <;> rfl) (fun hc => ?_) (fun hc => ?_) <;> try simp only [seval, decide_eq_true_eq, decide_eq_false_iff_not, Bool.not_eq_true', Bool.not_eq_false', Bool.not_true, Bool.not_false] at hc) | refine ACalls.inst ?_ | refine CallP.inst rfl ?_)
    · rw [if_neg hc10] at hq
      have e7 : ¬ ((l.getD (l.length - 1) 0).toNat : Int) = 10 := fun e => hc10 (UInt8.toNat_inj.1 (by have : (10 : UInt8).toNat = 10 := rfl; omega))
      have hres : fnR PR = .tup [.list [], .int .i64 (fr : Int), .int .i64 2] := by rw [hR.of, ← hq]; rfl
      replace hc10 := Hold.mk hc10
      replace hq := Hold.mk hq
      replace hpx := Hold.mk hpx
      repeat' (first | simp only [seval, ev1, ev2, ev3, ev4, beq_self_eq_true, encB_def, encS_def, encN_def, sb, insA, encIns, ins_dec, ins_eta, *] | simp (disch := omega) only [if_pos, if_neg] | refine R.seq ?_ | refine LCB.text ?_ | refine LCB.quiet rfl ?_ | refine R.calls rfl ?_ | refine R.block ?_ | refine LCB.skip ?_ | refine LCB.exit ?_ | refine LCB.ret ?_ | (refine RetOk.val hcl ?_; simp only [seval, ev1, ev2, ev3, wk, List.forall_mem_cons, List.forall_mem_map, List.forall_mem_append, List.not_mem_nil, encB_def, encS_def, encN_def, sb, insA, encIns, ins_dec, ins_eta, *]) | (refine Weak.at hcl ?_; simp only [seval, ev1, ev2, ev3, wk, List.forall_mem_cons, List.forall_mem_map, List.forall_mem_append, List.not_mem_nil, encB_def, encS_def, encN_def, sb, insA, encIns, ins_dec, ins_eta, *]) | (refine LCB.cond (by (simp only [seval, ev1, ev2, ev3, ev4, beq_self_eq_true, encB_def, encS_def, encN_def, sb, insA, encIns, ins_dec, ins_eta, *]) <;> rfl) (fun hc => ?_) (fun hc => ?_) <;> try simp only [seval, decide_eq_true_eq, decide_eq_false_iff_not, Bool.not_eq_true', Bool.not_eq_false', Bool.not_true, Bool.not_false] at hc) | (refine wpG_split (by (simp only [seval, ev1, ev2, ev3, ev4, beq_self_eq_true, encB_def, encS_def, encN_def, sb, insA, encIns, ins_dec, ins_eta, *]) <;> rfl) (fun hc => ?_) (fun hc => ?_) <;> try simp only [seval, decide_eq_true_eq, decide_eq_false_iff_not, Bool.not_eq_true', Bool.not_eq_false', Bool.not_true, Bool.not_false] at hc) | (refine wqG_split (by (simp only [seval, ev1, ev2, ev3, ev4, beq_self_eq_true, encB_def, encS_def, encN_def, sb, insA, encIns, ins_dec, ins_eta, *]) <;> rfl) (fun hc => ?_) (fun hc => ?_) <;> try simp only [seval, decide_eq_true_eq, decide_eq_false_iff_not, Bool.not_eq_true', Bool.not_eq_false', Bool.not_true, Bool.not_false] at hc) | refine ACalls.inst ?_ | refine CallP.inst rfl ?_)
  · have hie : i = L.length := by omega
    subst hie
    rw [List.drop_length, scanL] at hq
    refine LCB.pre (Weak.at (sl := [(5, .list (L.map encS)), (6, .list (f.map encIns)), (7, .list (bg.map encN)), (9, .int .i64 (L.length : Int))]) (L' := []) hcl ?_) ?_
    · clear hfl hbl hsm
      simp only [seval, ev1, ev2, ev3, wk, List.forall_mem_cons, List.forall_mem_map, List.forall_mem_append, List.not_mem_nil, encB_def, encS_def, encN_def, sb, insA, encIns, ins_dec, ins_eta, *]
    have e2 : ¬ (L.length : Int) < (L.length : Int) := by omega
    have hc1 := ref04_Check_ok f
    have hres := hR.of
    rw [← hq] at hres
    simp only at hres
    unfold encFn fnChkA at hc1
    by_cases hf0 : f.length = 0
    · have : f = [] := List.length_eq_zero_iff.1 hf0
      subst this
      rw [fnChk_nil rfl] at hc1 hres
      have hb0 : bg = [] := List.length_eq_zero_iff.1 (by rw [hbl, ← hfl]; rfl)
      subst hb0
      have hres2 : fnR PR = .tup [.list [], .int .i64 0, .int .i64 5] := by rw [hres]; rfl
      replace hres := Hold.mk hres
      replace hc1 := Hold.mk hc1
      replace hq := Hold.mk hq
      replace hfl := Hold.mk hfl
      replace hbl := Hold.mk hbl
      replace hsm := Hold.mk hsm
      clear hf0
      repeat' (first | simp only [seval, ev1, ev2, ev3, ev4, beq_self_eq_true, encB_def, encS_def, encN_def, sb, insA, encIns, ins_dec, ins_eta, *] | simp (disch := omega) only [if_pos, if_neg] | refine R.seq ?_ | refine LCB.text ?_ | refine LCB.quiet rfl ?_ | refine R.calls rfl ?_ | refine R.block ?_ | refine LCB.skip ?_ | refine LCB.exit ?_ | refine LCB.ret ?_ | (refine RetOk.val hcl ?_; simp only [seval, ev1, ev2, ev3, wk, List.forall_mem_cons, List.forall_mem_map, List.forall_mem_append, List.not_mem_nil, encB_def, encS_def, encN_def, sb, insA, encIns, ins_dec, ins_eta, *]) | (refine Weak.at hcl ?_; simp only [seval, ev1, ev2, ev3, wk, List.forall_mem_cons, List.forall_mem_map, List.forall_mem_append, List.not_mem_nil, encB_def, encS_def, encN_def, sb, insA, encIns, ins_dec, ins_eta, *]) | (refine LCB.cond (by (simp only [seval, ev1, ev2, ev3, ev4, beq_self_eq_true, encB_def, encS_def, encN_def, sb, insA, encIns, ins_dec, ins_eta, *]) <;> rfl) (fun hc => ?_) (fun hc => ?_) <;> try simp only [seval, decide_eq_true_eq, decide_eq_false_iff_not, Bool.not_eq_true', Bool.not_eq_false', Bool.not_true, Bool.not_false] at hc) | (refine wpG_split (by (simp only [seval, ev1, ev2, ev3, ev4, beq_self_eq_true, encB_def, encS_def, encN_def, sb, insA, encIns, ins_dec, ins_eta, *]) <;> rfl) (fun hc => ?_) (fun hc => ?_) <;> try simp only [seval, decide_eq_true_eq, decide_eq_false_iff_not, Bool.not_eq_true', Bool.not_eq_false', Bool.not_true, Bool.not_false] at hc) | (refine wqG_split (by (simp only [seval, ev1, ev2, ev3, ev4, beq_self_eq_true, encB_def, encS_def, encN_def, sb, insA, encIns, ins_dec, ins_eta, *]) <;> rfl) (fun hc => ?_) (fun hc => ?_) <;> try simp only [seval, decide_eq_true_eq, decide_eq_false_iff_not, Bool.not_eq_true', Bool.not_eq_false', Bool.not_true, Bool.not_false] at hc) | refine ACalls.inst ?_ | refine CallP.inst rfl ?_)
      first | refine ACalls.pure (hc1.of) ?_ | refine CallP.pure (hc1.of) rfl ?_
      repeat' (first | simp only [seval, ev1, ev2, ev3, ev4, beq_self_eq_true, encB_def, encS_def, encN_def, sb, insA, encIns, ins_dec, ins_eta, *] | simp (disch := omega) only [if_pos, if_neg] | refine R.seq ?_ | refine LCB.text ?_ | refine LCB.quiet rfl ?_ | refine R.calls rfl ?_ | refine R.block ?_ | refine LCB.skip ?_ | refine LCB.exit ?_ | refine LCB.ret ?_ | (refine RetOk.val hcl ?_; simp only [seval, ev1, ev2, ev3, wk, List.forall_mem_cons, List.forall_mem_map, List.forall_mem_append, List.not_mem_nil, encB_def, encS_def, encN_def, sb, insA, encIns, ins_dec, ins_eta, *]) | (refine Weak.at hcl ?_; simp only [seval, ev1, ev2, ev3, wk, List.forall_mem_cons, List.forall_mem_map, List.forall_mem_append, List.not_mem_nil, encB_def, encS_def, encN_def, sb, insA, encIns, ins_dec, ins_eta, *]) | (refine LCB.cond (by (simp only [seval, ev1, ev2, ev3, ev4, beq_self_eq_true, encB_def, encS_def, encN_def, sb, insA, encIns, ins_dec, ins_eta, *]) <;> rfl) (fun hc => ?_) (fun hc => ?_) <;> try simp only [seval, decide_eq_true_eq, decide_eq_false_iff_not, Bool.not_eq_true', Bool.not_eq_false', Bool.not_true, Bool.not_false] at hc) | (refine wpG_split (by (simp only [seval, ev1, ev2, ev3, ev4, beq_self_eq_true, encB_def, encS_def, encN_def, sb, insA, encIns, ins_dec, ins_eta, *]) <;> rfl) (fun hc => ?_) (fun hc => ?_) <;> try simp only [seval, decide_eq_true_eq, decide_eq_false_iff_not, Bool.not_eq_true', Bool.not_eq_false', Bool.not_true, Bool.not_false] at hc) | (refine wqG_split (by (simp only [seval, ev1, ev2, ev3, ev4, beq_self_eq_true, encB_def, encS_def, encN_def, sb, insA, encIns, ins_dec, ins_eta, *]) <;> rfl) (fun hc => ?_) (fun hc => ?_) <;> try simp only [seval, decide_eq_true_eq, decide_eq_false_iff_not, Bool.not_eq_true', Bool.not_eq_false', Bool.not_true, Bool.not_false] at hc) | refine ACalls.inst ?_ | refine CallP.inst rfl ?_)
    · obtain ⟨k, hk1, hk2⟩ := fnChk_in hf0
      rw [hk1] at hc1 hres
      simp only [Int.toNat_natCast] at hres
      generalize (fnChk f).2 = e at *
      have hkb : k < bg.length := by omega
      have e6 : (k : Int) < (bg.length : Int) := by omega
      have e10 : ¬ (f.length : Int) = 0 := by omega
      have hgn := getD_encN hkb
      rw [if_pos hkb] at hres
      replace hc1 := Hold.mk hc1
      replace hq := Hold.mk hq
      replace hfl := Hold.mk hfl
      replace hbl := Hold.mk hbl
      replace hsm := Hold.mk hsm
      clear hk1 hf0
      by_cases he : e = 0
      · rw [if_pos he] at hres
        have hres2 : fnR PR = .tup [.list (f.map encIns), .int .i64 0, .int .i64 0] := by rw [hres]; rfl
        subst he
        replace hres := Hold.mk hres
        repeat' (first | simp only [seval, ev1, ev2, ev3, ev4, beq_self_eq_true, encB_def, encS_def, encN_def, sb, insA, encIns, ins_dec, ins_eta, *] | simp (disch := omega) only [if_pos, if_neg] | refine R.seq ?_ | refine LCB.text ?_ | refine LCB.quiet rfl ?_ | refine R.calls rfl ?_ | refine R.block ?_ | refine LCB.skip ?_ | refine LCB.exit ?_ | refine LCB.ret ?_ | (refine RetOk.val hcl ?_; simp only [seval, ev1, ev2, ev3, wk, List.forall_mem_cons, List.forall_mem_map, List.forall_mem_append, List.not_mem_nil, encB_def, encS_def, encN_def, sb, insA, encIns, ins_dec, ins_eta, *]) | (refine Weak.at hcl ?_; simp only [seval, ev1, ev2, ev3, wk, List.forall_mem_cons, List.forall_mem_map, List.forall_mem_append, List.not_mem_nil, encB_def, encS_def, encN_def, sb, insA, encIns, ins_dec, ins_eta, *]) | (refine LCB.cond (by (simp only [seval, ev1, ev2, ev3, ev4, beq_self_eq_true, encB_def, encS_def, encN_def, sb, insA, encIns, ins_dec, ins_eta, *]) <;> rfl) (fun hc => ?_) (fun hc => ?_) <;> try simp only [seval, decide_eq_true_eq, decide_eq_false_iff_not, Bool.not_eq_true', Bool.not_eq_false', Bool.not_true, Bool.not_false] at hc) | (refine wpG_split (by (simp only [seval, ev1, ev2, ev3, ev4, beq_self_eq_true, encB_def, encS_def, encN_def, sb, insA, encIns, ins_dec, ins_eta, *]) <;> rfl) (fun hc => ?_) (fun hc => ?_) <;> try simp only [seval, decide_eq_true_eq, decide_eq_false_iff_not, Bool.not_eq_true', Bool.not_eq_false', Bool.not_true, Bool.not_false] at hc) | (refine wqG_split (by (simp only [seval, ev1, ev2, ev3, ev4, beq_self_eq_true, encB_def, encS_def, encN_def, sb, insA, encIns, ins_dec, ins_eta, *]) <;> rfl) (fun hc => ?_) (fun hc => ?_) <;> try simp only [seval, decide_eq_true_eq, decide_eq_false_iff_not, Bool.not_eq_true', Bool.not_eq_false', Bool.not_true, Bool.not_false] at hc) | refine ACalls.inst ?_ | refine CallP.inst rfl ?_)
        first | refine ACalls.pure (hc1.of) ?_ | refine CallP.pure (hc1.of) rfl ?_
        repeat' (first | simp only [seval, ev1, ev2, ev3, ev4, beq_self_eq_true, encB_def, encS_def, encN_def, sb, insA, encIns, ins_dec, ins_eta, *] | simp (disch := omega) only [if_pos, if_neg] | refine R.seq ?_ | refine LCB.text ?_ | refine LCB.quiet rfl ?_ | refine R.calls rfl ?_ | refine R.block ?_ | refine LCB.skip ?_ | refine LCB.exit ?_ | refine LCB.ret ?_ | (refine RetOk.val hcl ?_; simp only [seval, ev1, ev2, ev3, wk, List.forall_mem_cons, List.forall_mem_map, List.forall_mem_append, List.not_mem_nil, encB_def, encS_def, encN_def, sb, insA, encIns, ins_dec, ins_eta, *]) | (refine Weak.at hcl ?_; simp only [seval, ev1, ev2, ev3, wk, List.forall_mem_cons, List.forall_mem_map, List.forall_mem_append, List.not_mem_nil, encB_def, encS_def, encN_def, sb, insA, encIns, ins_dec, ins_eta, *]) | (refine LCB.cond (by (simp only [seval, ev1, ev2, ev3, ev4, beq_self_eq_true, encB_def, encS_def, encN_def, sb, insA, encIns, ins_dec, ins_eta, *]) <;> rfl) (fun hc => ?_) (fun hc => ?_) <;> try simp only [seval, decide_eq_true_eq, decide_eq_false_iff_not, Bool.not_eq_true', Bool.not_eq_false', Bool.not_true, Bool.not_false] at hc) | (refine wpG_split (by (simp only [seval, ev1, ev2, ev3, ev4, beq_self_eq_true, encB_def, encS_def, encN_def, sb, insA, encIns, ins_dec, ins_eta, *]) <;> rfl) (fun hc => ?_) (fun hc => ?_) <;> try simp only [seval, decide_eq_true_eq, decide_eq_false_iff_not, Bool.not_eq_true', Bool.not_eq_false', Bool.not_true, Bool.not_false] at hc) | (refine wqG_split (by (simp only [seval, ev1, ev2, ev3, ev4, beq_self_eq_true, encB_def, encS_def, encN_def, sb, insA, encIns, ins_dec, ins_eta, *]) <;> rfl) (fun hc => ?_) (fun hc => ?_) <;> try simp only [seval, decide_eq_true_eq, decide_eq_false_iff_not, Bool.not_eq_true', Bool.not_eq_false', Bool.not_true, Bool.not_false] at hc) | refine ACalls.inst ?_ | refine CallP.inst rfl ?_)
      · rw [if_neg he] at hres
        have hres2 : fnR PR = .tup [.list [], .int .i64 ((bg.getD k 0 : Nat) : Int), .int .i64 e] := by rw [hres]; rfl
        replace hres := Hold.mk hres
        repeat' (first | simp only [seval, ev1, ev2, ev3, ev4, beq_self_eq_true, encB_def, encS_def, encN_def, sb, insA, encIns, ins_dec, ins_eta, *] | simp (disch := omega) only [if_pos, if_neg] | refine R.seq ?_ | refine LCB.text ?_ | refine LCB.quiet rfl ?_ | refine R.calls rfl ?_ | refine R.block ?_ | refine LCB.skip ?_ | refine LCB.exit ?_ | refine LCB.ret ?_ | (refine RetOk.val hcl ?_; simp only [seval, ev1, ev2, ev3, wk, List.forall_mem_cons, List.forall_mem_map, List.forall_mem_append, List.not_mem_nil, encB_def, encS_def, encN_def, sb, insA, encIns, ins_dec, ins_eta, *]) | (refine Weak.at hcl ?_; simp only [seval, ev1, ev2, ev3, wk, List.forall_mem_cons, List.forall_mem_map, List.forall_mem_append, List.not_mem_nil, encB_def, encS_def, encN_def, sb, insA, encIns, ins_dec, ins_eta, *]) | (refine LCB.cond (by (simp only [seval, ev1, ev2, ev3, ev4, beq_self_eq_true, encB_def, encS_def, encN_def, sb, insA, encIns, ins_dec, ins_eta, *]) <;> rfl) (fun hc => ?_) (fun hc => ?_) <;> try simp only [seval, decide_eq_true_eq, decide_eq_false_iff_not, Bool.not_eq_true', Bool.not_eq_false', Bool.not_true, Bool.not_false] at hc) | (refine wpG_split (by (simp only [seval, ev1, ev2, ev3, ev4, beq_self_eq_true, encB_def, encS_def, encN_def, sb, insA, encIns, ins_dec, ins_eta, *]) <;> rfl) (fun hc => ?_) (fun hc => ?_) <;> try simp only [seval, decide_eq_true_eq, decide_eq_false_iff_not, Bool.not_eq_true', Bool.not_eq_false', Bool.not_true, Bool.not_false] at hc) | (refine wqG_split (by (simp only [seval, ev1, ev2, ev3, ev4, beq_self_eq_true, encB_def, encS_def, encN_def, sb, insA, encIns, ins_dec, ins_eta, *]) <;> rfl) (fun hc => ?_) (fun hc => ?_) <;> try simp only [seval, decide_eq_true_eq, decide_eq_false_iff_not, Bool.not_eq_true', Bool.not_eq_false', Bool.not_true, Bool.not_false] at hc) | refine ACalls.inst ?_ | refine CallP.inst rfl ?_)
        first | refine ACalls.pure (hc1.of) ?_ | refine CallP.pure (hc1.of) rfl ?_
        repeat' (first | simp only [seval, ev1, ev2, ev3, ev4, beq_self_eq_true, encB_def, encS_def, encN_def, sb, insA, encIns, ins_dec, ins_eta, *] | simp (disch := omega) only [if_pos, if_neg] | refine R.seq ?_ | refine LCB.text ?_ | refine LCB.quiet rfl ?_ | refine R.calls rfl ?_ | refine R.block ?_ | refine LCB.skip ?_ | refine LCB.exit ?_ | refine LCB.ret ?_ | (refine RetOk.val hcl ?_; simp only [seval, ev1, ev2, ev3, wk, List.forall_mem_cons, List.forall_mem_map, List.forall_mem_append, List.not_mem_nil, encB_def, encS_def, encN_def, sb, insA, encIns, ins_dec, ins_eta, *]) | (refine Weak.at hcl ?_; simp only [seval, ev1, ev2, ev3, wk, List.forall_mem_cons, List.forall_mem_map, List.forall_mem_append, List.not_mem_nil, encB_def, encS_def, encN_def, sb, insA, encIns, ins_dec, ins_eta, *]) | (refine LCB.cond (by (simp only [seval, ev1, ev2, ev3, ev4, beq_self_eq_true, encB_def, encS_def, encN_def, sb, insA, encIns, ins_dec, ins_eta, *]) <;> rfl) (fun hc => ?_) (fun hc => ?_) <;> try simp only [seval, decide_eq_true_eq, decide_eq_false_iff_not, Bool.not_eq_true', Bool.not_eq_false', Bool.not_true, Bool.not_false] at hc) | (refine wpG_split (by (simp only [seval, ev1, ev2, ev3, ev4, beq_self_eq_true, encB_def, encS_def, encN_def, sb, insA, encIns, ins_dec, ins_eta, *]) <;> rfl) (fun hc => ?_) (fun hc => ?_) <;> try simp only [seval, decide_eq_true_eq, decide_eq_false_iff_not, Bool.not_eq_true', Bool.not_eq_false', Bool.not_true, Bool.not_false] at hc) | (refine wqG_split (by (simp only [seval, ev1, ev2, ev3, ev4, beq_self_eq_true, encB_def, encS_def, encN_def, sb, insA, encIns, ins_dec, ins_eta, *]) <;> rfl) (fun hc => ?_) (fun hc => ?_) <;> try simp only [seval, decide_eq_true_eq, decide_eq_false_iff_not, Bool.not_eq_true', Bool.not_eq_false', Bool.not_true, Bool.not_false] at hc) | refine ACalls.inst ?_ | refine CallP.inst rfl ?_)
theorem scan_bound : ∀ (r cur : List UInt8) (fr : Nat) (f : List Ins) (bg : List Nat) (n : Nat), fr + cur.length + r.length ≤ n → (∀ b ∈ bg, b ≤ n) → match scan fr cur r f bg with
    | .error x => x ≤ n
    | .ok (_, b) => ∀ y ∈ b, y ≤ n
  | [], cur, fr, f, bg, n, h, hb => by
    rw [scan]
    split
    · rename_i e
      split at e
      · cases e
      · cases e; omega
    · rename_i b e
      split at e
      · cases e; exact hb
      · cases e
  | c :: r, cur, fr, f, bg, n, h, hb => by
    rw [List.length_cons] at h
    by_cases hc : c = 10
    · rw [scan, if_pos hc]
      cases hp : parseIns cur with
      | none => simp only; omega
      | some x =>
        simp only
        exact scan_bound r [] _ _ _ n (by simp; omega) (fun b hb' => by
          rcases List.mem_append.1 hb' with h1 | h1
          · exact hb b h1
          · rw [List.mem_singleton.1 h1]; omega)
    · rw [scan, if_neg hc]
      exact scan_bound r (cur ++ [c]) fr f bg n (by simp; omega) hb
theorem scan_lens : ∀ (r cur : List UInt8) (fr : Nat) (f : List Ins) (bg : List Nat) (f' : List Ins) (b' : List Nat), f.length = bg.length → scan fr cur r f bg = .ok (f', b') → f'.length = b'.length
  | [], cur, fr, f, bg, f', b', h, hs => by
    rw [scan] at hs
    split at hs
    · cases hs; exact h
    · cases hs
  | c :: r, cur, fr, f, bg, f', b', h, hs => by
    rw [scan] at hs
    split at hs
    · cases hp : parseIns cur with
      | none => rw [hp] at hs; cases hs
      | some x =>
        rw [hp] at hs
        exact scan_lens r [] _ _ _ f' b' (by simp [h]) hs
    · exact scan_lens r _ fr f bg f' b' h hs
theorem fnParse_len (s : List UInt8) : (fnParse s).1.length ≤ 200 := by
  unfold fnParse
  split
  · simp
  · cases hs : scan 0 [] s [] [] with
    | error fr => simp
    | ok q =>
      simp only
      split
      · rename_i hk
        exact (fnOk_iff.1 (by unfold fnOk; simpa using hk)).1
      · simp
theorem fnParse_at (s : List UInt8) : ∃ k : Nat, (fnParse s).2.1 = (k : Int) ∧ k ≤ s.length := by
  unfold fnParse
  split
  · exact ⟨0, rfl, by omega⟩
  · have hb := scan_bound s [] 0 [] [] s.length (by simp) (by simp)
    cases hs : scan 0 [] s [] [] with
    | error fr =>
      rw [hs] at hb
      exact ⟨fr, rfl, hb⟩
    | ok q =>
      obtain ⟨f, bg⟩ := q
      rw [hs] at hb
      simp only at hb ⊢
      split
      · exact ⟨0, rfl, by omega⟩
      · split
        · rename_i hk
          refine ⟨_, rfl, hb _ ?_⟩
          simp [List.getD, hk]
        · rename_i hk
          have hl := scan_lens _ _ _ _ _ _ _ rfl hs
          by_cases h0 : f.length = 0
          · rw [fnChk_nil h0]
            exact ⟨0, rfl, by omega⟩
          · obtain ⟨j, hj1, hj2⟩ := fnChk_in h0
            rw [hj1] at hk
            simp only [Int.toNat_natCast] at hk
            omega
theorem AsmParses_ok (s : List UInt8) (hs : s.length ≤ maxLen) : Pure Tryd.prog 5 [.str (bs s)] (.bool true) := by
  intro H
  refine ACalls.go joinerylaw04_AsmParses.low (by simp) fun hcl => ?_
  have h1 := asm_Parse_ok s hs
  have h2 := ref04_Parse_ok s hs
  have hfl := fnParse_len s
  obtain ⟨k, hk1, hk2⟩ := fnParse_at s
  unfold fnR at h1 h2
  rw [hk1] at h1 h2
  generalize (fnParse s).1 = f at *
  generalize (fnParse s).2.2 = e at *
  clear hk1
  have h3 := ref04_Same_ok f f (by omega)
  rw [decide_eq_true rfl] at h3
  unfold encFn at *
  replace h3 := Hold.mk h3
  replace h1 := Hold.mk h1
  replace h2 := Hold.mk h2
  by_cases hbig : (25000 : Int) < (s.length : Int)
  · repeat' (first | simp only [seval, ev1, ev2, ev3, ev4, beq_self_eq_true, encB_def, encS_def, encN_def, sb, insA, encIns, ins_dec, ins_eta, *] | simp (disch := omega) only [if_pos, if_neg] | refine R.seq ?_ | refine LCB.text ?_ | refine LCB.quiet rfl ?_ | refine R.calls rfl ?_ | refine R.block ?_ | refine LCB.skip ?_ | refine LCB.exit ?_ | refine LCB.ret ?_ | (refine RetOk.val hcl ?_; simp only [seval, ev1, ev2, ev3, wk, List.forall_mem_cons, List.forall_mem_map, List.forall_mem_append, List.not_mem_nil, encB_def, encS_def, encN_def, sb, insA, encIns, ins_dec, ins_eta, *]) | (refine Weak.at hcl ?_; simp only [seval, ev1, ev2, ev3, wk, List.forall_mem_cons, List.forall_mem_map, List.forall_mem_append, List.not_mem_nil, encB_def, encS_def, encN_def, sb, insA, encIns, ins_dec, ins_eta, *]) | (refine LCB.cond (by (simp only [seval, ev1, ev2, ev3, ev4, beq_self_eq_true, encB_def, encS_def, encN_def, sb, insA, encIns, ins_dec, ins_eta, *]) <;> rfl) (fun hc => ?_) (fun hc => ?_) <;> try simp only [seval, decide_eq_true_eq, decide_eq_false_iff_not, Bool.not_eq_true', Bool.not_eq_false', Bool.not_true, Bool.not_false] at hc) | (refine wpG_split (by (simp only [seval, ev1, ev2, ev3, ev4, beq_self_eq_true, encB_def, encS_def, encN_def, sb, insA, encIns, ins_dec, ins_eta, *]) <;> rfl) (fun hc => ?_) (fun hc => ?_) <;> try simp only [seval, decide_eq_true_eq, decide_eq_false_iff_not, Bool.not_eq_true', Bool.not_eq_false', Bool.not_true, Bool.not_false] at hc) | (refine wqG_split (by (simp only [seval, ev1, ev2, ev3, ev4, beq_self_eq_true, encB_def, encS_def, encN_def, sb, insA, encIns, ins_dec, ins_eta, *]) <;> rfl) (fun hc => ?_) (fun hc => ?_) <;> try simp only [seval, decide_eq_true_eq, decide_eq_false_iff_not, Bool.not_eq_true', Bool.not_eq_false', Bool.not_true, Bool.not_false] at hc) | refine ACalls.inst ?_ | refine CallP.inst rfl ?_)
  · have e1 : (k : Int) ≤ (s.length : Int) := by omega
    clear hk2
    repeat' (first | simp only [seval, ev1, ev2, ev3, ev4, beq_self_eq_true, encB_def, encS_def, encN_def, sb, insA, encIns, ins_dec, ins_eta, *] | simp (disch := omega) only [if_pos, if_neg] | refine R.seq ?_ | refine LCB.text ?_ | refine LCB.quiet rfl ?_ | refine R.calls rfl ?_ | refine R.block ?_ | refine LCB.skip ?_ | refine LCB.exit ?_ | refine LCB.ret ?_ | (refine RetOk.val hcl ?_; simp only [seval, ev1, ev2, ev3, wk, List.forall_mem_cons, List.forall_mem_map, List.forall_mem_append, List.not_mem_nil, encB_def, encS_def, encN_def, sb, insA, encIns, ins_dec, ins_eta, *]) | (refine Weak.at hcl ?_; simp only [seval, ev1, ev2, ev3, wk, List.forall_mem_cons, List.forall_mem_map, List.forall_mem_append, List.not_mem_nil, encB_def, encS_def, encN_def, sb, insA, encIns, ins_dec, ins_eta, *]) | (refine LCB.cond (by (simp only [seval, ev1, ev2, ev3, ev4, beq_self_eq_true, encB_def, encS_def, encN_def, sb, insA, encIns, ins_dec, ins_eta, *]) <;> rfl) (fun hc => ?_) (fun hc => ?_) <;> try simp only [seval, decide_eq_true_eq, decide_eq_false_iff_not, Bool.not_eq_true', Bool.not_eq_false', Bool.not_true, Bool.not_false] at hc) | (refine wpG_split (by (simp only [seval, ev1, ev2, ev3, ev4, beq_self_eq_true, encB_def, encS_def, encN_def, sb, insA, encIns, ins_dec, ins_eta, *]) <;> rfl) (fun hc => ?_) (fun hc => ?_) <;> try simp only [seval, decide_eq_true_eq, decide_eq_false_iff_not, Bool.not_eq_true', Bool.not_eq_false', Bool.not_true, Bool.not_false] at hc) | (refine wqG_split (by (simp only [seval, ev1, ev2, ev3, ev4, beq_self_eq_true, encB_def, encS_def, encN_def, sb, insA, encIns, ins_dec, ins_eta, *]) <;> rfl) (fun hc => ?_) (fun hc => ?_) <;> try simp only [seval, decide_eq_true_eq, decide_eq_false_iff_not, Bool.not_eq_true', Bool.not_eq_false', Bool.not_true, Bool.not_false] at hc) | refine ACalls.inst ?_ | refine CallP.inst rfl ?_)
    first | refine ACalls.pure (h1.of) ?_ | refine CallP.pure (h1.of) rfl ?_
    repeat' (first | simp only [seval, ev1, ev2, ev3, ev4, beq_self_eq_true, encB_def, encS_def, encN_def, sb, insA, encIns, ins_dec, ins_eta, *] | simp (disch := omega) only [if_pos, if_neg] | refine R.seq ?_ | refine LCB.text ?_ | refine LCB.quiet rfl ?_ | refine R.calls rfl ?_ | refine R.block ?_ | refine LCB.skip ?_ | refine LCB.exit ?_ | refine LCB.ret ?_ | (refine RetOk.val hcl ?_; simp only [seval, ev1, ev2, ev3, wk, List.forall_mem_cons, List.forall_mem_map, List.forall_mem_append, List.not_mem_nil, encB_def, encS_def, encN_def, sb, insA, encIns, ins_dec, ins_eta, *]) | (refine Weak.at hcl ?_; simp only [seval, ev1, ev2, ev3, wk, List.forall_mem_cons, List.forall_mem_map, List.forall_mem_append, List.not_mem_nil, encB_def, encS_def, encN_def, sb, insA, encIns, ins_dec, ins_eta, *]) | (refine LCB.cond (by (simp only [seval, ev1, ev2, ev3, ev4, beq_self_eq_true, encB_def, encS_def, encN_def, sb, insA, encIns, ins_dec, ins_eta, *]) <;> rfl) (fun hc => ?_) (fun hc => ?_) <;> try simp only [seval, decide_eq_true_eq, decide_eq_false_iff_not, Bool.not_eq_true', Bool.not_eq_false', Bool.not_true, Bool.not_false] at hc) | (refine wpG_split (by (simp only [seval, ev1, ev2, ev3, ev4, beq_self_eq_true, encB_def, encS_def, encN_def, sb, insA, encIns, ins_dec, ins_eta, *]) <;> rfl) (fun hc => ?_) (fun hc => ?_) <;> try simp only [seval, decide_eq_true_eq, decide_eq_false_iff_not, Bool.not_eq_true', Bool.not_eq_false', Bool.not_true, Bool.not_false] at hc) | (refine wqG_split (by (simp only [seval, ev1, ev2, ev3, ev4, beq_self_eq_true, encB_def, encS_def, encN_def, sb, insA, encIns, ins_dec, ins_eta, *]) <;> rfl) (fun hc => ?_) (fun hc => ?_) <;> try simp only [seval, decide_eq_true_eq, decide_eq_false_iff_not, Bool.not_eq_true', Bool.not_eq_false', Bool.not_true, Bool.not_false] at hc) | refine ACalls.inst ?_ | refine CallP.inst rfl ?_)
    first | refine ACalls.pure (h2.of) ?_ | refine CallP.pure (h2.of) rfl ?_
    repeat' (first | simp only [seval, ev1, ev2, ev3, ev4, beq_self_eq_true, encB_def, encS_def, encN_def, sb, insA, encIns, ins_dec, ins_eta, *] | simp (disch := omega) only [if_pos, if_neg] | refine R.seq ?_ | refine LCB.text ?_ | refine LCB.quiet rfl ?_ | refine R.calls rfl ?_ | refine R.block ?_ | refine LCB.skip ?_ | refine LCB.exit ?_ | refine LCB.ret ?_ | (refine RetOk.val hcl ?_; simp only [seval, ev1, ev2, ev3, wk, List.forall_mem_cons, List.forall_mem_map, List.forall_mem_append, List.not_mem_nil, encB_def, encS_def, encN_def, sb, insA, encIns, ins_dec, ins_eta, *]) | (refine Weak.at hcl ?_; simp only [seval, ev1, ev2, ev3, wk, List.forall_mem_cons, List.forall_mem_map, List.forall_mem_append, List.not_mem_nil, encB_def, encS_def, encN_def, sb, insA, encIns, ins_dec, ins_eta, *]) | (refine LCB.cond (by (simp only [seval, ev1, ev2, ev3, ev4, beq_self_eq_true, encB_def, encS_def, encN_def, sb, insA, encIns, ins_dec, ins_eta, *]) <;> rfl) (fun hc => ?_) (fun hc => ?_) <;> try simp only [seval, decide_eq_true_eq, decide_eq_false_iff_not, Bool.not_eq_true', Bool.not_eq_false', Bool.not_true, Bool.not_false] at hc) | (refine wpG_split (by (simp only [seval, ev1, ev2, ev3, ev4, beq_self_eq_true, encB_def, encS_def, encN_def, sb, insA, encIns, ins_dec, ins_eta, *]) <;> rfl) (fun hc => ?_) (fun hc => ?_) <;> try simp only [seval, decide_eq_true_eq, decide_eq_false_iff_not, Bool.not_eq_true', Bool.not_eq_false', Bool.not_true, Bool.not_false] at hc) | (refine wqG_split (by (simp only [seval, ev1, ev2, ev3, ev4, beq_self_eq_true, encB_def, encS_def, encN_def, sb, insA, encIns, ins_dec, ins_eta, *]) <;> rfl) (fun hc => ?_) (fun hc => ?_) <;> try simp only [seval, decide_eq_true_eq, decide_eq_false_iff_not, Bool.not_eq_true', Bool.not_eq_false', Bool.not_true, Bool.not_false] at hc) | refine ACalls.inst ?_ | refine CallP.inst rfl ?_)
    first | refine ACalls.pure (h3.of) ?_ | refine CallP.pure (h3.of) rfl ?_
    repeat' (first | simp only [seval, ev1, ev2, ev3, ev4, beq_self_eq_true, encB_def, encS_def, encN_def, sb, insA, encIns, ins_dec, ins_eta, *] | simp (disch := omega) only [if_pos, if_neg] | refine R.seq ?_ | refine LCB.text ?_ | refine LCB.quiet rfl ?_ | refine R.calls rfl ?_ | refine R.block ?_ | refine LCB.skip ?_ | refine LCB.exit ?_ | refine LCB.ret ?_ | (refine RetOk.val hcl ?_; simp only [seval, ev1, ev2, ev3, wk, List.forall_mem_cons, List.forall_mem_map, List.forall_mem_append, List.not_mem_nil, encB_def, encS_def, encN_def, sb, insA, encIns, ins_dec, ins_eta, *]) | (refine Weak.at hcl ?_; simp only [seval, ev1, ev2, ev3, wk, List.forall_mem_cons, List.forall_mem_map, List.forall_mem_append, List.not_mem_nil, encB_def, encS_def, encN_def, sb, insA, encIns, ins_dec, ins_eta, *]) | (refine LCB.cond (by (simp only [seval, ev1, ev2, ev3, ev4, beq_self_eq_true, encB_def, encS_def, encN_def, sb, insA, encIns, ins_dec, ins_eta, *]) <;> rfl) (fun hc => ?_) (fun hc => ?_) <;> try simp only [seval, decide_eq_true_eq, decide_eq_false_iff_not, Bool.not_eq_true', Bool.not_eq_false', Bool.not_true, Bool.not_false] at hc) | (refine wpG_split (by (simp only [seval, ev1, ev2, ev3, ev4, beq_self_eq_true, encB_def, encS_def, encN_def, sb, insA, encIns, ins_dec, ins_eta, *]) <;> rfl) (fun hc => ?_) (fun hc => ?_) <;> try simp only [seval, decide_eq_true_eq, decide_eq_false_iff_not, Bool.not_eq_true', Bool.not_eq_false', Bool.not_true, Bool.not_false] at hc) | (refine wqG_split (by (simp only [seval, ev1, ev2, ev3, ev4, beq_self_eq_true, encB_def, encS_def, encN_def, sb, insA, encIns, ins_dec, ins_eta, *]) <;> rfl) (fun hc => ?_) (fun hc => ?_) <;> try simp only [seval, decide_eq_true_eq, decide_eq_false_iff_not, Bool.not_eq_true', Bool.not_eq_false', Bool.not_true, Bool.not_false] at hc) | refine ACalls.inst ?_ | refine CallP.inst rfl ?_)

theorem asmParses_law : ∀ av, FitAs [.one .str] av → ACalls Tryd.prog 5 av [] fun r _ => r = .bool true := by
  rintro _ ⟨b, _, rfl, h2, rfl⟩
  obtain ⟨s, rfl, hs⟩ := h2.str_inv
  exact (AsmParses_ok s hs).law

set_option maxRecDepth 100000 in
theorem asmParses_lifted (os : Os) (started : os.Started) (H : Type) (enc : TypeId × Value → H) :
    ReturnsInHanded {} Tryd.checked os 5 .any (fun w args => (Rows.asmParsesSpec.pre enc Tryd.prog Tryd.f5 [] false w args ∧ laidMetH Tryd.prog laidL w) ∧ sizedMet enc Tryd.prog Tryd.f5 (OpenSpec.ofChange Rows.asmParsesSpec) false w args)
      (Rows.asmParsesSpec.post enc Tryd.prog Tryd.f5 false true false false) := by
  refine returnsInHanded_of_change_and (C := Tryd.checked) (X := fun w _ => laidMetH Tryd.prog laidL w) (fun _ _ _ hh h => h.of_heap hh) own_ok started (by kernel_rfl) Tryd.func5
    (ChangeSpec.witness_shaped (enc := enc) (C := Tryd.checked) (os := os) (X := fun w _ => laidMetH Tryd.prog laidL w) false (World.doorLaid Tryd.prog 400 os) #[.string "".toUTF8] 8 rfl (World.shaped_of_RefB (by kernel_rfl) (by kernel_rfl)) (by kernel_rfl) (by kernel_rfl) (by kernel_rfl) (door_met os _)) ?_
  intro W base args ds gs before hval0 hW _ _ hL _
  exact law_contract (base := base) laid_ok rfl (by kernel_rfl) (by kernel_rfl) (by kernel_rfl)
    (fun ds hl => by
      match ds, hl with
      | [d1], _ => rfl) (glob_of_laid hL) asmParses_law hval0 hW

set_option maxRecDepth 100000 in
theorem asmParses_row : Rows.AsmParsesSaid :=
  OpenClaim.holds_of_wide 5 Tryd.f5 rfl rfl rfl rfl rfl rfl rfl ⟨rfl, rfl, rfl, rfl, rfl⟩ rfl rfl rfl rfl rfl (by kernel_rfl) Tryd.func5 (by kernel_rfl)
    (of_decide_eq_true (by kernel_rfl)) (by unfold Func.isWrapper; first | (rw [if_pos (by decide +kernel)]; kernel_rfl) | (rw [if_neg (by decide +kernel)]; exact ⟨rfl, rfl⟩))
    (fun os started H enc _ => asmParses_lifted os started H enc)

set_option maxRecDepth 100000 in
/-- **AsmParses.** -/
theorem asmParses_holds : Rows.AsmParsesCardSaid :=
  Claim7.holds_tied_plain_at .later [] [.data] true (true, "65a70772e3f582673ffc292e02c5536b159eae890dd58bce1e5979f24075c7c7") false
    asmParses_row (fun _ h => by cases h) (by kernel_rfl) (fun _ h => by cases h) asmParses_row_tie rfl ⟨rfl, rfl⟩ (by kernel_rfl) rfl
    (fun f fn hf hfn => by
      obtain rfl : f = 5 := Option.some.inj ((show Tryd.prog.funcNamed "joinery/joinerylaw04.AsmParses" = some 5 by kernel_rfl).symm.trans hf) |>.symm
      obtain rfl : fn = Tryd.f5 := (Option.some.inj (Tryd.func5.symm.trans hfn)).symm
      exact ⟨by kernel_rfl, fun j t ht => by
        have hall : (Tryd.f5.params.toList.all fun u => !Tryd.prog.wantsStandIn u) = true := by kernel_rfl
        have hm : t ∈ Tryd.f5.params.toList := by
          have := Array.mem_of_getElem? ht
          simpa using this
        exact (show Tryd.prog.wantsStandIn t = false by simpa using List.all_eq_true.1 hall t hm)⟩)
    (by kernel_rfl)
end Go.Proofs.YtoiceinjademgaaDoor
