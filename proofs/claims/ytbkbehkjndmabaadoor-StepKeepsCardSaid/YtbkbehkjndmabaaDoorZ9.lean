/-
  Texts of this claim, put together.
-/
import Derived.Deep.Slices
import Derived.OpenShut
import Derived.ProofKit
import Derived.Test.YtbkbehkjndmabaaDoorRows
import Derived.Test.YtbkbehkjndmabaaDoorTie
import Derived.LaidMore
import Derived.Stop.Joined
import Derived.Test.YtbkbehkjndmabaaDoorCards
import Derived.Test.YtbkbehkjndmabaaDoorZ8
/-
  asm: one line of a text (a closure that fills its caller's lists).
-/
namespace Go.Proofs.YtbkbehkjndmabaaDoor
open Go.RowKit
set_option linter.unusedVariables false
set_option linter.unusedSimpArgs false

def encN (n : Nat) : List AV := [.int .i64 (n : Int)]
theorem encN_def {n : Nat} : encN n = [.int .i64 (n : Int)] := rfl
def insOr (r : Option Ins) : Ins := r.getD noIns
theorem insR_eq (r : Option Ins) : insR r = .tup [insA (insOr r), .int .i64 (if r.isSome then 0 else 2)] := by cases r <;> rfl
theorem RetOk.upd0 {B : Nat} {t : Tm} {G : List AObj} {rs : List LRes} {QF : AV → List AObj → Prop} (r : AV) (hB : B ≤ G.length) (hcl : Clean G.length G) (h : match resE ⟨t, G⟩ rs with | some l => View G G.length (resV l) r | none => False) (hq : QF r G) : RetOk B rs QF ⟨t, G⟩ := by
  have := RetOk.upd (L := []) (t := t) (rs := rs) r hB hcl (by rwa [List.append_nil]) hq
  rwa [List.append_nil] at this
/-- What asm.Parse has in memory. -/
def lineH (h : Nat) (s : List UInt8) (fr : Nat) (rows : List Ins) (bg : List Nat) (p : Nat) : List AObj :=
  [.vec 1 [[.str (bs s)]], .vec 1 [[.sl 6 (h + 5) rows.length 0 rows.length]], .vec 1 [[.sl 1 (h + 6) bg.length 0 bg.length]], .vec 1 [[.int .i64 (fr : Int)]], .iter (bs s) p, .vec 6 (rows.map encIns), .vec 1 (bg.map encN)]
theorem lineH_eq {h : Nat} {s : List UInt8} {fr : Nat} {rows : List Ins} {bg : List Nat} {p : Nat} : lineH h s fr rows bg p = [.vec 1 [[.str (bs s)]], .vec 1 [[.sl 6 (h + 5) rows.length 0 rows.length]], .vec 1 [[.sl 1 (h + 6) bg.length 0 bg.length]], .vec 1 [[.int .i64 (fr : Int)]], .iter (bs s) p, .vec 6 (rows.map encIns), .vec 1 (bg.map encN)] := rfl

set_option maxHeartbeats 4000000 in
theorem asm_line_ok {G : List AObj} (hG : Clean G.length G) (s : List UInt8) (fr to : Nat) (rows : List Ins) (bg : List Nat) (p : Nat) (h1 : fr ≤ to) (h2 : to ≤ s.length) (hs : s.length ≤ 1000000) (hr : rows.length ≤ 1000000) (hb : bg.length ≤ 1000000) :
    ACalls Tryd.prog 53 [.int .i64 (to : Int), .ptr G.length 1 0 0, .ptr (G.length + 3) 1 0 0, .ptr (G.length + 1) 1 0 0, .ptr (G.length + 2) 1 0 0] (G ++ lineH G.length s fr rows bg p)
      fun r H' => r = .bool (parseIns ((s.take to).drop fr)).isSome ∧ H' = G ++ lineH G.length s fr (rows ++ [insOr (parseIns ((s.take to).drop fr))]) (bg ++ [fr]) p := by
  refine ACalls.go asm_Parse_1.low (by simp) fun hcl => ?_
  have hp := ins_Parse_ok ((s.take to).drop fr) (by simp; omega)
  rw [insR_eq] at hp
  generalize parseIns ((s.take to).drop fr) = r at *
  have e1 : (fr : Int) ≤ (to : Int) := by omega
  have e2 : (to : Int) ≤ (s.length : Int) := by omega
  generalize insOr r = x at *
  replace hp := Hold.mk hp
  (refine R.seq ?_; refine LCB.text ?_; repeat' (first | simp only [seval, evo, beq_self_eq_true, encB_def, encN_def, sb, insA, encIns, ins_dec, ins_eta, lineH_eq, List.length_append, CallA_fn2, *] | simp (disch := omega) only [if_pos, if_neg]))
  refine R.cut [(2, .ptr (G.length + 3) 1 0 0), (3, .ptr (G.length + 1) 1 0 0), (4, .ptr (G.length + 2) 1 0 0), (7, .ptr (G.length + 7) 1 0 0), (8, .int .i64 (if r.isSome = true then 0 else 2))] (G ++ (lineH G.length s fr rows bg p ++ [.vec 6 [encIns x]])) ?_ ?_
  · repeat' (first | simp only [seval, evo, beq_self_eq_true, encB_def, encN_def, sb, insA, encIns, ins_dec, ins_eta, lineH_eq, List.length_append, CallA_fn2, *] | simp (disch := omega) only [if_pos, if_neg] | refine R.seq ?_ | refine LCB.text ?_ | refine LCB.quiet rfl ?_ | refine R.calls rfl ?_ | refine R.block ?_ | refine LCB.skip ?_ | refine LCB.exit ?_ | refine LCB.ret ?_ | ((first | refine RetOk.val hcl ?_ | refine Weak.at hcl ?_); simp only [seval, evw, List.forall_mem_cons, List.forall_mem_map, List.forall_mem_append, List.not_mem_nil, encB_def, encN_def, sb, insA, encIns, ins_dec, ins_eta, lineH_eq, List.length_append, CallA_fn2, *]) | ((first | refine LCB.cond (by simp only [seval, evo] <;> rfl) ?_ ?_ | refine wpG_split (by simp only [seval, evo] <;> rfl) ?_ ?_ | refine wqG_split (by simp only [seval, evo] <;> rfl) ?_ ?_) <;> (intro hc; try simp only [seval, nf] at hc)) | refine ACalls.inst ?_ | refine CallP.inst rfl ?_)
    first | refine ACalls.pure (hp.of) ?_ | refine CallP.pure (hp.of) rfl ?_ | refine CallX.pure (hp.of) ?_
    repeat' (first | simp only [seval, evo, beq_self_eq_true, encB_def, encN_def, sb, insA, encIns, ins_dec, ins_eta, lineH_eq, List.length_append, CallA_fn2, *] | simp (disch := omega) only [if_pos, if_neg] | refine R.seq ?_ | refine LCB.text ?_ | refine LCB.quiet rfl ?_ | refine R.calls rfl ?_ | refine R.block ?_ | refine LCB.skip ?_ | refine LCB.exit ?_ | refine LCB.ret ?_ | ((first | refine RetOk.val hcl ?_ | refine Weak.at hcl ?_); simp only [seval, evw, List.forall_mem_cons, List.forall_mem_map, List.forall_mem_append, List.not_mem_nil, encB_def, encN_def, sb, insA, encIns, ins_dec, ins_eta, lineH_eq, List.length_append, CallA_fn2, *]) | ((first | refine LCB.cond (by simp only [seval, evo] <;> rfl) ?_ ?_ | refine wpG_split (by simp only [seval, evo] <;> rfl) ?_ ?_ | refine wqG_split (by simp only [seval, evo] <;> rfl) ?_ ?_) <;> (intro hc; try simp only [seval, nf] at hc)) | refine ACalls.inst ?_ | refine CallP.inst rfl ?_)
    refine Weak.at hG ?_
    simp only [seval, evw, List.forall_mem_cons, List.forall_mem_map, List.forall_mem_append, List.not_mem_nil, encB_def, encN_def, sb, insA, encIns, ins_dec, ins_eta, lineH_eq, List.length_append, CallA_fn2, *]
  have b1 : (rows.length + 1) * 48 ≤ 140737488355328 := by omega
  have b2 : rows.length ≤ 9223372036854775806 := by omega
  have b3 : (bg.length + 1) * 8 ≤ 140737488355328 := by omega
  have b4 : bg.length ≤ 9223372036854775806 := by omega
  refine R.cut [(8, .int .i64 (if r.isSome = true then 0 else 2))] (G ++ lineH G.length s fr (rows ++ [x]) (bg ++ [fr]) p) ?_ ?_
  · refine LCB.any ?_
    simp (maxSteps := 100000000) only [wpP, wpPs, wpT_none, pureStep, seval, ev1, ev2, ev3, ev4, encB_def, encN_def, sb, insA, encIns, ins_dec, ins_eta, lineH_eq, List.length_append, CallA_fn2, *]
    repeat' (first | constructor | (refine Weak.at hG ?_; simp only [seval, evw, List.forall_mem_cons, List.forall_mem_map, List.forall_mem_append, List.not_mem_nil, encB_def, encN_def, sb, insA, encIns, ins_dec, ins_eta, lineH_eq, List.length_append, CallA_fn2, *]))
  repeat' (first | simp only [seval, evo, beq_self_eq_true, encB_def, encN_def, sb, insA, encIns, ins_dec, ins_eta, lineH_eq, List.length_append, CallA_fn2, *] | simp (disch := omega) only [if_pos, if_neg] | refine R.seq ?_ | refine LCB.text ?_ | refine LCB.quiet rfl ?_ | refine R.calls rfl ?_ | refine R.block ?_ | refine LCB.skip ?_ | refine LCB.exit ?_ | refine LCB.ret ?_ | ((first | refine RetOk.val hcl ?_ | refine Weak.at hcl ?_); simp only [seval, evw, List.forall_mem_cons, List.forall_mem_map, List.forall_mem_append, List.not_mem_nil, encB_def, encN_def, sb, insA, encIns, ins_dec, ins_eta, lineH_eq, List.length_append, CallA_fn2, *]) | ((first | refine LCB.cond (by simp only [seval, evo] <;> rfl) ?_ ?_ | refine wpG_split (by simp only [seval, evo] <;> rfl) ?_ ?_ | refine wqG_split (by simp only [seval, evo] <;> rfl) ?_ ?_) <;> (intro hc; try simp only [seval, nf] at hc)) | refine ACalls.inst ?_ | refine CallP.inst rfl ?_)
  refine RetOk.upd0 (.bool r.isSome) ?_ ?_ ?_ ?_
  · simp only [seval, evw, List.forall_mem_cons, List.forall_mem_map, List.forall_mem_append, List.not_mem_nil, encB_def, encN_def, sb, insA, encIns, ins_dec, ins_eta, lineH_eq, List.length_append, CallA_fn2, *]
  · rw [List.length_append]
    refine (hG.le (by omega)).app ?_
    simp only [seval, evw, List.forall_mem_cons, List.forall_mem_map, List.forall_mem_append, List.not_mem_nil, encB_def, encN_def, sb, insA, encIns, ins_dec, ins_eta, lineH_eq, List.length_append, CallA_fn2, *]
  · cases r <;> (simp only [seval, evw, List.forall_mem_cons, List.forall_mem_map, List.forall_mem_append, List.not_mem_nil, encB_def, encN_def, sb, insA, encIns, ins_dec, ins_eta, lineH_eq, List.length_append, CallA_fn2, *]; rfl)
  · simp only [seval, evw, List.forall_mem_cons, List.forall_mem_map, List.forall_mem_append, List.not_mem_nil, encB_def, encN_def, sb, insA, encIns, ins_dec, ins_eta, lineH_eq, List.length_append, CallA_fn2, *]
end Go.Proofs.YtbkbehkjndmabaaDoor
/-
  asm: a function's text, read.
-/
namespace Go.Proofs.YtbkbehkjndmabaaDoor
open Go.RowKit
set_option linter.unusedVariables false
set_option linter.unusedSimpArgs false

/-- What a text's lines are: its instructions, and where they begin; or where the first wrong line begins. -/
def scan : Nat → List UInt8 → List UInt8 → List Ins → List Nat → Except Nat (List Ins × List Nat)
  | fr, cur, [], f, bg => if cur.length = 0 then .ok (f, bg) else .error fr
  | fr, cur, c :: r, f, bg => if c = 10 then match parseIns cur with
      | some x => scan (fr + cur.length + 1) [] r (f ++ [x]) (bg ++ [fr])
      | none => .error fr
    else scan fr (cur ++ [c]) r f bg
def fnParse (s : List UInt8) : List Ins × Int × Int := if 20000 < s.length then ([], 0, 3) else match scan 0 [] s [] [] with
  | .error fr => ([], (fr : Int), 2)
  | .ok (f, bg) => if (fnChk f).2 = 0 then (f, 0, 0) else ([], (if (fnChk f).1.toNat < bg.length then ((bg.getD (fnChk f).1.toNat 0 : Nat) : Int) else (fnChk f).1), (fnChk f).2)
def fnR (q : List Ins × Int × Int) : AV := .tup [encFn q.1, .int .i64 q.2.1, .int .i64 q.2.2]

theorem scan_skip {s : List UInt8} {fr : Nat} {f : List Ins} {bg : List Nat} : ∀ (w p : Nat), fr ≤ p → p + w ≤ s.length → (∀ q, p ≤ q → q < p + w → s.getD q 0 ≠ 10) → scan fr ((s.take p).drop fr) (s.drop p) f bg = scan fr ((s.take (p + w)).drop fr) (s.drop (p + w)) f bg
  | 0, p, _, _, _ => rfl
  | w + 1, p, ha, hp, hq => by
    rw [drop_at (show p < s.length by omega), scan, if_neg (hq p (Nat.le_refl _) (by omega))]
    have e : (s.take p).drop fr ++ [s.getD p 0] = (s.take (p + 1)).drop fr := by
      rw [take_all (by omega), List.drop_append_of_le_length (by simp; omega)]
    rw [e, scan_skip w (p + 1) (by omega) (by omega) (fun q h1 h2 => hq q (by omega) (by omega)), Nat.add_right_comm, Nat.add_assoc]
theorem fnChk_at (f : List Ins) : ∃ k : Nat, (fnChk f).1 = (k : Int) ∧ k ≤ 200 := by
  by_cases h1 : 200 < f.length
  · exact ⟨0, by rw [fnChk_full h1]; rfl, by omega⟩
  · by_cases h2 : f.length = 0
    · exact ⟨0, by rw [fnChk_nil h2]; rfl, by omega⟩
    · cases hb : badAt (f.length : Int) 0 f with
      | some q =>
        obtain ⟨i, e⟩ := q
        have := (badAt_some _ _ _ _ hb).2.2
        exact ⟨i, by rw [fnChk_bad h1 h2 hb], by omega⟩
      | none =>
        rw [fnChk_good h1 h2 hb]
        split
        · exact ⟨0, rfl, by omega⟩
        · exact ⟨f.length - 1, rfl, by omega⟩
theorem getD_encN {l : List Nat} {j : Nat} (h : j < l.length) : (l.map encN).getD j [] = [.int .i64 ((l.getD j 0 : Nat) : Int)] := by
  simp [List.getD, h, encN]

set_option maxHeartbeats 4000000 in
theorem asm_Parse_ok (s : List UInt8) (hs : s.length ≤ maxLen) : Pure Tryd.prog 40 [.str (bs s)] (fnR (fnParse s)) := by
  intro H
  refine ACalls.go asm_Parse.low (by simp) fun hcl => ?_
  by_cases hbig : 20000 < s.length
  · have e1 : (20000 : Int) < (s.length : Int) := by omega
    have hr : fnR (fnParse s) = .tup [.list [], .int .i64 0, .int .i64 3] := by unfold fnParse; rw [if_pos hbig]; rfl
    repeat' (first | simp only [seval, evo, beq_self_eq_true, encB_def, encN_def, sb, insA, encIns, ins_dec, ins_eta, lineH_eq, List.length_append, CallA_fn2, *] | simp (disch := omega) only [if_pos, if_neg] | refine R.seq ?_ | refine LCB.text ?_ | refine LCB.quiet rfl ?_ | refine R.calls rfl ?_ | refine R.block ?_ | refine LCB.skip ?_ | refine LCB.exit ?_ | refine LCB.ret ?_ | ((first | refine RetOk.val hcl ?_ | refine Weak.at hcl ?_); simp only [seval, evw, List.forall_mem_cons, List.forall_mem_map, List.forall_mem_append, List.not_mem_nil, encB_def, encN_def, sb, insA, encIns, ins_dec, ins_eta, lineH_eq, List.length_append, CallA_fn2, *]) | ((first | refine LCB.cond (by simp only [seval, evo] <;> rfl) ?_ ?_ | refine wpG_split (by simp only [seval, evo] <;> rfl) ?_ ?_ | refine wqG_split (by simp only [seval, evo] <;> rfl) ?_ ?_) <;> (intro hc; try simp only [seval, nf] at hc)) | refine ACalls.inst ?_ | refine CallP.inst rfl ?_)
  have e1 : ¬ (20000 : Int) < (s.length : Int) := by omega
  have hR : Hold (fnParse s = match scan 0 [] s [] [] with
    | .error fr => ([], (fr : Int), 2)
    | .ok (f, bg) => if (fnChk f).2 = 0 then (f, 0, 0) else ([], (if (fnChk f).1.toNat < bg.length then ((bg.getD (fnChk f).1.toNat 0 : Nat) : Int) else (fnChk f).1), (fnChk f).2)) := ⟨by unfold fnParse; rw [if_neg hbig]⟩
  generalize fnParse s = PR at *
  generalize hsc : scan 0 [] s [] [] = SC at *
  replace hsc := Hold.mk hsc
  replace hbig := Hold.mk hbig
  repeat' (first | simp only [seval, evo, beq_self_eq_true, encB_def, encN_def, sb, insA, encIns, ins_dec, ins_eta, lineH_eq, List.length_append, CallA_fn2, *] | simp (disch := omega) only [if_pos, if_neg] | refine R.seq ?_ | refine LCB.text ?_ | refine LCB.quiet rfl ?_ | refine R.calls rfl ?_ | refine R.block ?_ | refine LCB.skip ?_ | refine LCB.exit ?_ | refine LCB.ret ?_ | ((first | refine RetOk.val hcl ?_ | refine Weak.at hcl ?_); simp only [seval, evw, List.forall_mem_cons, List.forall_mem_map, List.forall_mem_append, List.not_mem_nil, encB_def, encN_def, sb, insA, encIns, ins_dec, ins_eta, lineH_eq, List.length_append, CallA_fn2, *]) | ((first | refine LCB.cond (by simp only [seval, evo] <;> rfl) ?_ ?_ | refine wpG_split (by simp only [seval, evo] <;> rfl) ?_ ?_ | refine wqG_split (by simp only [seval, evo] <;> rfl) ?_ ?_) <;> (intro hc; try simp only [seval, nf] at hc)) | refine ACalls.inst ?_ | refine CallP.inst rfl ?_)
  refine R.loop (S := Nat × Nat × List Ins × List Nat) ⟨fun y => [(1, .ptr H.length 1 0 0), (5, .ptr (H.length + 1) 1 0 0), (6, .ptr (H.length + 2) 1 0 0), (7, .ptr (H.length + 3) 1 0 0), (8, .fn (.func 53) [] [.ptr H.length 1 0 0, .ptr (H.length + 3) 1 0 0, .ptr (H.length + 1) 1 0 0, .ptr (H.length + 2) 1 0 0]), (18, .iter (H.length + 4))], fun y => H ++ lineH H.length s y.2.1 y.2.2.1 y.2.2.2 y.1,
    fun y => y.1 ≤ s.length ∧ y.2.1 ≤ y.1 ∧ y.2.2.1.length ≤ y.1 ∧ y.2.2.2.length ≤ y.1 ∧ scan y.2.1 ((s.take y.1).drop y.2.1) (s.drop y.1) y.2.2.1 y.2.2.2 = SC, fun y => s.length - y.1⟩ (0, 0, [], []) ⟨Nat.zero_le _, Nat.zero_le _, Nat.zero_le _, Nat.zero_le _, by rw [← hsc.of]; simp⟩
    ((Weak.growCellAt 1 6 (by omega) rfl).trans ((Weak.growCellAt 2 1 (by omega) rfl).trans (Weak.at hcl ?_))) ?_
  · simp only [seval, evw, List.forall_mem_cons, List.forall_mem_map, List.forall_mem_append, List.not_mem_nil, encB_def, encN_def, sb, insA, encIns, ins_dec, ins_eta, lineH_eq, List.length_append, CallA_fn2, *]
  rintro ⟨p, fr, f, bg⟩ ⟨hp, hfr, hfl, hbl, hq⟩
  simp only at hp hfr hfl hbl hq ⊢
  have hs2 : s.length ≤ 20000 := by have := hbig.of; omega
  replace hq := Hold.mk hq
  by_cases hlt : p < s.length
  · obtain ⟨r, w, hd, h1, h2, h3⟩ := dec_step hlt
    have e2 : IntKind.i64.wrap ((p : Int) + 1) = ((p + 1 : Nat) : Int) := by rw [IntKind.wrap_i64]; omega
    replace h3 := Hold.mk h3
    by_cases h10 : r = 10
    · subst h10
      have h3 := (h3.of.resolve_right (by omega))
      obtain ⟨h4, rfl, _⟩ := h3
      have hc10 : s.getD p 0 = 10 := UInt8.toNat_inj.1 (by rw [← h4]; rfl)
      have hq2 := hq.of
      rw [drop_at hlt, scan, if_pos hc10] at hq2
      have hlen : fr + ((s.take p).drop fr).length + 1 = p + 1 := by simp; omega
      rw [hlen] at hq2
      clear hlen
      have e3 : (((10 : Nat) : Int)) = 10 := rfl
      have hline := Hold.mk (asm_line_ok hcl s fr p f bg (p + 1) hfr hp (by omega) (by omega) (by omega))
      replace h4 := Hold.mk h4
      generalize (s.take p).drop fr = cur at *
      cases hpi : parseIns cur with
      | some x =>
        rw [hpi] at hq2 hline
        simp only at hq2
        have hx1 : insOr (some x) = x := rfl
        have hx2 : (some x).isSome = true := rfl
        replace hq2 := Hold.mk hq2
        replace hpi := Hold.mk hpi
        repeat' (first | simp only [seval, evo, beq_self_eq_true, encB_def, encN_def, sb, insA, encIns, ins_dec, ins_eta, lineH_eq, List.length_append, CallA_fn2, *] | simp (disch := omega) only [if_pos, if_neg] | refine R.seq ?_ | refine LCB.text ?_ | refine LCB.quiet rfl ?_ | refine R.calls rfl ?_ | refine R.block ?_ | refine LCB.skip ?_ | refine LCB.exit ?_ | refine LCB.ret ?_ | ((first | refine RetOk.val hcl ?_ | refine Weak.at hcl ?_); simp only [seval, evw, List.forall_mem_cons, List.forall_mem_map, List.forall_mem_append, List.not_mem_nil, encB_def, encN_def, sb, insA, encIns, ins_dec, ins_eta, lineH_eq, List.length_append, CallA_fn2, *]) | ((first | refine LCB.cond (by simp only [seval, evo] <;> rfl) ?_ ?_ | refine wpG_split (by simp only [seval, evo] <;> rfl) ?_ ?_ | refine wqG_split (by simp only [seval, evo] <;> rfl) ?_ ?_) <;> (intro hc; try simp only [seval, nf] at hc)) | refine ACalls.inst ?_ | refine CallP.inst rfl ?_)
        simp only [lineH_eq] at hline
        refine hline.of.mono ?_
        rintro r' H' ⟨rfl, rfl⟩
        repeat' (first | simp only [seval, evo, beq_self_eq_true, encB_def, encN_def, sb, insA, encIns, ins_dec, ins_eta, lineH_eq, List.length_append, CallA_fn2, *] | simp (disch := omega) only [if_pos, if_neg] | refine R.seq ?_ | refine LCB.text ?_ | refine LCB.quiet rfl ?_ | refine R.calls rfl ?_ | refine R.block ?_ | refine LCB.skip ?_ | refine LCB.exit ?_ | refine LCB.ret ?_ | ((first | refine RetOk.val hcl ?_ | refine Weak.at hcl ?_); simp only [seval, evw, List.forall_mem_cons, List.forall_mem_map, List.forall_mem_append, List.not_mem_nil, encB_def, encN_def, sb, insA, encIns, ins_dec, ins_eta, lineH_eq, List.length_append, CallA_fn2, *]) | ((first | refine LCB.cond (by simp only [seval, evo] <;> rfl) ?_ ?_ | refine wpG_split (by simp only [seval, evo] <;> rfl) ?_ ?_ | refine wqG_split (by simp only [seval, evo] <;> rfl) ?_ ?_) <;> (intro hc; try simp only [seval, nf] at hc)) | refine ACalls.inst ?_ | refine CallP.inst rfl ?_)
        refine ⟨(p + 1, p + 1, f ++ [x], bg ++ [fr]), ⟨h2, Nat.le_refl _, by simp only [List.length_append, List.length_cons, List.length_nil]; omega, by simp only [List.length_append, List.length_cons, List.length_nil]; omega, ?_⟩, by simp only; omega, Weak.at hcl ?_⟩
        · simp only
          rw [← hq2.of]
          simp
        · simp only [seval, evw, List.forall_mem_cons, List.forall_mem_map, List.forall_mem_append, List.not_mem_nil, encB_def, encN_def, sb, insA, encIns, ins_dec, ins_eta, lineH_eq, List.length_append, CallA_fn2, *]
      | none =>
        rw [hpi] at hq2 hline
        have hx2 : (none : Option Ins).isSome = false := rfl
        have hres : fnR PR = .tup [.list [], .int .i64 (fr : Int), .int .i64 2] := by rw [hR.of, ← hq2]; rfl
        replace hq2 := Hold.mk hq2
        replace hpi := Hold.mk hpi
        repeat' (first | simp only [seval, evo, beq_self_eq_true, encB_def, encN_def, sb, insA, encIns, ins_dec, ins_eta, lineH_eq, List.length_append, CallA_fn2, *] | simp (disch := omega) only [if_pos, if_neg] | refine R.seq ?_ | refine LCB.text ?_ | refine LCB.quiet rfl ?_ | refine R.calls rfl ?_ | refine R.block ?_ | refine LCB.skip ?_ | refine LCB.exit ?_ | refine LCB.ret ?_ | ((first | refine RetOk.val hcl ?_ | refine Weak.at hcl ?_); simp only [seval, evw, List.forall_mem_cons, List.forall_mem_map, List.forall_mem_append, List.not_mem_nil, encB_def, encN_def, sb, insA, encIns, ins_dec, ins_eta, lineH_eq, List.length_append, CallA_fn2, *]) | ((first | refine LCB.cond (by simp only [seval, evo] <;> rfl) ?_ ?_ | refine wpG_split (by simp only [seval, evo] <;> rfl) ?_ ?_ | refine wqG_split (by simp only [seval, evo] <;> rfl) ?_ ?_) <;> (intro hc; try simp only [seval, nf] at hc)) | refine ACalls.inst ?_ | refine CallP.inst rfl ?_)
        simp only [lineH_eq] at hline
        refine hline.of.mono ?_
        rintro r' H' ⟨rfl, rfl⟩
        repeat' (first | simp only [seval, evo, beq_self_eq_true, encB_def, encN_def, sb, insA, encIns, ins_dec, ins_eta, lineH_eq, List.length_append, CallA_fn2, *] | simp (disch := omega) only [if_pos, if_neg] | refine R.seq ?_ | refine LCB.text ?_ | refine LCB.quiet rfl ?_ | refine R.calls rfl ?_ | refine R.block ?_ | refine LCB.skip ?_ | refine LCB.exit ?_ | refine LCB.ret ?_ | ((first | refine RetOk.val hcl ?_ | refine Weak.at hcl ?_); simp only [seval, evw, List.forall_mem_cons, List.forall_mem_map, List.forall_mem_append, List.not_mem_nil, encB_def, encN_def, sb, insA, encIns, ins_dec, ins_eta, lineH_eq, List.length_append, CallA_fn2, *]) | ((first | refine LCB.cond (by simp only [seval, evo] <;> rfl) ?_ ?_ | refine wpG_split (by simp only [seval, evo] <;> rfl) ?_ ?_ | refine wqG_split (by simp only [seval, evo] <;> rfl) ?_ ?_) <;> (intro hc; try simp only [seval, nf] at hc)) | refine ACalls.inst ?_ | refine CallP.inst rfl ?_)
    · have e3 : ¬ (r : Int) = 10 := by omega
      replace h10 := Hold.mk h10
      have hx := Hold.mk (scan_skip (s := s) (fr := fr) (f := f) (bg := bg) w p hfr h2 (fun q g1 g2 g3 => by
        rcases h3.of with ⟨h4, h5, _⟩ | ⟨h4, h5⟩
        · have : q = p := by omega
          subst this
          rw [g3] at h4
          exact h10.of h4
        · have := h5 q g1 g2
          rw [g3] at this
          exact absurd this (by decide)))
      repeat' (first | simp only [seval, evo, beq_self_eq_true, encB_def, encN_def, sb, insA, encIns, ins_dec, ins_eta, lineH_eq, List.length_append, CallA_fn2, *] | simp (disch := omega) only [if_pos, if_neg] | refine R.seq ?_ | refine LCB.text ?_ | refine LCB.quiet rfl ?_ | refine R.calls rfl ?_ | refine R.block ?_ | refine LCB.skip ?_ | refine LCB.exit ?_ | refine LCB.ret ?_ | ((first | refine RetOk.val hcl ?_ | refine Weak.at hcl ?_); simp only [seval, evw, List.forall_mem_cons, List.forall_mem_map, List.forall_mem_append, List.not_mem_nil, encB_def, encN_def, sb, insA, encIns, ins_dec, ins_eta, lineH_eq, List.length_append, CallA_fn2, *]) | ((first | refine LCB.cond (by simp only [seval, evo] <;> rfl) ?_ ?_ | refine wpG_split (by simp only [seval, evo] <;> rfl) ?_ ?_ | refine wqG_split (by simp only [seval, evo] <;> rfl) ?_ ?_) <;> (intro hc; try simp only [seval, nf] at hc)) | refine ACalls.inst ?_ | refine CallP.inst rfl ?_)
      refine ⟨(p + w, fr, f, bg), ⟨h2, by simp only; omega, by simp only; omega, by simp only; omega, ?_⟩, by simp only; omega, Weak.at hcl ?_⟩
      · simp only
        rw [← hq.of, hx.of]
      · simp only [seval, evw, List.forall_mem_cons, List.forall_mem_map, List.forall_mem_append, List.not_mem_nil, encB_def, encN_def, sb, insA, encIns, ins_dec, ins_eta, lineH_eq, List.length_append, CallA_fn2, *]
  · have hp' : p = s.length := by omega
    subst hp'
    refine LCB.pre (Weak.viewH (sl := [(1, .ptr H.length 1 0 0), (5, .ptr (H.length + 1) 1 0 0), (6, .ptr (H.length + 2) 1 0 0), (7, .ptr (H.length + 3) 1 0 0), (18, .iter (H.length + 4))])
      (L' := [.vec 1 [[.str (bs s)]], .vec 1 [[.list (f.map encIns)]], .vec 1 [[.list (bg.map encN)]], .vec 1 [[.int .i64 (fr : Int)]], .iter (bs s) s.length]) hcl (by simp) (by simp [lineH]) ?_ ?_) ?_
    · intro i o q g1 g2
      match i with
      | 0 => simp [lineH] at g1 g2; subst g1; subst g2; exact .same (by simp only [seval, evw, List.forall_mem_cons, List.forall_mem_map, List.forall_mem_append, List.not_mem_nil, encB_def, encN_def, sb, insA, encIns, ins_dec, ins_eta, lineH_eq, List.length_append, CallA_fn2, *])
      | 1 => simp [lineH] at g1 g2; subst g1; subst g2; exact .cell (by simp only [seval, evw, List.forall_mem_cons, List.forall_mem_map, List.forall_mem_append, List.not_mem_nil, encB_def, encN_def, sb, insA, encIns, ins_dec, ins_eta, lineH_eq, List.length_append, CallA_fn2, *])
      | 2 => simp [lineH] at g1 g2; subst g1; subst g2; exact .cell (by simp only [seval, evw, List.forall_mem_cons, List.forall_mem_map, List.forall_mem_append, List.not_mem_nil, encB_def, encN_def, sb, insA, encIns, ins_dec, ins_eta, lineH_eq, List.length_append, CallA_fn2, *])
      | 3 => simp [lineH] at g1 g2; subst g1; subst g2; exact .same (by simp only [seval, evw, List.forall_mem_cons, List.forall_mem_map, List.forall_mem_append, List.not_mem_nil, encB_def, encN_def, sb, insA, encIns, ins_dec, ins_eta, lineH_eq, List.length_append, CallA_fn2, *])
      | 4 => simp [lineH] at g1 g2; subst g1; subst g2; exact .same (by simp only [seval, evw, List.forall_mem_cons, List.forall_mem_map, List.forall_mem_append, List.not_mem_nil, encB_def, encN_def, sb, insA, encIns, ins_dec, ins_eta, lineH_eq, List.length_append, CallA_fn2, *])
      | n + 5 => simp at g2
    · simp only [seval, evw, List.forall_mem_cons, List.forall_mem_map, List.forall_mem_append, List.not_mem_nil, encB_def, encN_def, sb, insA, encIns, ins_dec, ins_eta, lineH_eq, List.length_append, CallA_fn2, *]
    have hq2 := hq.of
    rw [List.drop_length, List.take_length, scan] at hq2
    by_cases hend : fr < s.length
    · rw [if_neg (by simp; omega)] at hq2
      have e5 : (fr : Int) < (s.length : Int) := by omega
      have hres : fnR PR = .tup [.list [], .int .i64 (fr : Int), .int .i64 2] := by rw [hR.of, ← hq2]; rfl
      replace hq2 := Hold.mk hq2
      repeat' (first | simp only [seval, evo, beq_self_eq_true, encB_def, encN_def, sb, insA, encIns, ins_dec, ins_eta, lineH_eq, List.length_append, CallA_fn2, *] | simp (disch := omega) only [if_pos, if_neg] | refine R.seq ?_ | refine LCB.text ?_ | refine LCB.quiet rfl ?_ | refine R.calls rfl ?_ | refine R.block ?_ | refine LCB.skip ?_ | refine LCB.exit ?_ | refine LCB.ret ?_ | ((first | refine RetOk.val hcl ?_ | refine Weak.at hcl ?_); simp only [seval, evw, List.forall_mem_cons, List.forall_mem_map, List.forall_mem_append, List.not_mem_nil, encB_def, encN_def, sb, insA, encIns, ins_dec, ins_eta, lineH_eq, List.length_append, CallA_fn2, *]) | ((first | refine LCB.cond (by simp only [seval, evo] <;> rfl) ?_ ?_ | refine wpG_split (by simp only [seval, evo] <;> rfl) ?_ ?_ | refine wqG_split (by simp only [seval, evo] <;> rfl) ?_ ?_) <;> (intro hc; try simp only [seval, nf] at hc)) | refine ACalls.inst ?_ | refine CallP.inst rfl ?_)
    · rw [if_pos (by simp; omega)] at hq2
      have e5 : ¬ (fr : Int) < (s.length : Int) := by omega
      have hres := hR.of
      rw [← hq2] at hres
      simp only at hres
      have hc1 := asm_Check_ok f
      obtain ⟨k, hk1, hk2⟩ := fnChk_at f
      unfold encFn fnChkA at hc1
      rw [hk1] at hc1 hres
      simp only [Int.toNat_natCast] at hres
      generalize (fnChk f).2 = e at *
      clear hk1
      replace hq2 := Hold.mk hq2
      replace hc1 := Hold.mk hc1
      by_cases he : e = 0
      · rw [if_pos he] at hres
        have hres2 : fnR PR = .tup [.list (f.map encIns), .int .i64 0, .int .i64 0] := by rw [hres]; rfl
        subst he
        replace hres := Hold.mk hres
        repeat' (first | simp only [seval, evo, beq_self_eq_true, encB_def, encN_def, sb, insA, encIns, ins_dec, ins_eta, lineH_eq, List.length_append, CallA_fn2, *] | simp (disch := omega) only [if_pos, if_neg] | refine R.seq ?_ | refine LCB.text ?_ | refine LCB.quiet rfl ?_ | refine R.calls rfl ?_ | refine R.block ?_ | refine LCB.skip ?_ | refine LCB.exit ?_ | refine LCB.ret ?_ | ((first | refine RetOk.val hcl ?_ | refine Weak.at hcl ?_); simp only [seval, evw, List.forall_mem_cons, List.forall_mem_map, List.forall_mem_append, List.not_mem_nil, encB_def, encN_def, sb, insA, encIns, ins_dec, ins_eta, lineH_eq, List.length_append, CallA_fn2, *]) | ((first | refine LCB.cond (by simp only [seval, evo] <;> rfl) ?_ ?_ | refine wpG_split (by simp only [seval, evo] <;> rfl) ?_ ?_ | refine wqG_split (by simp only [seval, evo] <;> rfl) ?_ ?_) <;> (intro hc; try simp only [seval, nf] at hc)) | refine ACalls.inst ?_ | refine CallP.inst rfl ?_)
        first | refine ACalls.pure (hc1.of) ?_ | refine CallP.pure (hc1.of) rfl ?_ | refine CallX.pure (hc1.of) ?_
        repeat' (first | simp only [seval, evo, beq_self_eq_true, encB_def, encN_def, sb, insA, encIns, ins_dec, ins_eta, lineH_eq, List.length_append, CallA_fn2, *] | simp (disch := omega) only [if_pos, if_neg] | refine R.seq ?_ | refine LCB.text ?_ | refine LCB.quiet rfl ?_ | refine R.calls rfl ?_ | refine R.block ?_ | refine LCB.skip ?_ | refine LCB.exit ?_ | refine LCB.ret ?_ | ((first | refine RetOk.val hcl ?_ | refine Weak.at hcl ?_); simp only [seval, evw, List.forall_mem_cons, List.forall_mem_map, List.forall_mem_append, List.not_mem_nil, encB_def, encN_def, sb, insA, encIns, ins_dec, ins_eta, lineH_eq, List.length_append, CallA_fn2, *]) | ((first | refine LCB.cond (by simp only [seval, evo] <;> rfl) ?_ ?_ | refine wpG_split (by simp only [seval, evo] <;> rfl) ?_ ?_ | refine wqG_split (by simp only [seval, evo] <;> rfl) ?_ ?_) <;> (intro hc; try simp only [seval, nf] at hc)) | refine ACalls.inst ?_ | refine CallP.inst rfl ?_)
      · rw [if_neg he] at hres
        by_cases hkb : k < bg.length
        · rw [if_pos hkb] at hres
          have hres2 : fnR PR = .tup [.list [], .int .i64 ((bg.getD k 0 : Nat) : Int), .int .i64 e] := by rw [hres]; rfl
          have e6 : (k : Int) < (bg.length : Int) := by omega
          have hg := getD_encN hkb
          replace hres := Hold.mk hres
          repeat' (first | simp only [seval, evo, beq_self_eq_true, encB_def, encN_def, sb, insA, encIns, ins_dec, ins_eta, lineH_eq, List.length_append, CallA_fn2, *] | simp (disch := omega) only [if_pos, if_neg] | refine R.seq ?_ | refine LCB.text ?_ | refine LCB.quiet rfl ?_ | refine R.calls rfl ?_ | refine R.block ?_ | refine LCB.skip ?_ | refine LCB.exit ?_ | refine LCB.ret ?_ | ((first | refine RetOk.val hcl ?_ | refine Weak.at hcl ?_); simp only [seval, evw, List.forall_mem_cons, List.forall_mem_map, List.forall_mem_append, List.not_mem_nil, encB_def, encN_def, sb, insA, encIns, ins_dec, ins_eta, lineH_eq, List.length_append, CallA_fn2, *]) | ((first | refine LCB.cond (by simp only [seval, evo] <;> rfl) ?_ ?_ | refine wpG_split (by simp only [seval, evo] <;> rfl) ?_ ?_ | refine wqG_split (by simp only [seval, evo] <;> rfl) ?_ ?_) <;> (intro hc; try simp only [seval, nf] at hc)) | refine ACalls.inst ?_ | refine CallP.inst rfl ?_)
          first | refine ACalls.pure (hc1.of) ?_ | refine CallP.pure (hc1.of) rfl ?_ | refine CallX.pure (hc1.of) ?_
          repeat' (first | simp only [seval, evo, beq_self_eq_true, encB_def, encN_def, sb, insA, encIns, ins_dec, ins_eta, lineH_eq, List.length_append, CallA_fn2, *] | simp (disch := omega) only [if_pos, if_neg] | refine R.seq ?_ | refine LCB.text ?_ | refine LCB.quiet rfl ?_ | refine R.calls rfl ?_ | refine R.block ?_ | refine LCB.skip ?_ | refine LCB.exit ?_ | refine LCB.ret ?_ | ((first | refine RetOk.val hcl ?_ | refine Weak.at hcl ?_); simp only [seval, evw, List.forall_mem_cons, List.forall_mem_map, List.forall_mem_append, List.not_mem_nil, encB_def, encN_def, sb, insA, encIns, ins_dec, ins_eta, lineH_eq, List.length_append, CallA_fn2, *]) | ((first | refine LCB.cond (by simp only [seval, evo] <;> rfl) ?_ ?_ | refine wpG_split (by simp only [seval, evo] <;> rfl) ?_ ?_ | refine wqG_split (by simp only [seval, evo] <;> rfl) ?_ ?_) <;> (intro hc; try simp only [seval, nf] at hc)) | refine ACalls.inst ?_ | refine CallP.inst rfl ?_)
        · rw [if_neg hkb] at hres
          have hres2 : fnR PR = .tup [.list [], .int .i64 (k : Int), .int .i64 e] := by rw [hres]; rfl
          have e6 : ¬ (k : Int) < (bg.length : Int) := by omega
          replace hres := Hold.mk hres
          repeat' (first | simp only [seval, evo, beq_self_eq_true, encB_def, encN_def, sb, insA, encIns, ins_dec, ins_eta, lineH_eq, List.length_append, CallA_fn2, *] | simp (disch := omega) only [if_pos, if_neg] | refine R.seq ?_ | refine LCB.text ?_ | refine LCB.quiet rfl ?_ | refine R.calls rfl ?_ | refine R.block ?_ | refine LCB.skip ?_ | refine LCB.exit ?_ | refine LCB.ret ?_ | ((first | refine RetOk.val hcl ?_ | refine Weak.at hcl ?_); simp only [seval, evw, List.forall_mem_cons, List.forall_mem_map, List.forall_mem_append, List.not_mem_nil, encB_def, encN_def, sb, insA, encIns, ins_dec, ins_eta, lineH_eq, List.length_append, CallA_fn2, *]) | ((first | refine LCB.cond (by simp only [seval, evo] <;> rfl) ?_ ?_ | refine wpG_split (by simp only [seval, evo] <;> rfl) ?_ ?_ | refine wqG_split (by simp only [seval, evo] <;> rfl) ?_ ?_) <;> (intro hc; try simp only [seval, nf] at hc)) | refine ACalls.inst ?_ | refine CallP.inst rfl ?_)
          first | refine ACalls.pure (hc1.of) ?_ | refine CallP.pure (hc1.of) rfl ?_ | refine CallX.pure (hc1.of) ?_
          repeat' (first | simp only [seval, evo, beq_self_eq_true, encB_def, encN_def, sb, insA, encIns, ins_dec, ins_eta, lineH_eq, List.length_append, CallA_fn2, *] | simp (disch := omega) only [if_pos, if_neg] | refine R.seq ?_ | refine LCB.text ?_ | refine LCB.quiet rfl ?_ | refine R.calls rfl ?_ | refine R.block ?_ | refine LCB.skip ?_ | refine LCB.exit ?_ | refine LCB.ret ?_ | ((first | refine RetOk.val hcl ?_ | refine Weak.at hcl ?_); simp only [seval, evw, List.forall_mem_cons, List.forall_mem_map, List.forall_mem_append, List.not_mem_nil, encB_def, encN_def, sb, insA, encIns, ins_dec, ins_eta, lineH_eq, List.length_append, CallA_fn2, *]) | ((first | refine LCB.cond (by simp only [seval, evo] <;> rfl) ?_ ?_ | refine wpG_split (by simp only [seval, evo] <;> rfl) ?_ ?_ | refine wqG_split (by simp only [seval, evo] <;> rfl) ?_ ?_) <;> (intro hc; try simp only [seval, nf] at hc)) | refine ACalls.inst ?_ | refine CallP.inst rfl ?_)
end Go.Proofs.YtbkbehkjndmabaaDoor

/-
  step: how great; the examples.
-/
namespace Go.Proofs.YtbkbehkjndmabaaDoor
open Go.RowKit
set_option linter.unusedVariables false
set_option linter.unusedSimpArgs false
theorem ACalls.views {P : Program} {f : FuncId} {H : List AObj} {args : List AV} {K : AV → List AObj → Prop} (args' : List AV) (h : Loses H H args args') (hc : ACalls P f args' H K) : ACalls P f args H K :=
  ACalls.lose ⟨rfl, fun k o p h1 h2 => .inl (by rw [h1] at h2; cases h2; rfl)⟩ h hc
def kx : List UInt8 := [99, 97, 108, 108, 32, 114, 49, 32, 114, 50, 32, 55, 10, 97, 100, 100, 32, 114, 49, 32, 114, 50, 32, 114, 51, 10, 114, 101, 116, 32, 114, 49, 10]
def kf : List Ins := [⟨15, 1, 2, 0, 7, 0⟩, ⟨4, 1, 2, 3, 0, 0⟩, ⟨18, 0, 1, 0, 0, 0⟩]
def ks : St := ⟨[noW, noW, ⟨true, 5⟩] ++ List.replicate 21 noW, [], 0, 0⟩
def kt : St := ⟨[noW, ⟨true, 9⟩, ⟨true, 5⟩] ++ List.replicate 21 noW, [], 1, 1⟩
theorem kx_ok : fnParse kx = (kf, 0, 0) := by decide +kernel
theorem ks_right : stRight kf ks = true := by decide +kernel
theorem kt_right : stRight kf kt = true := by decide +kernel
theorem ks_step : stepF kf ks [9] = (kt, [⟨7, 5, 9⟩], ⟨0, 0, []⟩) := by decide +kernel
theorem kt_step : stepF kf kt [] = (kt, [], ⟨2, 0, []⟩) := by decide +kernel
def ksc : List AV := [.bool false, .int .i64 0, .bool false, .int .i64 0, .bool true, .int .i64 5, .bool false, .int .i64 0, .bool false, .int .i64 0, .bool false, .int .i64 0, .bool false, .int .i64 0, .bool false, .int .i64 0, .bool false, .int .i64 0, .bool false, .int .i64 0, .bool false, .int .i64 0, .bool false, .int .i64 0, .bool false, .int .i64 0, .bool false, .int .i64 0, .bool false, .int .i64 0, .bool false, .int .i64 0, .bool false, .int .i64 0, .bool false, .int .i64 0, .bool false, .int .i64 0, .bool false, .int .i64 0, .bool false, .int .i64 0, .bool false, .int .i64 0, .bool false, .int .i64 0, .bool false, .int .i64 0, .list [], .int .i64 0, .int .i64 0]
def ksn : List AV := [.bool false, .int .i64 0, .bool false, .int .i64 0, .bool true, .int .i64 5, .bool false, .int .i64 0, .bool false, .int .i64 0, .bool false, .int .i64 0, .bool false, .int .i64 0, .bool false, .int .i64 0, .bool false, .int .i64 0, .bool false, .int .i64 0, .bool false, .int .i64 0, .bool false, .int .i64 0, .bool false, .int .i64 0, .bool false, .int .i64 0, .bool false, .int .i64 0, .bool false, .int .i64 0, .bool false, .int .i64 0, .bool false, .int .i64 0, .bool false, .int .i64 0, .bool false, .int .i64 0, .bool false, .int .i64 0, .bool false, .int .i64 0, .bool false, .int .i64 0, .bool false, .int .i64 0, .imm (.slice none 0 0), .int .i64 0, .int .i64 0]
def ktc : List AV := [.bool false, .int .i64 0, .bool true, .int .i64 9, .bool true, .int .i64 5, .bool false, .int .i64 0, .bool false, .int .i64 0, .bool false, .int .i64 0, .bool false, .int .i64 0, .bool false, .int .i64 0, .bool false, .int .i64 0, .bool false, .int .i64 0, .bool false, .int .i64 0, .bool false, .int .i64 0, .bool false, .int .i64 0, .bool false, .int .i64 0, .bool false, .int .i64 0, .bool false, .int .i64 0, .bool false, .int .i64 0, .bool false, .int .i64 0, .bool false, .int .i64 0, .bool false, .int .i64 0, .bool false, .int .i64 0, .bool false, .int .i64 0, .bool false, .int .i64 0, .bool false, .int .i64 0, .list [], .int .i64 1, .int .i64 1]
theorem ksc_eq : ksc = [.bool false, .int .i64 0, .bool false, .int .i64 0, .bool true, .int .i64 5, .bool false, .int .i64 0, .bool false, .int .i64 0, .bool false, .int .i64 0, .bool false, .int .i64 0, .bool false, .int .i64 0, .bool false, .int .i64 0, .bool false, .int .i64 0, .bool false, .int .i64 0, .bool false, .int .i64 0, .bool false, .int .i64 0, .bool false, .int .i64 0, .bool false, .int .i64 0, .bool false, .int .i64 0, .bool false, .int .i64 0, .bool false, .int .i64 0, .bool false, .int .i64 0, .bool false, .int .i64 0, .bool false, .int .i64 0, .bool false, .int .i64 0, .bool false, .int .i64 0, .bool false, .int .i64 0, .list [], .int .i64 0, .int .i64 0] := rfl
theorem ksn_eq : ksn = [.bool false, .int .i64 0, .bool false, .int .i64 0, .bool true, .int .i64 5, .bool false, .int .i64 0, .bool false, .int .i64 0, .bool false, .int .i64 0, .bool false, .int .i64 0, .bool false, .int .i64 0, .bool false, .int .i64 0, .bool false, .int .i64 0, .bool false, .int .i64 0, .bool false, .int .i64 0, .bool false, .int .i64 0, .bool false, .int .i64 0, .bool false, .int .i64 0, .bool false, .int .i64 0, .bool false, .int .i64 0, .bool false, .int .i64 0, .bool false, .int .i64 0, .bool false, .int .i64 0, .bool false, .int .i64 0, .bool false, .int .i64 0, .bool false, .int .i64 0, .bool false, .int .i64 0, .imm (.slice none 0 0), .int .i64 0, .int .i64 0] := rfl
theorem ktc_eq : ktc = [.bool false, .int .i64 0, .bool true, .int .i64 9, .bool true, .int .i64 5, .bool false, .int .i64 0, .bool false, .int .i64 0, .bool false, .int .i64 0, .bool false, .int .i64 0, .bool false, .int .i64 0, .bool false, .int .i64 0, .bool false, .int .i64 0, .bool false, .int .i64 0, .bool false, .int .i64 0, .bool false, .int .i64 0, .bool false, .int .i64 0, .bool false, .int .i64 0, .bool false, .int .i64 0, .bool false, .int .i64 0, .bool false, .int .i64 0, .bool false, .int .i64 0, .bool false, .int .i64 0, .bool false, .int .i64 0, .bool false, .int .i64 0, .bool false, .int .i64 0, .bool false, .int .i64 0, .list [], .int .i64 1, .int .i64 1] := rfl
theorem ks_cells : stA ks = .agg ksc := rfl
theorem kt_cells : stA kt = .agg ktc := rfl
def greatB (f : List Ins) (s : St) (ask : List Int) : Bool := decide (300 < f.length) || (decide (100 < s.heap.length) || decide (1000 < ask.length))
theorem law07_great_ok (f : List Ins) (s : St) (ask : List Int) (hL : s.L.length = 24) : Pure Tryd.prog 15 [encFn f, stA s, ints ask] (.bool (greatB f s ask)) := by
  intro H
  refine ACalls.go joinerylaw07_great.low (by simp) fun hcl => ?_
  have hwl : (wc s.L).length = 48 := by rw [wc_len, hL]
  have e1 : greatB f s ask = (decide ((300 : Int) < (f.length : Int)) || (decide ((100 : Int) < (s.heap.length : Int)) || decide ((1000 : Int) < (ask.length : Int)))) := by
    unfold greatB
    congr 1
    · exact decide_eq_decide.2 (by omega)
    congr 1
    · exact decide_eq_decide.2 (by omega)
    · exact decide_eq_decide.2 (by omega)
  rw [e1, stA_eq]
  unfold encFn ints
  replace e1 := Hold.mk e1
  replace hL := Hold.mk hL
  by_cases c1 : (300 : Int) < (f.length : Int)
  · repeat' (first | simp only [seval, evx, beq_self_eq_true, sb, ew, insA, ins_dec, ins_eta, evs_eq, encEv_def, encI_def, List.map_cons, List.map_nil, ksc_eq, ksn_eq, ktc_eq, List.length_nil, List.getD_cons_zero, beq_self_eq_true, *] | simp (disch := omega) only [if_pos, if_neg] | refine R.seq ?_ | refine LCB.text ?_ | refine LCB.quiet rfl ?_ | refine R.anyX ?_ | refine R.block ?_ | refine LCB.skip ?_ | refine LCB.exit ?_ | refine LCB.ret ?_ | ((first | refine RetOk.val hcl ?_ | refine Weak.at hcl ?_); simp only [seval, evw, List.forall_mem_cons, List.forall_mem_map, List.forall_mem_append, List.not_mem_nil, sb, ew, insA, ins_dec, ins_eta, evs_eq, encEv_def, encI_def, List.map_cons, List.map_nil, ksc_eq, ksn_eq, ktc_eq, List.length_nil, List.getD_cons_zero, beq_self_eq_true, *]) | ((first | refine LCB.cond (by simp only [seval, evx] <;> rfl) ?_ ?_ | refine wpG_split (by simp only [seval, evx] <;> rfl) ?_ ?_ | refine wxG_split (by simp only [seval, evx] <;> rfl) ?_ ?_) <;> (intro hc; try simp only [seval, nf] at hc)) | refine ACalls.inst ?_ | refine CallX.inst ?_ | (with_reducible refine And.intro ?_ ?_) | exact True.intro)
  by_cases c2 : (100 : Int) < (s.heap.length : Int)
  · repeat' (first | simp only [seval, evx, beq_self_eq_true, sb, ew, insA, ins_dec, ins_eta, evs_eq, encEv_def, encI_def, List.map_cons, List.map_nil, ksc_eq, ksn_eq, ktc_eq, List.length_nil, List.getD_cons_zero, beq_self_eq_true, *] | simp (disch := omega) only [if_pos, if_neg] | refine R.seq ?_ | refine LCB.text ?_ | refine LCB.quiet rfl ?_ | refine R.anyX ?_ | refine R.block ?_ | refine LCB.skip ?_ | refine LCB.exit ?_ | refine LCB.ret ?_ | ((first | refine RetOk.val hcl ?_ | refine Weak.at hcl ?_); simp only [seval, evw, List.forall_mem_cons, List.forall_mem_map, List.forall_mem_append, List.not_mem_nil, sb, ew, insA, ins_dec, ins_eta, evs_eq, encEv_def, encI_def, List.map_cons, List.map_nil, ksc_eq, ksn_eq, ktc_eq, List.length_nil, List.getD_cons_zero, beq_self_eq_true, *]) | ((first | refine LCB.cond (by simp only [seval, evx] <;> rfl) ?_ ?_ | refine wpG_split (by simp only [seval, evx] <;> rfl) ?_ ?_ | refine wxG_split (by simp only [seval, evx] <;> rfl) ?_ ?_) <;> (intro hc; try simp only [seval, nf] at hc)) | refine ACalls.inst ?_ | refine CallX.inst ?_ | (with_reducible refine And.intro ?_ ?_) | exact True.intro)
  · repeat' (first | simp only [seval, evx, beq_self_eq_true, sb, ew, insA, ins_dec, ins_eta, evs_eq, encEv_def, encI_def, List.map_cons, List.map_nil, ksc_eq, ksn_eq, ktc_eq, List.length_nil, List.getD_cons_zero, beq_self_eq_true, *] | simp (disch := omega) only [if_pos, if_neg] | refine R.seq ?_ | refine LCB.text ?_ | refine LCB.quiet rfl ?_ | refine R.anyX ?_ | refine R.block ?_ | refine LCB.skip ?_ | refine LCB.exit ?_ | refine LCB.ret ?_ | ((first | refine RetOk.val hcl ?_ | refine Weak.at hcl ?_); simp only [seval, evw, List.forall_mem_cons, List.forall_mem_map, List.forall_mem_append, List.not_mem_nil, sb, ew, insA, ins_dec, ins_eta, evs_eq, encEv_def, encI_def, List.map_cons, List.map_nil, ksc_eq, ksn_eq, ktc_eq, List.length_nil, List.getD_cons_zero, beq_self_eq_true, *]) | ((first | refine LCB.cond (by simp only [seval, evx] <;> rfl) ?_ ?_ | refine wpG_split (by simp only [seval, evx] <;> rfl) ?_ ?_ | refine wxG_split (by simp only [seval, evx] <;> rfl) ?_ ?_) <;> (intro hc; try simp only [seval, nf] at hc)) | refine ACalls.inst ?_ | refine CallX.inst ?_ | (with_reducible refine And.intro ?_ ?_) | exact True.intro)
set_option maxHeartbeats 4000000 in
theorem law07_knows_ok : Pure Tryd.prog 16 [] (.bool true) := by
  intro H
  refine ACalls.go joinerylaw07_knows.low (by simp) fun hcl => ?_
  have h1 := asm_Parse_ok kx (by decide)
  rw [kx_ok] at h1
  have h2 := step_Do_ok kf ks [9] rfl (by decide)
  have h3 := step_Do_ok kf kt [] rfl (by decide)
  have h4 := step_Right_ok kf kt rfl
  unfold stepA at h2 h3
  rw [ks_right, if_pos rfl, ks_step] at h2
  rw [kt_right, if_pos rfl, kt_step] at h3
  rw [kt_right] at h4
  simp only [ks_cells, kt_cells, outA_eq, evs_eq, ints_eq] at h2 h3 h4
  unfold fnR encFn at *
  simp only at h1
  generalize List.map encIns kf = F at *
  unfold kx at *
  replace h1 := Hold.mk h1
  replace h2 := Hold.mk h2
  replace h3 := Hold.mk h3
  replace h4 := Hold.mk h4
  repeat' (first | simp only [seval, evx, beq_self_eq_true, sb, ew, insA, ins_dec, ins_eta, evs_eq, encEv_def, encI_def, List.map_cons, List.map_nil, ksc_eq, ksn_eq, ktc_eq, List.length_nil, List.getD_cons_zero, beq_self_eq_true, *] | simp (disch := omega) only [if_pos, if_neg] | refine R.seq ?_ | refine LCB.text ?_ | refine LCB.quiet rfl ?_ | refine R.anyX ?_ | refine R.block ?_ | refine LCB.skip ?_ | refine LCB.exit ?_ | refine LCB.ret ?_ | ((first | refine RetOk.val hcl ?_ | refine Weak.at hcl ?_); simp only [seval, evw, List.forall_mem_cons, List.forall_mem_map, List.forall_mem_append, List.not_mem_nil, sb, ew, insA, ins_dec, ins_eta, evs_eq, encEv_def, encI_def, List.map_cons, List.map_nil, ksc_eq, ksn_eq, ktc_eq, List.length_nil, List.getD_cons_zero, beq_self_eq_true, *]) | ((first | refine LCB.cond (by simp only [seval, evx] <;> rfl) ?_ ?_ | refine wpG_split (by simp only [seval, evx] <;> rfl) ?_ ?_ | refine wxG_split (by simp only [seval, evx] <;> rfl) ?_ ?_) <;> (intro hc; try simp only [seval, nf] at hc)) | refine ACalls.inst ?_ | refine CallX.inst ?_ | (with_reducible refine And.intro ?_ ?_) | exact True.intro)
  first | refine ACalls.pure (h1.of) ?_ | refine CallP.pure (h1.of) rfl ?_ | refine CallX.pure (h1.of) ?_
  repeat' (first | simp only [seval, evx, beq_self_eq_true, sb, ew, insA, ins_dec, ins_eta, evs_eq, encEv_def, encI_def, List.map_cons, List.map_nil, ksc_eq, ksn_eq, ktc_eq, List.length_nil, List.getD_cons_zero, beq_self_eq_true, *] | simp (disch := omega) only [if_pos, if_neg] | refine R.seq ?_ | refine LCB.text ?_ | refine LCB.quiet rfl ?_ | refine R.anyX ?_ | refine R.block ?_ | refine LCB.skip ?_ | refine LCB.exit ?_ | refine LCB.ret ?_ | ((first | refine RetOk.val hcl ?_ | refine Weak.at hcl ?_); simp only [seval, evw, List.forall_mem_cons, List.forall_mem_map, List.forall_mem_append, List.not_mem_nil, sb, ew, insA, ins_dec, ins_eta, evs_eq, encEv_def, encI_def, List.map_cons, List.map_nil, ksc_eq, ksn_eq, ktc_eq, List.length_nil, List.getD_cons_zero, beq_self_eq_true, *]) | ((first | refine LCB.cond (by simp only [seval, evx] <;> rfl) ?_ ?_ | refine wpG_split (by simp only [seval, evx] <;> rfl) ?_ ?_ | refine wxG_split (by simp only [seval, evx] <;> rfl) ?_ ?_) <;> (intro hc; try simp only [seval, nf] at hc)) | refine ACalls.inst ?_ | refine CallX.inst ?_ | (with_reducible refine And.intro ?_ ?_) | exact True.intro)
  refine ACalls.loseAt [.vec 51 [ksn], .gone] [.list F, .agg ksc, .list [[.int .i64 9]]] (by simp only [seval, evw, lk, List.forall_mem_cons, List.forall_mem_map, List.forall_mem_append, List.not_mem_nil, sb, ew, insA, ins_dec, ins_eta, evs_eq, encEv_def, encI_def, List.map_cons, List.map_nil, ksc_eq, ksn_eq, ktc_eq, List.length_nil, List.getD_cons_zero, beq_self_eq_true, *]) ?_
  first | refine ACalls.pure (h2.of) ?_ | refine CallP.pure (h2.of) rfl ?_ | refine CallX.pure (h2.of) ?_
  repeat' (first | simp only [seval, evx, beq_self_eq_true, sb, ew, insA, ins_dec, ins_eta, evs_eq, encEv_def, encI_def, List.map_cons, List.map_nil, ksc_eq, ksn_eq, ktc_eq, List.length_nil, List.getD_cons_zero, beq_self_eq_true, *] | simp (disch := omega) only [if_pos, if_neg] | refine R.seq ?_ | refine LCB.text ?_ | refine LCB.quiet rfl ?_ | refine R.anyX ?_ | refine R.block ?_ | refine LCB.skip ?_ | refine LCB.exit ?_ | refine LCB.ret ?_ | ((first | refine RetOk.val hcl ?_ | refine Weak.at hcl ?_); simp only [seval, evw, List.forall_mem_cons, List.forall_mem_map, List.forall_mem_append, List.not_mem_nil, sb, ew, insA, ins_dec, ins_eta, evs_eq, encEv_def, encI_def, List.map_cons, List.map_nil, ksc_eq, ksn_eq, ktc_eq, List.length_nil, List.getD_cons_zero, beq_self_eq_true, *]) | ((first | refine LCB.cond (by simp only [seval, evx] <;> rfl) ?_ ?_ | refine wpG_split (by simp only [seval, evx] <;> rfl) ?_ ?_ | refine wxG_split (by simp only [seval, evx] <;> rfl) ?_ ?_) <;> (intro hc; try simp only [seval, nf] at hc)) | refine ACalls.inst ?_ | refine CallX.inst ?_ | (with_reducible refine And.intro ?_ ?_) | exact True.intro)
  refine ACalls.views [.list F, .agg ktc, .list []] (by simp only [seval, evw, lk, List.forall_mem_cons, List.forall_mem_map, List.forall_mem_append, List.not_mem_nil, sb, ew, insA, ins_dec, ins_eta, evs_eq, encEv_def, encI_def, List.map_cons, List.map_nil, ksc_eq, ksn_eq, ktc_eq, List.length_nil, List.getD_cons_zero, beq_self_eq_true, *]) ?_
  first | refine ACalls.pure (h3.of) ?_ | refine CallP.pure (h3.of) rfl ?_ | refine CallX.pure (h3.of) ?_
  repeat' (first | simp only [seval, evx, beq_self_eq_true, sb, ew, insA, ins_dec, ins_eta, evs_eq, encEv_def, encI_def, List.map_cons, List.map_nil, ksc_eq, ksn_eq, ktc_eq, List.length_nil, List.getD_cons_zero, beq_self_eq_true, *] | simp (disch := omega) only [if_pos, if_neg] | refine R.seq ?_ | refine LCB.text ?_ | refine LCB.quiet rfl ?_ | refine R.anyX ?_ | refine R.block ?_ | refine LCB.skip ?_ | refine LCB.exit ?_ | refine LCB.ret ?_ | ((first | refine RetOk.val hcl ?_ | refine Weak.at hcl ?_); simp only [seval, evw, List.forall_mem_cons, List.forall_mem_map, List.forall_mem_append, List.not_mem_nil, sb, ew, insA, ins_dec, ins_eta, evs_eq, encEv_def, encI_def, List.map_cons, List.map_nil, ksc_eq, ksn_eq, ktc_eq, List.length_nil, List.getD_cons_zero, beq_self_eq_true, *]) | ((first | refine LCB.cond (by simp only [seval, evx] <;> rfl) ?_ ?_ | refine wpG_split (by simp only [seval, evx] <;> rfl) ?_ ?_ | refine wxG_split (by simp only [seval, evx] <;> rfl) ?_ ?_) <;> (intro hc; try simp only [seval, nf] at hc)) | refine ACalls.inst ?_ | refine CallX.inst ?_ | (with_reducible refine And.intro ?_ ?_) | exact True.intro)
  first | refine ACalls.pure (h4.of) ?_ | refine CallP.pure (h4.of) rfl ?_ | refine CallX.pure (h4.of) ?_
  repeat' (first | simp only [seval, evx, beq_self_eq_true, sb, ew, insA, ins_dec, ins_eta, evs_eq, encEv_def, encI_def, List.map_cons, List.map_nil, ksc_eq, ksn_eq, ktc_eq, List.length_nil, List.getD_cons_zero, beq_self_eq_true, *] | simp (disch := omega) only [if_pos, if_neg] | refine R.seq ?_ | refine LCB.text ?_ | refine LCB.quiet rfl ?_ | refine R.anyX ?_ | refine R.block ?_ | refine LCB.skip ?_ | refine LCB.exit ?_ | refine LCB.ret ?_ | ((first | refine RetOk.val hcl ?_ | refine Weak.at hcl ?_); simp only [seval, evw, List.forall_mem_cons, List.forall_mem_map, List.forall_mem_append, List.not_mem_nil, sb, ew, insA, ins_dec, ins_eta, evs_eq, encEv_def, encI_def, List.map_cons, List.map_nil, ksc_eq, ksn_eq, ktc_eq, List.length_nil, List.getD_cons_zero, beq_self_eq_true, *]) | ((first | refine LCB.cond (by simp only [seval, evx] <;> rfl) ?_ ?_ | refine wpG_split (by simp only [seval, evx] <;> rfl) ?_ ?_ | refine wxG_split (by simp only [seval, evx] <;> rfl) ?_ ?_) <;> (intro hc; try simp only [seval, nf] at hc)) | refine ACalls.inst ?_ | refine CallX.inst ?_ | (with_reducible refine And.intro ?_ ?_) | exact True.intro)
instance pc_law07_knows : PureC Tryd.prog 16 [] (.bool true) := ⟨law07_knows_ok⟩
end Go.Proofs.YtbkbehkjndmabaaDoor

/-
  step: plain laws of a step.
-/
namespace Go.Proofs.YtbkbehkjndmabaaDoor
open Go.RowKit
set_option linter.unusedVariables false
set_option linter.unusedSimpArgs false
theorem stepF_len (f : List Ins) (s : St) (ask : List Int) : (stepF f s ask).1.L.length = s.L.length := by
  unfold stepF
  split
  · exact stepW_len _ _ _
  · rfl
theorem moveS_heap (s : St) (x : Ins) : (moveS s x).heap = s.heap := by unfold moveS; (repeat' split) <;> rfl
theorem moveS_asked (s : St) (x : Ins) : (moveS s x).asked = s.asked := by unfold moveS; (repeat' split) <;> rfl
theorem setS_heap (s : St) (d : Nat) (v how : Int) : (setS s d v how).heap = s.heap := by unfold setS; split <;> rfl
theorem setS_asked (s : St) (d : Nat) (v how : Int) : (setS s d v how).asked = s.asked := by unfold setS; split <;> rfl
theorem hStore_len (h : List Int) (a v : Int) (e : (hStore h a v).2 = 0) : (hStore h a v).1.length = h.length := by
  revert e
  unfold hStore
  split <;> simp
theorem stepW_heap (s : St) (x : Ins) (ask : List Int) : (stepW s x ask).1.heap.length = s.heap.length := by
  unfold stepW
  simp only
  split
  · split <;> simp [setS_heap]
  · split
    · split
      · rename_i h
        exact hStore_len _ _ _ h
      · rfl
    · (repeat' split) <;> simp [setS_heap, moveS_heap, callS]
theorem stepF_heap (f : List Ins) (s : St) (ask : List Int) : (stepF f s ask).1.heap.length = s.heap.length := by
  unfold stepF
  split
  · exact stepW_heap _ _ _
  · rfl
theorem stepF_out (f : List Ins) (s : St) (ask : List Int) : (stepF f s ask).2.2.heap.length ≤ s.heap.length := by
  unfold stepF
  split
  · simp only
    split
    · exact Nat.le_refl _
    · simp
  · simp
theorem stepF_evs (f : List Ins) (s : St) (ask : List Int) : (stepF f s ask).2.1.length ≤ 1 := by
  unfold stepF
  split
  · unfold stepW
    simp only
    (repeat' split) <;> simp
  · simp
theorem great_not {f : List Ins} {s : St} {ask : List Int} (h : ¬ greatB f s ask = true) : f.length ≤ 300 ∧ s.heap.length ≤ 100 ∧ ask.length ≤ 1000 := by
  unfold greatB at h
  simp only [Bool.or_eq_true, decide_eq_true_eq, not_or] at h
  omega
theorem rs0_eq : rsA st0 = .agg [.list (st0.L.map encW), .list [], .int .i64 0, .int .i64 0] := rfl
end Go.Proofs.YtbkbehkjndmabaaDoor

/-
  The last step, part 1: a law's arguments, opened; from what a law's function answers to the row.
-/
namespace Go.Proofs.YtbkbehkjndmabaaDoor
open Go.RowKit
set_option linter.unusedVariables false
set_option linter.unusedSimpArgs false

/-- The shape of one cell. -/
inductive Sh where
  | int (k : IntKind)
  | bool
  | str
  | list (es : List Sh)

inductive Fit : Sh → AV → Prop where
  | int (k : IntKind) (n : Int) (h0 : k.min ≤ n) (h1 : n ≤ k.max) : Fit (.int k) (.int k n)
  | bool (b : Bool) : Fit .bool (.bool b)
  | str (s : ByteArray) (h : s.size ≤ maxLen) : Fit .str (.str s)
  | list (es : List Sh) (rows : List (List AV)) (hl : rows.length ≤ maxLen) (hn : ∀ r ∈ rows, r.length = es.length) (h : ∀ r ∈ rows, ∀ (i : Nat) (e : Sh) (a : AV), es[i]? = some e → r[i]? = some a → Fit e a) : Fit (.list es) (.list rows)

def FitR (es : List Sh) (r : List AV) : Prop := r.length = es.length ∧ ∀ (i : Nat) (e : Sh) (a : AV), es[i]? = some e → r[i]? = some a → Fit e a

theorem Fit.clean {e : Sh} {a : AV} (h : Fit e a) : a.clean 0 = true := by cases h <;> rfl

theorem FitR.app {es es' : List Sh} {r r' : List AV} (h : FitR es r) (h' : FitR es' r') : FitR (es ++ es') (r ++ r') := by
  refine ⟨by simp [h.1, h'.1], fun i e a he ha => ?_⟩
  by_cases hi : i < es.length
  · rw [List.getElem?_append_left hi] at he
    rw [List.getElem?_append_left (by rw [h.1]; exact hi)] at ha
    exact h.2 i e a he ha
  · rw [List.getElem?_append_right (by omega)] at he
    rw [List.getElem?_append_right (by rw [h.1]; omega)] at ha
    exact h'.2 _ e a he (by rw [← h.1]; exact ha)

theorem FitR.nil : FitR [] [] := ⟨rfl, fun i e a h => by simp at h⟩
theorem FitR.one {e : Sh} {a : AV} (h : Fit e a) : FitR [e] [a] := ⟨rfl, fun i e' a' he ha => by
  cases i with
  | zero => simp at he ha; subst he; subst ha; exact h
  | succ i => simp at he⟩

/-- What a row of cells stands for. -/
def RepL (w : World) (r : List AV) (cs : List Value) : Prop := r.length = cs.length ∧ ∀ (i : Nat) (a : AV) (v : Value), r[i]? = some a → cs[i]? = some v → RepV ⟨fun _ => none, [], w⟩ a v

theorem RepL.app {w : World} {r r' : List AV} {cs : List Value} {n : Nat} (h : RepL w r (cs.take n)) (h' : RepL w r' (cs.drop n)) : RepL w (r ++ r') cs := by
  have e : cs = cs.take n ++ cs.drop n := (List.take_append_drop n cs).symm
  refine ⟨by rw [List.length_append, h.1, h'.1, ← List.length_append, ← e], fun i a v ha hv => ?_⟩
  rw [e] at hv
  by_cases hi : i < r.length
  · rw [List.getElem?_append_left hi] at ha
    rw [List.getElem?_append_left (by rw [← h.1]; exact hi)] at hv
    exact h.2 i a v ha hv
  · rw [List.getElem?_append_right (by omega)] at ha
    rw [List.getElem?_append_right (by rw [← h.1]; omega)] at hv
    exact h'.2 _ a v ha (by rw [h.1]; exact hv)

theorem RepL.one {w : World} {a : AV} {v : Value} (h : RepV ⟨fun _ => none, [], w⟩ a v) : RepL w [a] [v] := ⟨rfl, fun i a' v' ha hv => by
  cases i with
  | zero => simp at ha hv; subst ha; subst hv; exact h
  | succ i => simp at ha⟩

def fieldShs (P : Program) (sh : TypeId → Option (List Sh)) : Nat → List Field → Option (List Sh)
  | _, [] => some []
  | off, f :: fs => match sh f.type with
    | some es => if f.offset = off ∧ P.cellsOf f.type = es.length then (fieldShs P sh (off + es.length) fs).map (es ++ ·) else none
    | none => none

def shapes (P : Program) : Nat → TypeId → Option (List Sh)
  | 0, _ => none
  | n + 1, t => match P.underlying t with
    | some (.int k) => some [.int k]
    | some .bool => some [.bool]
    | some .string => some [.str]
    | some (.slice e) => match shapes P n e with
      | some es => if P.cellsOf e = es.length ∧ 0 < es.length then some [.list es] else none
      | none => none
    | some (.array k e) => match shapes P n e with
      | some es => if P.cellsOf e = es.length ∧ P.cellsOf t = k * es.length then some (List.replicate k es).flatten else none
      | none => none
    | some (.struct fs) => match fieldShs P (shapes P n) 0 fs.toList with
      | some es => if P.cellsOf t = es.length then some es else none
      | none => none
    | _ => none

section
variable {H : Type} {enc : TypeId × Value → H} {P : Program} {w : World} {spare : Nat → Bool} {held : Bool}

theorem fields_open {sh : TypeId → Option (List Sh)} {m : Nat} {cs : List Value}
    (ih : ∀ (t : TypeId) (es : List Sh) (cs : List Value) (y : DataW H × List MemPlace), sh t = some es → DataW.trod enc P w 0 spare held m t cs = some y → ∃ r, FitR es r ∧ RepL w r cs) :
    ∀ (fs : List Field) (off : Nat) (es : List Sh), fieldShs P sh off fs = some es → off + es.length = cs.length →
      (∀ f ∈ fs, ∃ y, DataW.trod enc P w 0 spare held m f.type ((cs.drop f.offset).take (P.cellsOf f.type)) = some y) → ∃ r, FitR es r ∧ RepL w r (cs.drop off)
  | [], off, es, h, hl, _ => by
    simp only [fieldShs, Option.some.injEq] at h
    subst h
    refine ⟨[], FitR.nil, ?_, fun i a v h => by simp at h⟩
    simp at hl ⊢; omega
  | f :: fs, off, es, h, hl, hy => by
    simp only [fieldShs] at h
    split at h
    · rename_i es1 hs
      split at h
      · rename_i hc
        obtain ⟨e1, e2⟩ := hc
        simp only [Option.map_eq_some_iff] at h
        obtain ⟨es2, h2, rfl⟩ := h
        obtain ⟨y, hy1⟩ := hy f (by simp)
        obtain ⟨r1, f1, p1⟩ := ih _ _ _ _ hs hy1
        obtain ⟨r2, f2, p2⟩ := fields_open ih fs (off + es1.length) es2 h2 (by simp at hl; omega) (fun g hg => hy g (by simp [hg]))
        rw [e1, e2] at p1
        exact ⟨r1 ++ r2, f1.app f2, RepL.app (n := es1.length) p1 (by rw [List.drop_drop]; exact p2)⟩
      · simp at h
    · simp at h

theorem arr_open {e : TypeId} {es : List Sh} {m sz : Nat} {cs : List Value} (hsz : sz = es.length)
    (ih : ∀ (cs : List Value) (y : DataW H × List MemPlace), DataW.trod enc P w 0 spare held m e cs = some y → ∃ r, FitR es r ∧ RepL w r cs) :
    ∀ (k j : Nat), (j + k) * sz = cs.length → (∀ i, j ≤ i → i < j + k → ∃ y, DataW.trod enc P w 0 spare held m e ((cs.drop (i * sz)).take sz) = some y) → ∃ r, FitR (List.replicate k es).flatten r ∧ RepL w r (cs.drop (j * sz))
  | 0, j, hl, _ => ⟨[], FitR.nil, by simp at hl ⊢; omega, fun i a v h => by simp at h⟩
  | k + 1, j, hl, hy => by
    obtain ⟨y, hy1⟩ := hy j (Nat.le_refl _) (by omega)
    obtain ⟨r1, f1, p1⟩ := ih _ _ hy1
    obtain ⟨r2, f2, p2⟩ := arr_open hsz ih k (j + 1) (by rw [← hl]; congr 1; omega) (fun i h1 h2 => hy i (by omega) (by omega))
    refine ⟨r1 ++ r2, by rw [List.replicate_succ, List.flatten_cons]; exact f1.app f2, RepL.app (n := sz) p1 ?_⟩
    rw [List.drop_drop]
    rw [Nat.succ_mul] at p2
    exact p2

theorem World.cell?_spot' {w : World} {a : Addr} {v : Value} (h : w.cell? a = some v) : a.spot = none := by
  unfold World.cell? at h
  split at h
  · split at h
    · simp at h
    · rename_i hs; simpa using hs
  · simp at h

theorem sh_open : ∀ (n : Nat) (t : TypeId) (m : Nat) (es : List Sh) (cs : List Value) (y : DataW H × List MemPlace), shapes P n t = some es → DataW.trod enc P w 0 spare held m t cs = some y → ∃ r, FitR es r ∧ RepL w r cs
  | 0, t, m, es, cs, y, hs, h => by simp [shapes] at hs
  | n + 1, t, m, es, cs, y, hs, h => by
    simp only [shapes] at hs
    split at hs
    · rename_i k hu
      simp only [Option.some.injEq] at hs
      subst hs
      obtain ⟨i, rfl, _, hw⟩ := DataW.trod_int hu h
      simp only [Lit.wf, Bool.and_eq_true, decide_eq_true_eq] at hw
      exact ⟨[.int k i], FitR.one (.int k i hw.1 hw.2), RepL.one (.int k i)⟩
    · rename_i hu
      simp only [Option.some.injEq] at hs
      subst hs
      obtain ⟨b, rfl, _⟩ := DataW.trod_bool hu h
      exact ⟨[.bool b], FitR.one (.bool b), RepL.one (.bool b)⟩
    · rename_i hu
      simp only [Option.some.injEq] at hs
      subst hs
      obtain ⟨s, rfl, _, hl⟩ := DataW.trod_string hu h
      exact ⟨[.str s], FitR.one (.str s hl), RepL.one (.str s)⟩
    · rename_i e hu
      split at hs
      · rename_i es1 he
        split at hs
        · rename_i hc
          obtain ⟨hc1, hc2⟩ := hc
          simp only [Option.some.injEq] at hs
          subst hs
          rcases Go.Deep.open_slice hu h with ⟨rfl, _⟩ | ⟨a, len, cap, k, q, D, Pl, rfl, _, hl, hm, hk, _, hx⟩
          · exact ⟨[.list []], FitR.one (.list _ _ (by simp) (by simp) (by simp)), RepL.one (.lnil _ _)⟩
          · have hlk : len ≤ k := by rw [hk]; split <;> omega
            have hrow : ∀ i, ∃ r, i < len → FitR es1 r ∧ ∃ cs', w.cells? 0 (a.add (i * es1.length)) es1.length = some cs' ∧ RepL w r cs' := fun i => by
              by_cases hi : i < len
              · obtain ⟨cs', h1, h2⟩ := hx i (by omega)
                obtain ⟨r, f1, p1⟩ := sh_open n e q es1 cs' _ he h2
                rw [hc1] at h1
                exact ⟨r, fun _ => ⟨f1, cs', h1, p1⟩⟩
              · exact ⟨[], fun h => absurd h hi⟩
            obtain ⟨R, hR⟩ : ∃ R : Nat → List AV, ∀ i, i < len → FitR es1 (R i) ∧ ∃ cs', w.cells? 0 (a.add (i * es1.length)) es1.length = some cs' ∧ RepL w (R i) cs' := ⟨fun i => Classical.choose (hrow i), fun i hi => Classical.choose_spec (hrow i) hi⟩
            have hmem : ∀ r ∈ (List.range len).map R, ∃ i, i < len ∧ r = R i := fun r hr => by
              obtain ⟨i, hi, rfl⟩ := List.mem_map.1 hr
              exact ⟨i, List.mem_range.1 hi, rfl⟩
            have hlen : ((List.range len).map R).length = len := by simp
            refine ⟨[.list ((List.range len).map R)], FitR.one (.list _ _ (by simp; omega) (fun r hr => ?_) (fun r hr => ?_)), RepL.one ?_⟩
            · obtain ⟨i, hi, rfl⟩ := hmem r hr
              exact (hR i hi).1.1
            · obtain ⟨i, hi, rfl⟩ := hmem r hr
              exact (hR i hi).1.2
            · by_cases hz : len = 0
              · subst hz; exact .lnil _ _
              · have hcell : ∀ (i j : Nat) (x : AV), cellAt ((List.range len).map R) i j = some x → i < len ∧ j < es1.length ∧ (∃ u, w.cell? (a.add (i * es1.length + j)) = some u ∧ RepV ⟨fun _ => none, [], w⟩ x u) ∧ x.clean 0 = true := fun i j x hxx => by
                  simp only [cellAt, Option.bind_eq_some_iff, List.getElem?_map, Option.map_eq_some_iff] at hxx
                  obtain ⟨r, ⟨i', hi', rfl⟩, hj⟩ := hxx
                  obtain ⟨hi2, rfl⟩ : i < len ∧ i = i' := by
                    rw [List.getElem?_eq_some_iff] at hi'
                    obtain ⟨h1, h2⟩ := hi'
                    simp at h1 h2
                    exact ⟨h1, h2⟩
                  obtain ⟨f1, cs', h1, p1⟩ := hR i hi2
                  obtain ⟨_, hcl, hce⟩ := World.cells?_some h1
                  have hj1 : j < (R i).length := (List.getElem?_eq_some_iff.1 hj).1
                  have hj2 : j < es1.length := by rw [← f1.1]; exact hj1
                  have hj3 : cs'[j]? = some cs'[j] := List.getElem?_eq_getElem (by omega)
                  refine ⟨hi2, hj2, ⟨cs'[j], ?_, p1.2 j x _ hj hj3⟩, (f1.2 j _ x (List.getElem?_eq_getElem hj2) hj).clean⟩
                  have := hce j hj2
                  rw [hj3, Go.Deep.add_add] at this
                  exact this
                have ha : a.spot = none := by
                  obtain ⟨f1, cs', h1, p1⟩ := hR 0 (by omega)
                  obtain ⟨_, hcl, hce⟩ := World.cells?_some h1
                  have := hce 0 hc2
                  rw [List.getElem?_eq_getElem (by omega)] at this
                  have := World.cell?_spot' this
                  simpa [Addr.add] using this
                obtain ⟨b, o, sp⟩ := a
                simp only at ha
                subst ha
                have e0 : ∀ k, (⟨b, o, none⟩ : Addr).add k = ⟨b, o + k, none⟩ := fun k => by
                  unfold Addr.add
                  split
                  · rename_i h0; subst h0; rfl
                  · rfl
                have := RepV.list (c := ⟨fun _ => none, [], w⟩) es1.length ((List.range len).map R) b o cap (fun i j => (w.cell? ⟨b, o + (i * es1.length + j), none⟩).getD undef) hc2 (by intro h0; rw [h0] at hlen; simp at hlen; omega)
                  (fun r hr => by obtain ⟨i, hi, rfl⟩ := hmem r hr; exact (hR i hi).1.1) (by omega) (by omega) (fun ⟨_, _, h1, _⟩ => by simp at h1)
                  (fun i j x hx1 => (hcell i j x hx1).2.2.2)
                  (fun i j x hx1 => by
                    obtain ⟨_, _, ⟨u, h1, _⟩, _⟩ := hcell i j x hx1
                    rw [e0] at h1
                    simp [h1])
                  (fun i j x hx1 => by
                    obtain ⟨_, _, ⟨u, h1, h2⟩, _⟩ := hcell i j x hx1
                    rw [e0] at h1
                    simpa [h1] using h2)
                rw [hlen] at this
                exact this
        · simp at hs
      · simp at hs
    · rename_i k e hu
      split at hs
      · rename_i es1 he
        split at hs
        · rename_i hc
          simp only [Option.some.injEq] at hs
          subst hs
          obtain ⟨xs, q, rfl, _, hl, hxl, hx⟩ := DataW.trod_array hu h
          have := arr_open (es := es1) (m := q) (cs := cs) (sz := P.cellsOf e) hc.1 (fun cs y hy => sh_open n e q es1 cs y he hy) k 0 (by rw [hl, hc.2, hc.1]; simp) (fun i _ hi => ⟨xs[i]'(by omega), by rw [hx i (by omega), List.getElem?_eq_getElem]⟩)
          simpa using this
        · simp at hs
      · simp at hs
    · rename_i fs hu
      split at hs
      · rename_i es1 he
        split at hs
        · rename_i hc
          simp only [Option.some.injEq] at hs
          subst hs
          obtain ⟨xs, q, rfl, _, hl, hxl, hx⟩ := DataW.trod_struct hu h
          have := fields_open (cs := cs) (m := q) (fun t es cs y h1 h2 => sh_open n t q es cs y h1 h2) fs.toList 0 es1 he (by rw [hl, hc]; simp) (fun f hf => by
            obtain ⟨i, hi, rfl⟩ := Array.getElem_of_mem (by simpa using hf)
            exact ⟨xs[i]'(by omega), by rw [hx i _ (by simp [hi]), List.getElem?_eq_getElem]⟩)
          simpa using this
        · simp at hs
      · simp at hs
    · simp at hs

/-! ### A law's arguments -/
inductive ASh where
  | one (e : Sh)
  | agg (es : List Sh)

def isAgg (P : Program) (t : TypeId) : Bool := match P.underlying t with | some (.struct _) | some (.array _ _) => true | _ => false
def argSh (P : Program) (t : TypeId) : Option ASh := match shapes P 20 t, isAgg P t with
  | some es, true => some (.agg es)
  | some [e], false => some (.one e)
  | _, _ => none
def argShs (P : Program) : List TypeId → Option (List ASh)
  | [] => some []
  | t :: ts => (argSh P t).bind fun a => (argShs P ts).map fun l => a :: l

/-- What stands for an argument. -/
def FitA : ASh → AV → Prop
  | .one e, a => Fit e a
  | .agg es, a => ∃ r, a = .agg r ∧ FitR es r

def FitAs : List ASh → List AV → Prop
  | [], avs => avs = []
  | e :: es, avs => ∃ a r, avs = a :: r ∧ FitA e a ∧ FitAs es r

theorem cell_okWide_one {P : Program} {W : World} {base : Nat} {t : TypeId} {v : Value} {es : List Sh} (hu : ∀ fs, P.underlying t ≠ some (.struct fs)) (hu' : ∀ k e, P.underlying t ≠ some (.array k e)) {n : Nat} (hs : shapes P (n + 1) t = some es) (hv : Value.okWide P W .any base t v) : v.cells = #[v] := by
  simp only [shapes] at hs
  split at hs
  · rename_i h; obtain ⟨n, rfl⟩ := Go.WideShapes.okWide_int h hv; rfl
  · rename_i h; obtain ⟨n, rfl⟩ := Go.WideShapes.okWide_bool h hv; rfl
  · rename_i h; obtain ⟨n, rfl⟩ := Go.WideShapes.okWide_string h hv; rfl
  · rename_i h; obtain ⟨n, _, _, rfl⟩ := Go.WideShapes.okWide_slice h hv; rfl
  · rename_i h; exact absurd h (hu' _ _)
  · rename_i h; exact absurd h (hu _)
  · simp at hs

theorem arg_open {base : Nat} {W : World} {t : TypeId} {v : Value} {d : DataW H} {ps : List MemPlace} {es : ASh} (hs : argSh P t = some es) (hv : Value.okWide P W .any base t v) (h : DataW.Trod enc P W 0 spare held t v d ps) :
    ∃ a, FitA es a ∧ RepV ⟨fun _ => none, [], W⟩ a v := by
  obtain ⟨fuel, h⟩ := h
  unfold argSh at hs
  split at hs
  · rename_i es1 hs1 hagg
    simp only [Option.some.injEq] at hs
    subst hs
    obtain ⟨r, f1, p1⟩ := sh_open 20 t fuel _ _ _ hs1 h
    refine ⟨.agg r, ⟨r, rfl, f1⟩, ?_⟩
    obtain ⟨cs, rfl⟩ : ∃ cs, v = .agg cs := by
      unfold isAgg at hagg
      unfold Value.okWide at hv
      split at hagg
      · rename_i hf; rw [hf] at hv; obtain ⟨cs, h1, _⟩ := hv; exact ⟨cs, h1⟩
      · rename_i hf; rw [hf] at hv; obtain ⟨cs, h1, _⟩ := hv; exact ⟨cs, h1⟩
      · simp at hagg
    refine .agg r cs (by rw [p1.1]; simp [Value.cells]) fun i a ha => ?_
    have hi : i < cs.size := by
      have := (List.getElem?_eq_some_iff.1 ha).1
      rw [p1.1] at this
      simpa [Value.cells] using this
    have := p1.2 i a cs[i] ha (by simp [Value.cells, hi])
    simpa [hi] using this
  · rename_i e hs1 hagg
    simp only [Option.some.injEq] at hs
    subst hs
    obtain ⟨r, f1, p1⟩ := sh_open 20 t fuel _ _ _ hs1 h
    have h1 : ∀ fs, P.underlying t ≠ some (.struct fs) := fun fs h => by simp [isAgg, h] at hagg
    have h2 : ∀ k e, P.underlying t ≠ some (.array k e) := fun k e h => by simp [isAgg, h] at hagg
    have hc := cell_okWide_one (n := 19) h1 h2 hs1 hv
    rw [hc] at p1
    have hl := p1.1
    simp at hl
    obtain ⟨a, rfl⟩ := List.length_eq_one_iff.1 hl
    exact ⟨a, f1.2 0 _ _ rfl rfl, p1.2 0 a v rfl rfl⟩
  · simp at hs

theorem args_open {base : Nat} {W : World} : ∀ (ts : List TypeId) (vs : List Value) (ds : List (DataW H)) (ps : List MemPlace) (L : List ASh), argShs P ts = some L → (∀ (j : Nat) t v, ts[j]? = some t → vs[j]? = some v → Value.okWide P W .any base t v) →
    DataW.TrodAll enc P W 0 spare held ts vs ds ps → ∃ avs, FitAs L avs ∧ avs.length = vs.length ∧ ∀ (i : Nat) (a : AV) (v : Value), avs[i]? = some a → vs[i]? = some v → RepV ⟨fun _ => none, [], W⟩ a v
  | [], vs, ds, ps, L, hs, hv, h => by
    simp only [argShs, Option.some.injEq] at hs
    subst hs
    cases vs with
    | nil => exact ⟨[], rfl, rfl, fun i a v h => by simp at h⟩
    | cons v vs => simp [DataW.TrodAll] at h
  | t :: ts, vs, ds, ps, L, hs, hv, h => by
    simp only [argShs, Option.bind_eq_some_iff, Option.map_eq_some_iff] at hs
    obtain ⟨es, hs1, L2, hs2, rfl⟩ := hs
    cases vs with
    | nil => simp [DataW.TrodAll] at h
    | cons v vs =>
      cases ds with
      | nil => simp [DataW.TrodAll] at h
      | cons d ds =>
        obtain ⟨p, q, h1, h2, _⟩ := h
        obtain ⟨a, f1, r1⟩ := arg_open hs1 (hv 0 t v rfl rfl) h1
        obtain ⟨avs, f2, l2, r2⟩ := args_open ts vs ds q L2 hs2 (fun j t v h1 h2 => hv (j + 1) t v h1 h2) h2
        refine ⟨a :: avs, ⟨a, avs, rfl, f1, f2⟩, by simp [l2], fun i x u hx hu => ?_⟩
        cases i with
        | zero => simp at hx hu; subst hx; subst hu; exact r1
        | succ i => exact r2 i x u (by simpa using hx) (by simpa using hu)

theorem trodAll_stays {W W' : World} (hl : laidOutB P = true) (hb : Below W.heap.size W W') : ∀ (ts : List TypeId) (vs : List Value) (ds : List (DataW H)) (ps : List MemPlace), ts.all (fun t => P.readableRec t && decide (t < P.types.size)) = true → (∀ x ∈ ps, x.block < W.heap.size) →
    DataW.TrodAll enc P W 0 (fun _ => true) true ts vs ds ps → DataW.TrodAll enc P W' 0 (fun b => decide (b < W.heap.size)) true ts vs ds ps
  | [], vs, ds, ps, hr, hlt, h => by
    cases vs <;> cases ds <;> simp [DataW.TrodAll] at h ⊢
    exact h
  | t :: ts, vs, ds, ps, hr, hlt, h => by
    cases vs with
    | nil => simp [DataW.TrodAll] at h
    | cons v vs =>
      cases ds with
      | nil => simp [DataW.TrodAll] at h
      | cons d ds =>
        obtain ⟨p, q, h1, h2, rfl⟩ := h
        simp only [List.all_cons, Bool.and_eq_true, decide_eq_true_eq] at hr
        exact ⟨p, q, Below.trod hl hr.1.1 hr.1.2 h1 hb (fun x hx => hlt x (by simp [hx])), trodAll_stays hl hb ts vs ds q hr.2 (fun x hx => hlt x (by simp [hx])) h2, rfl⟩

theorem TrodAll_len {W : World} {sp : Nat → Bool} {hd : Bool} : ∀ (ts : List TypeId) (vs : List Value) (ds : List (DataW H)) (ps : List MemPlace), DataW.TrodAll enc P W 0 sp hd ts vs ds ps → ds.length = ts.length
  | [], vs, ds, ps, h => by cases vs <;> cases ds <;> simp [DataW.TrodAll] at h ⊢
  | t :: ts, vs, ds, ps, h => by
    cases vs with
    | nil => simp [DataW.TrodAll] at h
    | cons v vs =>
      cases ds with
      | nil => simp [DataW.TrodAll] at h
      | cons d ds =>
        obtain ⟨p, q, h1, h2, _⟩ := h
        simp [TrodAll_len ts vs ds q h2]

theorem Fr.below {ι ι' : Nat → Option Nat} {H' : List AObj} {W W' : World} (h : Fr ⟨ι, [], W⟩ ⟨ι', H', W'⟩) : Below W.heap.size W W' :=
  ⟨h.os, h.tape, h.output, h.size, fun k hk => (h.keep k hk (fun ⟨_, _, h1, _⟩ => by simp at h1)).1⟩

def boolRes (P : Program) (fn : Func) : Bool := match fn.resultTypes.toList with
  | [t] => match P.underlying t with | some .bool => true | _ => false
  | _ => false

/-- **From a law's answer to its row's contract.** -/
theorem law_contract {f : FuncId} {fn : Func} {s : ChangeSpec} {L : List ASh} {W : World} {base : Nat} {args : Array Value} {ds gs : List (DataW H)} {before : List MemPlace}
    (hlaid : laidOutB P = true) (hvars : s.vars = []) (hres : boolRes P fn = true)
    (hread : fn.params.toList.all (fun t => P.readableRec t && decide (t < P.types.size)) = true) (hsh : argShs P fn.params.toList = some L)
    (hs : ∀ ds : List (DataW H), ds.length = fn.params.size → s.fn H ds = { results := [.lit (.bool true)], args := ds })
    (hglob : GlobOk ⟨fun _ => none, [], W⟩)
    (law : ∀ avs, FitAs L avs → ACalls P f avs [] fun r _ => r = .bool true)
    (hval : ∀ (j : Nat) t v, fn.params[j]? = some t → args[j]? = some v → Value.okWide P W .any base t v)
    (hW : DataW.Whole enc P fn.params.toList s.vars false W args.toList ds gs before) :
    Calls P f args W fun e W' => ∃ v, e = .returned v ∧ s.post enc P fn false true false false W args v W' := by
  have hW' := hW
  obtain ⟨tb, hrt, htb⟩ : ∃ tb, fn.resultTypes.toList = [tb] ∧ P.underlying tb = some .bool := by
    unfold boolRes at hres
    split at hres
    · rename_i t ht
      split at hres
      · rename_i hb; exact ⟨t, ht, hb⟩
      · simp at hres
    · simp at hres
  have hsz : fn.resultTypes.size = 1 := by rw [← Array.length_toList, hrt]; rfl
  obtain ⟨p, q, hA, hV, rfl, _, _⟩ := hW
  rw [hvars] at hV
  obtain ⟨rfl, rfl⟩ := Go.ChangeShapes.trodVars_none hV
  obtain ⟨avs, hfit, hlen, hrep⟩ := args_open (base := base) fn.params.toList args.toList ds p L hsh (fun j t v h1 h2 => hval j t v (by simpa using h1) (by simpa using h2)) hA
  have hlt : ∀ y ∈ p, y.block < W.heap.size := fun y hy => by simpa using hW'.lt y (by simp [hy])
  have hdl := TrodAll_len _ _ _ _ hA
  refine ((law avs hfit).2 (fun _ => none) W args ⟨fun k o h => by simp at h, fun k o b h => by simp at h, fun k l o p b h => by simp at h, hglob⟩ ⟨by simpa using hlen.symm, fun i a ha => ?_⟩).mono fun e W' ⟨r, v, ι', H', he, hr, _, hv, hf⟩ => ?_
  · have hi : i < args.size := by
      have := (List.getElem?_eq_some_iff.1 ha).1
      rw [hlen] at this
      simpa using this
    have := hrep i a args[i] ha (by simp [hi])
    simpa [hi] using this
  · subst hr
    have hvb := hv.bool_inv
    subst hvb
    refine ⟨_, he, ds, [], p ++ [], [], p, [], hW', ?_, ?_, ?_, (Fr.below hf).frame _, fun h => by cases h⟩
    · rw [hs _ (by simpa using hdl), hrt, hsz]
      exact Go.ChangeShapes.trodAll_mk1 (shut_bool htb true)
    · rw [hs _ (by simpa using hdl), List.append_nil]
      exact trodAll_stays hlaid (Fr.below hf) _ _ _ _ hread hlt hA
    · rw [hs _ (by simpa using hdl), hvars]
      rfl
end
end Go.Proofs.YtbkbehkjndmabaaDoor
/-
  The last step, part 3: the table that the program's text lays.
-/
namespace Go.Proofs.YtbkbehkjndmabaaDoor
open Go.ChangeShapes Go.WideShapes Go.ChangeAt Go.RowKit
set_option linter.unusedVariables false
set_option linter.unusedSimpArgs false
set_option maxRecDepth 100000

theorem own_ok : ownKnob Tryd.prog.godebug = none := by kernel_rfl
theorem laid_ok : laidOutB Tryd.prog = true := by kernel_rfl

def laidL {H : Type} : List (String × DataW H) := [("joinery/ins.shapes", Rows.laid_joinery_ins_shapes)]

theorem door_met (os : Os) (args : Array Value) : laidMetH Tryd.prog laidL ((World.doorLaid Tryd.prog 400 os).forCall (fun _ _ => 0) ⟨#[], args, []⟩).memory :=
  laidMetH_of_parts3 (fuel := 8) (laidMet_of_run' 8 (by kernel_rfl) (by kernel_rfl)) (by kernel_rfl) (by kernel_rfl)

theorem gShapes : Tryd.prog.globalNamed "joinery/ins.shapes" = some 0 := by kernel_rfl

noncomputable def tblT : TypeId := ((Tryd.prog.globals[0]?).map (·.type)).getD 0
theorem tShapes : (Tryd.prog.globals[0]?).map (·.type) = some tblT := by kernel_rfl
noncomputable def elT : TypeId := match Tryd.prog.underlying tblT with | some (.array _ e) => e | _ => 0
theorem uTbl : Tryd.prog.underlying tblT = some (.array 18 elT) := by kernel_rfl
noncomputable def elF : Array Field := match Tryd.prog.underlying elT with | some (.struct fs) => fs | _ => #[]
theorem uEl : Tryd.prog.underlying elT = some (.struct #[elF.getD 0 default, elF.getD 1 default]) := by kernel_rfl
theorem uF0 : Tryd.prog.underlying (elF.getD 0 default).type = some .string := by kernel_rfl
theorem uF1 : Tryd.prog.underlying (elF.getD 1 default).type = some .string := by kernel_rfl
theorem oF0 : (elF.getD 0 default).offset = 0 := by kernel_rfl
theorem oF1 : (elF.getD 1 default).offset = 1 := by kernel_rfl
theorem cF0 : Tryd.prog.cellsOf (elF.getD 0 default).type = 1 := by kernel_rfl
theorem cF1 : Tryd.prog.cellsOf (elF.getD 1 default).type = 1 := by kernel_rfl
theorem cEl : Tryd.prog.cellsOf elT = 2 := by kernel_rfl

theorem laid_eq {H : Type} : (Rows.laid_joinery_ins_shapes : DataW H) = .agg (shapeTbl.map fun p => .agg [.lit (.string p.1.data.toList), .lit (.string p.2.data.toList)]) := rfl

theorem glob_of_laid {W : World} (h : laidMetH Tryd.prog laidL W) : GlobOk ⟨fun _ => none, [], W⟩ := by
  unfold laidL at h
  rw [MakeChecks.laidMetH_plain _ _ _ (by kernel_rfl)] at h
  obtain ⟨ps, ⟨g0, t0, cs0, f0, p0, q0, hg0, ht0, hv0, hd0, _⟩, _⟩ := h
  obtain rfl := Option.some.inj (gShapes.symm.trans hg0)
  obtain rfl := Option.some.inj (tShapes.symm.trans ht0)
  obtain ⟨xs, m, rfl, hx, hlen, hn, hel⟩ := DataW.trod_array uTbl hd0
  rw [laid_eq] at hx
  simp only [Prod.mk.injEq, DataW.agg.injEq] at hx
  have hx1 := hx.1
  clear hx hd0
  have hcell : ∀ j, W.cell? ⟨0, j, none⟩ = cs0.toList[j]? := fun j => by
    have := World.var?_cell gShapes hv0 j
    simpa using this
  have key : ∀ i : Nat, i < 18 → cs0.toList[i * 2]? = some (.string (bs (wordL ((i + 1 : Nat) : Int)))) ∧ cs0.toList[i * 2 + 1]? = some (.string (bs (fieldL ((i + 1 : Nat) : Int)))) := fun i hi => by
    have h1 := hel i hi
    rw [List.getElem?_eq_getElem (by omega)] at h1
    obtain ⟨y0, y1, n, e1, _, h2, h3⟩ := trod_struct2 uEl h1
    rw [cEl, oF0, cF0] at h2
    rw [cEl, oF1, cF1] at h3
    obtain ⟨s0, g1, g2, _⟩ := DataW.trod_string uF0 h2
    obtain ⟨s1, g3, g4, _⟩ := DataW.trod_string uF1 h3
    have e2 : (xs.map (·.1))[i]? = some xs[i].1 := by rw [List.getElem?_map, List.getElem?_eq_getElem (by omega)]; rfl
    rw [← hx1, e1, List.getElem?_map, List.getElem?_eq_getElem (by exact hi)] at e2
    simp only [Option.map_some, Option.some.injEq, DataW.agg.injEq, List.cons.injEq, and_true, g2, g4, DataW.lit.injEq, Lit.string.injEq] at e2
    have hw : wordL ((i + 1 : Nat) : Int) = (shapeTbl[i]'hi).1.data.toList := by
      unfold wordL shapeOf
      rw [show (((i + 1 : Nat) : Int) - 1).toNat = i by omega, List.getD_eq_getElem?_getD, List.getElem?_eq_getElem (by exact hi)]
      rfl
    have hf : fieldL ((i + 1 : Nat) : Int) = (shapeTbl[i]'hi).2.data.toList := by
      unfold fieldL shapeOf
      rw [show (((i + 1 : Nat) : Int) - 1).toNat = i by omega, List.getD_eq_getElem?_getD, List.getElem?_eq_getElem (by exact hi)]
      rfl
    have k0 : s0 = bs (wordL ((i + 1 : Nat) : Int)) := by rw [hw, e2.1]; exact bs_of s0
    have k1 : s1 = bs (fieldL ((i + 1 : Nat) : Int)) := by rw [hf, e2.2]; exact bs_of s1
    rw [← k0, ← k1]
    have f0 := congrArg (fun l => l[0]?) g1
    have f1 := congrArg (fun l => l[0]?) g3
    simp at f0 f1
    exact ⟨by simpa using f0, by simpa using f1⟩
  obtain ⟨row, hr, hl, -, hcr, hd⟩ := shape_tbl
  intro g row' hg
  have hrow : row' = row := by
    unfold GT at hg
    split at hg
    · simp only [Option.some.injEq] at hg
      rw [← hg, hr]
    · simp at hg
  have hg0' : g = 0 := by
    unfold GT at hg
    split at hg
    · assumption
    · simp at hg
  subst hrow hg0'
  refine ⟨fun h => by rw [h] at hl; simp at hl, fun ⟨_, _, h1, _⟩ => by simp at h1, fun j a ha => ?_⟩
  have hj : j < 36 := by rw [← hl]; exact (List.getElem?_eq_some_iff.1 ha).1
  obtain ⟨i, hi⟩ : ∃ i, j = i * 2 ∨ j = i * 2 + 1 := ⟨j / 2, by omega⟩
  have hd := hd i (by omega)
  have hk := key i (by omega)
  rcases hi with rfl | rfl
  · have e1 : row'[i * 2]? = some (.str (bs (wordL ((i + 1 : Nat) : Int)))) := by
      have := congrArg (fun l => l[0]?) hd
      simpa [List.getElem?_take] using this
    rw [e1] at ha
    simp only [Option.some.injEq] at ha
    subst ha
    exact ⟨rfl, _, (hcell _).trans hk.1, .str _⟩
  · have e1 : row'[i * 2 + 1]? = some (.str (bs (fieldL ((i + 1 : Nat) : Int)))) := by
      have := congrArg (fun l => l[1]?) hd
      simpa [List.getElem?_take] using this
    rw [e1] at ha
    simp only [Option.some.injEq] at ha
    subst ha
    exact ⟨rfl, _, (hcell _).trans hk.2, .str _⟩
end Go.Proofs.YtbkbehkjndmabaaDoor

/-
  The last step, part 2: what all rows of this seat share.
-/
namespace Go.Proofs.YtbkbehkjndmabaaDoor
open Go.ChangeShapes Go.WideShapes Go.ChangeAt Go.RowKit
set_option linter.unusedVariables false
set_option linter.unusedSimpArgs false

abbrev insSh : List Sh := [.int .i64, .int .i64, .int .i64, .int .i64, .int .i64, .int .i64]

theorem Fit.int_inv {k : IntKind} {a : AV} (h : Fit (.int k) a) : ∃ n, a = .int k n ∧ k.min ≤ n ∧ n ≤ k.max := by
  cases h with
  | int k n h0 h1 => exact ⟨n, rfl, h0, h1⟩
theorem Fit.i64 {a : AV} (h : Fit (.int .i64) a) : ∃ n, a = .int .i64 n ∧ in64 n := by
  obtain ⟨n, rfl, h0, h1⟩ := h.int_inv
  exact ⟨n, rfl, h0, h1⟩
theorem Fit.u8 {a : AV} (h : Fit (.int .u8) a) : ∃ n : Nat, a = .int .u8 (n : Int) ∧ n < 256 := by
  obtain ⟨n, rfl, h0, h1⟩ := h.int_inv
  have e0 : IntKind.u8.min = 0 := rfl
  have e1 : IntKind.u8.max = 255 := rfl
  exact ⟨n.toNat, by congr 1; omega, by omega⟩
theorem Fit.str_inv {a : AV} (h : Fit .str a) : ∃ l : List UInt8, a = .str (bs l) ∧ l.length ≤ maxLen := by
  cases h with
  | str s h => exact ⟨s.data.toList, congrArg AV.str (bs_of s), bs_size (l := s.data.toList) ▸ h⟩

theorem fit_ins {r : List AV} (hn : r.length = 6) (h : ∀ (i : Nat) (e : Sh) (a : AV), insSh[i]? = some e → r[i]? = some a → Fit e a) : ∃ x : Ins, r = encIns x ∧ (in64 x.op ∧ in64 x.d ∧ in64 x.a ∧ in64 x.b ∧ in64 x.n ∧ in64 x.to) := by
  match r, hn with
  | [a0, a1, a2, a3, a4, a5], _ =>
    obtain ⟨n0, rfl, g0⟩ := (h 0 _ _ rfl rfl).i64
    obtain ⟨n1, rfl, g1⟩ := (h 1 _ _ rfl rfl).i64
    obtain ⟨n2, rfl, g2⟩ := (h 2 _ _ rfl rfl).i64
    obtain ⟨n3, rfl, g3⟩ := (h 3 _ _ rfl rfl).i64
    obtain ⟨n4, rfl, g4⟩ := (h 4 _ _ rfl rfl).i64
    obtain ⟨n5, rfl, g5⟩ := (h 5 _ _ rfl rfl).i64
    exact ⟨⟨n0, n1, n2, n3, n4, n5⟩, rfl, g0, g1, g2, g3, g4, g5⟩
theorem FitA.ins {a : AV} (h : FitA (.agg insSh) a) : ∃ x : Ins, a = insA x ∧ (in64 x.op ∧ in64 x.d ∧ in64 x.a ∧ in64 x.b ∧ in64 x.n ∧ in64 x.to) := by
  obtain ⟨r, rfl, hr⟩ := h
  obtain ⟨x, rfl, hx⟩ := fit_ins hr.1 hr.2
  exact ⟨x, rfl, hx⟩

theorem Pure.law {P : Program} {f : FuncId} {args : List AV} (h : Pure P f args (.bool true)) : ACalls P f args [] fun r _ => r = .bool true := (h []).mono fun r _ ⟨h, _⟩ => h
end Go.Proofs.YtbkbehkjndmabaaDoor
/-
  The last step, part 4: lists of instructions.
-/
namespace Go.Proofs.YtbkbehkjndmabaaDoor
open Go.ChangeShapes Go.WideShapes Go.ChangeAt Go.RowKit
set_option linter.unusedVariables false
set_option linter.unusedSimpArgs false

theorem ok_of {x : Ins} (h : in64 x.op ∧ in64 x.d ∧ in64 x.a ∧ in64 x.b ∧ in64 x.n ∧ in64 x.to) : Ok64 x := ⟨h.1, h.2.1, h.2.2.1, h.2.2.2.1, h.2.2.2.2.1, h.2.2.2.2.2⟩
theorem rows_of {α : Type} (f : α → List AV) (q : α → Prop) (p : List AV → Prop) (hp : ∀ r, p r → ∃ x, r = f x ∧ q x) : ∀ rows : List (List AV), (∀ r ∈ rows, p r) → ∃ l : List α, rows = l.map f ∧ ∀ x ∈ l, q x
  | [], _ => ⟨[], rfl, by simp⟩
  | r :: rows, h => by
    obtain ⟨x, rfl, hx⟩ := hp r (h r (by simp))
    obtain ⟨l, rfl, hl⟩ := rows_of f q p hp rows (fun r hr => h r (by simp [hr]))
    exact ⟨x :: l, rfl, by simpa using ⟨hx, hl⟩⟩
theorem Fit.inss {a : AV} (h : Fit (.list insSh) a) : ∃ l : List Ins, a = encFn l ∧ (∀ x ∈ l, Ok64 x) ∧ l.length ≤ maxLen := by
  cases h with
  | list es rows hl hn h =>
    obtain ⟨l, rfl, hq⟩ := rows_of encIns Ok64 (fun r => r.length = 6 ∧ ∀ (i : Nat) (e : Sh) (a : AV), insSh[i]? = some e → r[i]? = some a → Fit e a) (fun r hr => by
      obtain ⟨x, h1, h2⟩ := fit_ins hr.1 hr.2
      exact ⟨x, h1, ok_of h2⟩) rows (fun r hr => ⟨hn r hr, h r hr⟩)
    exact ⟨l, rfl, hq, by simpa using hl⟩
end Go.Proofs.YtbkbehkjndmabaaDoor

/-
  The last step, part 5: states, numbers.
-/
namespace Go.Proofs.YtbkbehkjndmabaaDoor
open Go.ChangeShapes Go.WideShapes Go.ChangeAt Go.RowKit
set_option linter.unusedVariables false
set_option linter.unusedSimpArgs false
theorem FitR.cons_inv {e : Sh} {es : List Sh} {r : List AV} (h : FitR (e :: es) r) : ∃ a r', r = a :: r' ∧ Fit e a ∧ FitR es r' := by
  obtain ⟨h1, h2⟩ := h
  cases r with
  | nil => simp at h1
  | cons a r => exact ⟨a, r, rfl, h2 0 e a rfl rfl, by simpa using h1, fun i e' a' he ha => h2 (i + 1) e' a' (by simpa using he) (by simpa using ha)⟩
theorem FitR.nil_inv {r : List AV} (h : FitR [] r) : r = [] := List.length_eq_zero_iff.1 h.1
theorem Fit.bool_inv {a : AV} (h : Fit .bool a) : ∃ b, a = .bool b := by
  cases h with
  | bool b => exact ⟨b, rfl⟩
theorem Fit.ints {a : AV} (h : Fit (.list [.int .i64]) a) : ∃ l : List Int, a = ints l ∧ (∀ n ∈ l, in64 n) ∧ l.length ≤ maxLen := by
  cases h with
  | list es rows hl hn h =>
    obtain ⟨l, rfl, hq⟩ := rows_of encI in64 (fun r => FitR [.int .i64] r) (fun r hr => by
      obtain ⟨a, r', rfl, h1, h2⟩ := hr.cons_inv
      have := h2.nil_inv
      subst this
      obtain ⟨n, rfl, hn⟩ := h1.i64
      exact ⟨n, rfl, hn⟩) rows (fun r hr => ⟨hn r hr, h r hr⟩)
    exact ⟨l, rfl, hq, by simpa using hl⟩
abbrev wSh : List Sh := [.bool, .int .i64]
theorem fit_words {rest : List Sh} : ∀ (n : Nat) (r : List AV), FitR ((List.replicate n wSh).flatten ++ rest) r → ∃ (L : List W) (r' : List AV), r = wc L ++ r' ∧ L.length = n ∧ (∀ w ∈ L, in64 w.v) ∧ FitR rest r'
  | 0, r, h => ⟨[], r, rfl, rfl, by simp, by simpa using h⟩
  | n + 1, r, h => by
    have e : (List.replicate (n + 1) wSh).flatten ++ rest = .bool :: .int .i64 :: ((List.replicate n wSh).flatten ++ rest) := by rw [List.replicate_succ]; rfl
    rw [e] at h
    obtain ⟨a, r1, rfl, h1, h2⟩ := h.cons_inv
    obtain ⟨b, r2, rfl, h3, h4⟩ := h2.cons_inv
    obtain ⟨x, rfl⟩ := h1.bool_inv
    obtain ⟨v, rfl, hv⟩ := h3.i64
    obtain ⟨L, r', rfl, h5, h6, h7⟩ := fit_words n r2 h4
    exact ⟨⟨x, v⟩ :: L, r', rfl, by simp [h5], by simpa using ⟨hv, h6⟩, h7⟩
abbrev stSh : List Sh := (List.replicate 24 wSh).flatten ++ [.list [.int .i64], .int .i64, .int .i64]
theorem FitA.st {a : AV} (h : FitA (.agg stSh) a) : ∃ s : St, a = stA s ∧ s.L.length = 24 ∧ (∀ w ∈ s.L, in64 w.v) ∧ s.heap.length ≤ maxLen ∧ (∀ n ∈ s.heap, in64 n) ∧ in64 s.pc ∧ in64 s.asked := by
  obtain ⟨r, rfl, hr⟩ := h
  obtain ⟨L, r1, rfl, h1, h2, h3⟩ := fit_words 24 r hr
  obtain ⟨a, r2, rfl, g1, g2⟩ := h3.cons_inv
  obtain ⟨b, r3, rfl, g3, g4⟩ := g2.cons_inv
  obtain ⟨c, r4, rfl, g5, g6⟩ := g4.cons_inv
  have := g6.nil_inv
  subst this
  obtain ⟨hp, rfl, k1, k2⟩ := g1.ints
  obtain ⟨pc, rfl, k3⟩ := g3.i64
  obtain ⟨as', rfl, k4⟩ := g5.i64
  exact ⟨⟨L, hp, pc, as'⟩, rfl, h1, h2, k2, k1, k3, k4⟩
theorem FitA.word {a : AV} (h : FitA (.agg wSh) a) : ∃ w : W, a = .agg [.bool w.is, .int .i64 w.v] ∧ in64 w.v := by
  obtain ⟨r, rfl, hr⟩ := h
  obtain ⟨a, r1, rfl, h1, h2⟩ := FitR.cons_inv hr
  obtain ⟨b, r2, rfl, h3, h4⟩ := h2.cons_inv
  have := h4.nil_inv
  subst this
  obtain ⟨x, rfl⟩ := h1.bool_inv
  obtain ⟨v, rfl, hv⟩ := h3.i64
  exact ⟨⟨x, v⟩, rfl, hv⟩
end Go.Proofs.YtbkbehkjndmabaaDoor
