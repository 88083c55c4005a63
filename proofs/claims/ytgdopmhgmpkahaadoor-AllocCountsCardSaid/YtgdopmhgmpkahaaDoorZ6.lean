/-
  Texts of this claim, put together.
-/
import Derived.Deep.Slices
import Derived.OpenShut
import Derived.ProofKit
import Derived.Test.YtgdopmhgmpkahaaDoorRows
import Derived.Test.YtgdopmhgmpkahaaDoorTie
import Derived.LaidMore
import Derived.Stop.Joined
import Derived.Test.YtgdopmhgmpkahaaDoorCards
import Derived.Test.YtgdopmhgmpkahaaDoorZ5
/-
  An instruction's text, read.
-/
namespace Go.Proofs.YtgdopmhgmpkahaaDoor
open Go.RowKit
set_option linter.unusedVariables false
set_option linter.unusedSimpArgs false

def matchOp (w : List (List UInt8)) (i : Nat) : Bool := decide (wordL ((i + 1 : Nat) : Int) = w.headD []) && decide ((fieldL ((i + 1 : Nat) : Int)).length + 1 = w.length)
def fillAll : Ins → List UInt8 → List (List UInt8) → Option Ins
  | x, [], _ => some x
  | x, c :: fs, w :: ws => match fillV c w with
    | some v => fillAll (setField x c v) fs ws
    | none => none
  | _, _ :: _, [] => none
def parseAt (w : List (List UInt8)) (i : Nat) : Option Ins := match fillAll { noIns with op := ((i + 1 : Nat) : Int) } (fieldL ((i + 1 : Nat) : Int)) w.tail with
  | some x => if chk x 200 = 0 then some x else none
  | none => none
/-- The instruction of a text's words. -/
def parseW (w : List (List UInt8)) : Option Ins := match (List.range 18).find? (matchOp w) with
  | some i => parseAt w i
  | none => none
def parseIns (s : List UInt8) : Option Ins := parseW (splitSp s)
def insR (r : Option Ins) : AV := match r with
  | some x => .tup [insA x, .int .i64 0]
  | none => .tup [insA noIns, .int .i64 2]

theorem find_range {f : Nat → Bool} : ∀ {n i : Nat}, i < n → f i = true → (∀ j, j < i → f j = false) → (List.range n).find? f = some i := by
  intro n i hi hf hj
  rw [List.find?_range_eq_some]
  exact ⟨hf, by simpa using hi, fun j h => by simp [hj j h]⟩
theorem find_range_none {f : Nat → Bool} {n : Nat} (h : ∀ j, j < n → f j = false) : (List.range n).find? f = none := by
  rw [List.find?_eq_none]
  intro j hj
  simp at hj
  simp [h j hj]

theorem setField_op (x : Ins) (c : UInt8) (v : Int) : (setField x c v).op = x.op := by
  unfold setField
  split; rfl
  split; rfl
  split; rfl
  split <;> rfl

theorem splitSp_word : ∀ (l : List UInt8) (w : List UInt8), w ∈ splitSp l → w.length ≤ l.length
  | [], w, h => by simp [splitSp] at h; simp [h]
  | c :: r, w, h => by
    rw [splitSp] at h
    split at h
    · rcases List.mem_cons.1 h with rfl | h
      · simp
      · have := splitSp_word r w h; simp; omega
    · cases hr : splitSp r with
      | nil => exact absurd hr (splitSp_ne r)
      | cons v vs =>
        rw [hr] at h
        rcases List.mem_cons.1 h with rfl | h
        · have := splitSp_word r v (by rw [hr]; simp); simp; omega
        · have := splitSp_word r w (by rw [hr]; simp [h]); simp; omega

theorem getD_map {W : List (List UInt8)} {j : Nat} (h : j < W.length) : (W.map encS).getD j [] = [.str (bs (W.getD j []))] := by
  simp [List.getD, h, encS]

set_option maxHeartbeats 2000000 in
theorem ins_Parse_ok (s : List UInt8) (hs : s.length ≤ 1000000) : Pure Tryd.prog 54 [.str (bs s)] (insR (parseIns s)) := by
  intro H
  refine ACalls.go ins_Parse.low (by simp) fun hcl => ?_
  have hww := ins_words_ok s hs
  (refine R.seq ?_; refine LCB.text ?_; repeat' (first | simp only [seval, evo, beq_self_eq_true, encB_def, encS_def, sb, insA, encIns, ins_dec, ins_eta, noIns, *] | simp (disch := omega) only [if_pos, if_neg]))
  refine R.seq (LCB.text ?_)
  repeat' (first | simp only [seval, evo, beq_self_eq_true, encB_def, encS_def, sb, insA, encIns, ins_dec, ins_eta, noIns, *] | simp (disch := omega) only [if_pos, if_neg])
  refine ACalls.pure hww ?_
  clear hww
  have hW0 := splitSp_ne s
  have hWl := splitSp_len s
  have hWs : ∀ w ∈ splitSp s, w.length ≤ 1000000 := fun w hw => by have := splitSp_word s w hw; omega
  have hsp : parseIns s = parseW (splitSp s) := rfl
  rw [hsp]
  generalize splitSp s = W at *
  have hW1 : 0 < W.length := by
    cases W with
    | nil => exact absurd rfl hW0
    | cons a b => simp
  obtain ⟨row, htb, hl36, htk, hcr, hrow⟩ := shape_tbl
  replace hW0 := Hold.mk hW0
  replace hWs := Hold.mk hWs
  replace hrow := Hold.mk hrow
  replace hsp := Hold.mk hsp
  repeat' (first | simp only [seval, evo, beq_self_eq_true, encB_def, encS_def, sb, insA, encIns, ins_dec, ins_eta, noIns, *] | simp (disch := omega) only [if_pos, if_neg] | refine R.seq ?_ | refine LCB.text ?_ | refine LCB.quiet rfl ?_ | refine R.calls rfl ?_ | refine R.block ?_ | refine LCB.skip ?_ | refine LCB.exit ?_ | refine LCB.ret ?_ | ((first | refine RetOk.val hcl ?_ | refine Weak.at hcl ?_); simp only [seval, evw, List.forall_mem_cons, List.forall_mem_map, List.forall_mem_append, List.not_mem_nil, encB_def, encS_def, sb, insA, encIns, ins_dec, ins_eta, noIns, *]) | ((first | refine LCB.cond (by simp only [seval, evo] <;> rfl) ?_ ?_ | refine wpG_split (by simp only [seval, evo] <;> rfl) ?_ ?_ | refine wqG_split (by simp only [seval, evo] <;> rfl) ?_ ?_) <;> (intro hc; try simp only [seval, nf] at hc)) | refine ACalls.inst ?_ | refine CallP.inst rfl ?_)
  clear htb
  refine R.loop (S := Nat) ⟨fun i => [(2, .ptr H.length 1 0 0), (4, .list (W.map encS)), (13, .agg row), (14, .int .i64 (i : Int))], fun i => H ++ [.vec 6 [encIns noIns]], fun i => i ≤ 18 ∧ ∀ j, j < i → matchOp W j = false, fun i => 18 - i⟩ 0 ⟨Nat.zero_le _, fun j hj => by omega⟩ (Weak.at hcl ?_) ?_
  · simp only [seval, evw, List.forall_mem_cons, List.forall_mem_map, List.forall_mem_append, List.not_mem_nil, encB_def, encS_def, sb, insA, encIns, ins_dec, ins_eta, noIns, *]
  rintro i ⟨hi, hj⟩
  simp only at hi hj ⊢
  replace hj := Hold.mk hj
  by_cases hlt : ¬ i < 18
  · have : i = 18 := by omega
    subst this
    have : insR (parseW W) = .tup [insA noIns, .int .i64 2] := by unfold parseW; rw [find_range_none hj.of]; rfl
    repeat' (first | simp only [seval, evo, beq_self_eq_true, encB_def, encS_def, sb, insA, encIns, ins_dec, ins_eta, noIns, *] | simp (disch := omega) only [if_pos, if_neg] | refine R.seq ?_ | refine LCB.text ?_ | refine LCB.quiet rfl ?_ | refine R.calls rfl ?_ | refine R.block ?_ | refine LCB.skip ?_ | refine LCB.exit ?_ | refine LCB.ret ?_ | ((first | refine RetOk.val hcl ?_ | refine Weak.at hcl ?_); simp only [seval, evw, List.forall_mem_cons, List.forall_mem_map, List.forall_mem_append, List.not_mem_nil, encB_def, encS_def, sb, insA, encIns, ins_dec, ins_eta, noIns, *]) | ((first | refine LCB.cond (by simp only [seval, evo] <;> rfl) ?_ ?_ | refine wpG_split (by simp only [seval, evo] <;> rfl) ?_ ?_ | refine wqG_split (by simp only [seval, evo] <;> rfl) ?_ ?_) <;> (intro hc; try simp only [seval, nf] at hc)) | refine ACalls.inst ?_ | refine CallP.inst rfl ?_)
  replace hlt : i < 18 := by omega
  have e1 : (i : Int) < 18 := by omega
  have e2 : IntKind.i64.wrap ((i : Int) + 1) = ((i + 1 : Nat) : Int) := by rw [IntKind.wrap_i64]; omega
  have e2' : IntKind.i64.wrap (1 + (i : Int)) = ((i + 1 : Nat) : Int) := by rw [IntKind.wrap_i64]; omega
  have hr := hrow.of i hlt
  have hg0 := getD_map hW1
  have hm : Hold (matchOp W i = (decide (wordL ((i + 1 : Nat) : Int) = W.getD 0 []) && decide ((fieldL ((i + 1 : Nat) : Int)).length + 1 = W.length))) := ⟨by unfold matchOp; cases W <;> rfl⟩
  have hpa : Hold (parseAt W i = match fillAll { noIns with op := ((i + 1 : Nat) : Int) } (fieldL ((i + 1 : Nat) : Int)) W.tail with | some x => if chk x 200 = 0 then some x else none | none => none) := ⟨rfl⟩
  obtain ⟨_, hF3, hFa⟩ := shape_short ((i + 1 : Nat) : Int)
  replace hFa := Hold.mk hFa
  have e5 : IntKind.i64.wrap ((W.length : Int) - 1) = ((W.length - 1 : Nat) : Int) := by rw [IntKind.wrap_i64]; omega
  generalize wordL ((i + 1 : Nat) : Int) = wd at *
  generalize fieldL ((i + 1 : Nat) : Int) = F at *
  have e6 : i * 2 + 2 ≤ 36 := by omega
  have e7 : (i : Int) < ((18 : Nat) : Int) := by omega
  cases hmt : matchOp W i with
  | false =>
    have hjn : ∀ j, j < i + 1 → matchOp W j = false := fun j hj1 => by
      rcases Nat.lt_or_ge j i with h | h
      · exact hj.of j h
      · have : j = i := by omega
        subst this; exact hmt
    have hdw := hm.of
    rw [hmt] at hdw
    replace hjn := Hold.mk hjn
    replace hmt := Hold.mk hmt
    by_cases hwd : wd = W.getD 0 []
    · rw [decide_eq_true hwd, Bool.true_and] at hdw
      have hne : ¬ ((F.length : Nat) : Int) = ((W.length - 1 : Nat) : Int) := fun e => by
        have := of_decide_eq_false hdw.symm
        omega
      replace hdw := Hold.mk hdw
      repeat' (first | simp only [seval, evo, beq_self_eq_true, encB_def, encS_def, sb, insA, encIns, ins_dec, ins_eta, noIns, *] | simp (disch := omega) only [if_pos, if_neg] | refine R.seq ?_ | refine LCB.text ?_ | refine LCB.quiet rfl ?_ | refine R.calls rfl ?_ | refine R.block ?_ | refine LCB.skip ?_ | refine LCB.exit ?_ | refine LCB.ret ?_ | ((first | refine RetOk.val hcl ?_ | refine Weak.at hcl ?_); simp only [seval, evw, List.forall_mem_cons, List.forall_mem_map, List.forall_mem_append, List.not_mem_nil, encB_def, encS_def, sb, insA, encIns, ins_dec, ins_eta, noIns, *]) | ((first | refine LCB.cond (by simp only [seval, evo] <;> rfl) ?_ ?_ | refine wpG_split (by simp only [seval, evo] <;> rfl) ?_ ?_ | refine wqG_split (by simp only [seval, evo] <;> rfl) ?_ ?_) <;> (intro hc; try simp only [seval, nf] at hc)) | refine ACalls.inst ?_ | refine CallP.inst rfl ?_)
      refine ⟨i + 1, ⟨hlt, hjn.of⟩, by simp only; omega, Weak.at hcl ?_⟩
      simp only [seval, evw, List.forall_mem_cons, List.forall_mem_map, List.forall_mem_append, List.not_mem_nil, encB_def, encS_def, sb, insA, encIns, ins_dec, ins_eta, noIns, *]
    · replace hdw := Hold.mk hdw
      repeat' (first | simp only [seval, evo, beq_self_eq_true, encB_def, encS_def, sb, insA, encIns, ins_dec, ins_eta, noIns, *] | simp (disch := omega) only [if_pos, if_neg] | refine R.seq ?_ | refine LCB.text ?_ | refine LCB.quiet rfl ?_ | refine R.calls rfl ?_ | refine R.block ?_ | refine LCB.skip ?_ | refine LCB.exit ?_ | refine LCB.ret ?_ | ((first | refine RetOk.val hcl ?_ | refine Weak.at hcl ?_); simp only [seval, evw, List.forall_mem_cons, List.forall_mem_map, List.forall_mem_append, List.not_mem_nil, encB_def, encS_def, sb, insA, encIns, ins_dec, ins_eta, noIns, *]) | ((first | refine LCB.cond (by simp only [seval, evo] <;> rfl) ?_ ?_ | refine wpG_split (by simp only [seval, evo] <;> rfl) ?_ ?_ | refine wqG_split (by simp only [seval, evo] <;> rfl) ?_ ?_) <;> (intro hc; try simp only [seval, nf] at hc)) | refine ACalls.inst ?_ | refine CallP.inst rfl ?_)
      refine ⟨i + 1, ⟨hlt, hjn.of⟩, by simp only; omega, Weak.at hcl ?_⟩
      simp only [seval, evw, List.forall_mem_cons, List.forall_mem_map, List.forall_mem_append, List.not_mem_nil, encB_def, encS_def, sb, insA, encIns, ins_dec, ins_eta, noIns, *]
  | true =>
    have hdw := hm.of
    rw [hmt] at hdw
    replace hdw := hdw.symm
    simp only [Bool.and_eq_true, decide_eq_true_eq] at hdw
    obtain ⟨hwd, hFl⟩ := hdw
    subst hwd
    have hres : Hold (parseW W = parseAt W i) := ⟨by unfold parseW; rw [find_range hlt hmt hj.of]⟩
    replace hmt := Hold.mk hmt
    have heq : ((F.length : Nat) : Int) = ((W.length - 1 : Nat) : Int) := by omega
    have hF1 : F.length = W.length - 1 := by omega
    replace hFl := Hold.mk hFl
    clear heq
    repeat' (first | simp only [seval, evo, beq_self_eq_true, encB_def, encS_def, sb, insA, encIns, ins_dec, ins_eta, noIns, *] | simp (disch := omega) only [if_pos, if_neg] | refine R.seq ?_ | refine LCB.text ?_ | refine LCB.quiet rfl ?_ | refine R.calls rfl ?_ | refine R.block ?_ | refine LCB.skip ?_ | refine LCB.exit ?_ | refine LCB.ret ?_ | ((first | refine RetOk.val hcl ?_ | refine Weak.at hcl ?_); simp only [seval, evw, List.forall_mem_cons, List.forall_mem_map, List.forall_mem_append, List.not_mem_nil, encB_def, encS_def, sb, insA, encIns, ins_dec, ins_eta, noIns, *]) | ((first | refine LCB.cond (by simp only [seval, evo] <;> rfl) ?_ ?_ | refine wpG_split (by simp only [seval, evo] <;> rfl) ?_ ?_ | refine wqG_split (by simp only [seval, evo] <;> rfl) ?_ ?_) <;> (intro hc; try simp only [seval, nf] at hc)) | refine ACalls.inst ?_ | refine CallP.inst rfl ?_)
    refine R.loop (S := Nat × Ins) ⟨fun y => [(2, .ptr H.length 1 0 0), (4, .list (W.map encS)), (7, .ptr (H.length + 2) 1 0 0), (38, .iter (H.length + 3))], fun y => H ++ [.vec 6 [encIns noIns], .vec 2 [[.str (bs (W.getD 0 [])), .str (bs F)]], .vec 6 [encIns y.2], .iter (bs F) y.1],
      fun y => y.1 ≤ F.length ∧ y.2.op = ((i + 1 : Nat) : Int) ∧ fillAll y.2 (F.drop y.1) (W.drop (y.1 + 1)) = fillAll { noIns with op := ((i + 1 : Nat) : Int) } F W.tail, fun y => F.length - y.1⟩ (0, { noIns with op := ((i + 1 : Nat) : Int) }) ⟨Nat.zero_le _, rfl, by simp⟩ (Weak.at hcl ?_) ?_
    · simp only [seval, evw, List.forall_mem_cons, List.forall_mem_map, List.forall_mem_append, List.not_mem_nil, encB_def, encS_def, sb, insA, encIns, ins_dec, ins_eta, noIns, *]
    rintro ⟨p, x⟩ ⟨hp, hxo, hq⟩
    simp only at hp hxo hq ⊢
    replace hq := Hold.mk hq
    replace hxo := Hold.mk hxo
    replace hF1 := Hold.mk hF1
    by_cases hlt2 : p < F.length
    · have hmem : F.getD p 0 ∈ F := by simp [List.getD, hlt2]
      have hd := dec_near (l := F) (p := p) (hFa.of _ hmem)
      have hdr := drop_at hlt2
      have hwp : p + 1 < W.length := by have := hF1.of; omega
      have hgp := getD_map hwp
      have hdw2 : W.drop (p + 1) = W.getD (p + 1) [] :: W.drop (p + 2) := by
        rw [List.drop_eq_getElem_cons hwp]
        simp [List.getD, hwp]
      have hq2 := hq.of
      rw [hdr, hdw2] at hq2
      replace hq2 := Hold.mk hq2
      have e8 : IntKind.i64.wrap ((p : Int) + 1) = ((p + 1 : Nat) : Int) := by rw [IntKind.wrap_i64]; omega
      have hwm : W.getD (p + 1) [] ∈ W := by simp [List.getD, hwp]
      have hwlen := hWs.of _ hwm
      clear hdr hdw2 hmem hwm hg0
      generalize F.getD p 0 = c at *
      generalize W.getD (p + 1) [] = wnx at *
      repeat' (first | simp only [seval, evo, beq_self_eq_true, encB_def, encS_def, sb, insA, encIns, ins_dec, ins_eta, noIns, *] | simp (disch := omega) only [if_pos, if_neg] | refine R.seq ?_ | refine LCB.text ?_ | refine LCB.quiet rfl ?_ | refine R.calls rfl ?_ | refine R.block ?_ | refine LCB.skip ?_ | refine LCB.exit ?_ | refine LCB.ret ?_ | ((first | refine RetOk.val hcl ?_ | refine Weak.at hcl ?_); simp only [seval, evw, List.forall_mem_cons, List.forall_mem_map, List.forall_mem_append, List.not_mem_nil, encB_def, encS_def, sb, insA, encIns, ins_dec, ins_eta, noIns, *]) | ((first | refine LCB.cond (by simp only [seval, evo] <;> rfl) ?_ ?_ | refine wpG_split (by simp only [seval, evo] <;> rfl) ?_ ?_ | refine wqG_split (by simp only [seval, evo] <;> rfl) ?_ ?_) <;> (intro hc; try simp only [seval, nf] at hc)) | refine ACalls.inst ?_ | refine CallP.inst rfl ?_)
      refine (ins_fill_ok (x := x) c wnx hwlen (by simp) (by simp only [seval, evo, beq_self_eq_true, encB_def, encS_def, sb, insA, encIns, ins_dec, ins_eta, noIns, *])).mono ?_
      rintro r' H' ⟨rfl, rfl⟩
      cases hv : fillV c wnx with
      | some v =>
        have hs1 : (some v).isSome = true := rfl
        have hs2 : (some v).getD 0 = v := rfl
        have hq3 := hq2.of
        rw [fillAll, hv] at hq3
        replace hq3 := Hold.mk hq3
        repeat' (first | simp only [seval, evo, beq_self_eq_true, encB_def, encS_def, sb, insA, encIns, ins_dec, ins_eta, noIns, *] | simp (disch := omega) only [if_pos, if_neg] | refine R.seq ?_ | refine LCB.text ?_ | refine LCB.quiet rfl ?_ | refine R.calls rfl ?_ | refine R.block ?_ | refine LCB.skip ?_ | refine LCB.exit ?_ | refine LCB.ret ?_ | ((first | refine RetOk.val hcl ?_ | refine Weak.at hcl ?_); simp only [seval, evw, List.forall_mem_cons, List.forall_mem_map, List.forall_mem_append, List.not_mem_nil, encB_def, encS_def, sb, insA, encIns, ins_dec, ins_eta, noIns, *]) | ((first | refine LCB.cond (by simp only [seval, evo] <;> rfl) ?_ ?_ | refine wpG_split (by simp only [seval, evo] <;> rfl) ?_ ?_ | refine wqG_split (by simp only [seval, evo] <;> rfl) ?_ ?_) <;> (intro hc; try simp only [seval, nf] at hc)) | refine ACalls.inst ?_ | refine CallP.inst rfl ?_)
        refine ⟨(p + 1, setField x c v), ⟨hlt2, by simp only; rw [setField_op]; exact hxo.of, hq3.of⟩, by simp only; omega, Weak.at hcl ?_⟩
        simp only [seval, evw, List.forall_mem_cons, List.forall_mem_map, List.forall_mem_append, List.not_mem_nil, encB_def, encS_def, sb, insA, encIns, ins_dec, ins_eta, noIns, *]
      | none =>
        have hs1 : (none : Option Int).isSome = false := rfl
        have hs2 : (none : Option Int).getD 0 = 0 := rfl
        have hq3 := hq2.of
        rw [fillAll, hv] at hq3
        have hfin : insR (parseW W) = .tup [insA noIns, .int .i64 2] := by
          rw [hres.of, hpa.of, ← hq3]; rfl
        clear hq3
        repeat' (first | simp only [seval, evo, beq_self_eq_true, encB_def, encS_def, sb, insA, encIns, ins_dec, ins_eta, noIns, *] | simp (disch := omega) only [if_pos, if_neg] | refine R.seq ?_ | refine LCB.text ?_ | refine LCB.quiet rfl ?_ | refine R.calls rfl ?_ | refine R.block ?_ | refine LCB.skip ?_ | refine LCB.exit ?_ | refine LCB.ret ?_ | ((first | refine RetOk.val hcl ?_ | refine Weak.at hcl ?_); simp only [seval, evw, List.forall_mem_cons, List.forall_mem_map, List.forall_mem_append, List.not_mem_nil, encB_def, encS_def, sb, insA, encIns, ins_dec, ins_eta, noIns, *]) | ((first | refine LCB.cond (by simp only [seval, evo] <;> rfl) ?_ ?_ | refine wpG_split (by simp only [seval, evo] <;> rfl) ?_ ?_ | refine wqG_split (by simp only [seval, evo] <;> rfl) ?_ ?_) <;> (intro hc; try simp only [seval, nf] at hc)) | refine ACalls.inst ?_ | refine CallP.inst rfl ?_)
    · have hp' : p = F.length := by omega
      subst hp'
      have hq2 := hq.of
      rw [List.drop_length, fillAll] at hq2
      have hx : Hold (parseW W = if chk x 200 = 0 then some x else none) := ⟨by rw [hres.of, hpa.of, ← hq2]⟩
      clear hq2
      have hck := ins_Check_ok x 200
      rw [insA_eq] at hck
      replace hck := Hold.mk hck
      repeat' (first | simp only [seval, evo, beq_self_eq_true, encB_def, encS_def, sb, insA, encIns, ins_dec, ins_eta, noIns, *] | simp (disch := omega) only [if_pos, if_neg] | refine R.seq ?_ | refine LCB.text ?_ | refine LCB.quiet rfl ?_ | refine R.calls rfl ?_ | refine R.block ?_ | refine LCB.skip ?_ | refine LCB.exit ?_ | refine LCB.ret ?_ | ((first | refine RetOk.val hcl ?_ | refine Weak.at hcl ?_); simp only [seval, evw, List.forall_mem_cons, List.forall_mem_map, List.forall_mem_append, List.not_mem_nil, encB_def, encS_def, sb, insA, encIns, ins_dec, ins_eta, noIns, *]) | ((first | refine LCB.cond (by simp only [seval, evo] <;> rfl) ?_ ?_ | refine wpG_split (by simp only [seval, evo] <;> rfl) ?_ ?_ | refine wqG_split (by simp only [seval, evo] <;> rfl) ?_ ?_) <;> (intro hc; try simp only [seval, nf] at hc)) | refine ACalls.inst ?_ | refine CallP.inst rfl ?_)
      refine ACalls.pure hck.of ?_
      by_cases hk : chk x 200 = 0
      · have hfin : insR (parseW W) = .tup [insA x, .int .i64 0] := by rw [hx.of, if_pos hk]; rfl
        repeat' (first | simp only [seval, evo, beq_self_eq_true, encB_def, encS_def, sb, insA, encIns, ins_dec, ins_eta, noIns, *] | simp (disch := omega) only [if_pos, if_neg] | refine R.seq ?_ | refine LCB.text ?_ | refine LCB.quiet rfl ?_ | refine R.calls rfl ?_ | refine R.block ?_ | refine LCB.skip ?_ | refine LCB.exit ?_ | refine LCB.ret ?_ | ((first | refine RetOk.val hcl ?_ | refine Weak.at hcl ?_); simp only [seval, evw, List.forall_mem_cons, List.forall_mem_map, List.forall_mem_append, List.not_mem_nil, encB_def, encS_def, sb, insA, encIns, ins_dec, ins_eta, noIns, *]) | ((first | refine LCB.cond (by simp only [seval, evo] <;> rfl) ?_ ?_ | refine wpG_split (by simp only [seval, evo] <;> rfl) ?_ ?_ | refine wqG_split (by simp only [seval, evo] <;> rfl) ?_ ?_) <;> (intro hc; try simp only [seval, nf] at hc)) | refine ACalls.inst ?_ | refine CallP.inst rfl ?_)
      · have hfin : insR (parseW W) = .tup [insA noIns, .int .i64 2] := by rw [hx.of, if_neg hk]; rfl
        repeat' (first | simp only [seval, evo, beq_self_eq_true, encB_def, encS_def, sb, insA, encIns, ins_dec, ins_eta, noIns, *] | simp (disch := omega) only [if_pos, if_neg] | refine R.seq ?_ | refine LCB.text ?_ | refine LCB.quiet rfl ?_ | refine R.calls rfl ?_ | refine R.block ?_ | refine LCB.skip ?_ | refine LCB.exit ?_ | refine LCB.ret ?_ | ((first | refine RetOk.val hcl ?_ | refine Weak.at hcl ?_); simp only [seval, evw, List.forall_mem_cons, List.forall_mem_map, List.forall_mem_append, List.not_mem_nil, encB_def, encS_def, sb, insA, encIns, ins_dec, ins_eta, noIns, *]) | ((first | refine LCB.cond (by simp only [seval, evo] <;> rfl) ?_ ?_ | refine wpG_split (by simp only [seval, evo] <;> rfl) ?_ ?_ | refine wqG_split (by simp only [seval, evo] <;> rfl) ?_ ?_) <;> (intro hc; try simp only [seval, nf] at hc)) | refine ACalls.inst ?_ | refine CallP.inst rfl ?_)
end Go.Proofs.YtgdopmhgmpkahaaDoor

/-
  asm: one line of a text (a closure that fills its caller's lists).
-/
namespace Go.Proofs.YtgdopmhgmpkahaaDoor
open Go.RowKit
set_option linter.unusedVariables false
set_option linter.unusedSimpArgs false

def encN (n : Nat) : List AV := [.int .i64 (n : Int)]
theorem encN_def {n : Nat} : encN n = [.int .i64 (n : Int)] := rfl
def insOr (r : Option Ins) : Ins := r.getD noIns
theorem insR_eq (r : Option Ins) : insR r = .tup [insA (insOr r), .int .i64 (if r.isSome then 0 else 2)] := by cases r <;> rfl
theorem RetOk.upd0 {B : Nat} {t : Tm} {G : List AObj} {rs : List LRes} {QF : AV → List AObj → Prop} (r : AV) (hB : B ≤ G.length) (hcl : Clean G.length G) (h : match resE ⟨t, G⟩ rs with | some l => View G G.length (resV l) r | none => False) (hq : QF r G) : RetOk B rs QF ⟨t, G⟩ := by
  have := RetOk.upd (L := []) (t := t) (rs := rs) r hB hcl (by rwa [List.append_nil]) hq
  rwa [List.append_nil] at this
/-- What asm.Parse has in memory. -/
def lineH (h : Nat) (s : List UInt8) (fr : Nat) (rows : List Ins) (bg : List Nat) (p : Nat) : List AObj :=
  [.vec 1 [[.str (bs s)]], .vec 1 [[.sl 6 (h + 5) rows.length 0 rows.length]], .vec 1 [[.sl 1 (h + 6) bg.length 0 bg.length]], .vec 1 [[.int .i64 (fr : Int)]], .iter (bs s) p, .vec 6 (rows.map encIns), .vec 1 (bg.map encN)]
theorem lineH_eq {h : Nat} {s : List UInt8} {fr : Nat} {rows : List Ins} {bg : List Nat} {p : Nat} : lineH h s fr rows bg p = [.vec 1 [[.str (bs s)]], .vec 1 [[.sl 6 (h + 5) rows.length 0 rows.length]], .vec 1 [[.sl 1 (h + 6) bg.length 0 bg.length]], .vec 1 [[.int .i64 (fr : Int)]], .iter (bs s) p, .vec 6 (rows.map encIns), .vec 1 (bg.map encN)] := rfl

set_option maxHeartbeats 4000000 in
theorem asm_line_ok {G : List AObj} (hG : Clean G.length G) (s : List UInt8) (fr to : Nat) (rows : List Ins) (bg : List Nat) (p : Nat) (h1 : fr ≤ to) (h2 : to ≤ s.length) (hs : s.length ≤ 1000000) (hr : rows.length ≤ 1000000) (hb : bg.length ≤ 1000000) :
    ACalls Tryd.prog 53 [.int .i64 (to : Int), .ptr G.length 1 0 0, .ptr (G.length + 3) 1 0 0, .ptr (G.length + 1) 1 0 0, .ptr (G.length + 2) 1 0 0] (G ++ lineH G.length s fr rows bg p)
      fun r H' => r = .bool (parseIns ((s.take to).drop fr)).isSome ∧ H' = G ++ lineH G.length s fr (rows ++ [insOr (parseIns ((s.take to).drop fr))]) (bg ++ [fr]) p := by
  refine ACalls.go asm_Parse_1.low (by simp) fun hcl => ?_
  have hp := ins_Parse_ok ((s.take to).drop fr) (by simp; omega)
  rw [insR_eq] at hp
  generalize parseIns ((s.take to).drop fr) = r at *
  have e1 : (fr : Int) ≤ (to : Int) := by omega
  have e2 : (to : Int) ≤ (s.length : Int) := by omega
  generalize insOr r = x at *
  replace hp := Hold.mk hp
  (refine R.seq ?_; refine LCB.text ?_; repeat' (first | simp only [seval, evo, beq_self_eq_true, encB_def, encN_def, sb, insA, encIns, ins_dec, ins_eta, lineH_eq, List.length_append, CallA_fn2, *] | simp (disch := omega) only [if_pos, if_neg]))
  refine R.cut [(2, .ptr (G.length + 3) 1 0 0), (3, .ptr (G.length + 1) 1 0 0), (4, .ptr (G.length + 2) 1 0 0), (7, .ptr (G.length + 7) 1 0 0), (8, .int .i64 (if r.isSome = true then 0 else 2))] (G ++ (lineH G.length s fr rows bg p ++ [.vec 6 [encIns x]])) ?_ ?_
  · repeat' (first | simp only [seval, evo, beq_self_eq_true, encB_def, encN_def, sb, insA, encIns, ins_dec, ins_eta, lineH_eq, List.length_append, CallA_fn2, *] | simp (disch := omega) only [if_pos, if_neg] | refine R.seq ?_ | refine LCB.text ?_ | refine LCB.quiet rfl ?_ | refine R.calls rfl ?_ | refine R.block ?_ | refine LCB.skip ?_ | refine LCB.exit ?_ | refine LCB.ret ?_ | ((first | refine RetOk.val hcl ?_ | refine Weak.at hcl ?_); simp only [seval, evw, List.forall_mem_cons, List.forall_mem_map, List.forall_mem_append, List.not_mem_nil, encB_def, encN_def, sb, insA, encIns, ins_dec, ins_eta, lineH_eq, List.length_append, CallA_fn2, *]) | ((first | refine LCB.cond (by simp only [seval, evo] <;> rfl) ?_ ?_ | refine wpG_split (by simp only [seval, evo] <;> rfl) ?_ ?_ | refine wqG_split (by simp only [seval, evo] <;> rfl) ?_ ?_) <;> (intro hc; try simp only [seval, nf] at hc)) | refine ACalls.inst ?_ | refine CallP.inst rfl ?_)
    first | refine ACalls.pure (hp.of) ?_ | refine CallP.pure (hp.of) rfl ?_ | refine CallX.pure (hp.of) ?_
    repeat' (first | simp only [seval, evo, beq_self_eq_true, encB_def, encN_def, sb, insA, encIns, ins_dec, ins_eta, lineH_eq, List.length_append, CallA_fn2, *] | simp (disch := omega) only [if_pos, if_neg] | refine R.seq ?_ | refine LCB.text ?_ | refine LCB.quiet rfl ?_ | refine R.calls rfl ?_ | refine R.block ?_ | refine LCB.skip ?_ | refine LCB.exit ?_ | refine LCB.ret ?_ | ((first | refine RetOk.val hcl ?_ | refine Weak.at hcl ?_); simp only [seval, evw, List.forall_mem_cons, List.forall_mem_map, List.forall_mem_append, List.not_mem_nil, encB_def, encN_def, sb, insA, encIns, ins_dec, ins_eta, lineH_eq, List.length_append, CallA_fn2, *]) | ((first | refine LCB.cond (by simp only [seval, evo] <;> rfl) ?_ ?_ | refine wpG_split (by simp only [seval, evo] <;> rfl) ?_ ?_ | refine wqG_split (by simp only [seval, evo] <;> rfl) ?_ ?_) <;> (intro hc; try simp only [seval, nf] at hc)) | refine ACalls.inst ?_ | refine CallP.inst rfl ?_)
    refine Weak.at hG ?_
    simp only [seval, evw, List.forall_mem_cons, List.forall_mem_map, List.forall_mem_append, List.not_mem_nil, encB_def, encN_def, sb, insA, encIns, ins_dec, ins_eta, lineH_eq, List.length_append, CallA_fn2, *]
  have b1 : (rows.length + 1) * 48 ≤ 140737488355328 := by omega
  have b2 : rows.length ≤ 9223372036854775806 := by omega
  have b3 : (bg.length + 1) * 8 ≤ 140737488355328 := by omega
  have b4 : bg.length ≤ 9223372036854775806 := by omega
  refine R.cut [(8, .int .i64 (if r.isSome = true then 0 else 2))] (G ++ lineH G.length s fr (rows ++ [x]) (bg ++ [fr]) p) ?_ ?_
  · refine LCB.any ?_
    simp (maxSteps := 100000000) only [wpP, wpPs, wpT_none, pureStep, seval, ev1, ev2, ev3, ev4, encB_def, encN_def, sb, insA, encIns, ins_dec, ins_eta, lineH_eq, List.length_append, CallA_fn2, *]
    repeat' (first | constructor | (refine Weak.at hG ?_; simp only [seval, evw, List.forall_mem_cons, List.forall_mem_map, List.forall_mem_append, List.not_mem_nil, encB_def, encN_def, sb, insA, encIns, ins_dec, ins_eta, lineH_eq, List.length_append, CallA_fn2, *]))
  repeat' (first | simp only [seval, evo, beq_self_eq_true, encB_def, encN_def, sb, insA, encIns, ins_dec, ins_eta, lineH_eq, List.length_append, CallA_fn2, *] | simp (disch := omega) only [if_pos, if_neg] | refine R.seq ?_ | refine LCB.text ?_ | refine LCB.quiet rfl ?_ | refine R.calls rfl ?_ | refine R.block ?_ | refine LCB.skip ?_ | refine LCB.exit ?_ | refine LCB.ret ?_ | ((first | refine RetOk.val hcl ?_ | refine Weak.at hcl ?_); simp only [seval, evw, List.forall_mem_cons, List.forall_mem_map, List.forall_mem_append, List.not_mem_nil, encB_def, encN_def, sb, insA, encIns, ins_dec, ins_eta, lineH_eq, List.length_append, CallA_fn2, *]) | ((first | refine LCB.cond (by simp only [seval, evo] <;> rfl) ?_ ?_ | refine wpG_split (by simp only [seval, evo] <;> rfl) ?_ ?_ | refine wqG_split (by simp only [seval, evo] <;> rfl) ?_ ?_) <;> (intro hc; try simp only [seval, nf] at hc)) | refine ACalls.inst ?_ | refine CallP.inst rfl ?_)
  refine RetOk.upd0 (.bool r.isSome) ?_ ?_ ?_ ?_
  · simp only [seval, evw, List.forall_mem_cons, List.forall_mem_map, List.forall_mem_append, List.not_mem_nil, encB_def, encN_def, sb, insA, encIns, ins_dec, ins_eta, lineH_eq, List.length_append, CallA_fn2, *]
  · rw [List.length_append]
    refine (hG.le (by omega)).app ?_
    simp only [seval, evw, List.forall_mem_cons, List.forall_mem_map, List.forall_mem_append, List.not_mem_nil, encB_def, encN_def, sb, insA, encIns, ins_dec, ins_eta, lineH_eq, List.length_append, CallA_fn2, *]
  · cases r <;> (simp only [seval, evw, List.forall_mem_cons, List.forall_mem_map, List.forall_mem_append, List.not_mem_nil, encB_def, encN_def, sb, insA, encIns, ins_dec, ins_eta, lineH_eq, List.length_append, CallA_fn2, *]; rfl)
  · simp only [seval, evw, List.forall_mem_cons, List.forall_mem_map, List.forall_mem_append, List.not_mem_nil, encB_def, encN_def, sb, insA, encIns, ins_dec, ins_eta, lineH_eq, List.length_append, CallA_fn2, *]
end Go.Proofs.YtgdopmhgmpkahaaDoor
/-
  asm: a function's text, read.
-/
namespace Go.Proofs.YtgdopmhgmpkahaaDoor
open Go.RowKit
set_option linter.unusedVariables false
set_option linter.unusedSimpArgs false

/-- What a text's lines are: its instructions, and where they begin; or where the first wrong line begins. -/
def scan : Nat → List UInt8 → List UInt8 → List Ins → List Nat → Except Nat (List Ins × List Nat)
  | fr, cur, [], f, bg => if cur.length = 0 then .ok (f, bg) else .error fr
  | fr, cur, c :: r, f, bg => if c = 10 then match parseIns cur with
      | some x => scan (fr + cur.length + 1) [] r (f ++ [x]) (bg ++ [fr])
      | none => .error fr
    else scan fr (cur ++ [c]) r f bg
def fnParse (s : List UInt8) : List Ins × Int × Int := if 20000 < s.length then ([], 0, 3) else match scan 0 [] s [] [] with
  | .error fr => ([], (fr : Int), 2)
  | .ok (f, bg) => if (fnChk f).2 = 0 then (f, 0, 0) else ([], (if (fnChk f).1.toNat < bg.length then ((bg.getD (fnChk f).1.toNat 0 : Nat) : Int) else (fnChk f).1), (fnChk f).2)
def fnR (q : List Ins × Int × Int) : AV := .tup [encFn q.1, .int .i64 q.2.1, .int .i64 q.2.2]

theorem scan_skip {s : List UInt8} {fr : Nat} {f : List Ins} {bg : List Nat} : ∀ (w p : Nat), fr ≤ p → p + w ≤ s.length → (∀ q, p ≤ q → q < p + w → s.getD q 0 ≠ 10) → scan fr ((s.take p).drop fr) (s.drop p) f bg = scan fr ((s.take (p + w)).drop fr) (s.drop (p + w)) f bg
  | 0, p, _, _, _ => rfl
  | w + 1, p, ha, hp, hq => by
    rw [drop_at (show p < s.length by omega), scan, if_neg (hq p (Nat.le_refl _) (by omega))]
    have e : (s.take p).drop fr ++ [s.getD p 0] = (s.take (p + 1)).drop fr := by
      rw [take_all (by omega), List.drop_append_of_le_length (by simp; omega)]
    rw [e, scan_skip w (p + 1) (by omega) (by omega) (fun q h1 h2 => hq q (by omega) (by omega)), Nat.add_right_comm, Nat.add_assoc]
theorem fnChk_at (f : List Ins) : ∃ k : Nat, (fnChk f).1 = (k : Int) ∧ k ≤ 200 := by
  by_cases h1 : 200 < f.length
  · exact ⟨0, by rw [fnChk_full h1]; rfl, by omega⟩
  · by_cases h2 : f.length = 0
    · exact ⟨0, by rw [fnChk_nil h2]; rfl, by omega⟩
    · cases hb : badAt (f.length : Int) 0 f with
      | some q =>
        obtain ⟨i, e⟩ := q
        have := (badAt_some _ _ _ _ hb).2.2
        exact ⟨i, by rw [fnChk_bad h1 h2 hb], by omega⟩
      | none =>
        rw [fnChk_good h1 h2 hb]
        split
        · exact ⟨0, rfl, by omega⟩
        · exact ⟨f.length - 1, rfl, by omega⟩
theorem getD_encN {l : List Nat} {j : Nat} (h : j < l.length) : (l.map encN).getD j [] = [.int .i64 ((l.getD j 0 : Nat) : Int)] := by
  simp [List.getD, h, encN]

set_option maxHeartbeats 4000000 in
theorem asm_Parse_ok (s : List UInt8) (hs : s.length ≤ maxLen) : Pure Tryd.prog 19 [.str (bs s)] (fnR (fnParse s)) := by
  intro H
  refine ACalls.go asm_Parse.low (by simp) fun hcl => ?_
  by_cases hbig : 20000 < s.length
  · have e1 : (20000 : Int) < (s.length : Int) := by omega
    have hr : fnR (fnParse s) = .tup [.list [], .int .i64 0, .int .i64 3] := by unfold fnParse; rw [if_pos hbig]; rfl
    repeat' (first | simp only [seval, evo, beq_self_eq_true, encB_def, encN_def, sb, insA, encIns, ins_dec, ins_eta, lineH_eq, List.length_append, CallA_fn2, *] | simp (disch := omega) only [if_pos, if_neg] | refine R.seq ?_ | refine LCB.text ?_ | refine LCB.quiet rfl ?_ | refine R.calls rfl ?_ | refine R.block ?_ | refine LCB.skip ?_ | refine LCB.exit ?_ | refine LCB.ret ?_ | ((first | refine RetOk.val hcl ?_ | refine Weak.at hcl ?_); simp only [seval, evw, List.forall_mem_cons, List.forall_mem_map, List.forall_mem_append, List.not_mem_nil, encB_def, encN_def, sb, insA, encIns, ins_dec, ins_eta, lineH_eq, List.length_append, CallA_fn2, *]) | ((first | refine LCB.cond (by simp only [seval, evo] <;> rfl) ?_ ?_ | refine wpG_split (by simp only [seval, evo] <;> rfl) ?_ ?_ | refine wqG_split (by simp only [seval, evo] <;> rfl) ?_ ?_) <;> (intro hc; try simp only [seval, nf] at hc)) | refine ACalls.inst ?_ | refine CallP.inst rfl ?_)
  have e1 : ¬ (20000 : Int) < (s.length : Int) := by omega
  have hR : Hold (fnParse s = match scan 0 [] s [] [] with
    | .error fr => ([], (fr : Int), 2)
    | .ok (f, bg) => if (fnChk f).2 = 0 then (f, 0, 0) else ([], (if (fnChk f).1.toNat < bg.length then ((bg.getD (fnChk f).1.toNat 0 : Nat) : Int) else (fnChk f).1), (fnChk f).2)) := ⟨by unfold fnParse; rw [if_neg hbig]⟩
  generalize fnParse s = PR at *
  generalize hsc : scan 0 [] s [] [] = SC at *
  replace hsc := Hold.mk hsc
  replace hbig := Hold.mk hbig
  repeat' (first | simp only [seval, evo, beq_self_eq_true, encB_def, encN_def, sb, insA, encIns, ins_dec, ins_eta, lineH_eq, List.length_append, CallA_fn2, *] | simp (disch := omega) only [if_pos, if_neg] | refine R.seq ?_ | refine LCB.text ?_ | refine LCB.quiet rfl ?_ | refine R.calls rfl ?_ | refine R.block ?_ | refine LCB.skip ?_ | refine LCB.exit ?_ | refine LCB.ret ?_ | ((first | refine RetOk.val hcl ?_ | refine Weak.at hcl ?_); simp only [seval, evw, List.forall_mem_cons, List.forall_mem_map, List.forall_mem_append, List.not_mem_nil, encB_def, encN_def, sb, insA, encIns, ins_dec, ins_eta, lineH_eq, List.length_append, CallA_fn2, *]) | ((first | refine LCB.cond (by simp only [seval, evo] <;> rfl) ?_ ?_ | refine wpG_split (by simp only [seval, evo] <;> rfl) ?_ ?_ | refine wqG_split (by simp only [seval, evo] <;> rfl) ?_ ?_) <;> (intro hc; try simp only [seval, nf] at hc)) | refine ACalls.inst ?_ | refine CallP.inst rfl ?_)
  refine R.loop (S := Nat × Nat × List Ins × List Nat) ⟨fun y => [(1, .ptr H.length 1 0 0), (5, .ptr (H.length + 1) 1 0 0), (6, .ptr (H.length + 2) 1 0 0), (7, .ptr (H.length + 3) 1 0 0), (8, .fn (.func 53) [] [.ptr H.length 1 0 0, .ptr (H.length + 3) 1 0 0, .ptr (H.length + 1) 1 0 0, .ptr (H.length + 2) 1 0 0]), (18, .iter (H.length + 4))], fun y => H ++ lineH H.length s y.2.1 y.2.2.1 y.2.2.2 y.1,
    fun y => y.1 ≤ s.length ∧ y.2.1 ≤ y.1 ∧ y.2.2.1.length ≤ y.1 ∧ y.2.2.2.length ≤ y.1 ∧ scan y.2.1 ((s.take y.1).drop y.2.1) (s.drop y.1) y.2.2.1 y.2.2.2 = SC, fun y => s.length - y.1⟩ (0, 0, [], []) ⟨Nat.zero_le _, Nat.zero_le _, Nat.zero_le _, Nat.zero_le _, by rw [← hsc.of]; simp⟩
    ((Weak.growCellAt 1 6 (by omega) rfl).trans ((Weak.growCellAt 2 1 (by omega) rfl).trans (Weak.at hcl ?_))) ?_
  · simp only [seval, evw, List.forall_mem_cons, List.forall_mem_map, List.forall_mem_append, List.not_mem_nil, encB_def, encN_def, sb, insA, encIns, ins_dec, ins_eta, lineH_eq, List.length_append, CallA_fn2, *]
  rintro ⟨p, fr, f, bg⟩ ⟨hp, hfr, hfl, hbl, hq⟩
  simp only at hp hfr hfl hbl hq ⊢
  have hs2 : s.length ≤ 20000 := by have := hbig.of; omega
  replace hq := Hold.mk hq
  by_cases hlt : p < s.length
  · obtain ⟨r, w, hd, h1, h2, h3⟩ := dec_step hlt
    have e2 : IntKind.i64.wrap ((p : Int) + 1) = ((p + 1 : Nat) : Int) := by rw [IntKind.wrap_i64]; omega
    replace h3 := Hold.mk h3
    by_cases h10 : r = 10
    · subst h10
      have h3 := (h3.of.resolve_right (by omega))
      obtain ⟨h4, rfl, _⟩ := h3
      have hc10 : s.getD p 0 = 10 := UInt8.toNat_inj.1 (by rw [← h4]; rfl)
      have hq2 := hq.of
      rw [drop_at hlt, scan, if_pos hc10] at hq2
      have hlen : fr + ((s.take p).drop fr).length + 1 = p + 1 := by simp; omega
      rw [hlen] at hq2
      clear hlen
      have e3 : (((10 : Nat) : Int)) = 10 := rfl
      have hline := Hold.mk (asm_line_ok hcl s fr p f bg (p + 1) hfr hp (by omega) (by omega) (by omega))
      replace h4 := Hold.mk h4
      generalize (s.take p).drop fr = cur at *
      cases hpi : parseIns cur with
      | some x =>
        rw [hpi] at hq2 hline
        simp only at hq2
        have hx1 : insOr (some x) = x := rfl
        have hx2 : (some x).isSome = true := rfl
        replace hq2 := Hold.mk hq2
        replace hpi := Hold.mk hpi
        repeat' (first | simp only [seval, evo, beq_self_eq_true, encB_def, encN_def, sb, insA, encIns, ins_dec, ins_eta, lineH_eq, List.length_append, CallA_fn2, *] | simp (disch := omega) only [if_pos, if_neg] | refine R.seq ?_ | refine LCB.text ?_ | refine LCB.quiet rfl ?_ | refine R.calls rfl ?_ | refine R.block ?_ | refine LCB.skip ?_ | refine LCB.exit ?_ | refine LCB.ret ?_ | ((first | refine RetOk.val hcl ?_ | refine Weak.at hcl ?_); simp only [seval, evw, List.forall_mem_cons, List.forall_mem_map, List.forall_mem_append, List.not_mem_nil, encB_def, encN_def, sb, insA, encIns, ins_dec, ins_eta, lineH_eq, List.length_append, CallA_fn2, *]) | ((first | refine LCB.cond (by simp only [seval, evo] <;> rfl) ?_ ?_ | refine wpG_split (by simp only [seval, evo] <;> rfl) ?_ ?_ | refine wqG_split (by simp only [seval, evo] <;> rfl) ?_ ?_) <;> (intro hc; try simp only [seval, nf] at hc)) | refine ACalls.inst ?_ | refine CallP.inst rfl ?_)
        simp only [lineH_eq] at hline
        refine hline.of.mono ?_
        rintro r' H' ⟨rfl, rfl⟩
        repeat' (first | simp only [seval, evo, beq_self_eq_true, encB_def, encN_def, sb, insA, encIns, ins_dec, ins_eta, lineH_eq, List.length_append, CallA_fn2, *] | simp (disch := omega) only [if_pos, if_neg] | refine R.seq ?_ | refine LCB.text ?_ | refine LCB.quiet rfl ?_ | refine R.calls rfl ?_ | refine R.block ?_ | refine LCB.skip ?_ | refine LCB.exit ?_ | refine LCB.ret ?_ | ((first | refine RetOk.val hcl ?_ | refine Weak.at hcl ?_); simp only [seval, evw, List.forall_mem_cons, List.forall_mem_map, List.forall_mem_append, List.not_mem_nil, encB_def, encN_def, sb, insA, encIns, ins_dec, ins_eta, lineH_eq, List.length_append, CallA_fn2, *]) | ((first | refine LCB.cond (by simp only [seval, evo] <;> rfl) ?_ ?_ | refine wpG_split (by simp only [seval, evo] <;> rfl) ?_ ?_ | refine wqG_split (by simp only [seval, evo] <;> rfl) ?_ ?_) <;> (intro hc; try simp only [seval, nf] at hc)) | refine ACalls.inst ?_ | refine CallP.inst rfl ?_)
        refine ⟨(p + 1, p + 1, f ++ [x], bg ++ [fr]), ⟨h2, Nat.le_refl _, by simp only [List.length_append, List.length_cons, List.length_nil]; omega, by simp only [List.length_append, List.length_cons, List.length_nil]; omega, ?_⟩, by simp only; omega, Weak.at hcl ?_⟩
        · simp only
          rw [← hq2.of]
          simp
        · simp only [seval, evw, List.forall_mem_cons, List.forall_mem_map, List.forall_mem_append, List.not_mem_nil, encB_def, encN_def, sb, insA, encIns, ins_dec, ins_eta, lineH_eq, List.length_append, CallA_fn2, *]
      | none =>
        rw [hpi] at hq2 hline
        have hx2 : (none : Option Ins).isSome = false := rfl
        have hres : fnR PR = .tup [.list [], .int .i64 (fr : Int), .int .i64 2] := by rw [hR.of, ← hq2]; rfl
        replace hq2 := Hold.mk hq2
        replace hpi := Hold.mk hpi
        repeat' (first | simp only [seval, evo, beq_self_eq_true, encB_def, encN_def, sb, insA, encIns, ins_dec, ins_eta, lineH_eq, List.length_append, CallA_fn2, *] | simp (disch := omega) only [if_pos, if_neg] | refine R.seq ?_ | refine LCB.text ?_ | refine LCB.quiet rfl ?_ | refine R.calls rfl ?_ | refine R.block ?_ | refine LCB.skip ?_ | refine LCB.exit ?_ | refine LCB.ret ?_ | ((first | refine RetOk.val hcl ?_ | refine Weak.at hcl ?_); simp only [seval, evw, List.forall_mem_cons, List.forall_mem_map, List.forall_mem_append, List.not_mem_nil, encB_def, encN_def, sb, insA, encIns, ins_dec, ins_eta, lineH_eq, List.length_append, CallA_fn2, *]) | ((first | refine LCB.cond (by simp only [seval, evo] <;> rfl) ?_ ?_ | refine wpG_split (by simp only [seval, evo] <;> rfl) ?_ ?_ | refine wqG_split (by simp only [seval, evo] <;> rfl) ?_ ?_) <;> (intro hc; try simp only [seval, nf] at hc)) | refine ACalls.inst ?_ | refine CallP.inst rfl ?_)
        simp only [lineH_eq] at hline
        refine hline.of.mono ?_
        rintro r' H' ⟨rfl, rfl⟩
        repeat' (first | simp only [seval, evo, beq_self_eq_true, encB_def, encN_def, sb, insA, encIns, ins_dec, ins_eta, lineH_eq, List.length_append, CallA_fn2, *] | simp (disch := omega) only [if_pos, if_neg] | refine R.seq ?_ | refine LCB.text ?_ | refine LCB.quiet rfl ?_ | refine R.calls rfl ?_ | refine R.block ?_ | refine LCB.skip ?_ | refine LCB.exit ?_ | refine LCB.ret ?_ | ((first | refine RetOk.val hcl ?_ | refine Weak.at hcl ?_); simp only [seval, evw, List.forall_mem_cons, List.forall_mem_map, List.forall_mem_append, List.not_mem_nil, encB_def, encN_def, sb, insA, encIns, ins_dec, ins_eta, lineH_eq, List.length_append, CallA_fn2, *]) | ((first | refine LCB.cond (by simp only [seval, evo] <;> rfl) ?_ ?_ | refine wpG_split (by simp only [seval, evo] <;> rfl) ?_ ?_ | refine wqG_split (by simp only [seval, evo] <;> rfl) ?_ ?_) <;> (intro hc; try simp only [seval, nf] at hc)) | refine ACalls.inst ?_ | refine CallP.inst rfl ?_)
    · have e3 : ¬ (r : Int) = 10 := by omega
      replace h10 := Hold.mk h10
      have hx := Hold.mk (scan_skip (s := s) (fr := fr) (f := f) (bg := bg) w p hfr h2 (fun q g1 g2 g3 => by
        rcases h3.of with ⟨h4, h5, _⟩ | ⟨h4, h5⟩
        · have : q = p := by omega
          subst this
          rw [g3] at h4
          exact h10.of h4
        · have := h5 q g1 g2
          rw [g3] at this
          exact absurd this (by decide)))
      repeat' (first | simp only [seval, evo, beq_self_eq_true, encB_def, encN_def, sb, insA, encIns, ins_dec, ins_eta, lineH_eq, List.length_append, CallA_fn2, *] | simp (disch := omega) only [if_pos, if_neg] | refine R.seq ?_ | refine LCB.text ?_ | refine LCB.quiet rfl ?_ | refine R.calls rfl ?_ | refine R.block ?_ | refine LCB.skip ?_ | refine LCB.exit ?_ | refine LCB.ret ?_ | ((first | refine RetOk.val hcl ?_ | refine Weak.at hcl ?_); simp only [seval, evw, List.forall_mem_cons, List.forall_mem_map, List.forall_mem_append, List.not_mem_nil, encB_def, encN_def, sb, insA, encIns, ins_dec, ins_eta, lineH_eq, List.length_append, CallA_fn2, *]) | ((first | refine LCB.cond (by simp only [seval, evo] <;> rfl) ?_ ?_ | refine wpG_split (by simp only [seval, evo] <;> rfl) ?_ ?_ | refine wqG_split (by simp only [seval, evo] <;> rfl) ?_ ?_) <;> (intro hc; try simp only [seval, nf] at hc)) | refine ACalls.inst ?_ | refine CallP.inst rfl ?_)
      refine ⟨(p + w, fr, f, bg), ⟨h2, by simp only; omega, by simp only; omega, by simp only; omega, ?_⟩, by simp only; omega, Weak.at hcl ?_⟩
      · simp only
        rw [← hq.of, hx.of]
      · simp only [seval, evw, List.forall_mem_cons, List.forall_mem_map, List.forall_mem_append, List.not_mem_nil, encB_def, encN_def, sb, insA, encIns, ins_dec, ins_eta, lineH_eq, List.length_append, CallA_fn2, *]
  · have hp' : p = s.length := by omega
    subst hp'
    refine LCB.pre (Weak.viewH (sl := [(1, .ptr H.length 1 0 0), (5, .ptr (H.length + 1) 1 0 0), (6, .ptr (H.length + 2) 1 0 0), (7, .ptr (H.length + 3) 1 0 0), (18, .iter (H.length + 4))])
      (L' := [.vec 1 [[.str (bs s)]], .vec 1 [[.list (f.map encIns)]], .vec 1 [[.list (bg.map encN)]], .vec 1 [[.int .i64 (fr : Int)]], .iter (bs s) s.length]) hcl (by simp) (by simp [lineH]) ?_ ?_) ?_
    · intro i o q g1 g2
      match i with
      | 0 => simp [lineH] at g1 g2; subst g1; subst g2; exact .same (by simp only [seval, evw, List.forall_mem_cons, List.forall_mem_map, List.forall_mem_append, List.not_mem_nil, encB_def, encN_def, sb, insA, encIns, ins_dec, ins_eta, lineH_eq, List.length_append, CallA_fn2, *])
      | 1 => simp [lineH] at g1 g2; subst g1; subst g2; exact .cell (by simp only [seval, evw, List.forall_mem_cons, List.forall_mem_map, List.forall_mem_append, List.not_mem_nil, encB_def, encN_def, sb, insA, encIns, ins_dec, ins_eta, lineH_eq, List.length_append, CallA_fn2, *])
      | 2 => simp [lineH] at g1 g2; subst g1; subst g2; exact .cell (by simp only [seval, evw, List.forall_mem_cons, List.forall_mem_map, List.forall_mem_append, List.not_mem_nil, encB_def, encN_def, sb, insA, encIns, ins_dec, ins_eta, lineH_eq, List.length_append, CallA_fn2, *])
      | 3 => simp [lineH] at g1 g2; subst g1; subst g2; exact .same (by simp only [seval, evw, List.forall_mem_cons, List.forall_mem_map, List.forall_mem_append, List.not_mem_nil, encB_def, encN_def, sb, insA, encIns, ins_dec, ins_eta, lineH_eq, List.length_append, CallA_fn2, *])
      | 4 => simp [lineH] at g1 g2; subst g1; subst g2; exact .same (by simp only [seval, evw, List.forall_mem_cons, List.forall_mem_map, List.forall_mem_append, List.not_mem_nil, encB_def, encN_def, sb, insA, encIns, ins_dec, ins_eta, lineH_eq, List.length_append, CallA_fn2, *])
      | n + 5 => simp at g2
    · simp only [seval, evw, List.forall_mem_cons, List.forall_mem_map, List.forall_mem_append, List.not_mem_nil, encB_def, encN_def, sb, insA, encIns, ins_dec, ins_eta, lineH_eq, List.length_append, CallA_fn2, *]
    have hq2 := hq.of
    rw [List.drop_length, List.take_length, scan] at hq2
    by_cases hend : fr < s.length
    · rw [if_neg (by simp; omega)] at hq2
      have e5 : (fr : Int) < (s.length : Int) := by omega
      have hres : fnR PR = .tup [.list [], .int .i64 (fr : Int), .int .i64 2] := by rw [hR.of, ← hq2]; rfl
      replace hq2 := Hold.mk hq2
      repeat' (first | simp only [seval, evo, beq_self_eq_true, encB_def, encN_def, sb, insA, encIns, ins_dec, ins_eta, lineH_eq, List.length_append, CallA_fn2, *] | simp (disch := omega) only [if_pos, if_neg] | refine R.seq ?_ | refine LCB.text ?_ | refine LCB.quiet rfl ?_ | refine R.calls rfl ?_ | refine R.block ?_ | refine LCB.skip ?_ | refine LCB.exit ?_ | refine LCB.ret ?_ | ((first | refine RetOk.val hcl ?_ | refine Weak.at hcl ?_); simp only [seval, evw, List.forall_mem_cons, List.forall_mem_map, List.forall_mem_append, List.not_mem_nil, encB_def, encN_def, sb, insA, encIns, ins_dec, ins_eta, lineH_eq, List.length_append, CallA_fn2, *]) | ((first | refine LCB.cond (by simp only [seval, evo] <;> rfl) ?_ ?_ | refine wpG_split (by simp only [seval, evo] <;> rfl) ?_ ?_ | refine wqG_split (by simp only [seval, evo] <;> rfl) ?_ ?_) <;> (intro hc; try simp only [seval, nf] at hc)) | refine ACalls.inst ?_ | refine CallP.inst rfl ?_)
    · rw [if_pos (by simp; omega)] at hq2
      have e5 : ¬ (fr : Int) < (s.length : Int) := by omega
      have hres := hR.of
      rw [← hq2] at hres
      simp only at hres
      have hc1 := asm_Check_ok f
      obtain ⟨k, hk1, hk2⟩ := fnChk_at f
      unfold encFn fnChkA at hc1
      rw [hk1] at hc1 hres
      simp only [Int.toNat_natCast] at hres
      generalize (fnChk f).2 = e at *
      clear hk1
      replace hq2 := Hold.mk hq2
      replace hc1 := Hold.mk hc1
      by_cases he : e = 0
      · rw [if_pos he] at hres
        have hres2 : fnR PR = .tup [.list (f.map encIns), .int .i64 0, .int .i64 0] := by rw [hres]; rfl
        subst he
        replace hres := Hold.mk hres
        repeat' (first | simp only [seval, evo, beq_self_eq_true, encB_def, encN_def, sb, insA, encIns, ins_dec, ins_eta, lineH_eq, List.length_append, CallA_fn2, *] | simp (disch := omega) only [if_pos, if_neg] | refine R.seq ?_ | refine LCB.text ?_ | refine LCB.quiet rfl ?_ | refine R.calls rfl ?_ | refine R.block ?_ | refine LCB.skip ?_ | refine LCB.exit ?_ | refine LCB.ret ?_ | ((first | refine RetOk.val hcl ?_ | refine Weak.at hcl ?_); simp only [seval, evw, List.forall_mem_cons, List.forall_mem_map, List.forall_mem_append, List.not_mem_nil, encB_def, encN_def, sb, insA, encIns, ins_dec, ins_eta, lineH_eq, List.length_append, CallA_fn2, *]) | ((first | refine LCB.cond (by simp only [seval, evo] <;> rfl) ?_ ?_ | refine wpG_split (by simp only [seval, evo] <;> rfl) ?_ ?_ | refine wqG_split (by simp only [seval, evo] <;> rfl) ?_ ?_) <;> (intro hc; try simp only [seval, nf] at hc)) | refine ACalls.inst ?_ | refine CallP.inst rfl ?_)
        first | refine ACalls.pure (hc1.of) ?_ | refine CallP.pure (hc1.of) rfl ?_ | refine CallX.pure (hc1.of) ?_
        repeat' (first | simp only [seval, evo, beq_self_eq_true, encB_def, encN_def, sb, insA, encIns, ins_dec, ins_eta, lineH_eq, List.length_append, CallA_fn2, *] | simp (disch := omega) only [if_pos, if_neg] | refine R.seq ?_ | refine LCB.text ?_ | refine LCB.quiet rfl ?_ | refine R.calls rfl ?_ | refine R.block ?_ | refine LCB.skip ?_ | refine LCB.exit ?_ | refine LCB.ret ?_ | ((first | refine RetOk.val hcl ?_ | refine Weak.at hcl ?_); simp only [seval, evw, List.forall_mem_cons, List.forall_mem_map, List.forall_mem_append, List.not_mem_nil, encB_def, encN_def, sb, insA, encIns, ins_dec, ins_eta, lineH_eq, List.length_append, CallA_fn2, *]) | ((first | refine LCB.cond (by simp only [seval, evo] <;> rfl) ?_ ?_ | refine wpG_split (by simp only [seval, evo] <;> rfl) ?_ ?_ | refine wqG_split (by simp only [seval, evo] <;> rfl) ?_ ?_) <;> (intro hc; try simp only [seval, nf] at hc)) | refine ACalls.inst ?_ | refine CallP.inst rfl ?_)
      · rw [if_neg he] at hres
        by_cases hkb : k < bg.length
        · rw [if_pos hkb] at hres
          have hres2 : fnR PR = .tup [.list [], .int .i64 ((bg.getD k 0 : Nat) : Int), .int .i64 e] := by rw [hres]; rfl
          have e6 : (k : Int) < (bg.length : Int) := by omega
          have hg := getD_encN hkb
          replace hres := Hold.mk hres
          repeat' (first | simp only [seval, evo, beq_self_eq_true, encB_def, encN_def, sb, insA, encIns, ins_dec, ins_eta, lineH_eq, List.length_append, CallA_fn2, *] | simp (disch := omega) only [if_pos, if_neg] | refine R.seq ?_ | refine LCB.text ?_ | refine LCB.quiet rfl ?_ | refine R.calls rfl ?_ | refine R.block ?_ | refine LCB.skip ?_ | refine LCB.exit ?_ | refine LCB.ret ?_ | ((first | refine RetOk.val hcl ?_ | refine Weak.at hcl ?_); simp only [seval, evw, List.forall_mem_cons, List.forall_mem_map, List.forall_mem_append, List.not_mem_nil, encB_def, encN_def, sb, insA, encIns, ins_dec, ins_eta, lineH_eq, List.length_append, CallA_fn2, *]) | ((first | refine LCB.cond (by simp only [seval, evo] <;> rfl) ?_ ?_ | refine wpG_split (by simp only [seval, evo] <;> rfl) ?_ ?_ | refine wqG_split (by simp only [seval, evo] <;> rfl) ?_ ?_) <;> (intro hc; try simp only [seval, nf] at hc)) | refine ACalls.inst ?_ | refine CallP.inst rfl ?_)
          first | refine ACalls.pure (hc1.of) ?_ | refine CallP.pure (hc1.of) rfl ?_ | refine CallX.pure (hc1.of) ?_
          repeat' (first | simp only [seval, evo, beq_self_eq_true, encB_def, encN_def, sb, insA, encIns, ins_dec, ins_eta, lineH_eq, List.length_append, CallA_fn2, *] | simp (disch := omega) only [if_pos, if_neg] | refine R.seq ?_ | refine LCB.text ?_ | refine LCB.quiet rfl ?_ | refine R.calls rfl ?_ | refine R.block ?_ | refine LCB.skip ?_ | refine LCB.exit ?_ | refine LCB.ret ?_ | ((first | refine RetOk.val hcl ?_ | refine Weak.at hcl ?_); simp only [seval, evw, List.forall_mem_cons, List.forall_mem_map, List.forall_mem_append, List.not_mem_nil, encB_def, encN_def, sb, insA, encIns, ins_dec, ins_eta, lineH_eq, List.length_append, CallA_fn2, *]) | ((first | refine LCB.cond (by simp only [seval, evo] <;> rfl) ?_ ?_ | refine wpG_split (by simp only [seval, evo] <;> rfl) ?_ ?_ | refine wqG_split (by simp only [seval, evo] <;> rfl) ?_ ?_) <;> (intro hc; try simp only [seval, nf] at hc)) | refine ACalls.inst ?_ | refine CallP.inst rfl ?_)
        · rw [if_neg hkb] at hres
          have hres2 : fnR PR = .tup [.list [], .int .i64 (k : Int), .int .i64 e] := by rw [hres]; rfl
          have e6 : ¬ (k : Int) < (bg.length : Int) := by omega
          replace hres := Hold.mk hres
          repeat' (first | simp only [seval, evo, beq_self_eq_true, encB_def, encN_def, sb, insA, encIns, ins_dec, ins_eta, lineH_eq, List.length_append, CallA_fn2, *] | simp (disch := omega) only [if_pos, if_neg] | refine R.seq ?_ | refine LCB.text ?_ | refine LCB.quiet rfl ?_ | refine R.calls rfl ?_ | refine R.block ?_ | refine LCB.skip ?_ | refine LCB.exit ?_ | refine LCB.ret ?_ | ((first | refine RetOk.val hcl ?_ | refine Weak.at hcl ?_); simp only [seval, evw, List.forall_mem_cons, List.forall_mem_map, List.forall_mem_append, List.not_mem_nil, encB_def, encN_def, sb, insA, encIns, ins_dec, ins_eta, lineH_eq, List.length_append, CallA_fn2, *]) | ((first | refine LCB.cond (by simp only [seval, evo] <;> rfl) ?_ ?_ | refine wpG_split (by simp only [seval, evo] <;> rfl) ?_ ?_ | refine wqG_split (by simp only [seval, evo] <;> rfl) ?_ ?_) <;> (intro hc; try simp only [seval, nf] at hc)) | refine ACalls.inst ?_ | refine CallP.inst rfl ?_)
          first | refine ACalls.pure (hc1.of) ?_ | refine CallP.pure (hc1.of) rfl ?_ | refine CallX.pure (hc1.of) ?_
          repeat' (first | simp only [seval, evo, beq_self_eq_true, encB_def, encN_def, sb, insA, encIns, ins_dec, ins_eta, lineH_eq, List.length_append, CallA_fn2, *] | simp (disch := omega) only [if_pos, if_neg] | refine R.seq ?_ | refine LCB.text ?_ | refine LCB.quiet rfl ?_ | refine R.calls rfl ?_ | refine R.block ?_ | refine LCB.skip ?_ | refine LCB.exit ?_ | refine LCB.ret ?_ | ((first | refine RetOk.val hcl ?_ | refine Weak.at hcl ?_); simp only [seval, evw, List.forall_mem_cons, List.forall_mem_map, List.forall_mem_append, List.not_mem_nil, encB_def, encN_def, sb, insA, encIns, ins_dec, ins_eta, lineH_eq, List.length_append, CallA_fn2, *]) | ((first | refine LCB.cond (by simp only [seval, evo] <;> rfl) ?_ ?_ | refine wpG_split (by simp only [seval, evo] <;> rfl) ?_ ?_ | refine wqG_split (by simp only [seval, evo] <;> rfl) ?_ ?_) <;> (intro hc; try simp only [seval, nf] at hc)) | refine ACalls.inst ?_ | refine CallP.inst rfl ?_)
end Go.Proofs.YtgdopmhgmpkahaaDoor

/-
  The last step, part 1: a law's arguments, opened; from what a law's function answers to the row.
-/
namespace Go.Proofs.YtgdopmhgmpkahaaDoor
open Go.RowKit
set_option linter.unusedVariables false
set_option linter.unusedSimpArgs false

/-- The shape of one cell. -/
inductive Sh where
  | int (k : IntKind)
  | bool
  | str
  | list (es : List Sh)

inductive Fit : Sh → AV → Prop where
  | int (k : IntKind) (n : Int) (h0 : k.min ≤ n) (h1 : n ≤ k.max) : Fit (.int k) (.int k n)
  | bool (b : Bool) : Fit .bool (.bool b)
  | str (s : ByteArray) (h : s.size ≤ maxLen) : Fit .str (.str s)
  | list (es : List Sh) (rows : List (List AV)) (hl : rows.length ≤ maxLen) (hn : ∀ r ∈ rows, r.length = es.length) (h : ∀ r ∈ rows, ∀ (i : Nat) (e : Sh) (a : AV), es[i]? = some e → r[i]? = some a → Fit e a) : Fit (.list es) (.list rows)

def FitR (es : List Sh) (r : List AV) : Prop := r.length = es.length ∧ ∀ (i : Nat) (e : Sh) (a : AV), es[i]? = some e → r[i]? = some a → Fit e a

theorem Fit.clean {e : Sh} {a : AV} (h : Fit e a) : a.clean 0 = true := by cases h <;> rfl

theorem FitR.app {es es' : List Sh} {r r' : List AV} (h : FitR es r) (h' : FitR es' r') : FitR (es ++ es') (r ++ r') := by
  refine ⟨by simp [h.1, h'.1], fun i e a he ha => ?_⟩
  by_cases hi : i < es.length
  · rw [List.getElem?_append_left hi] at he
    rw [List.getElem?_append_left (by rw [h.1]; exact hi)] at ha
    exact h.2 i e a he ha
  · rw [List.getElem?_append_right (by omega)] at he
    rw [List.getElem?_append_right (by rw [h.1]; omega)] at ha
    exact h'.2 _ e a he (by rw [← h.1]; exact ha)

theorem FitR.nil : FitR [] [] := ⟨rfl, fun i e a h => by simp at h⟩
theorem FitR.one {e : Sh} {a : AV} (h : Fit e a) : FitR [e] [a] := ⟨rfl, fun i e' a' he ha => by
  cases i with
  | zero => simp at he ha; subst he; subst ha; exact h
  | succ i => simp at he⟩

/-- What a row of cells stands for. -/
def RepL (w : World) (r : List AV) (cs : List Value) : Prop := r.length = cs.length ∧ ∀ (i : Nat) (a : AV) (v : Value), r[i]? = some a → cs[i]? = some v → RepV ⟨fun _ => none, [], w⟩ a v

theorem RepL.app {w : World} {r r' : List AV} {cs : List Value} {n : Nat} (h : RepL w r (cs.take n)) (h' : RepL w r' (cs.drop n)) : RepL w (r ++ r') cs := by
  have e : cs = cs.take n ++ cs.drop n := (List.take_append_drop n cs).symm
  refine ⟨by rw [List.length_append, h.1, h'.1, ← List.length_append, ← e], fun i a v ha hv => ?_⟩
  rw [e] at hv
  by_cases hi : i < r.length
  · rw [List.getElem?_append_left hi] at ha
    rw [List.getElem?_append_left (by rw [← h.1]; exact hi)] at hv
    exact h.2 i a v ha hv
  · rw [List.getElem?_append_right (by omega)] at ha
    rw [List.getElem?_append_right (by rw [← h.1]; omega)] at hv
    exact h'.2 _ a v ha (by rw [h.1]; exact hv)

theorem RepL.one {w : World} {a : AV} {v : Value} (h : RepV ⟨fun _ => none, [], w⟩ a v) : RepL w [a] [v] := ⟨rfl, fun i a' v' ha hv => by
  cases i with
  | zero => simp at ha hv; subst ha; subst hv; exact h
  | succ i => simp at ha⟩

def fieldShs (P : Program) (sh : TypeId → Option (List Sh)) : Nat → List Field → Option (List Sh)
  | _, [] => some []
  | off, f :: fs => match sh f.type with
    | some es => if f.offset = off ∧ P.cellsOf f.type = es.length then (fieldShs P sh (off + es.length) fs).map (es ++ ·) else none
    | none => none

def shapes (P : Program) : Nat → TypeId → Option (List Sh)
  | 0, _ => none
  | n + 1, t => match P.underlying t with
    | some (.int k) => some [.int k]
    | some .bool => some [.bool]
    | some .string => some [.str]
    | some (.slice e) => match shapes P n e with
      | some es => if P.cellsOf e = es.length ∧ 0 < es.length then some [.list es] else none
      | none => none
    | some (.array k e) => match shapes P n e with
      | some es => if P.cellsOf e = es.length ∧ P.cellsOf t = k * es.length then some (List.replicate k es).flatten else none
      | none => none
    | some (.struct fs) => match fieldShs P (shapes P n) 0 fs.toList with
      | some es => if P.cellsOf t = es.length then some es else none
      | none => none
    | _ => none

section
variable {H : Type} {enc : TypeId × Value → H} {P : Program} {w : World} {spare : Nat → Bool} {held : Bool}

theorem fields_open {sh : TypeId → Option (List Sh)} {m : Nat} {cs : List Value}
    (ih : ∀ (t : TypeId) (es : List Sh) (cs : List Value) (y : DataW H × List MemPlace), sh t = some es → DataW.trod enc P w 0 spare held m t cs = some y → ∃ r, FitR es r ∧ RepL w r cs) :
    ∀ (fs : List Field) (off : Nat) (es : List Sh), fieldShs P sh off fs = some es → off + es.length = cs.length →
      (∀ f ∈ fs, ∃ y, DataW.trod enc P w 0 spare held m f.type ((cs.drop f.offset).take (P.cellsOf f.type)) = some y) → ∃ r, FitR es r ∧ RepL w r (cs.drop off)
  | [], off, es, h, hl, _ => by
    simp only [fieldShs, Option.some.injEq] at h
    subst h
    refine ⟨[], FitR.nil, ?_, fun i a v h => by simp at h⟩
    simp at hl ⊢; omega
  | f :: fs, off, es, h, hl, hy => by
    simp only [fieldShs] at h
    split at h
    · rename_i es1 hs
      split at h
      · rename_i hc
        obtain ⟨e1, e2⟩ := hc
        simp only [Option.map_eq_some_iff] at h
        obtain ⟨es2, h2, rfl⟩ := h
        obtain ⟨y, hy1⟩ := hy f (by simp)
        obtain ⟨r1, f1, p1⟩ := ih _ _ _ _ hs hy1
        obtain ⟨r2, f2, p2⟩ := fields_open ih fs (off + es1.length) es2 h2 (by simp at hl; omega) (fun g hg => hy g (by simp [hg]))
        rw [e1, e2] at p1
        exact ⟨r1 ++ r2, f1.app f2, RepL.app (n := es1.length) p1 (by rw [List.drop_drop]; exact p2)⟩
      · simp at h
    · simp at h

theorem arr_open {e : TypeId} {es : List Sh} {m sz : Nat} {cs : List Value} (hsz : sz = es.length)
    (ih : ∀ (cs : List Value) (y : DataW H × List MemPlace), DataW.trod enc P w 0 spare held m e cs = some y → ∃ r, FitR es r ∧ RepL w r cs) :
    ∀ (k j : Nat), (j + k) * sz = cs.length → (∀ i, j ≤ i → i < j + k → ∃ y, DataW.trod enc P w 0 spare held m e ((cs.drop (i * sz)).take sz) = some y) → ∃ r, FitR (List.replicate k es).flatten r ∧ RepL w r (cs.drop (j * sz))
  | 0, j, hl, _ => ⟨[], FitR.nil, by simp at hl ⊢; omega, fun i a v h => by simp at h⟩
  | k + 1, j, hl, hy => by
    obtain ⟨y, hy1⟩ := hy j (Nat.le_refl _) (by omega)
    obtain ⟨r1, f1, p1⟩ := ih _ _ hy1
    obtain ⟨r2, f2, p2⟩ := arr_open hsz ih k (j + 1) (by rw [← hl]; congr 1; omega) (fun i h1 h2 => hy i (by omega) (by omega))
    refine ⟨r1 ++ r2, by rw [List.replicate_succ, List.flatten_cons]; exact f1.app f2, RepL.app (n := sz) p1 ?_⟩
    rw [List.drop_drop]
    rw [Nat.succ_mul] at p2
    exact p2

theorem World.cell?_spot' {w : World} {a : Addr} {v : Value} (h : w.cell? a = some v) : a.spot = none := by
  unfold World.cell? at h
  split at h
  · split at h
    · simp at h
    · rename_i hs; simpa using hs
  · simp at h

theorem sh_open : ∀ (n : Nat) (t : TypeId) (m : Nat) (es : List Sh) (cs : List Value) (y : DataW H × List MemPlace), shapes P n t = some es → DataW.trod enc P w 0 spare held m t cs = some y → ∃ r, FitR es r ∧ RepL w r cs
  | 0, t, m, es, cs, y, hs, h => by simp [shapes] at hs
  | n + 1, t, m, es, cs, y, hs, h => by
    simp only [shapes] at hs
    split at hs
    · rename_i k hu
      simp only [Option.some.injEq] at hs
      subst hs
      obtain ⟨i, rfl, _, hw⟩ := DataW.trod_int hu h
      simp only [Lit.wf, Bool.and_eq_true, decide_eq_true_eq] at hw
      exact ⟨[.int k i], FitR.one (.int k i hw.1 hw.2), RepL.one (.int k i)⟩
    · rename_i hu
      simp only [Option.some.injEq] at hs
      subst hs
      obtain ⟨b, rfl, _⟩ := DataW.trod_bool hu h
      exact ⟨[.bool b], FitR.one (.bool b), RepL.one (.bool b)⟩
    · rename_i hu
      simp only [Option.some.injEq] at hs
      subst hs
      obtain ⟨s, rfl, _, hl⟩ := DataW.trod_string hu h
      exact ⟨[.str s], FitR.one (.str s hl), RepL.one (.str s)⟩
    · rename_i e hu
      split at hs
      · rename_i es1 he
        split at hs
        · rename_i hc
          obtain ⟨hc1, hc2⟩ := hc
          simp only [Option.some.injEq] at hs
          subst hs
          rcases Go.Deep.open_slice hu h with ⟨rfl, _⟩ | ⟨a, len, cap, k, q, D, Pl, rfl, _, hl, hm, hk, _, hx⟩
          · exact ⟨[.list []], FitR.one (.list _ _ (by simp) (by simp) (by simp)), RepL.one (.lnil _ _)⟩
          · have hlk : len ≤ k := by rw [hk]; split <;> omega
            have hrow : ∀ i, ∃ r, i < len → FitR es1 r ∧ ∃ cs', w.cells? 0 (a.add (i * es1.length)) es1.length = some cs' ∧ RepL w r cs' := fun i => by
              by_cases hi : i < len
              · obtain ⟨cs', h1, h2⟩ := hx i (by omega)
                obtain ⟨r, f1, p1⟩ := sh_open n e q es1 cs' _ he h2
                rw [hc1] at h1
                exact ⟨r, fun _ => ⟨f1, cs', h1, p1⟩⟩
              · exact ⟨[], fun h => absurd h hi⟩
            obtain ⟨R, hR⟩ : ∃ R : Nat → List AV, ∀ i, i < len → FitR es1 (R i) ∧ ∃ cs', w.cells? 0 (a.add (i * es1.length)) es1.length = some cs' ∧ RepL w (R i) cs' := ⟨fun i => Classical.choose (hrow i), fun i hi => Classical.choose_spec (hrow i) hi⟩
            have hmem : ∀ r ∈ (List.range len).map R, ∃ i, i < len ∧ r = R i := fun r hr => by
              obtain ⟨i, hi, rfl⟩ := List.mem_map.1 hr
              exact ⟨i, List.mem_range.1 hi, rfl⟩
            have hlen : ((List.range len).map R).length = len := by simp
            refine ⟨[.list ((List.range len).map R)], FitR.one (.list _ _ (by simp; omega) (fun r hr => ?_) (fun r hr => ?_)), RepL.one ?_⟩
            · obtain ⟨i, hi, rfl⟩ := hmem r hr
              exact (hR i hi).1.1
            · obtain ⟨i, hi, rfl⟩ := hmem r hr
              exact (hR i hi).1.2
            · by_cases hz : len = 0
              · subst hz; exact .lnil _ _
              · have hcell : ∀ (i j : Nat) (x : AV), cellAt ((List.range len).map R) i j = some x → i < len ∧ j < es1.length ∧ (∃ u, w.cell? (a.add (i * es1.length + j)) = some u ∧ RepV ⟨fun _ => none, [], w⟩ x u) ∧ x.clean 0 = true := fun i j x hxx => by
                  simp only [cellAt, Option.bind_eq_some_iff, List.getElem?_map, Option.map_eq_some_iff] at hxx
                  obtain ⟨r, ⟨i', hi', rfl⟩, hj⟩ := hxx
                  obtain ⟨hi2, rfl⟩ : i < len ∧ i = i' := by
                    rw [List.getElem?_eq_some_iff] at hi'
                    obtain ⟨h1, h2⟩ := hi'
                    simp at h1 h2
                    exact ⟨h1, h2⟩
                  obtain ⟨f1, cs', h1, p1⟩ := hR i hi2
                  obtain ⟨_, hcl, hce⟩ := World.cells?_some h1
                  have hj1 : j < (R i).length := (List.getElem?_eq_some_iff.1 hj).1
                  have hj2 : j < es1.length := by rw [← f1.1]; exact hj1
                  have hj3 : cs'[j]? = some cs'[j] := List.getElem?_eq_getElem (by omega)
                  refine ⟨hi2, hj2, ⟨cs'[j], ?_, p1.2 j x _ hj hj3⟩, (f1.2 j _ x (List.getElem?_eq_getElem hj2) hj).clean⟩
                  have := hce j hj2
                  rw [hj3, Go.Deep.add_add] at this
                  exact this
                have ha : a.spot = none := by
                  obtain ⟨f1, cs', h1, p1⟩ := hR 0 (by omega)
                  obtain ⟨_, hcl, hce⟩ := World.cells?_some h1
                  have := hce 0 hc2
                  rw [List.getElem?_eq_getElem (by omega)] at this
                  have := World.cell?_spot' this
                  simpa [Addr.add] using this
                obtain ⟨b, o, sp⟩ := a
                simp only at ha
                subst ha
                have e0 : ∀ k, (⟨b, o, none⟩ : Addr).add k = ⟨b, o + k, none⟩ := fun k => by
                  unfold Addr.add
                  split
                  · rename_i h0; subst h0; rfl
                  · rfl
                have := RepV.list (c := ⟨fun _ => none, [], w⟩) es1.length ((List.range len).map R) b o cap (fun i j => (w.cell? ⟨b, o + (i * es1.length + j), none⟩).getD undef) hc2 (by intro h0; rw [h0] at hlen; simp at hlen; omega)
                  (fun r hr => by obtain ⟨i, hi, rfl⟩ := hmem r hr; exact (hR i hi).1.1) (by omega) (by omega) (fun ⟨_, _, h1, _⟩ => by simp at h1)
                  (fun i j x hx1 => (hcell i j x hx1).2.2.2)
                  (fun i j x hx1 => by
                    obtain ⟨_, _, ⟨u, h1, _⟩, _⟩ := hcell i j x hx1
                    rw [e0] at h1
                    simp [h1])
                  (fun i j x hx1 => by
                    obtain ⟨_, _, ⟨u, h1, h2⟩, _⟩ := hcell i j x hx1
                    rw [e0] at h1
                    simpa [h1] using h2)
                rw [hlen] at this
                exact this
        · simp at hs
      · simp at hs
    · rename_i k e hu
      split at hs
      · rename_i es1 he
        split at hs
        · rename_i hc
          simp only [Option.some.injEq] at hs
          subst hs
          obtain ⟨xs, q, rfl, _, hl, hxl, hx⟩ := DataW.trod_array hu h
          have := arr_open (es := es1) (m := q) (cs := cs) (sz := P.cellsOf e) hc.1 (fun cs y hy => sh_open n e q es1 cs y he hy) k 0 (by rw [hl, hc.2, hc.1]; simp) (fun i _ hi => ⟨xs[i]'(by omega), by rw [hx i (by omega), List.getElem?_eq_getElem]⟩)
          simpa using this
        · simp at hs
      · simp at hs
    · rename_i fs hu
      split at hs
      · rename_i es1 he
        split at hs
        · rename_i hc
          simp only [Option.some.injEq] at hs
          subst hs
          obtain ⟨xs, q, rfl, _, hl, hxl, hx⟩ := DataW.trod_struct hu h
          have := fields_open (cs := cs) (m := q) (fun t es cs y h1 h2 => sh_open n t q es cs y h1 h2) fs.toList 0 es1 he (by rw [hl, hc]; simp) (fun f hf => by
            obtain ⟨i, hi, rfl⟩ := Array.getElem_of_mem (by simpa using hf)
            exact ⟨xs[i]'(by omega), by rw [hx i _ (by simp [hi]), List.getElem?_eq_getElem]⟩)
          simpa using this
        · simp at hs
      · simp at hs
    · simp at hs

/-! ### A law's arguments -/
inductive ASh where
  | one (e : Sh)
  | agg (es : List Sh)

def isAgg (P : Program) (t : TypeId) : Bool := match P.underlying t with | some (.struct _) | some (.array _ _) => true | _ => false
def argSh (P : Program) (t : TypeId) : Option ASh := match shapes P 20 t, isAgg P t with
  | some es, true => some (.agg es)
  | some [e], false => some (.one e)
  | _, _ => none
def argShs (P : Program) : List TypeId → Option (List ASh)
  | [] => some []
  | t :: ts => (argSh P t).bind fun a => (argShs P ts).map fun l => a :: l

/-- What stands for an argument. -/
def FitA : ASh → AV → Prop
  | .one e, a => Fit e a
  | .agg es, a => ∃ r, a = .agg r ∧ FitR es r

def FitAs : List ASh → List AV → Prop
  | [], avs => avs = []
  | e :: es, avs => ∃ a r, avs = a :: r ∧ FitA e a ∧ FitAs es r

theorem cell_okWide_one {P : Program} {W : World} {base : Nat} {t : TypeId} {v : Value} {es : List Sh} (hu : ∀ fs, P.underlying t ≠ some (.struct fs)) (hu' : ∀ k e, P.underlying t ≠ some (.array k e)) {n : Nat} (hs : shapes P (n + 1) t = some es) (hv : Value.okWide P W .any base t v) : v.cells = #[v] := by
  simp only [shapes] at hs
  split at hs
  · rename_i h; obtain ⟨n, rfl⟩ := Go.WideShapes.okWide_int h hv; rfl
  · rename_i h; obtain ⟨n, rfl⟩ := Go.WideShapes.okWide_bool h hv; rfl
  · rename_i h; obtain ⟨n, rfl⟩ := Go.WideShapes.okWide_string h hv; rfl
  · rename_i h; obtain ⟨n, _, _, rfl⟩ := Go.WideShapes.okWide_slice h hv; rfl
  · rename_i h; exact absurd h (hu' _ _)
  · rename_i h; exact absurd h (hu _)
  · simp at hs

theorem arg_open {base : Nat} {W : World} {t : TypeId} {v : Value} {d : DataW H} {ps : List MemPlace} {es : ASh} (hs : argSh P t = some es) (hv : Value.okWide P W .any base t v) (h : DataW.Trod enc P W 0 spare held t v d ps) :
    ∃ a, FitA es a ∧ RepV ⟨fun _ => none, [], W⟩ a v := by
  obtain ⟨fuel, h⟩ := h
  unfold argSh at hs
  split at hs
  · rename_i es1 hs1 hagg
    simp only [Option.some.injEq] at hs
    subst hs
    obtain ⟨r, f1, p1⟩ := sh_open 20 t fuel _ _ _ hs1 h
    refine ⟨.agg r, ⟨r, rfl, f1⟩, ?_⟩
    obtain ⟨cs, rfl⟩ : ∃ cs, v = .agg cs := by
      unfold isAgg at hagg
      unfold Value.okWide at hv
      split at hagg
      · rename_i hf; rw [hf] at hv; obtain ⟨cs, h1, _⟩ := hv; exact ⟨cs, h1⟩
      · rename_i hf; rw [hf] at hv; obtain ⟨cs, h1, _⟩ := hv; exact ⟨cs, h1⟩
      · simp at hagg
    refine .agg r cs (by rw [p1.1]; simp [Value.cells]) fun i a ha => ?_
    have hi : i < cs.size := by
      have := (List.getElem?_eq_some_iff.1 ha).1
      rw [p1.1] at this
      simpa [Value.cells] using this
    have := p1.2 i a cs[i] ha (by simp [Value.cells, hi])
    simpa [hi] using this
  · rename_i e hs1 hagg
    simp only [Option.some.injEq] at hs
    subst hs
    obtain ⟨r, f1, p1⟩ := sh_open 20 t fuel _ _ _ hs1 h
    have h1 : ∀ fs, P.underlying t ≠ some (.struct fs) := fun fs h => by simp [isAgg, h] at hagg
    have h2 : ∀ k e, P.underlying t ≠ some (.array k e) := fun k e h => by simp [isAgg, h] at hagg
    have hc := cell_okWide_one (n := 19) h1 h2 hs1 hv
    rw [hc] at p1
    have hl := p1.1
    simp at hl
    obtain ⟨a, rfl⟩ := List.length_eq_one_iff.1 hl
    exact ⟨a, f1.2 0 _ _ rfl rfl, p1.2 0 a v rfl rfl⟩
  · simp at hs

theorem args_open {base : Nat} {W : World} : ∀ (ts : List TypeId) (vs : List Value) (ds : List (DataW H)) (ps : List MemPlace) (L : List ASh), argShs P ts = some L → (∀ (j : Nat) t v, ts[j]? = some t → vs[j]? = some v → Value.okWide P W .any base t v) →
    DataW.TrodAll enc P W 0 spare held ts vs ds ps → ∃ avs, FitAs L avs ∧ avs.length = vs.length ∧ ∀ (i : Nat) (a : AV) (v : Value), avs[i]? = some a → vs[i]? = some v → RepV ⟨fun _ => none, [], W⟩ a v
  | [], vs, ds, ps, L, hs, hv, h => by
    simp only [argShs, Option.some.injEq] at hs
    subst hs
    cases vs with
    | nil => exact ⟨[], rfl, rfl, fun i a v h => by simp at h⟩
    | cons v vs => simp [DataW.TrodAll] at h
  | t :: ts, vs, ds, ps, L, hs, hv, h => by
    simp only [argShs, Option.bind_eq_some_iff, Option.map_eq_some_iff] at hs
    obtain ⟨es, hs1, L2, hs2, rfl⟩ := hs
    cases vs with
    | nil => simp [DataW.TrodAll] at h
    | cons v vs =>
      cases ds with
      | nil => simp [DataW.TrodAll] at h
      | cons d ds =>
        obtain ⟨p, q, h1, h2, _⟩ := h
        obtain ⟨a, f1, r1⟩ := arg_open hs1 (hv 0 t v rfl rfl) h1
        obtain ⟨avs, f2, l2, r2⟩ := args_open ts vs ds q L2 hs2 (fun j t v h1 h2 => hv (j + 1) t v h1 h2) h2
        refine ⟨a :: avs, ⟨a, avs, rfl, f1, f2⟩, by simp [l2], fun i x u hx hu => ?_⟩
        cases i with
        | zero => simp at hx hu; subst hx; subst hu; exact r1
        | succ i => exact r2 i x u (by simpa using hx) (by simpa using hu)

theorem trodAll_stays {W W' : World} (hl : laidOutB P = true) (hb : Below W.heap.size W W') : ∀ (ts : List TypeId) (vs : List Value) (ds : List (DataW H)) (ps : List MemPlace), ts.all (fun t => P.readableRec t && decide (t < P.types.size)) = true → (∀ x ∈ ps, x.block < W.heap.size) →
    DataW.TrodAll enc P W 0 (fun _ => true) true ts vs ds ps → DataW.TrodAll enc P W' 0 (fun b => decide (b < W.heap.size)) true ts vs ds ps
  | [], vs, ds, ps, hr, hlt, h => by
    cases vs <;> cases ds <;> simp [DataW.TrodAll] at h ⊢
    exact h
  | t :: ts, vs, ds, ps, hr, hlt, h => by
    cases vs with
    | nil => simp [DataW.TrodAll] at h
    | cons v vs =>
      cases ds with
      | nil => simp [DataW.TrodAll] at h
      | cons d ds =>
        obtain ⟨p, q, h1, h2, rfl⟩ := h
        simp only [List.all_cons, Bool.and_eq_true, decide_eq_true_eq] at hr
        exact ⟨p, q, Below.trod hl hr.1.1 hr.1.2 h1 hb (fun x hx => hlt x (by simp [hx])), trodAll_stays hl hb ts vs ds q hr.2 (fun x hx => hlt x (by simp [hx])) h2, rfl⟩

theorem TrodAll_len {W : World} {sp : Nat → Bool} {hd : Bool} : ∀ (ts : List TypeId) (vs : List Value) (ds : List (DataW H)) (ps : List MemPlace), DataW.TrodAll enc P W 0 sp hd ts vs ds ps → ds.length = ts.length
  | [], vs, ds, ps, h => by cases vs <;> cases ds <;> simp [DataW.TrodAll] at h ⊢
  | t :: ts, vs, ds, ps, h => by
    cases vs with
    | nil => simp [DataW.TrodAll] at h
    | cons v vs =>
      cases ds with
      | nil => simp [DataW.TrodAll] at h
      | cons d ds =>
        obtain ⟨p, q, h1, h2, _⟩ := h
        simp [TrodAll_len ts vs ds q h2]

theorem Fr.below {ι ι' : Nat → Option Nat} {H' : List AObj} {W W' : World} (h : Fr ⟨ι, [], W⟩ ⟨ι', H', W'⟩) : Below W.heap.size W W' :=
  ⟨h.os, h.tape, h.output, h.size, fun k hk => (h.keep k hk (fun ⟨_, _, h1, _⟩ => by simp at h1)).1⟩

def boolRes (P : Program) (fn : Func) : Bool := match fn.resultTypes.toList with
  | [t] => match P.underlying t with | some .bool => true | _ => false
  | _ => false

/-- **From a law's answer to its row's contract.** -/
theorem law_contract {f : FuncId} {fn : Func} {s : ChangeSpec} {L : List ASh} {W : World} {base : Nat} {args : Array Value} {ds gs : List (DataW H)} {before : List MemPlace}
    (hlaid : laidOutB P = true) (hvars : s.vars = []) (hres : boolRes P fn = true)
    (hread : fn.params.toList.all (fun t => P.readableRec t && decide (t < P.types.size)) = true) (hsh : argShs P fn.params.toList = some L)
    (hs : ∀ ds : List (DataW H), ds.length = fn.params.size → s.fn H ds = { results := [.lit (.bool true)], args := ds })
    (hglob : GlobOk ⟨fun _ => none, [], W⟩)
    (law : ∀ avs, FitAs L avs → ACalls P f avs [] fun r _ => r = .bool true)
    (hval : ∀ (j : Nat) t v, fn.params[j]? = some t → args[j]? = some v → Value.okWide P W .any base t v)
    (hW : DataW.Whole enc P fn.params.toList s.vars false W args.toList ds gs before) :
    Calls P f args W fun e W' => ∃ v, e = .returned v ∧ s.post enc P fn false true false false W args v W' := by
  have hW' := hW
  obtain ⟨tb, hrt, htb⟩ : ∃ tb, fn.resultTypes.toList = [tb] ∧ P.underlying tb = some .bool := by
    unfold boolRes at hres
    split at hres
    · rename_i t ht
      split at hres
      · rename_i hb; exact ⟨t, ht, hb⟩
      · simp at hres
    · simp at hres
  have hsz : fn.resultTypes.size = 1 := by rw [← Array.length_toList, hrt]; rfl
  obtain ⟨p, q, hA, hV, rfl, _, _⟩ := hW
  rw [hvars] at hV
  obtain ⟨rfl, rfl⟩ := Go.ChangeShapes.trodVars_none hV
  obtain ⟨avs, hfit, hlen, hrep⟩ := args_open (base := base) fn.params.toList args.toList ds p L hsh (fun j t v h1 h2 => hval j t v (by simpa using h1) (by simpa using h2)) hA
  have hlt : ∀ y ∈ p, y.block < W.heap.size := fun y hy => by simpa using hW'.lt y (by simp [hy])
  have hdl := TrodAll_len _ _ _ _ hA
  refine ((law avs hfit).2 (fun _ => none) W args ⟨fun k o h => by simp at h, fun k o b h => by simp at h, fun k l o p b h => by simp at h, hglob⟩ ⟨by simpa using hlen.symm, fun i a ha => ?_⟩).mono fun e W' ⟨r, v, ι', H', he, hr, _, hv, hf⟩ => ?_
  · have hi : i < args.size := by
      have := (List.getElem?_eq_some_iff.1 ha).1
      rw [hlen] at this
      simpa using this
    have := hrep i a args[i] ha (by simp [hi])
    simpa [hi] using this
  · subst hr
    have hvb := hv.bool_inv
    subst hvb
    refine ⟨_, he, ds, [], p ++ [], [], p, [], hW', ?_, ?_, ?_, (Fr.below hf).frame _, fun h => by cases h⟩
    · rw [hs _ (by simpa using hdl), hrt, hsz]
      exact Go.ChangeShapes.trodAll_mk1 (shut_bool htb true)
    · rw [hs _ (by simpa using hdl), List.append_nil]
      exact trodAll_stays hlaid (Fr.below hf) _ _ _ _ hread hlt hA
    · rw [hs _ (by simpa using hdl), hvars]
      rfl
end
end Go.Proofs.YtgdopmhgmpkahaaDoor
/-
  The last step, part 3: the table that the program's text lays.
-/
namespace Go.Proofs.YtgdopmhgmpkahaaDoor
open Go.ChangeShapes Go.WideShapes Go.ChangeAt Go.RowKit
set_option linter.unusedVariables false
set_option linter.unusedSimpArgs false
set_option maxRecDepth 100000

theorem own_ok : ownKnob Tryd.prog.godebug = none := by kernel_rfl
theorem laid_ok : laidOutB Tryd.prog = true := by kernel_rfl

def laidL {H : Type} : List (String × DataW H) := [("joinery/ins.shapes", Rows.laid_joinery_ins_shapes)]

theorem door_met (os : Os) (args : Array Value) : laidMetH Tryd.prog laidL ((World.doorLaid Tryd.prog 400 os).forCall (fun _ _ => 0) ⟨#[], args, []⟩).memory :=
  laidMetH_of_parts3 (fuel := 8) (laidMet_of_run' 8 (by kernel_rfl) (by kernel_rfl)) (by kernel_rfl) (by kernel_rfl)

theorem gShapes : Tryd.prog.globalNamed "joinery/ins.shapes" = some 1 := by kernel_rfl

noncomputable def tblT : TypeId := ((Tryd.prog.globals[1]?).map (·.type)).getD 0
theorem tShapes : (Tryd.prog.globals[1]?).map (·.type) = some tblT := by kernel_rfl
noncomputable def elT : TypeId := match Tryd.prog.underlying tblT with | some (.array _ e) => e | _ => 0
theorem uTbl : Tryd.prog.underlying tblT = some (.array 18 elT) := by kernel_rfl
noncomputable def elF : Array Field := match Tryd.prog.underlying elT with | some (.struct fs) => fs | _ => #[]
theorem uEl : Tryd.prog.underlying elT = some (.struct #[elF.getD 0 default, elF.getD 1 default]) := by kernel_rfl
theorem uF0 : Tryd.prog.underlying (elF.getD 0 default).type = some .string := by kernel_rfl
theorem uF1 : Tryd.prog.underlying (elF.getD 1 default).type = some .string := by kernel_rfl
theorem oF0 : (elF.getD 0 default).offset = 0 := by kernel_rfl
theorem oF1 : (elF.getD 1 default).offset = 1 := by kernel_rfl
theorem cF0 : Tryd.prog.cellsOf (elF.getD 0 default).type = 1 := by kernel_rfl
theorem cF1 : Tryd.prog.cellsOf (elF.getD 1 default).type = 1 := by kernel_rfl
theorem cEl : Tryd.prog.cellsOf elT = 2 := by kernel_rfl

theorem laid_eq {H : Type} : (Rows.laid_joinery_ins_shapes : DataW H) = .agg (shapeTbl.map fun p => .agg [.lit (.string p.1.data.toList), .lit (.string p.2.data.toList)]) := rfl

theorem glob_of_laid {W : World} (h : laidMetH Tryd.prog laidL W) : GlobOk ⟨fun _ => none, [], W⟩ := by
  unfold laidL at h
  rw [MakeChecks.laidMetH_plain _ _ _ (by kernel_rfl)] at h
  obtain ⟨ps, ⟨g0, t0, cs0, f0, p0, q0, hg0, ht0, hv0, hd0, _⟩, _⟩ := h
  obtain rfl := Option.some.inj (gShapes.symm.trans hg0)
  obtain rfl := Option.some.inj (tShapes.symm.trans ht0)
  obtain ⟨xs, m, rfl, hx, hlen, hn, hel⟩ := DataW.trod_array uTbl hd0
  rw [laid_eq] at hx
  simp only [Prod.mk.injEq, DataW.agg.injEq] at hx
  have hx1 := hx.1
  clear hx hd0
  have hcell : ∀ j, W.cell? ⟨1, j, none⟩ = cs0.toList[j]? := fun j => by
    have := World.var?_cell gShapes hv0 j
    simpa using this
  have key : ∀ i : Nat, i < 18 → cs0.toList[i * 2]? = some (.string (bs (wordL ((i + 1 : Nat) : Int)))) ∧ cs0.toList[i * 2 + 1]? = some (.string (bs (fieldL ((i + 1 : Nat) : Int)))) := fun i hi => by
    have h1 := hel i hi
    rw [List.getElem?_eq_getElem (by omega)] at h1
    obtain ⟨y0, y1, n, e1, _, h2, h3⟩ := trod_struct2 uEl h1
    rw [cEl, oF0, cF0] at h2
    rw [cEl, oF1, cF1] at h3
    obtain ⟨s0, g1, g2, _⟩ := DataW.trod_string uF0 h2
    obtain ⟨s1, g3, g4, _⟩ := DataW.trod_string uF1 h3
    have e2 : (xs.map (·.1))[i]? = some xs[i].1 := by rw [List.getElem?_map, List.getElem?_eq_getElem (by omega)]; rfl
    rw [← hx1, e1, List.getElem?_map, List.getElem?_eq_getElem (by exact hi)] at e2
    simp only [Option.map_some, Option.some.injEq, DataW.agg.injEq, List.cons.injEq, and_true, g2, g4, DataW.lit.injEq, Lit.string.injEq] at e2
    have hw : wordL ((i + 1 : Nat) : Int) = (shapeTbl[i]'hi).1.data.toList := by
      unfold wordL shapeOf
      rw [show (((i + 1 : Nat) : Int) - 1).toNat = i by omega, List.getD_eq_getElem?_getD, List.getElem?_eq_getElem (by exact hi)]
      rfl
    have hf : fieldL ((i + 1 : Nat) : Int) = (shapeTbl[i]'hi).2.data.toList := by
      unfold fieldL shapeOf
      rw [show (((i + 1 : Nat) : Int) - 1).toNat = i by omega, List.getD_eq_getElem?_getD, List.getElem?_eq_getElem (by exact hi)]
      rfl
    have k0 : s0 = bs (wordL ((i + 1 : Nat) : Int)) := by rw [hw, e2.1]; exact bs_of s0
    have k1 : s1 = bs (fieldL ((i + 1 : Nat) : Int)) := by rw [hf, e2.2]; exact bs_of s1
    rw [← k0, ← k1]
    have f0 := congrArg (fun l => l[0]?) g1
    have f1 := congrArg (fun l => l[0]?) g3
    simp at f0 f1
    exact ⟨by simpa using f0, by simpa using f1⟩
  obtain ⟨row, hr, hl, -, hcr, hd⟩ := shape_tbl
  intro g row' hg
  have hrow : row' = row := by
    unfold GT at hg
    split at hg
    · simp only [Option.some.injEq] at hg
      rw [← hg, hr]
    · simp at hg
  have hg0' : g = 1 := by
    unfold GT at hg
    split at hg
    · assumption
    · simp at hg
  subst hrow hg0'
  refine ⟨fun h => by rw [h] at hl; simp at hl, fun ⟨_, _, h1, _⟩ => by simp at h1, fun j a ha => ?_⟩
  have hj : j < 36 := by rw [← hl]; exact (List.getElem?_eq_some_iff.1 ha).1
  obtain ⟨i, hi⟩ : ∃ i, j = i * 2 ∨ j = i * 2 + 1 := ⟨j / 2, by omega⟩
  have hd := hd i (by omega)
  have hk := key i (by omega)
  rcases hi with rfl | rfl
  · have e1 : row'[i * 2]? = some (.str (bs (wordL ((i + 1 : Nat) : Int)))) := by
      have := congrArg (fun l => l[0]?) hd
      simpa [List.getElem?_take] using this
    rw [e1] at ha
    simp only [Option.some.injEq] at ha
    subst ha
    exact ⟨rfl, _, (hcell _).trans hk.1, .str _⟩
  · have e1 : row'[i * 2 + 1]? = some (.str (bs (fieldL ((i + 1 : Nat) : Int)))) := by
      have := congrArg (fun l => l[1]?) hd
      simpa [List.getElem?_take] using this
    rw [e1] at ha
    simp only [Option.some.injEq] at ha
    subst ha
    exact ⟨rfl, _, (hcell _).trans hk.2, .str _⟩
end Go.Proofs.YtgdopmhgmpkahaaDoor

/-
  The last step, part 2: what all rows of this seat share.
-/
namespace Go.Proofs.YtgdopmhgmpkahaaDoor
open Go.ChangeShapes Go.WideShapes Go.ChangeAt Go.RowKit
set_option linter.unusedVariables false
set_option linter.unusedSimpArgs false

abbrev insSh : List Sh := [.int .i64, .int .i64, .int .i64, .int .i64, .int .i64, .int .i64]

theorem Fit.int_inv {k : IntKind} {a : AV} (h : Fit (.int k) a) : ∃ n, a = .int k n ∧ k.min ≤ n ∧ n ≤ k.max := by
  cases h with
  | int k n h0 h1 => exact ⟨n, rfl, h0, h1⟩
theorem Fit.i64 {a : AV} (h : Fit (.int .i64) a) : ∃ n, a = .int .i64 n ∧ in64 n := by
  obtain ⟨n, rfl, h0, h1⟩ := h.int_inv
  exact ⟨n, rfl, h0, h1⟩
theorem Fit.u8 {a : AV} (h : Fit (.int .u8) a) : ∃ n : Nat, a = .int .u8 (n : Int) ∧ n < 256 := by
  obtain ⟨n, rfl, h0, h1⟩ := h.int_inv
  have e0 : IntKind.u8.min = 0 := rfl
  have e1 : IntKind.u8.max = 255 := rfl
  exact ⟨n.toNat, by congr 1; omega, by omega⟩
theorem Fit.str_inv {a : AV} (h : Fit .str a) : ∃ l : List UInt8, a = .str (bs l) ∧ l.length ≤ maxLen := by
  cases h with
  | str s h => exact ⟨s.data.toList, congrArg AV.str (bs_of s), bs_size (l := s.data.toList) ▸ h⟩

theorem fit_ins {r : List AV} (hn : r.length = 6) (h : ∀ (i : Nat) (e : Sh) (a : AV), insSh[i]? = some e → r[i]? = some a → Fit e a) : ∃ x : Ins, r = encIns x ∧ (in64 x.op ∧ in64 x.d ∧ in64 x.a ∧ in64 x.b ∧ in64 x.n ∧ in64 x.to) := by
  match r, hn with
  | [a0, a1, a2, a3, a4, a5], _ =>
    obtain ⟨n0, rfl, g0⟩ := (h 0 _ _ rfl rfl).i64
    obtain ⟨n1, rfl, g1⟩ := (h 1 _ _ rfl rfl).i64
    obtain ⟨n2, rfl, g2⟩ := (h 2 _ _ rfl rfl).i64
    obtain ⟨n3, rfl, g3⟩ := (h 3 _ _ rfl rfl).i64
    obtain ⟨n4, rfl, g4⟩ := (h 4 _ _ rfl rfl).i64
    obtain ⟨n5, rfl, g5⟩ := (h 5 _ _ rfl rfl).i64
    exact ⟨⟨n0, n1, n2, n3, n4, n5⟩, rfl, g0, g1, g2, g3, g4, g5⟩
theorem FitA.ins {a : AV} (h : FitA (.agg insSh) a) : ∃ x : Ins, a = insA x ∧ (in64 x.op ∧ in64 x.d ∧ in64 x.a ∧ in64 x.b ∧ in64 x.n ∧ in64 x.to) := by
  obtain ⟨r, rfl, hr⟩ := h
  obtain ⟨x, rfl, hx⟩ := fit_ins hr.1 hr.2
  exact ⟨x, rfl, hx⟩

theorem Pure.law {P : Program} {f : FuncId} {args : List AV} (h : Pure P f args (.bool true)) : ACalls P f args [] fun r _ => r = .bool true := (h []).mono fun r _ ⟨h, _⟩ => h
end Go.Proofs.YtgdopmhgmpkahaaDoor
/-
  The last step, part 4: lists of instructions.
-/
namespace Go.Proofs.YtgdopmhgmpkahaaDoor
open Go.ChangeShapes Go.WideShapes Go.ChangeAt Go.RowKit
set_option linter.unusedVariables false
set_option linter.unusedSimpArgs false

theorem ok_of {x : Ins} (h : in64 x.op ∧ in64 x.d ∧ in64 x.a ∧ in64 x.b ∧ in64 x.n ∧ in64 x.to) : Ok64 x := ⟨h.1, h.2.1, h.2.2.1, h.2.2.2.1, h.2.2.2.2.1, h.2.2.2.2.2⟩
theorem rows_of {α : Type} (f : α → List AV) (q : α → Prop) (p : List AV → Prop) (hp : ∀ r, p r → ∃ x, r = f x ∧ q x) : ∀ rows : List (List AV), (∀ r ∈ rows, p r) → ∃ l : List α, rows = l.map f ∧ ∀ x ∈ l, q x
  | [], _ => ⟨[], rfl, by simp⟩
  | r :: rows, h => by
    obtain ⟨x, rfl, hx⟩ := hp r (h r (by simp))
    obtain ⟨l, rfl, hl⟩ := rows_of f q p hp rows (fun r hr => h r (by simp [hr]))
    exact ⟨x :: l, rfl, by simpa using ⟨hx, hl⟩⟩
theorem Fit.inss {a : AV} (h : Fit (.list insSh) a) : ∃ l : List Ins, a = encFn l ∧ (∀ x ∈ l, Ok64 x) ∧ l.length ≤ maxLen := by
  cases h with
  | list es rows hl hn h =>
    obtain ⟨l, rfl, hq⟩ := rows_of encIns Ok64 (fun r => r.length = 6 ∧ ∀ (i : Nat) (e : Sh) (a : AV), insSh[i]? = some e → r[i]? = some a → Fit e a) (fun r hr => by
      obtain ⟨x, h1, h2⟩ := fit_ins hr.1 hr.2
      exact ⟨x, h1, ok_of h2⟩) rows (fun r hr => ⟨hn r hr, h r hr⟩)
    exact ⟨l, rfl, hq, by simpa using hl⟩
end Go.Proofs.YtgdopmhgmpkahaaDoor

/-
  alloc: plain laws: instructions put in, slots renamed.
-/
namespace Go.Proofs.YtgdopmhgmpkahaaDoor
open Go.RowKit
set_option linter.unusedVariables false
set_option linter.unusedSimpArgs false

theorem chk_zero {x : Ins} {n : Int} : chk x n = 0 ↔ badFormR x = false ∧ badPlaceR x = false ∧ ((x.op = 16 ∨ x.op = 17) → 0 ≤ x.to ∧ x.to < n) := by
  rw [chk_same]
  unfold chkR farOff
  cases badFormR x <;> cases badPlaceR x <;> simp <;> omega
theorem chk_to {x : Ins} {n m t : Int} (h : chk x n = 0) (ho : x.op = 16 ∨ x.op = 17) (h0 : 0 ≤ t) (h1 : t < m) : chk { x with to := t } m = 0 := by
  rw [chk_zero] at *
  obtain ⟨k1, k2, k3⟩ := h
  refine ⟨?_, k2, fun _ => ⟨h0, h1⟩⟩
  obtain ⟨op, d, a, b, q, to⟩ := x
  simp only at ho
  rcases ho with rfl | rfl
  · simpa [badFormR, onlyR, sel, keepN, keepTo, keepD, keepA, keepB] using k1
  · simpa [badFormR, onlyR, sel, keepN, keepTo, keepD, keepA, keepB] using k1
theorem chk_jmp {x : Ins} {n : Int} (h : chk x n = 0) (ho : x.op = 16 ∨ x.op = 17) : 0 ≤ x.to ∧ x.to < n := (chk_zero.1 h).2.2 ho
theorem chk_nojmp {x : Ins} {n m : Int} (h : chk x n = 0) (ho : ¬ (x.op = 16 ∨ x.op = 17)) : chk x m = 0 := by
  rw [chk_zero] at *
  exact ⟨h.1, h.2.1, fun g => absurd g ho⟩

/-! ### Instructions put in -/
def shiftI (a n : Int) (x : Ins) : Ins := if (x.op = 16 ∨ x.op = 17) ∧ a < x.to then { x with to := x.to + n } else x
def putL (f : List Ins) (a : Nat) (l : List Ins) : List Ins := (f.take a).map (shiftI (a : Int) (l.length : Int)) ++ l ++ (f.drop a).map (shiftI (a : Int) (l.length : Int))
def mayB (f : List Ins) (p : Int) : Bool := fnOk f && (decide (0 ≤ p) && decide (p < (f.length : Int)))
def badIn (n : Int) (x : Ins) : Bool := decide (16 ≤ x.op) || !decide (chk x n = 0)
def put2 (f : List Ins) (p : Int) (l : List Ins) : List Ins × Int := if 200 < f.length + l.length then ([], 3) else (putL f p.toNat l, 0)
def putF (f : List Ins) (p : Int) (l : List Ins) : List Ins × Int := if mayB f p then if l.any (badIn (f.length : Int)) then ([], 1) else put2 f p l else ([], 1)
def resP (r : List Ins × Int) : AV := .tup [encFn r.1, .int .i64 r.2]

theorem shift_op (a n : Int) (x : Ins) : (shiftI a n x).op = x.op := by unfold shiftI; split <;> rfl
theorem shift_chk {a n m : Int} {x : Ins} (h : chk x m = 0) (hn : 0 ≤ n) : chk (shiftI a n x) (m + n) = 0 := by
  unfold shiftI
  split
  · rename_i g
    have := chk_jmp h g.1
    exact chk_to h g.1 (by omega) (by omega)
  · exact chk_more (by omega) h
theorem put_len (f : List Ins) {a : Nat} (l : List Ins) (h : a ≤ f.length) : (putL f a l).length = f.length + l.length := by
  simp [putL]; omega
theorem lastOp_append {f g : List Ins} (h : g ≠ []) : lastOp (f ++ g) = lastOp g := by
  unfold lastOp
  have : 0 < g.length := List.length_pos_iff.2 h
  rw [List.getD_eq_getElem?_getD, List.getD_eq_getElem?_getD, List.getElem?_append_right (by simp; omega)]
  congr 3
  simp; omega
theorem lastOp_map {g : List Ins} {s : Ins → Ins} (hs : ∀ x, (s x).op = x.op) : lastOp (g.map s) = lastOp g := by
  unfold lastOp
  rw [List.getD_eq_getElem?_getD, List.getD_eq_getElem?_getD, List.getElem?_map, List.length_map]
  cases g[g.length - 1]? <;> simp [hs]
theorem lastOp_drop {f : List Ins} {a : Nat} (h : a < f.length) : lastOp (f.drop a) = lastOp f := by
  have e := List.take_append_drop a f
  have := lastOp_append (f := f.take a) (g := f.drop a) (fun e => by have := congrArg List.length e; simp at this; omega)
  rw [e] at this
  exact this.symm
theorem put_ok {f l : List Ins} {p : Int} (hm : mayB f p = true) (hb : l.any (badIn (f.length : Int)) = false) (hl : ¬ 200 < f.length + l.length) : fnOk (putL f p.toNat l) = true := by
  unfold mayB at hm
  simp only [Bool.and_eq_true, decide_eq_true_eq] at hm
  obtain ⟨h1, h2, h3⟩ := hm
  obtain ⟨k1, k2, k3, k4⟩ := fnOk_iff.1 h1
  have hlt : p.toNat < f.length := by omega
  have el := put_len f l (Nat.le_of_lt hlt)
  rw [fnOk_iff, el]
  refine ⟨by omega, by omega, ?_, ?_⟩
  · have hs : ∀ x ∈ f, chk (shiftI (p.toNat : Int) (l.length : Int) x) ((f.length + l.length : Nat) : Int) = 0 := fun x hx => by
      have := shift_chk (a := (p.toNat : Int)) (n := (l.length : Int)) (k3 x hx) (by omega)
      rwa [← Int.natCast_add] at this
    intro y hy
    unfold putL at hy
    simp only [List.mem_append, List.mem_map] at hy
    rcases hy with (⟨x, hx, rfl⟩ | hy) | ⟨x, hx, rfl⟩
    · exact hs x (List.mem_of_mem_take hx)
    · have := (List.any_eq_false.1 hb) y hy
      unfold badIn at this
      simp only [Bool.not_eq_true, Bool.or_eq_false_iff, decide_eq_false_iff_not, Bool.not_eq_false', decide_eq_true_eq] at this
      exact chk_more (by omega) this.2
    · exact hs x (List.mem_of_mem_drop hx)
  · have : lastOp (putL f p.toNat l) = lastOp f := by
      unfold putL
      rw [lastOp_append (fun e => by have := congrArg List.length e; simp at this; omega), lastOp_map (shift_op _ _), lastOp_drop hlt]
    rw [this]
    exact k4
theorem put_lt {f l : List Ins} {a i : Nat} (hi : i < a) (ha : a ≤ f.length) : (putL f a l).getD i noIns = shiftI (a : Int) (l.length : Int) (f.getD i noIns) := by
  have h : i < f.length := by omega
  unfold putL
  rw [List.getD_eq_getElem?_getD, List.append_assoc, List.getElem?_append_left (by simp; omega), List.getElem?_map, List.getElem?_take, if_pos hi]
  simp [List.getD, h]
theorem put_mid {f l : List Ins} {a i : Nat} (hi : i < l.length) (ha : a ≤ f.length) : (putL f a l).getD (a + i) noIns = l.getD i noIns := by
  unfold putL
  have e : ((f.take a).map (shiftI (a : Int) (l.length : Int))).length = a := by simp; omega
  rw [List.getD_eq_getElem?_getD, List.append_assoc, List.getElem?_append_right (by omega), e, List.getElem?_append_left (by omega)]
  simp [List.getD]
theorem put_ge {f l : List Ins} {a i : Nat} (hi : a ≤ i) (ha : i < f.length) : (putL f a l).getD (i + l.length) noIns = shiftI (a : Int) (l.length : Int) (f.getD i noIns) := by
  unfold putL
  have e : ((f.take a).map (shiftI (a : Int) (l.length : Int))).length = a := by simp; omega
  rw [List.getD_eq_getElem?_getD, List.getElem?_append_right (by simp; omega), List.getElem?_map, List.getElem?_drop]
  rw [List.length_append, e, show a + (i + l.length - (a + l.length)) = i by omega]
  simp [List.getD, ha]
theorem shift_only (a n : Int) (x : Ins) : ({ x with to := (shiftI a n x).to } : Ins) = shiftI a n x := by
  unfold shiftI
  split <;> rfl

/-! ### Slots renamed -/
def oth (a b l : Int) : Int := if l = a then b else if l = b then a else l
def renI (a b : Int) (x : Ins) : Ins := if x.op = 1 then { x with d := oth a b x.d } else if x.op = 2 ∨ x.op = 3 then { x with d := oth a b x.d, a := oth a b x.a } else x
def renOk (f : List Ins) (a b : Int) : Bool := fnOk f && (!inR 8 a && (!inR 8 b && (inR 24 a && inR 24 b)))
def renF (f : List Ins) (a b : Int) : List Ins × Int := if renOk f a b then (f.map (renI a b), 0) else ([], 1)
theorem oth_comm (a b l : Int) : oth a b l = oth b a l := by unfold oth; split <;> split <;> simp_all
theorem oth_twice (a b l : Int) : oth a b (oth a b l) = l := by unfold oth; split <;> split <;> (try split) <;> simp_all
theorem renI_comm (a b : Int) (x : Ins) : renI a b x = renI b a x := by unfold renI; rw [oth_comm a b x.d, oth_comm a b x.a]
theorem renI_op (a b : Int) (x : Ins) : (renI a b x).op = x.op := by unfold renI; split; rfl; split <;> rfl
theorem renI_twice (a b : Int) (x : Ins) : renI a b (renI a b x) = x := by
  obtain ⟨op, d, c, e, n, to⟩ := x
  unfold renI
  by_cases h1 : op = 1
  · simp [h1, oth_twice]
  · by_cases h2 : op = 2 ∨ op = 3
    · simp [h1, h2, oth_twice]
    · simp [h1, h2]
theorem oth_in {a b l : Int} (ha : inR 24 a = true) (hb : inR 24 b = true) (hl : inR 24 l = true) : inR 24 (oth a b l) = true := by
  unfold oth; split; assumption; split <;> assumption
theorem renI_chk {a b n : Int} {x : Ins} (ha : inR 24 a = true) (hb : inR 24 b = true) (h : chk x n = 0) : chk (renI a b x) n = 0 := by
  rw [chk_zero] at *
  obtain ⟨k1, k2, k3⟩ := h
  obtain ⟨op, d, c, e, q, to⟩ := x
  unfold renI
  by_cases h1 : op = 1
  · subst h1
    simp [badFormR, badPlaceR, onlyR, sel, keepN, keepTo, keepD, keepA, keepB] at k1 k2 k3 ⊢
    exact ⟨k1, oth_in ha hb k2.1, k2.2⟩
  · by_cases h2 : op = 2 ∨ op = 3
    · rcases h2 with rfl | rfl
      all_goals
        simp [badFormR, badPlaceR, onlyR, sel, keepN, keepTo, keepD, keepA, keepB] at k1 k2 k3 ⊢
        exact ⟨k1, oth_in ha hb k2.1, oth_in ha hb k2.2⟩
    · simp only [h1, h2, if_false]
      exact ⟨k1, k2, k3⟩
theorem ren_ok {f : List Ins} {a b : Int} (h : renOk f a b = true) : renOk (f.map (renI a b)) a b = true := by
  unfold renOk at *
  simp only [Bool.and_eq_true] at *
  refine ⟨?_, h.2⟩
  obtain ⟨h1, _, _, h2, h3⟩ := h
  obtain ⟨k1, k2, k3, k4⟩ := fnOk_iff.1 h1
  rw [fnOk_iff, List.length_map, lastOp_map (renI_op a b)]
  refine ⟨k1, k2, fun y hy => ?_, k4⟩
  obtain ⟨x, hx, rfl⟩ := List.mem_map.1 hy
  exact renI_chk h2 h3 (k3 x hx)
theorem renF_comm (f : List Ins) (a b : Int) : renF f a b = renF f b a := by
  have e : renOk f a b = renOk f b a := by
    unfold renOk
    cases inR 8 a <;> cases inR 8 b <;> cases inR 24 a <;> cases inR 24 b <;> rfl
  unfold renF
  rw [e]
  have : renI a b = renI b a := funext (renI_comm a b)
  rw [this]
theorem map_renI_twice (f : List Ins) (a b : Int) : (f.map (renI a b)).map (renI a b) = f := by
  rw [List.map_map]
  conv => rhs; rw [← List.map_id f]
  congr 1
  funext x
  exact renI_twice a b x
end Go.Proofs.YtgdopmhgmpkahaaDoor

/-
  ins: Moves, Sets, Uses; the reference's, too.
-/
namespace Go.Proofs.YtgdopmhgmpkahaaDoor
open Go.RowKit
set_option linter.unusedVariables false
set_option linter.unusedSimpArgs false

def movesB (op : Int) : Bool := decide (op = 1 ∨ op = 2 ∨ op = 3 ∨ op = 16)
def setsB (op : Int) : Bool := decide (4 ≤ op ∧ op ≤ 15 ∧ op ≠ 14)
def setsA (x : Ins) : AV := .tup [.int .i64 (if setsB x.op then x.d else 0), .bool (setsB x.op)]
def encI (n : Int) : List AV := [.int .i64 n]
theorem encI_def (n : Int) : encI n = [.int .i64 n] := rfl
def encInts (l : List Int) : AV := .list (l.map encI)
def isUse (c : Int) : Bool := c == 65 || c == 66
def usesL (x : Ins) : List Int := if opOk x.op && !movesB x.op then ((letters (fieldL x.op)).filter isUse).map (fieldVal x) else []

theorem ins_Moves_ok (x : Ins) : Pure Tryd.prog 72 [insA x] (.bool (movesB x.op)) := by
  intro H
  refine ACalls.go ins_Moves.low (by simp) fun hcl => ?_
  rw [insA_eq]
  generalize hm : movesB x.op = m
  replace hm := Hold.mk hm
  repeat' (first | simp only [seval, evo, beq_self_eq_true, sb, insA, encIns, ins_eta, ins_dec0, ins_dec, encI_def, *] | simp (disch := omega) only [if_pos, if_neg] | refine R.seq ?_ | refine LCB.text ?_ | refine LCB.quiet rfl ?_ | refine R.calls rfl ?_ | refine R.block ?_ | refine LCB.skip ?_ | refine LCB.exit ?_ | refine LCB.ret ?_ | ((first | refine RetOk.val hcl ?_ | refine Weak.at hcl ?_); simp only [seval, evw, List.forall_mem_cons, List.forall_mem_map, List.forall_mem_append, List.not_mem_nil, sb, insA, encIns, ins_eta, ins_dec0, ins_dec, encI_def, *]) | ((first | refine LCB.cond (by simp only [seval, evo] <;> rfl) ?_ ?_ | refine wpG_split (by simp only [seval, evo] <;> rfl) ?_ ?_ | refine wqG_split (by simp only [seval, evo] <;> rfl) ?_ ?_) <;> (intro hc; try simp only [seval, nf] at hc)) | refine ACalls.inst ?_ | refine CallP.inst rfl ?_)
  all_goals rw [← hm.of]
  all_goals first | exact (decide_eq_true (by omega)).symm | exact (decide_eq_false (by omega)).symm | exact decide_eq_decide.2 (by omega)
theorem ins_Sets_ok (x : Ins) : Pure Tryd.prog 56 [insA x] (setsA x) := by
  intro H
  refine ACalls.go ins_Sets.low (by simp) fun hcl => ?_
  rw [insA_eq]
  unfold setsA
  generalize hm : setsB x.op = m
  replace hm := Hold.mk hm
  repeat' (first | simp only [seval, evo, beq_self_eq_true, sb, insA, encIns, ins_eta, ins_dec0, ins_dec, encI_def, *] | simp (disch := omega) only [if_pos, if_neg] | refine R.seq ?_ | refine LCB.text ?_ | refine LCB.quiet rfl ?_ | refine R.calls rfl ?_ | refine R.block ?_ | refine LCB.skip ?_ | refine LCB.exit ?_ | refine LCB.ret ?_ | ((first | refine RetOk.val hcl ?_ | refine Weak.at hcl ?_); simp only [seval, evw, List.forall_mem_cons, List.forall_mem_map, List.forall_mem_append, List.not_mem_nil, sb, insA, encIns, ins_eta, ins_dec0, ins_dec, encI_def, *]) | ((first | refine LCB.cond (by simp only [seval, evo] <;> rfl) ?_ ?_ | refine wpG_split (by simp only [seval, evo] <;> rfl) ?_ ?_ | refine wqG_split (by simp only [seval, evo] <;> rfl) ?_ ?_) <;> (intro hc; try simp only [seval, nf] at hc)) | refine ACalls.inst ?_ | refine CallP.inst rfl ?_)
  · have : m = true := by rw [← hm.of]; exact decide_eq_true (by omega)
    simp [this]
  all_goals
    have : m = false := by rw [← hm.of]; exact decide_eq_false (by omega)
    simp [this]
instance pc_ins_Moves (op d a b n to : Int) : PureC Tryd.prog 72 [.agg [.int .i64 op, .int .i64 d, .int .i64 a, .int .i64 b, .int .i64 n, .int .i64 to]] (.bool (movesB op)) := ⟨ins_Moves_ok ⟨op, d, a, b, n, to⟩⟩
set_option maxHeartbeats 1000000 in
theorem ins_Uses_ok (x : Ins) : Pure Tryd.prog 48 [insA x] (encInts (usesL x)) := by
  intro H
  refine ACalls.go ins_Uses.low (by simp) fun hcl => ?_
  have hof := ins_of_ok x.op
  rw [insA_eq]
  obtain ⟨hs1, hs2, hs3⟩ := shape_short x.op
  replace hs3 := Hold.mk hs3
  replace hof := Hold.mk hof
  have hU : Hold (usesL x = if opOk x.op && !movesB x.op then ((letters (fieldL x.op)).filter isUse).map (fieldVal x) else []) := ⟨rfl⟩
  repeat' (first | simp only [seval, evo, beq_self_eq_true, sb, insA, encIns, ins_eta, ins_dec0, ins_dec, encI_def, *] | simp (disch := omega) only [if_pos, if_neg] | refine R.seq ?_ | refine LCB.text ?_ | refine LCB.quiet rfl ?_ | refine R.calls rfl ?_ | refine R.block ?_ | refine LCB.skip ?_ | refine LCB.exit ?_ | refine LCB.ret ?_ | ((first | refine RetOk.val hcl ?_ | refine Weak.at hcl ?_); simp only [seval, evw, List.forall_mem_cons, List.forall_mem_map, List.forall_mem_append, List.not_mem_nil, sb, insA, encIns, ins_eta, ins_dec0, ins_dec, encI_def, *]) | ((first | refine LCB.cond (by simp only [seval, evo] <;> rfl) ?_ ?_ | refine wpG_split (by simp only [seval, evo] <;> rfl) ?_ ?_ | refine wqG_split (by simp only [seval, evo] <;> rfl) ?_ ?_) <;> (intro hc; try simp only [seval, nf] at hc)) | refine ACalls.inst ?_ | refine CallP.inst rfl ?_)
  refine ACalls.pure hof.of ?_
  clear hof
  cases hop : opOk x.op
  · have hc1 : encInts (usesL x) = .list [] := by rw [hU.of, hop]; rfl
    repeat' (first | simp only [seval, evo, beq_self_eq_true, sb, insA, encIns, ins_eta, ins_dec0, ins_dec, encI_def, *] | simp (disch := omega) only [if_pos, if_neg] | refine R.seq ?_ | refine LCB.text ?_ | refine LCB.quiet rfl ?_ | refine R.calls rfl ?_ | refine R.block ?_ | refine LCB.skip ?_ | refine LCB.exit ?_ | refine LCB.ret ?_ | ((first | refine RetOk.val hcl ?_ | refine Weak.at hcl ?_); simp only [seval, evw, List.forall_mem_cons, List.forall_mem_map, List.forall_mem_append, List.not_mem_nil, sb, insA, encIns, ins_eta, ins_dec0, ins_dec, encI_def, *]) | ((first | refine LCB.cond (by simp only [seval, evo] <;> rfl) ?_ ?_ | refine wpG_split (by simp only [seval, evo] <;> rfl) ?_ ?_ | refine wqG_split (by simp only [seval, evo] <;> rfl) ?_ ?_) <;> (intro hc; try simp only [seval, nf] at hc)) | refine ACalls.inst ?_ | refine CallP.inst rfl ?_)
  rw [if_pos rfl]
  generalize wordL x.op = W at *
  generalize fieldL x.op = F at *
  by_cases hmv : movesB x.op = true
  · have hc1 : encInts (usesL x) = .list [] := by rw [hU.of, hop, hmv]; rfl
    repeat' (first | simp only [seval, evo, beq_self_eq_true, sb, insA, encIns, ins_eta, ins_dec0, ins_dec, encI_def, *] | simp (disch := omega) only [if_pos, if_neg] | refine R.seq ?_ | refine LCB.text ?_ | refine LCB.quiet rfl ?_ | refine R.calls rfl ?_ | refine R.block ?_ | refine LCB.skip ?_ | refine LCB.exit ?_ | refine LCB.ret ?_ | ((first | refine RetOk.val hcl ?_ | refine Weak.at hcl ?_); simp only [seval, evw, List.forall_mem_cons, List.forall_mem_map, List.forall_mem_append, List.not_mem_nil, sb, insA, encIns, ins_eta, ins_dec0, ins_dec, encI_def, *]) | ((first | refine LCB.cond (by simp only [seval, evo] <;> rfl) ?_ ?_ | refine wpG_split (by simp only [seval, evo] <;> rfl) ?_ ?_ | refine wqG_split (by simp only [seval, evo] <;> rfl) ?_ ?_) <;> (intro hc; try simp only [seval, nf] at hc)) | refine ACalls.inst ?_ | refine CallP.inst rfl ?_)
  replace hmv : movesB x.op = false := by simpa using hmv
  have hU2 : Hold (usesL x = ((letters F).filter isUse).map (fieldVal x)) := ⟨by rw [hU.of, hop, hmv]; rfl⟩
  clear hU
  repeat' (first | simp only [seval, evo, beq_self_eq_true, sb, insA, encIns, ins_eta, ins_dec0, ins_dec, encI_def, *] | simp (disch := omega) only [if_pos, if_neg] | refine R.seq ?_ | refine LCB.text ?_ | refine LCB.quiet rfl ?_ | refine R.calls rfl ?_ | refine R.block ?_ | refine LCB.skip ?_ | refine LCB.exit ?_ | refine LCB.ret ?_ | ((first | refine RetOk.val hcl ?_ | refine Weak.at hcl ?_); simp only [seval, evw, List.forall_mem_cons, List.forall_mem_map, List.forall_mem_append, List.not_mem_nil, sb, insA, encIns, ins_eta, ins_dec0, ins_dec, encI_def, *]) | ((first | refine LCB.cond (by simp only [seval, evo] <;> rfl) ?_ ?_ | refine wpG_split (by simp only [seval, evo] <;> rfl) ?_ ?_ | refine wqG_split (by simp only [seval, evo] <;> rfl) ?_ ?_) <;> (intro hc; try simp only [seval, nf] at hc)) | refine ACalls.inst ?_ | refine CallP.inst rfl ?_)
  refine R.loop (S := Nat × List Int) ⟨fun s => [(1, .ptr H.length 1 0 0), (5, .sl 1 (H.length + 3) s.2.length 0 s.2.length), (22, .iter (H.length + 2))], fun s => H ++ [.vec 6 [encIns x], .vec 2 [[.str (bs W), .str (bs F)]], .iter (bs F) s.1, .vec 1 (s.2.map encI)],
    fun s => s.1 ≤ F.length ∧ s.2.length ≤ s.1 ∧ s.2 ++ ((letters (F.drop s.1)).filter isUse).map (fieldVal x) = usesL x, fun s => F.length - s.1⟩ (0, []) ⟨Nat.zero_le _, Nat.zero_le _, by rw [hU2.of]; rfl⟩ ((Weak.growAt 5 1 (by omega) (by simp only [seval, evo, beq_self_eq_true, sb, insA, encIns, ins_eta, ins_dec0, ins_dec, encI_def, *])).trans (Weak.at hcl ?_)) ?_
  · simp only [seval, evw, List.forall_mem_cons, List.forall_mem_map, List.forall_mem_append, List.not_mem_nil, sb, insA, encIns, ins_eta, ins_dec0, ins_dec, encI_def, *]
  rintro ⟨p, l⟩ ⟨hp, hl, hq⟩
  simp only at hp hl hq ⊢
  replace hq := Hold.mk hq
  by_cases hlt : p < F.length
  · have hd : Utf8.decode (bs F) p = ((F.getD p 0).toNat, 1) := dec_near (hs3.of _ (by simp [List.getD, hlt]))
    have hdr : letters (F.drop p) = ((F.getD p 0).toNat : Int) :: letters (F.drop (p + 1)) := by
      unfold letters
      rw [List.drop_eq_getElem_cons hlt, List.map_cons]
      simp [List.getD, hlt]
    have hq2 := hq.of
    rw [hdr, List.filter_cons] at hq2
    clear hdr
    generalize ((F.getD p 0).toNat) = c at *
    by_cases hu : isUse (c : Int) = true
    · rw [if_pos hu, List.map_cons] at hq2
      have hcc : c = 65 ∨ c = 66 := by
        unfold isUse at hu
        simp only [Bool.or_eq_true, beq_iff_eq] at hu
        omega
      have hq2 := Hold.mk hq2
      clear hu
      rcases hcc with rfl | rfl
      · have e1 : ((65 : Nat) : Int) = 65 := rfl
        have e2 : fieldVal x 65 = x.a := rfl
        have e3 : offOf 65 = 2 := rfl
        repeat' (first | simp only [seval, evo, beq_self_eq_true, sb, insA, encIns, ins_eta, ins_dec0, ins_dec, encI_def, *] | simp (disch := omega) only [if_pos, if_neg] | refine R.seq ?_ | refine LCB.text ?_ | refine LCB.quiet rfl ?_ | refine R.calls rfl ?_ | refine R.block ?_ | refine LCB.skip ?_ | refine LCB.exit ?_ | refine LCB.ret ?_ | ((first | refine RetOk.val hcl ?_ | refine Weak.at hcl ?_); simp only [seval, evw, List.forall_mem_cons, List.forall_mem_map, List.forall_mem_append, List.not_mem_nil, sb, insA, encIns, ins_eta, ins_dec0, ins_dec, encI_def, *]) | ((first | refine LCB.cond (by simp only [seval, evo] <;> rfl) ?_ ?_ | refine wpG_split (by simp only [seval, evo] <;> rfl) ?_ ?_ | refine wqG_split (by simp only [seval, evo] <;> rfl) ?_ ?_) <;> (intro hc; try simp only [seval, nf] at hc)) | refine ACalls.inst ?_ | refine CallP.inst rfl ?_)
        refine (ins_field_ok _ (by simp)).mono ?_
        rintro r' H' ⟨rfl, rfl⟩
        repeat' (first | simp only [seval, evo, beq_self_eq_true, sb, insA, encIns, ins_eta, ins_dec0, ins_dec, encI_def, *] | simp (disch := omega) only [if_pos, if_neg] | refine R.seq ?_ | refine LCB.text ?_ | refine LCB.quiet rfl ?_ | refine R.calls rfl ?_ | refine R.block ?_ | refine LCB.skip ?_ | refine LCB.exit ?_ | refine LCB.ret ?_ | ((first | refine RetOk.val hcl ?_ | refine Weak.at hcl ?_); simp only [seval, evw, List.forall_mem_cons, List.forall_mem_map, List.forall_mem_append, List.not_mem_nil, sb, insA, encIns, ins_eta, ins_dec0, ins_dec, encI_def, *]) | ((first | refine LCB.cond (by simp only [seval, evo] <;> rfl) ?_ ?_ | refine wpG_split (by simp only [seval, evo] <;> rfl) ?_ ?_ | refine wqG_split (by simp only [seval, evo] <;> rfl) ?_ ?_) <;> (intro hc; try simp only [seval, nf] at hc)) | refine ACalls.inst ?_ | refine CallP.inst rfl ?_)
        refine ⟨(p + 1, l ++ [x.a]), ⟨hlt, by simp only [List.length_append, List.length_cons, List.length_nil]; omega, ?_⟩, by simp only; omega, Weak.at hcl ?_⟩
        · rw [← hq2.of, e1, e2]; simp
        · simp only [seval, evw, List.forall_mem_cons, List.forall_mem_map, List.forall_mem_append, List.not_mem_nil, sb, insA, encIns, ins_eta, ins_dec0, ins_dec, encI_def, *]
      · have e1 : ((66 : Nat) : Int) = 66 := rfl
        have e2 : fieldVal x 66 = x.b := rfl
        have e3 : offOf 66 = 3 := rfl
        repeat' (first | simp only [seval, evo, beq_self_eq_true, sb, insA, encIns, ins_eta, ins_dec0, ins_dec, encI_def, *] | simp (disch := omega) only [if_pos, if_neg] | refine R.seq ?_ | refine LCB.text ?_ | refine LCB.quiet rfl ?_ | refine R.calls rfl ?_ | refine R.block ?_ | refine LCB.skip ?_ | refine LCB.exit ?_ | refine LCB.ret ?_ | ((first | refine RetOk.val hcl ?_ | refine Weak.at hcl ?_); simp only [seval, evw, List.forall_mem_cons, List.forall_mem_map, List.forall_mem_append, List.not_mem_nil, sb, insA, encIns, ins_eta, ins_dec0, ins_dec, encI_def, *]) | ((first | refine LCB.cond (by simp only [seval, evo] <;> rfl) ?_ ?_ | refine wpG_split (by simp only [seval, evo] <;> rfl) ?_ ?_ | refine wqG_split (by simp only [seval, evo] <;> rfl) ?_ ?_) <;> (intro hc; try simp only [seval, nf] at hc)) | refine ACalls.inst ?_ | refine CallP.inst rfl ?_)
        refine (ins_field_ok _ (by simp)).mono ?_
        rintro r' H' ⟨rfl, rfl⟩
        repeat' (first | simp only [seval, evo, beq_self_eq_true, sb, insA, encIns, ins_eta, ins_dec0, ins_dec, encI_def, *] | simp (disch := omega) only [if_pos, if_neg] | refine R.seq ?_ | refine LCB.text ?_ | refine LCB.quiet rfl ?_ | refine R.calls rfl ?_ | refine R.block ?_ | refine LCB.skip ?_ | refine LCB.exit ?_ | refine LCB.ret ?_ | ((first | refine RetOk.val hcl ?_ | refine Weak.at hcl ?_); simp only [seval, evw, List.forall_mem_cons, List.forall_mem_map, List.forall_mem_append, List.not_mem_nil, sb, insA, encIns, ins_eta, ins_dec0, ins_dec, encI_def, *]) | ((first | refine LCB.cond (by simp only [seval, evo] <;> rfl) ?_ ?_ | refine wpG_split (by simp only [seval, evo] <;> rfl) ?_ ?_ | refine wqG_split (by simp only [seval, evo] <;> rfl) ?_ ?_) <;> (intro hc; try simp only [seval, nf] at hc)) | refine ACalls.inst ?_ | refine CallP.inst rfl ?_)
        refine ⟨(p + 1, l ++ [x.b]), ⟨hlt, by simp only [List.length_append, List.length_cons, List.length_nil]; omega, ?_⟩, by simp only; omega, Weak.at hcl ?_⟩
        · rw [← hq2.of, e1, e2]; simp
        · simp only [seval, evw, List.forall_mem_cons, List.forall_mem_map, List.forall_mem_append, List.not_mem_nil, sb, insA, encIns, ins_eta, ins_dec0, ins_dec, encI_def, *]
    · rw [if_neg hu] at hq2
      have hcc : ¬ (c : Int) = 65 ∧ ¬ (c : Int) = 66 := by
        unfold isUse at hu
        simp only [Bool.or_eq_true, beq_iff_eq] at hu
        omega
      obtain ⟨h65, h66⟩ := hcc
      replace hq2 := Hold.mk hq2
      clear hu
      repeat' (first | simp only [seval, evo, beq_self_eq_true, sb, insA, encIns, ins_eta, ins_dec0, ins_dec, encI_def, *] | simp (disch := omega) only [if_pos, if_neg] | refine R.seq ?_ | refine LCB.text ?_ | refine LCB.quiet rfl ?_ | refine R.calls rfl ?_ | refine R.block ?_ | refine LCB.skip ?_ | refine LCB.exit ?_ | refine LCB.ret ?_ | ((first | refine RetOk.val hcl ?_ | refine Weak.at hcl ?_); simp only [seval, evw, List.forall_mem_cons, List.forall_mem_map, List.forall_mem_append, List.not_mem_nil, sb, insA, encIns, ins_eta, ins_dec0, ins_dec, encI_def, *]) | ((first | refine LCB.cond (by simp only [seval, evo] <;> rfl) ?_ ?_ | refine wpG_split (by simp only [seval, evo] <;> rfl) ?_ ?_ | refine wqG_split (by simp only [seval, evo] <;> rfl) ?_ ?_) <;> (intro hc; try simp only [seval, nf] at hc)) | refine ACalls.inst ?_ | refine CallP.inst rfl ?_)
      refine ⟨(p + 1, l), ⟨hlt, by simp only; omega, hq2.of⟩, by simp only; omega, Weak.at hcl ?_⟩
      simp only [seval, evw, List.forall_mem_cons, List.forall_mem_map, List.forall_mem_append, List.not_mem_nil, sb, insA, encIns, ins_eta, ins_dec0, ins_dec, encI_def, *]
  · have hp' : p = F.length := by omega
    subst hp'
    have hx : l = usesL x := by
      have := hq.of
      simpa [letters] using this
    rw [← hx]
    unfold encInts
    repeat' (first | simp only [seval, evo, beq_self_eq_true, sb, insA, encIns, ins_eta, ins_dec0, ins_dec, encI_def, *] | simp (disch := omega) only [if_pos, if_neg] | refine R.seq ?_ | refine LCB.text ?_ | refine LCB.quiet rfl ?_ | refine R.calls rfl ?_ | refine R.block ?_ | refine LCB.skip ?_ | refine LCB.exit ?_ | refine LCB.ret ?_ | ((first | refine RetOk.val hcl ?_ | refine Weak.at hcl ?_); simp only [seval, evw, List.forall_mem_cons, List.forall_mem_map, List.forall_mem_append, List.not_mem_nil, sb, insA, encIns, ins_eta, ins_dec0, ins_dec, encI_def, *]) | ((first | refine LCB.cond (by simp only [seval, evo] <;> rfl) ?_ ?_ | refine wpG_split (by simp only [seval, evo] <;> rfl) ?_ ?_ | refine wqG_split (by simp only [seval, evo] <;> rfl) ?_ ?_) <;> (intro hc; try simp only [seval, nf] at hc)) | refine ACalls.inst ?_ | refine CallP.inst rfl ?_)

end Go.Proofs.YtgdopmhgmpkahaaDoor

/-
  alloc: which places are named; what an instruction needs and gets; Spill, plain.
-/
namespace Go.Proofs.YtgdopmhgmpkahaaDoor
open Go.RowKit
set_option linter.unusedVariables false
set_option linter.unusedSimpArgs false

def namesL (x : Ins) : List Int := if x.op = 1 then [x.d] else if x.op = 2 ∨ x.op = 3 then [x.d, x.a] else []
def markL (B : List Bool) (x : Ins) : List Bool := (namesL x).foldl (fun B l => B.set l.toNat false) B
def freeB (f : List Ins) : List Bool := f.foldl markL (List.replicate 24 true)
def needsL (x : Ins) : List Int := if x.op = 2 then [x.a] else if x.op = 3 then [x.d, x.a] else usesL x
def getsL (x : Ins) : List Int := if x.op = 1 ∨ x.op = 2 then [x.d] else if x.op = 3 then [x.d, x.a] else if setsB x.op then [x.d] else []
def onceL (l : List Int) : List Int := if l.length = 2 ∧ l.getD 0 0 = l.getD 1 0 then l.take 1 else l
def movI (d a : Int) : Ins := ⟨2, d, a, 0, 0, 0⟩
def loadL (x : Ins) : List Ins := (onceL (needsL x)).map fun r => movI r (8 + r)
def saveL (x : Ins) : List Ins := (onceL (getsL x)).map fun r => movI (8 + r) r
def groupL (x : Ins) : List Ins := loadL x ++ [x] ++ saveL x
def slotL : List Ins := (List.range 8).map fun r : Nat => movI (8 + (r : Int)) (r : Int)
def spreadL (f : List Ins) : List Ins := slotL ++ f.flatMap groupL
def begOf (f : List Ins) (i : Nat) : Nat := (spreadL (f.take i)).length
def fixI (f : List Ins) (x : Ins) : Ins := if x.op = 16 ∨ x.op = 17 then { x with to := (begOf f x.to.toNat : Int) } else x
def anySlot (f : List Ins) : Bool := (freeB f).drop 8 |>.any (!·)
def spillF (f : List Ins) : List Ins × Int := if fnOk f then if anySlot f then ([], 6) else if 200 < (spreadL f).length then ([], 3) else ((spreadL f).map (fixI f), 0) else ([], 1)

/-! ### Marks -/
theorem mark_len (B : List Bool) (x : Ins) : (markL B x).length = B.length := by
  unfold markL
  generalize namesL x = l
  induction l generalizing B with
  | nil => rfl
  | cons a l ih => rw [List.foldl_cons, ih]; simp
theorem marks_len (f : List Ins) : ∀ B : List Bool, (f.foldl markL B).length = B.length := by
  induction f with
  | nil => intro B; rfl
  | cons x f ih => intro B; rw [List.foldl_cons, ih, mark_len]
theorem freeB_len (f : List Ins) : (freeB f).length = 24 := by unfold freeB; rw [marks_len]; simp
theorem sets_get (l : List Int) : ∀ (B : List Bool) (j : Nat), j < B.length → ((l.foldl (fun B l => B.set l.toNat false) B)[j]? = some true ↔ B[j]? = some true ∧ ∀ a ∈ l, a.toNat ≠ j) := by
  induction l with
  | nil => intro B j _; simp
  | cons a l ih =>
    intro B j hj
    rw [List.foldl_cons, ih _ _ (by simpa using hj)]
    simp only [List.mem_cons, forall_eq_or_imp]
    rw [List.getElem?_set]
    by_cases h : a.toNat = j
    · subst h
      simp [hj]
    · simp [h]
theorem marks_get (f : List Ins) : ∀ (B : List Bool) (j : Nat), j < B.length → ((f.foldl markL B)[j]? = some true ↔ B[j]? = some true ∧ ∀ x ∈ f, ∀ a ∈ namesL x, a.toNat ≠ j) := by
  induction f with
  | nil => intro B j _; simp
  | cons x f ih =>
    intro B j hj
    rw [List.foldl_cons, ih _ _ (by rw [mark_len]; exact hj)]
    unfold markL
    rw [sets_get _ _ _ hj]
    simp only [List.mem_cons, forall_eq_or_imp]
    constructor
    · rintro ⟨⟨h1, h2⟩, h3⟩; exact ⟨h1, h2, h3⟩
    · rintro ⟨h1, h2, h3⟩; exact ⟨⟨h1, h2⟩, h3⟩
theorem free_iff {f : List Ins} {j : Nat} (hj : j < 24) : (freeB f).getD j false = true ↔ ∀ x ∈ f, ∀ a ∈ namesL x, a.toNat ≠ j := by
  have := marks_get f (List.replicate 24 true) j (by simpa using hj)
  unfold freeB
  rw [List.getD_eq_getElem?_getD]
  have hl : (f.foldl markL (List.replicate 24 true)).length = 24 := freeB_len f
  rw [List.getElem?_eq_getElem (by omega)] at this ⊢
  simp only [Option.getD_some]
  simp only [Option.some.injEq] at this
  rw [this]
  constructor
  · rintro ⟨_, h⟩; exact h
  · intro h; exact ⟨by rw [List.getElem?_replicate, if_pos hj], h⟩
theorem anySlot_iff {f : List Ins} : anySlot f = false ↔ ∀ x ∈ f, ∀ a ∈ namesL x, ¬ (8 ≤ a.toNat ∧ a.toNat < 24) := by
  unfold anySlot
  rw [List.any_eq_false]
  constructor
  · intro h x hx a ha ⟨h1, h2⟩
    have hm : (freeB f).getD a.toNat false ∈ (freeB f).drop 8 := by
      rw [List.mem_iff_getElem?]
      refine ⟨a.toNat - 8, ?_⟩
      rw [List.getElem?_drop, show 8 + (a.toNat - 8) = a.toNat by omega, List.getD_eq_getElem?_getD, List.getElem?_eq_getElem (by rw [freeB_len]; omega)]
      rfl
    have := h _ hm
    simp only [Bool.not_eq_true', Bool.not_eq_false] at this
    exact (free_iff h2).1 this x hx a ha rfl
  · intro h b hb
    obtain ⟨i, hi⟩ := List.getElem?_of_mem hb
    rw [List.getElem?_drop] at hi
    have hlt : 8 + i < 24 := by
      have := (List.getElem?_eq_some_iff.1 hi).1
      rwa [freeB_len] at this
    have : (freeB f).getD (8 + i) false = true := (free_iff hlt).2 fun x hx a ha e => h x hx a ha (by omega)
    rw [List.getD_eq_getElem?_getD, hi] at this
    simp only [Option.getD_some] at this
    simp [this]

/-! ### What is needed and got -/
theorem names_in {x : Ins} {n : Int} (h : chk x n = 0) : ∀ a ∈ namesL x, 0 ≤ a ∧ a < 24 := by
  obtain ⟨k1, k2, k3⟩ := chk_zero.1 h
  unfold namesL
  have hp : (x.op = 1 ∨ x.op = 2 ∨ x.op = 3) → (0 ≤ x.d ∧ x.d < 24) ∧ (0 ≤ x.a ∧ x.a < 24) := by
    intro ho
    unfold badPlaceR at k2
    rw [if_pos (by omega)] at k2
    simpa [inR] using k2
  split
  · rename_i h1
    intro a ha
    simp only [List.mem_singleton] at ha
    have := hp (by omega)
    omega
  · split
    · rename_i h2
      intro a ha
      have := hp (by omega)
      simp only [List.mem_cons, List.not_mem_nil, or_false] at ha
      omega
    · simp
/-- Is it all of registers? -/
def RegI (x : Ins) : Prop := (0 ≤ x.d ∧ x.d < 8) ∧ (0 ≤ x.a ∧ x.a < 8) ∧ (0 ≤ x.b ∧ x.b < 8)
theorem chk_b {x : Ins} {n : Int} (h : chk x n = 0) (ho : x.op ≤ 3) : x.b = 0 := by
  obtain ⟨k1, k2, k3⟩ := chk_zero.1 h
  obtain ⟨op, d, a, b, q, to⟩ := x
  simp only at ho ⊢
  unfold badFormR at k1
  simp only [Bool.or_eq_false_iff, decide_eq_false_iff_not, bne_eq_false_iff_eq] at k1
  have h1 := k1.2.1
  have : sel (keepB op) b = b := congrArg Ins.b h1
  unfold sel keepB at this
  simp only [decide_eq_true_eq] at this
  rw [if_neg (by omega)] at this
  exact this.symm
theorem chk_a1 {x : Ins} {n : Int} (h : chk x n = 0) (ho : x.op = 1) : x.a = 0 := by
  obtain ⟨k1, k2, k3⟩ := chk_zero.1 h
  obtain ⟨op, d, a, b, q, to⟩ := x
  simp only at ho ⊢
  subst ho
  unfold badFormR at k1
  simp only [Bool.or_eq_false_iff, decide_eq_false_iff_not, bne_eq_false_iff_eq] at k1
  have h1 := k1.2.1
  exact (congrArg Ins.a h1).symm
theorem chk_op {x : Ins} {n : Int} (h : chk x n = 0) : 1 ≤ x.op ∧ x.op ≤ 18 := by
  obtain ⟨k1, k2, k3⟩ := chk_zero.1 h
  unfold badFormR at k1
  simp only [Bool.or_eq_false_iff, decide_eq_false_iff_not] at k1
  omega
theorem reg_ins {f : List Ins} {x : Ins} {n : Int} (h : chk x n = 0) (hx : x ∈ f) (hs : anySlot f = false) : RegI x := by
  have h2 := names_in h
  have h3 := anySlot_iff.1 hs x hx
  by_cases ho : x.op ≤ 3
  · have hb := chk_b h ho
    have h1 := chk_op h
    unfold RegI
    rw [hb]
    by_cases o1 : x.op = 1
    · have ha := chk_a1 h o1
      have e : namesL x = [x.d] := by unfold namesL; rw [if_pos o1]
      rw [e] at h2 h3
      have := h2 x.d (by simp)
      have := h3 x.d (by simp)
      omega
    · have e : namesL x = [x.d, x.a] := by unfold namesL; rw [if_neg o1, if_pos (by omega)]
      rw [e] at h2 h3
      have := h2 x.d (by simp)
      have := h3 x.d (by simp)
      have := h2 x.a (by simp)
      have := h3 x.a (by simp)
      omega
  · obtain ⟨k1, k2, k3⟩ := chk_zero.1 h
    unfold badPlaceR at k2
    rw [if_neg ho] at k2
    unfold RegI
    simp [inR] at k2
    omega
theorem uses_mem {x : Ins} {r : Int} (h : r ∈ usesL x) : r = x.a ∨ r = x.b := by
  unfold usesL at h
  split at h
  · simp only [List.mem_map, List.mem_filter] at h
    obtain ⟨c, ⟨_, hc⟩, rfl⟩ := h
    unfold isUse at hc
    simp only [Bool.or_eq_true, beq_iff_eq] at hc
    rcases hc with rfl | rfl
    · left; rfl
    · right; rfl
  · simp at h
theorem needs_mem {x : Ins} {r : Int} (hx : RegI x) (h : r ∈ needsL x) : 0 ≤ r ∧ r < 8 := by
  obtain ⟨h1, h2, h3⟩ := hx
  unfold needsL at h
  split at h
  · simp at h; omega
  · split at h
    · simp at h; omega
    · rcases uses_mem h with rfl | rfl <;> omega
theorem gets_mem {x : Ins} {r : Int} (hx : RegI x) (h : r ∈ getsL x) : 0 ≤ r ∧ r < 8 := by
  obtain ⟨h1, h2, h3⟩ := hx
  unfold getsL at h
  split at h
  · simp at h; omega
  · split at h
    · simp at h; omega
    · split at h
      · simp at h; omega
      · simp at h
theorem once_mem {l : List Int} {r : Int} (h : r ∈ onceL l) : r ∈ l := by
  unfold onceL at h
  split at h
  · exact List.mem_of_mem_take h
  · exact h
theorem uses_len (x : Ins) : (usesL x).length ≤ 3 := by
  unfold usesL
  split
  · rw [List.length_map]
    refine Nat.le_trans (List.length_filter_le _ _) ?_
    have := (shape_short x.op).2.1
    simpa [letters] using this
  · simp
theorem needs_len (x : Ins) : (needsL x).length ≤ 3 := by
  unfold needsL
  split
  · simp
  · split
    · simp
    · exact uses_len x
theorem gets_len (x : Ins) : (getsL x).length ≤ 2 := by unfold getsL; split; simp; split; simp; split <;> simp
theorem once_len (l : List Int) : (onceL l).length ≤ l.length := by
  unfold onceL
  split
  · simp; omega
  · exact Nat.le_refl _
theorem group_len (x : Ins) : (groupL x).length ≤ 6 := by
  have h1 := once_len (needsL x)
  have h2 := once_len (getsL x)
  have h3 := needs_len x
  have h4 := gets_len x
  simp [groupL, loadL, saveL]
  omega
theorem group_pos (x : Ins) : 0 < (groupL x).length := by simp [groupL]; omega
theorem slot_len : slotL.length = 8 := by simp [slotL]
theorem spread_snoc (f : List Ins) (x : Ins) : spreadL (f ++ [x]) = spreadL f ++ groupL x := by simp [spreadL]
theorem spread_len (f : List Ins) : (spreadL f).length ≤ 8 + 6 * f.length := by
  unfold spreadL
  rw [List.length_append, slot_len]
  induction f with
  | nil => simp
  | cons x f ih =>
    rw [List.flatMap_cons, List.length_append]
    have := group_len x
    simp only [List.length_cons]
    omega

/-! ### It is right -/
theorem mov_chk {d a n : Int} (hd : 0 ≤ d ∧ d < 24) (ha : 0 ≤ a ∧ a < 24) : chk (movI d a) n = 0 := by
  rw [chk_zero]
  unfold movI
  simp [badFormR, badPlaceR, onlyR, sel, keepN, keepTo, keepD, keepA, keepB, inR]
  omega
theorem beg_lt {f : List Ins} {i : Nat} (h : i < f.length) : begOf f i < (spreadL f).length := by
  have e : f = f.take i ++ (f.getD i noIns :: f.drop (i + 1)) := by
    rw [← drop_ins h, List.take_append_drop]
  unfold begOf
  conv => rhs; rw [e]
  unfold spreadL
  rw [List.flatMap_append, List.flatMap_cons]
  have := group_pos (f.getD i noIns)
  simp only [List.length_append]
  omega
theorem fix_op (f : List Ins) (x : Ins) : (fixI f x).op = x.op := by unfold fixI; split <;> rfl
theorem mem_spread {f : List Ins} {y : Ins} (h : y ∈ spreadL f) : (∃ r : Nat, r < 8 ∧ y = movI (8 + (r : Int)) (r : Int)) ∨ ∃ x ∈ f, y = x ∨ (∃ r ∈ needsL x, y = movI r (8 + r)) ∨ ∃ r ∈ getsL x, y = movI (8 + r) r := by
  unfold spreadL at h
  rcases List.mem_append.1 h with h | h
  · unfold slotL at h
    simp only [List.mem_map, List.mem_range] at h
    obtain ⟨r, hr, rfl⟩ := h
    exact .inl ⟨r, hr, rfl⟩
  · obtain ⟨x, hx, hy⟩ := List.mem_flatMap.1 h
    refine .inr ⟨x, hx, ?_⟩
    unfold groupL loadL saveL at hy
    simp only [List.mem_append, List.mem_map, List.mem_singleton] at hy
    rcases hy with (⟨r, hr, rfl⟩ | rfl) | ⟨r, hr, rfl⟩
    · exact .inr (.inl ⟨r, once_mem hr, rfl⟩)
    · exact .inl rfl
    · exact .inr (.inr ⟨r, once_mem hr, rfl⟩)
theorem saves_none {x : Ins} (h : x.op = 16 ∨ x.op = 18) : saveL x = [] := by
  have : getsL x = [] := by
    unfold getsL setsB
    rw [if_neg (by omega), if_neg (by omega), if_neg (by simp; omega)]
  unfold saveL
  rw [this]
  rfl
theorem last_spread {f : List Ins} (hf : 0 < f.length) (h : lastOp f = 16 ∨ lastOp f = 18) : lastOp (spreadL f) = lastOp f := by
  rcases List.eq_nil_or_concat f with rfl | ⟨g, x, rfl⟩
  · simp at hf
  · have e : lastOp (g.concat x) = x.op := by simp [lastOp, List.getD]
    rw [e] at h ⊢
    rw [List.concat_eq_append, spread_snoc]
    unfold groupL
    rw [saves_none h, List.append_nil, ← List.append_assoc, lastOp_append (by simp)]
    rfl
theorem spill_ok {f : List Ins} (hf : fnOk f = true) (hs : anySlot f = false) (hl : ¬ 200 < (spreadL f).length) : fnOk ((spreadL f).map (fixI f)) = true := by
  obtain ⟨k1, k2, k3, k4⟩ := fnOk_iff.1 hf
  rw [fnOk_iff, List.length_map, lastOp_map (fix_op f), last_spread k2 k4]
  refine ⟨by omega, ?_, ?_, k4⟩
  · unfold spreadL; rw [List.length_append, slot_len]; omega
  · intro z hz
    obtain ⟨y, hy, rfl⟩ := List.mem_map.1 hz
    have hmov : ∀ d a : Int, (0 ≤ d ∧ d < 24) → (0 ≤ a ∧ a < 24) → chk (fixI f (movI d a)) ((spreadL f).length : Int) = 0 := by
      intro d a hd ha
      have : fixI f (movI d a) = movI d a := by unfold fixI; rw [if_neg (by unfold movI; simp)]
      rw [this]
      exact mov_chk hd ha
    rcases mem_spread hy with ⟨r, hr, rfl⟩ | ⟨x, hx, rfl | ⟨r, hr, rfl⟩ | ⟨r, hr, rfl⟩⟩
    · exact hmov _ _ (by omega) (by omega)
    · have hc := k3 _ hx
      unfold fixI
      split
      · rename_i ho
        have := chk_jmp hc ho
        have := beg_lt (f := f) (i := y.to.toNat) (by omega)
        exact chk_to hc ho (by omega) (by omega)
      · rename_i ho
        exact chk_nojmp hc ho
    · have := needs_mem (reg_ins (k3 x hx) hx hs) hr
      exact hmov _ _ (by omega) (by omega)
    · have := gets_mem (reg_ins (k3 x hx) hx hs) hr
      exact hmov _ _ (by omega) (by omega)
theorem spill_slot {f : List Ins} : anySlot ((spreadL f).map (fixI f)) = true := by
  cases h : anySlot ((spreadL f).map (fixI f))
  · have h1 := anySlot_iff.1 h (movI 8 0) (by
      rw [List.mem_map]
      refine ⟨movI 8 0, ?_, ?_⟩
      · unfold spreadL
        rw [List.mem_append]
        left
        unfold slotL
        simp only [List.mem_map, List.mem_range]
        exact ⟨0, by omega, rfl⟩
      · unfold fixI; rw [if_neg (by unfold movI; simp)])
    exact absurd (h1 8 (by unfold namesL movI; simp)) (by decide)
  · rfl
theorem spill_twice {f : List Ins} (h : (spillF f).2 = 0) : spillF (spillF f).1 = ([], 6) ∧ fnOk (spillF f).1 = true ∧ (spillF f).1 = (spreadL f).map (fixI f) ∧ fnOk f = true := by
  have h0 := h
  unfold spillF at h
  split at h
  · rename_i h1
    split at h
    · simp at h
    · rename_i h2
      split at h
      · simp at h
      · rename_i h3
        have e : (spillF f).1 = (spreadL f).map (fixI f) := by unfold spillF; rw [if_pos h1, if_neg h2, if_neg h3]
        have hok := spill_ok h1 (by simpa using h2) h3
        rw [e]
        refine ⟨?_, hok, rfl, h1⟩
        unfold spillF
        rw [if_pos hok, if_pos spill_slot]
  · simp at h

/-! ### How often an operation is there -/
def opCount (op : Int) (f : List Ins) : Nat := f.countP fun x => decide (x.op = op)
theorem opCount_map (op : Int) (f : List Ins) {s : Ins → Ins} (hs : ∀ x, (s x).op = x.op) : opCount op (f.map s) = opCount op f := by
  unfold opCount
  rw [List.countP_map]
  congr 1
  funext x
  simp [hs]
theorem opCount_mov {op : Int} (l : List Int) (m : Int → Ins) (hm : ∀ r, (m r).op = 2) : opCount op (l.map m) = if op = 2 then l.length else 0 := by
  unfold opCount
  rw [List.countP_map]
  split
  · rename_i h
    subst h
    rw [List.countP_eq_length.2]
    intro r _
    simp [hm]
  · rename_i h
    rw [List.countP_eq_zero.2]
    intro r _
    simp [hm]
    omega
theorem opCount_group (op : Int) (x : Ins) : (op ≠ 2 → opCount op (groupL x) = opCount op [x]) ∧ opCount op [x] ≤ opCount op (groupL x) := by
  have e : opCount op (groupL x) = opCount op (loadL x) + opCount op [x] + opCount op (saveL x) := by unfold opCount groupL; rw [List.countP_append, List.countP_append]
  rw [e]
  unfold loadL saveL
  rw [opCount_mov _ _ (fun r => rfl), opCount_mov _ _ (fun r => rfl)]
  constructor
  · intro h; rw [if_neg h, if_neg h]; omega
  · omega
theorem opCount_slot (op : Int) : opCount op slotL = if op = 2 then 8 else 0 := by
  have e : slotL = ((List.range 8).map fun r : Nat => (r : Int)).map fun r : Int => movI (8 + r) r := by unfold slotL; rw [List.map_map]; rfl
  rw [e, opCount_mov _ _ (fun r => rfl)]
  simp
theorem opCount_spread (op : Int) (f : List Ins) : (op ≠ 2 → opCount op (spreadL f) = opCount op f) ∧ (op = 2 → opCount op f + 8 ≤ opCount op (spreadL f)) := by
  have key : (op ≠ 2 → opCount op (f.flatMap groupL) = opCount op f) ∧ opCount op f ≤ opCount op (f.flatMap groupL) := by
    induction f with
    | nil => exact ⟨fun _ => rfl, Nat.le_refl _⟩
    | cons x f ih =>
      have h := opCount_group op x
      have e1 : opCount op ((x :: f).flatMap groupL) = opCount op (groupL x) + opCount op (f.flatMap groupL) := by unfold opCount; rw [List.flatMap_cons, List.countP_append]
      have e2 : opCount op (x :: f) = opCount op [x] + opCount op f := by
        have : x :: f = [x] ++ f := rfl
        unfold opCount
        rw [this, List.countP_append]
      rw [e1, e2]
      exact ⟨fun h2 => by rw [h.1 h2, ih.1 h2], by have := h.2; have := ih.2; omega⟩
  have e : opCount op (spreadL f) = opCount op slotL + opCount op (f.flatMap groupL) := by unfold opCount spreadL; rw [List.countP_append]
  rw [e, opCount_slot]
  constructor
  · intro h; rw [if_neg h, key.1 h]; omega
  · intro h; rw [if_pos h]; have := key.2; omega
theorem opCount_spill (op : Int) (f : List Ins) : (op ≠ 2 → opCount op ((spreadL f).map (fixI f)) = opCount op f) ∧ (op = 2 → opCount op f + 8 ≤ opCount op ((spreadL f).map (fixI f))) := by
  rw [opCount_map _ _ (fix_op f)]
  exact opCount_spread op f
end Go.Proofs.YtgdopmhgmpkahaaDoor

/-
  alloc: instructions put in: the program's and the document's.
-/
namespace Go.Proofs.YtgdopmhgmpkahaaDoor
open Go.RowKit
set_option linter.unusedVariables false
set_option linter.unusedSimpArgs false

def putH (h : Nat) (a : Int) (l rows : List Ins) : List AObj := [.vec 1 [[.int .i64 a]], .vec 1 [[.list (l.map encIns)]], .vec 1 [[.sl 6 (h + 3) rows.length 0 rows.length]], .vec 6 (rows.map encIns)]
theorem putH_eq {h : Nat} {a : Int} {l rows : List Ins} : putH h a l rows = [.vec 1 [[.int .i64 a]], .vec 1 [[.list (l.map encIns)]], .vec 1 [[.sl 6 (h + 3) rows.length 0 rows.length]], .vec 6 (rows.map encIns)] := rfl
theorem take_ins {l : List Ins} {j : Nat} (h : j < l.length) : l.take (j + 1) = l.take j ++ [l.getD j noIns] := by
  rw [List.take_succ_eq_append_getElem h]
  simp [List.getD, h]
theorem getD_mem {l : List Ins} {j : Nat} (h : j < l.length) : l.getD j noIns ∈ l := by simp [List.getD, h]

set_option maxHeartbeats 4000000 in
theorem alloc_put_1_ok {G : List AObj} (hG : Clean G.length G) (a : Int) (l rows part : List Ins) (hl : l.length ≤ 1000) (hp : part.length ≤ 1000) (hr : rows.length ≤ 10000) (hto : ∀ x ∈ part, x.op = 16 ∨ x.op = 17 → 0 ≤ x.to ∧ x.to ≤ 1000) :
    ACalls Tryd.prog 60 [encFn part, .ptr G.length 1 0 0, .ptr (G.length + 1) 1 0 0, .ptr (G.length + 2) 1 0 0] (G ++ putH G.length a l rows)
      fun r H' => H' = G ++ putH G.length a l (rows ++ part.map (shiftI a (l.length : Int))) := by
  refine ACalls.go alloc_put_1.low (by simp) fun hcl => ?_
  unfold encFn
  replace hto := Hold.mk hto
  replace hr := Hold.mk hr
  replace hp := Hold.mk hp
  replace hl := Hold.mk hl
  (refine R.seq ?_; refine LCB.text ?_; repeat' (first | simp only [seval, evo, beq_self_eq_true, encB_def, encN_def, sb, insA, encIns, ins_dec, ins_eta, putH_eq, List.length_append, *] | simp (disch := omega) only [if_pos, if_neg]))
  refine R.block (R.loop (S := Nat × List Ins) ⟨fun y => [(1, .ptr G.length 1 0 0), (2, .ptr (G.length + 1) 1 0 0), (3, .ptr (G.length + 2) 1 0 0), (7, .list (part.map encIns)), (8, .int .i64 (part.length : Int)), (9, .int .i64 (y.1 : Int))], fun y => G ++ putH G.length a l y.2,
    fun y => y.1 ≤ part.length ∧ y.2.length = rows.length + y.1 ∧ y.2 = rows ++ (part.take y.1).map (shiftI a (l.length : Int)), fun y => part.length - y.1⟩ (0, rows) ⟨Nat.zero_le _, rfl, by simp⟩ (Weak.at hG ?_) ?_)
  · simp only [seval, evw, List.forall_mem_cons, List.forall_mem_map, List.forall_mem_append, List.not_mem_nil, encB_def, encN_def, sb, insA, encIns, ins_dec, ins_eta, putH_eq, List.length_append, *]
  rintro ⟨i, out⟩ ⟨hi, ho, hq⟩
  simp only at hi ho hq ⊢
  replace hq := Hold.mk hq
  replace ho := Hold.mk ho
  by_cases hlt : i < part.length
  · have hg := getD_encIns hlt
    have e3 : (i : Int) < (part.length : Int) := by omega
    have e4 : IntKind.i64.wrap ((i : Int) + 1) = ((i + 1 : Nat) : Int) := by have := hp.of; rw [IntKind.wrap_i64]; omega
    have hx := hto.of _ (getD_mem hlt)
    have hq2 : out ++ [shiftI a (l.length : Int) (part.getD i noIns)] = rows ++ (part.take (i + 1)).map (shiftI a (l.length : Int)) := by
      rw [hq.of, take_ins hlt]
      simp
    have b1 : (out.length + 1) * 48 ≤ 140737488355328 := by have := ho.of; have := hr.of; have := hp.of; omega
    have b2 : out.length ≤ 9223372036854775806 := by have := ho.of; have := hr.of; have := hp.of; omega
    have ho2 : out.length + 1 = rows.length + (i + 1) := by have := ho.of; omega
    generalize part.getD i noIns = x at *
    replace hq2 := Hold.mk hq2
    replace ho2 := Hold.mk ho2
    by_cases hj : (x.op = 16 ∨ x.op = 17) ∧ a < x.to
    · obtain ⟨hj1, hj2⟩ := hj
      have hs : shiftI a (l.length : Int) x = { x with to := x.to + (l.length : Int) } := by unfold shiftI; rw [if_pos ⟨hj1, hj2⟩]
      have hw : IntKind.i64.wrap (x.to + (l.length : Int)) = x.to + (l.length : Int) := by have := hx hj1; have := hl.of; rw [IntKind.wrap_i64]; omega
      replace hx := Hold.mk hx
      rcases hj1 with h16 | h17
      · repeat' (first | simp only [seval, evx, beq_self_eq_true, encB_def, encN_def, sb, insA, encIns, ins_dec, ins_eta, putH_eq, List.length_append, *] | simp (disch := omega) only [if_pos, if_neg] | refine R.seq ?_ | refine LCB.text ?_ | refine LCB.quiet rfl ?_ | refine R.anyX ?_ | refine R.block ?_ | refine LCB.skip ?_ | refine LCB.exit ?_ | refine LCB.ret ?_ | ((first | refine RetOk.val hcl ?_ | refine Weak.at hcl ?_); simp only [seval, evw, List.forall_mem_cons, List.forall_mem_map, List.forall_mem_append, List.not_mem_nil, encB_def, encN_def, sb, insA, encIns, ins_dec, ins_eta, putH_eq, List.length_append, *]) | ((first | refine LCB.cond (by simp only [seval, evx] <;> rfl) ?_ ?_ | refine wpG_split (by simp only [seval, evx] <;> rfl) ?_ ?_ | refine wxG_split (by simp only [seval, evx] <;> rfl) ?_ ?_) <;> (intro hc; try simp only [seval, nf] at hc)) | refine ACalls.inst ?_ | refine CallX.inst ?_ | (with_reducible refine And.intro ?_ ?_) | exact True.intro)
        refine ⟨(i + 1, out ++ [shiftI a (l.length : Int) x]), ⟨hlt, by simpa using ho2.of, hq2.of⟩, by simp only; omega, Weak.at hG ?_⟩
        simp only [seval, evw, List.forall_mem_cons, List.forall_mem_map, List.forall_mem_append, List.not_mem_nil, encB_def, encN_def, sb, insA, encIns, ins_dec, ins_eta, putH_eq, List.length_append, *]
      · repeat' (first | simp only [seval, evx, beq_self_eq_true, encB_def, encN_def, sb, insA, encIns, ins_dec, ins_eta, putH_eq, List.length_append, *] | simp (disch := omega) only [if_pos, if_neg] | refine R.seq ?_ | refine LCB.text ?_ | refine LCB.quiet rfl ?_ | refine R.anyX ?_ | refine R.block ?_ | refine LCB.skip ?_ | refine LCB.exit ?_ | refine LCB.ret ?_ | ((first | refine RetOk.val hcl ?_ | refine Weak.at hcl ?_); simp only [seval, evw, List.forall_mem_cons, List.forall_mem_map, List.forall_mem_append, List.not_mem_nil, encB_def, encN_def, sb, insA, encIns, ins_dec, ins_eta, putH_eq, List.length_append, *]) | ((first | refine LCB.cond (by simp only [seval, evx] <;> rfl) ?_ ?_ | refine wpG_split (by simp only [seval, evx] <;> rfl) ?_ ?_ | refine wxG_split (by simp only [seval, evx] <;> rfl) ?_ ?_) <;> (intro hc; try simp only [seval, nf] at hc)) | refine ACalls.inst ?_ | refine CallX.inst ?_ | (with_reducible refine And.intro ?_ ?_) | exact True.intro)
        refine ⟨(i + 1, out ++ [shiftI a (l.length : Int) x]), ⟨hlt, by simpa using ho2.of, hq2.of⟩, by simp only; omega, Weak.at hG ?_⟩
        simp only [seval, evw, List.forall_mem_cons, List.forall_mem_map, List.forall_mem_append, List.not_mem_nil, encB_def, encN_def, sb, insA, encIns, ins_dec, ins_eta, putH_eq, List.length_append, *]
    · have hs : shiftI a (l.length : Int) x = x := by unfold shiftI; rw [if_neg hj]
      replace hx := Hold.mk hx
      by_cases h16 : x.op = 16
      · have hj2 : ¬ a < x.to := fun h => hj ⟨.inl h16, h⟩
        clear hj
        repeat' (first | simp only [seval, evx, beq_self_eq_true, encB_def, encN_def, sb, insA, encIns, ins_dec, ins_eta, putH_eq, List.length_append, *] | simp (disch := omega) only [if_pos, if_neg] | refine R.seq ?_ | refine LCB.text ?_ | refine LCB.quiet rfl ?_ | refine R.anyX ?_ | refine R.block ?_ | refine LCB.skip ?_ | refine LCB.exit ?_ | refine LCB.ret ?_ | ((first | refine RetOk.val hcl ?_ | refine Weak.at hcl ?_); simp only [seval, evw, List.forall_mem_cons, List.forall_mem_map, List.forall_mem_append, List.not_mem_nil, encB_def, encN_def, sb, insA, encIns, ins_dec, ins_eta, putH_eq, List.length_append, *]) | ((first | refine LCB.cond (by simp only [seval, evx] <;> rfl) ?_ ?_ | refine wpG_split (by simp only [seval, evx] <;> rfl) ?_ ?_ | refine wxG_split (by simp only [seval, evx] <;> rfl) ?_ ?_) <;> (intro hc; try simp only [seval, nf] at hc)) | refine ACalls.inst ?_ | refine CallX.inst ?_ | (with_reducible refine And.intro ?_ ?_) | exact True.intro)
        refine ⟨(i + 1, out ++ [shiftI a (l.length : Int) x]), ⟨hlt, by simpa using ho2.of, hq2.of⟩, by simp only; omega, Weak.at hG ?_⟩
        simp only [seval, evw, List.forall_mem_cons, List.forall_mem_map, List.forall_mem_append, List.not_mem_nil, encB_def, encN_def, sb, insA, encIns, ins_dec, ins_eta, putH_eq, List.length_append, *]
      · by_cases h17 : x.op = 17
        · have hj2 : ¬ a < x.to := fun h => hj ⟨.inr h17, h⟩
          clear hj
          repeat' (first | simp only [seval, evx, beq_self_eq_true, encB_def, encN_def, sb, insA, encIns, ins_dec, ins_eta, putH_eq, List.length_append, *] | simp (disch := omega) only [if_pos, if_neg] | refine R.seq ?_ | refine LCB.text ?_ | refine LCB.quiet rfl ?_ | refine R.anyX ?_ | refine R.block ?_ | refine LCB.skip ?_ | refine LCB.exit ?_ | refine LCB.ret ?_ | ((first | refine RetOk.val hcl ?_ | refine Weak.at hcl ?_); simp only [seval, evw, List.forall_mem_cons, List.forall_mem_map, List.forall_mem_append, List.not_mem_nil, encB_def, encN_def, sb, insA, encIns, ins_dec, ins_eta, putH_eq, List.length_append, *]) | ((first | refine LCB.cond (by simp only [seval, evx] <;> rfl) ?_ ?_ | refine wpG_split (by simp only [seval, evx] <;> rfl) ?_ ?_ | refine wxG_split (by simp only [seval, evx] <;> rfl) ?_ ?_) <;> (intro hc; try simp only [seval, nf] at hc)) | refine ACalls.inst ?_ | refine CallX.inst ?_ | (with_reducible refine And.intro ?_ ?_) | exact True.intro)
          refine ⟨(i + 1, out ++ [shiftI a (l.length : Int) x]), ⟨hlt, by simpa using ho2.of, hq2.of⟩, by simp only; omega, Weak.at hG ?_⟩
          simp only [seval, evw, List.forall_mem_cons, List.forall_mem_map, List.forall_mem_append, List.not_mem_nil, encB_def, encN_def, sb, insA, encIns, ins_dec, ins_eta, putH_eq, List.length_append, *]
        · clear hj
          repeat' (first | simp only [seval, evx, beq_self_eq_true, encB_def, encN_def, sb, insA, encIns, ins_dec, ins_eta, putH_eq, List.length_append, *] | simp (disch := omega) only [if_pos, if_neg] | refine R.seq ?_ | refine LCB.text ?_ | refine LCB.quiet rfl ?_ | refine R.anyX ?_ | refine R.block ?_ | refine LCB.skip ?_ | refine LCB.exit ?_ | refine LCB.ret ?_ | ((first | refine RetOk.val hcl ?_ | refine Weak.at hcl ?_); simp only [seval, evw, List.forall_mem_cons, List.forall_mem_map, List.forall_mem_append, List.not_mem_nil, encB_def, encN_def, sb, insA, encIns, ins_dec, ins_eta, putH_eq, List.length_append, *]) | ((first | refine LCB.cond (by simp only [seval, evx] <;> rfl) ?_ ?_ | refine wpG_split (by simp only [seval, evx] <;> rfl) ?_ ?_ | refine wxG_split (by simp only [seval, evx] <;> rfl) ?_ ?_) <;> (intro hc; try simp only [seval, nf] at hc)) | refine ACalls.inst ?_ | refine CallX.inst ?_ | (with_reducible refine And.intro ?_ ?_) | exact True.intro)
          refine ⟨(i + 1, out ++ [shiftI a (l.length : Int) x]), ⟨hlt, by simpa using ho2.of, hq2.of⟩, by simp only; omega, Weak.at hG ?_⟩
          simp only [seval, evw, List.forall_mem_cons, List.forall_mem_map, List.forall_mem_append, List.not_mem_nil, encB_def, encN_def, sb, insA, encIns, ins_dec, ins_eta, putH_eq, List.length_append, *]
  · have hie : i = part.length := by omega
    subst hie
    have hq2 := hq.of
    rw [List.take_length] at hq2
    subst hq2
    have e3 : ¬ (part.length : Int) < (part.length : Int) := by omega
    repeat' (first | simp only [seval, evx, beq_self_eq_true, encB_def, encN_def, sb, insA, encIns, ins_dec, ins_eta, putH_eq, List.length_append, *] | simp (disch := omega) only [if_pos, if_neg] | refine R.seq ?_ | refine LCB.text ?_ | refine LCB.quiet rfl ?_ | refine R.anyX ?_ | refine R.block ?_ | refine LCB.skip ?_ | refine LCB.exit ?_ | refine LCB.ret ?_ | ((first | refine RetOk.val hcl ?_ | refine Weak.at hcl ?_); simp only [seval, evw, List.forall_mem_cons, List.forall_mem_map, List.forall_mem_append, List.not_mem_nil, encB_def, encN_def, sb, insA, encIns, ins_dec, ins_eta, putH_eq, List.length_append, *]) | ((first | refine LCB.cond (by simp only [seval, evx] <;> rfl) ?_ ?_ | refine wpG_split (by simp only [seval, evx] <;> rfl) ?_ ?_ | refine wxG_split (by simp only [seval, evx] <;> rfl) ?_ ?_) <;> (intro hc; try simp only [seval, nf] at hc)) | refine ACalls.inst ?_ | refine CallX.inst ?_ | (with_reducible refine And.intro ?_ ?_) | exact True.intro)
    refine RetOk.upd0 .dead ?_ ?_ ?_ ?_
    · simp only [seval, evw, List.forall_mem_cons, List.forall_mem_map, List.forall_mem_append, List.not_mem_nil, encB_def, encN_def, sb, insA, encIns, ins_dec, ins_eta, putH_eq, List.length_append, *]
    · rw [List.length_append]
      refine (hG.le (by omega)).app ?_
      simp only [seval, evw, List.forall_mem_cons, List.forall_mem_map, List.forall_mem_append, List.not_mem_nil, encB_def, encN_def, sb, insA, encIns, ins_dec, ins_eta, putH_eq, List.length_append, *]
    · simp only [seval, evw, List.forall_mem_cons, List.forall_mem_map, List.forall_mem_append, List.not_mem_nil, encB_def, encN_def, sb, insA, encIns, ins_dec, ins_eta, putH_eq, List.length_append, *]
    · simp only [seval, evw, List.forall_mem_cons, List.forall_mem_map, List.forall_mem_append, List.not_mem_nil, encB_def, encN_def, sb, insA, encIns, ins_dec, ins_eta, putH_eq, List.length_append, *]
end Go.Proofs.YtgdopmhgmpkahaaDoor

/-
  alloc: Put, the program's and the document's.
-/
namespace Go.Proofs.YtgdopmhgmpkahaaDoor
open Go.RowKit
set_option linter.unusedVariables false
set_option linter.unusedSimpArgs false

theorem alloc_may_ok (f : List Ins) (p : Int) : Pure Tryd.prog 29 [encFn f, .int .i64 p] (.bool (mayB f p)) := by
  intro H
  refine ACalls.go alloc_may.low (by simp) fun hcl => ?_
  have h1 := asm_Right_ok f
  have hm : Hold (mayB f p = (fnOk f && (decide (0 ≤ p) && decide (p < (f.length : Int))))) := ⟨rfl⟩
  unfold encFn at *
  replace h1 := Hold.mk h1
  repeat' (first | simp only [seval, evx, beq_self_eq_true, encB_def, encN_def, sb, insA, encIns, ins_dec, ins_eta, putH_eq, List.length_append, CallA_fn2, Nat.sub_zero, List.length_drop, List.length_take, *] | simp (disch := omega) only [if_pos, if_neg] | refine R.seq ?_ | refine LCB.text ?_ | refine LCB.quiet rfl ?_ | refine R.anyX ?_ | refine R.block ?_ | refine LCB.skip ?_ | refine LCB.exit ?_ | refine LCB.ret ?_ | ((first | refine RetOk.val hcl ?_ | refine Weak.at hcl ?_); simp only [seval, evw, List.forall_mem_cons, List.forall_mem_map, List.forall_mem_append, List.not_mem_nil, encB_def, encN_def, sb, insA, encIns, ins_dec, ins_eta, putH_eq, List.length_append, CallA_fn2, Nat.sub_zero, List.length_drop, List.length_take, *]) | ((first | refine LCB.cond (by simp only [seval, evx] <;> rfl) ?_ ?_ | refine wpG_split (by simp only [seval, evx] <;> rfl) ?_ ?_ | refine wxG_split (by simp only [seval, evx] <;> rfl) ?_ ?_) <;> (intro hc; try simp only [seval, nf] at hc)) | refine ACalls.inst ?_ | refine CallX.inst ?_ | (with_reducible refine And.intro ?_ ?_) | exact True.intro)
  first | refine ACalls.pure (h1.of) ?_ | refine CallP.pure (h1.of) rfl ?_ | refine CallX.pure (h1.of) ?_
  cases hf : fnOk f <;> rw [hf] at hm <;> (repeat' (first | simp only [seval, evx, beq_self_eq_true, encB_def, encN_def, sb, insA, encIns, ins_dec, ins_eta, putH_eq, List.length_append, CallA_fn2, Nat.sub_zero, List.length_drop, List.length_take, *] | simp (disch := omega) only [if_pos, if_neg] | refine R.seq ?_ | refine LCB.text ?_ | refine LCB.quiet rfl ?_ | refine R.anyX ?_ | refine R.block ?_ | refine LCB.skip ?_ | refine LCB.exit ?_ | refine LCB.ret ?_ | ((first | refine RetOk.val hcl ?_ | refine Weak.at hcl ?_); simp only [seval, evw, List.forall_mem_cons, List.forall_mem_map, List.forall_mem_append, List.not_mem_nil, encB_def, encN_def, sb, insA, encIns, ins_dec, ins_eta, putH_eq, List.length_append, CallA_fn2, Nat.sub_zero, List.length_drop, List.length_take, *]) | ((first | refine LCB.cond (by simp only [seval, evx] <;> rfl) ?_ ?_ | refine wpG_split (by simp only [seval, evx] <;> rfl) ?_ ?_ | refine wxG_split (by simp only [seval, evx] <;> rfl) ?_ ?_) <;> (intro hc; try simp only [seval, nf] at hc)) | refine ACalls.inst ?_ | refine CallX.inst ?_ | (with_reducible refine And.intro ?_ ?_) | exact True.intro)) <;> simp [hm.of, *]
theorem ref23_has_ok (f : List Ins) (p : Int) : Pure Tryd.prog 33 [encFn f, .int .i64 p] (.bool (mayB f p)) := by
  intro H
  refine ACalls.go joineryref23_has.low (by simp) fun hcl => ?_
  have h1 := ref04_Right_ok f
  have hm : Hold (mayB f p = (fnOk f && (decide (0 ≤ p) && decide (p < (f.length : Int))))) := ⟨rfl⟩
  unfold encFn at *
  replace h1 := Hold.mk h1
  repeat' (first | simp only [seval, evx, beq_self_eq_true, encB_def, encN_def, sb, insA, encIns, ins_dec, ins_eta, putH_eq, List.length_append, CallA_fn2, Nat.sub_zero, List.length_drop, List.length_take, *] | simp (disch := omega) only [if_pos, if_neg] | refine R.seq ?_ | refine LCB.text ?_ | refine LCB.quiet rfl ?_ | refine R.anyX ?_ | refine R.block ?_ | refine LCB.skip ?_ | refine LCB.exit ?_ | refine LCB.ret ?_ | ((first | refine RetOk.val hcl ?_ | refine Weak.at hcl ?_); simp only [seval, evw, List.forall_mem_cons, List.forall_mem_map, List.forall_mem_append, List.not_mem_nil, encB_def, encN_def, sb, insA, encIns, ins_dec, ins_eta, putH_eq, List.length_append, CallA_fn2, Nat.sub_zero, List.length_drop, List.length_take, *]) | ((first | refine LCB.cond (by simp only [seval, evx] <;> rfl) ?_ ?_ | refine wpG_split (by simp only [seval, evx] <;> rfl) ?_ ?_ | refine wxG_split (by simp only [seval, evx] <;> rfl) ?_ ?_) <;> (intro hc; try simp only [seval, nf] at hc)) | refine ACalls.inst ?_ | refine CallX.inst ?_ | (with_reducible refine And.intro ?_ ?_) | exact True.intro)
  first | refine ACalls.pure (h1.of) ?_ | refine CallP.pure (h1.of) rfl ?_ | refine CallX.pure (h1.of) ?_
  cases hf : fnOk f <;> rw [hf] at hm <;> (repeat' (first | simp only [seval, evx, beq_self_eq_true, encB_def, encN_def, sb, insA, encIns, ins_dec, ins_eta, putH_eq, List.length_append, CallA_fn2, Nat.sub_zero, List.length_drop, List.length_take, *] | simp (disch := omega) only [if_pos, if_neg] | refine R.seq ?_ | refine LCB.text ?_ | refine LCB.quiet rfl ?_ | refine R.anyX ?_ | refine R.block ?_ | refine LCB.skip ?_ | refine LCB.exit ?_ | refine LCB.ret ?_ | ((first | refine RetOk.val hcl ?_ | refine Weak.at hcl ?_); simp only [seval, evw, List.forall_mem_cons, List.forall_mem_map, List.forall_mem_append, List.not_mem_nil, encB_def, encN_def, sb, insA, encIns, ins_dec, ins_eta, putH_eq, List.length_append, CallA_fn2, Nat.sub_zero, List.length_drop, List.length_take, *]) | ((first | refine LCB.cond (by simp only [seval, evx] <;> rfl) ?_ ?_ | refine wpG_split (by simp only [seval, evx] <;> rfl) ?_ ?_ | refine wxG_split (by simp only [seval, evx] <;> rfl) ?_ ?_) <;> (intro hc; try simp only [seval, nf] at hc)) | refine ACalls.inst ?_ | refine CallX.inst ?_ | (with_reducible refine And.intro ?_ ?_) | exact True.intro)) <;> simp [hm.of, *]

/-- What may be put into. -/
theorem may_iff {f : List Ins} {p : Int} (h : mayB f p = true) : ∃ a : Nat, p = (a : Int) ∧ a < f.length ∧ f.length ≤ 200 ∧ ∀ x ∈ f, x.op = 16 ∨ x.op = 17 → 0 ≤ x.to ∧ x.to ≤ 1000 := by
  unfold mayB at h
  simp only [Bool.and_eq_true, decide_eq_true_eq] at h
  obtain ⟨h1, h2, h3⟩ := h
  obtain ⟨k1, k2, k3, k4⟩ := fnOk_iff.1 h1
  refine ⟨p.toNat, by omega, by omega, k1, fun x hx ho => ?_⟩
  have := chk_jmp (k3 x hx) ho
  omega
theorem resP_full {f l : List Ins} {p : Int} (h : 200 < f.length + l.length) : resP (put2 f p l) = .tup [.list [], .int .i64 3] := by unfold put2; rw [if_pos h]; rfl
theorem resP_put {f l : List Ins} {a : Nat} (h : ¬ 200 < f.length + l.length) : resP (put2 f (a : Int) l) = .tup [.list ((putL f a l).map encIns), .int .i64 0] := by unfold put2; rw [if_neg h]; rfl

set_option maxHeartbeats 4000000 in
theorem alloc_put_ok (f : List Ins) (a : Nat) (l : List Ins) (ha : a < f.length) (hf : f.length ≤ 200) (hl : l.length ≤ 1000) (hto : ∀ x ∈ f, x.op = 16 ∨ x.op = 17 → 0 ≤ x.to ∧ x.to ≤ 1000) :
    Pure Tryd.prog 32 [encFn f, .int .i64 (a : Int), encFn l] (resP (put2 f (a : Int) l)) := by
  intro H
  refine ACalls.go alloc_put.low (by simp) fun hcl => ?_
  have e0 : IntKind.i64.wrap ((f.length : Int) + (l.length : Int)) = ((f.length + l.length : Nat) : Int) := by rw [IntKind.wrap_i64]; omega
  by_cases hb : 200 < f.length + l.length
  · rw [resP_full hb]
    have e1 : (200 : Int) < ((f.length + l.length : Nat) : Int) := by omega
    replace hto := Hold.mk hto
    unfold encFn
    repeat' (first | simp only [seval, evx, beq_self_eq_true, encB_def, encN_def, sb, insA, encIns, ins_dec, ins_eta, putH_eq, List.length_append, CallA_fn2, Nat.sub_zero, List.length_drop, List.length_take, *] | simp (disch := omega) only [if_pos, if_neg] | refine R.seq ?_ | refine LCB.text ?_ | refine LCB.quiet rfl ?_ | refine R.anyX ?_ | refine R.block ?_ | refine LCB.skip ?_ | refine LCB.exit ?_ | refine LCB.ret ?_ | ((first | refine RetOk.val hcl ?_ | refine Weak.at hcl ?_); simp only [seval, evw, List.forall_mem_cons, List.forall_mem_map, List.forall_mem_append, List.not_mem_nil, encB_def, encN_def, sb, insA, encIns, ins_dec, ins_eta, putH_eq, List.length_append, CallA_fn2, Nat.sub_zero, List.length_drop, List.length_take, *]) | ((first | refine LCB.cond (by simp only [seval, evx] <;> rfl) ?_ ?_ | refine wpG_split (by simp only [seval, evx] <;> rfl) ?_ ?_ | refine wxG_split (by simp only [seval, evx] <;> rfl) ?_ ?_) <;> (intro hc; try simp only [seval, nf] at hc)) | refine ACalls.inst ?_ | refine CallX.inst ?_ | (with_reducible refine And.intro ?_ ?_) | exact True.intro)
  have e1 : ¬ (200 : Int) < ((f.length + l.length : Nat) : Int) := by omega
  rw [resP_put hb]
  obtain ⟨rs, hrs⟩ : ∃ rs, putL f a l = rs := ⟨_, rfl⟩
  have h1 := alloc_put_1_ok (G := H) hcl (a : Int) l [] (f.take a) hl (by simp; omega) (by simp) (fun x hx => hto x (List.mem_of_mem_take hx))
  have h2 := alloc_put_1_ok (G := H) hcl (a : Int) l ((f.take a).map (shiftI (a : Int) (l.length : Int)) ++ l) (f.drop a) hl (by simp; omega) (by simp; omega) (fun x hx => hto x (List.mem_of_mem_drop hx))
  rw [List.nil_append] at h1
  rw [hrs]
  unfold putL at hrs
  rw [hrs] at h2
  generalize hq1 : (f.take a).map (shiftI (a : Int) (l.length : Int)) = q1 at *
  have hq1l : q1.length = a := by rw [← hq1]; simp; omega
  have hrl : rs.length = f.length + l.length := by rw [← hrs]; simp; omega
  have rk : rowsOk 6 (l.map encIns) = true := rk_map fun x _ => ⟨rfl, rfl⟩
  have b1 : (q1.length + l.length) * 48 ≤ 140737488355328 := by omega
  have b2 : q1.length + l.length ≤ 9223372036854775806 := by omega
  have b3 : (a : Int) ≤ (f.length : Int) := by omega
  have t1 : (f.take a).map encIns = (f.map encIns).take a := List.map_take
  have t2 : (f.drop a).map encIns = (f.map encIns).drop a := List.map_drop
  have hfne : f.map encIns = [] ∨ ((f.map encIns).headD []).length = 6 := by cases f <;> simp [encIns]
  have tk : ((f.map encIns).drop a).take (f.length - a) = (f.map encIns).drop a := List.take_of_length_le (by simp)
  unfold encFn at *
  rw [t1] at h1
  rw [t2] at h2
  clear hq1 hrs t1 t2 hto
  replace hq1l := Hold.mk hq1l
  replace h1 := Hold.mk h1
  simp only [putH_eq, List.length_append, List.map_append] at h2
  replace h2 := Hold.mk h2
  (refine R.seq ?_; refine LCB.text ?_; repeat' (first | simp only [seval, evo, beq_self_eq_true, encB_def, encN_def, sb, insA, encIns, ins_dec, ins_eta, putH_eq, List.length_append, CallA_fn2, Nat.sub_zero, List.length_drop, List.length_take, *] | simp (disch := omega) only [if_pos, if_neg]))
  refine R.cut [(0, .list (f.map encIns)), (4, .ptr H.length 1 0 0), (5, .ptr (H.length + 1) 1 0 0)] (H ++ [.vec 1 [[.int .i64 (a : Int)]], .vec 1 [[.list (l.map encIns)]]]) ?_ ?_
  · repeat' (first | simp only [seval, evx, beq_self_eq_true, encB_def, encN_def, sb, insA, encIns, ins_dec, ins_eta, putH_eq, List.length_append, CallA_fn2, Nat.sub_zero, List.length_drop, List.length_take, *] | simp (disch := omega) only [if_pos, if_neg] | refine R.seq ?_ | refine LCB.text ?_ | refine LCB.quiet rfl ?_ | refine R.anyX ?_ | refine R.block ?_ | refine LCB.skip ?_ | refine LCB.exit ?_ | refine LCB.ret ?_ | ((first | refine RetOk.val hcl ?_ | refine Weak.at hcl ?_); simp only [seval, evw, List.forall_mem_cons, List.forall_mem_map, List.forall_mem_append, List.not_mem_nil, encB_def, encN_def, sb, insA, encIns, ins_dec, ins_eta, putH_eq, List.length_append, CallA_fn2, Nat.sub_zero, List.length_drop, List.length_take, *]) | ((first | refine LCB.cond (by simp only [seval, evx] <;> rfl) ?_ ?_ | refine wpG_split (by simp only [seval, evx] <;> rfl) ?_ ?_ | refine wxG_split (by simp only [seval, evx] <;> rfl) ?_ ?_) <;> (intro hc; try simp only [seval, nf] at hc)) | refine ACalls.inst ?_ | refine CallX.inst ?_ | (with_reducible refine And.intro ?_ ?_) | exact True.intro)
  (refine R.seq ?_; refine LCB.text ?_; repeat' (first | simp only [seval, evo, beq_self_eq_true, encB_def, encN_def, sb, insA, encIns, ins_dec, ins_eta, putH_eq, List.length_append, CallA_fn2, Nat.sub_zero, List.length_drop, List.length_take, *] | simp (disch := omega) only [if_pos, if_neg]))
  refine LCB.pre (Weak.growCellAt 2 6 (by omega) rfl) ?_
  repeat' (first | simp only [seval, evx, beq_self_eq_true, encB_def, encN_def, sb, insA, encIns, ins_dec, ins_eta, putH_eq, List.length_append, CallA_fn2, Nat.sub_zero, List.length_drop, List.length_take, *] | simp (disch := omega) only [if_pos, if_neg] | refine R.seq ?_ | refine LCB.text ?_ | refine LCB.quiet rfl ?_ | refine R.anyX ?_ | refine R.block ?_ | refine LCB.skip ?_ | refine LCB.exit ?_ | refine LCB.ret ?_ | ((first | refine RetOk.val hcl ?_ | refine Weak.at hcl ?_); simp only [seval, evw, List.forall_mem_cons, List.forall_mem_map, List.forall_mem_append, List.not_mem_nil, encB_def, encN_def, sb, insA, encIns, ins_dec, ins_eta, putH_eq, List.length_append, CallA_fn2, Nat.sub_zero, List.length_drop, List.length_take, *]) | ((first | refine LCB.cond (by simp only [seval, evx] <;> rfl) ?_ ?_ | refine wpG_split (by simp only [seval, evx] <;> rfl) ?_ ?_ | refine wxG_split (by simp only [seval, evx] <;> rfl) ?_ ?_) <;> (intro hc; try simp only [seval, nf] at hc)) | refine ACalls.inst ?_ | refine CallX.inst ?_ | (with_reducible refine And.intro ?_ ?_) | exact True.intro)
  refine h1.of.mono ?_
  rintro r' H' rfl
  repeat' (first | simp only [seval, evx, beq_self_eq_true, encB_def, encN_def, sb, insA, encIns, ins_dec, ins_eta, putH_eq, List.length_append, CallA_fn2, Nat.sub_zero, List.length_drop, List.length_take, *] | simp (disch := omega) only [if_pos, if_neg] | refine R.seq ?_ | refine LCB.text ?_ | refine LCB.quiet rfl ?_ | refine R.anyX ?_ | refine R.block ?_ | refine LCB.skip ?_ | refine LCB.exit ?_ | refine LCB.ret ?_ | ((first | refine RetOk.val hcl ?_ | refine Weak.at hcl ?_); simp only [seval, evw, List.forall_mem_cons, List.forall_mem_map, List.forall_mem_append, List.not_mem_nil, encB_def, encN_def, sb, insA, encIns, ins_dec, ins_eta, putH_eq, List.length_append, CallA_fn2, Nat.sub_zero, List.length_drop, List.length_take, *]) | ((first | refine LCB.cond (by simp only [seval, evx] <;> rfl) ?_ ?_ | refine wpG_split (by simp only [seval, evx] <;> rfl) ?_ ?_ | refine wxG_split (by simp only [seval, evx] <;> rfl) ?_ ?_) <;> (intro hc; try simp only [seval, nf] at hc)) | refine ACalls.inst ?_ | refine CallX.inst ?_ | (with_reducible refine And.intro ?_ ?_) | exact True.intro)
  refine h2.of.mono ?_
  rintro r' H' rfl
  repeat' (first | simp only [seval, evx, beq_self_eq_true, encB_def, encN_def, sb, insA, encIns, ins_dec, ins_eta, putH_eq, List.length_append, CallA_fn2, Nat.sub_zero, List.length_drop, List.length_take, *] | simp (disch := omega) only [if_pos, if_neg] | refine R.seq ?_ | refine LCB.text ?_ | refine LCB.quiet rfl ?_ | refine R.anyX ?_ | refine R.block ?_ | refine LCB.skip ?_ | refine LCB.exit ?_ | refine LCB.ret ?_ | ((first | refine RetOk.val hcl ?_ | refine Weak.at hcl ?_); simp only [seval, evw, List.forall_mem_cons, List.forall_mem_map, List.forall_mem_append, List.not_mem_nil, encB_def, encN_def, sb, insA, encIns, ins_dec, ins_eta, putH_eq, List.length_append, CallA_fn2, Nat.sub_zero, List.length_drop, List.length_take, *]) | ((first | refine LCB.cond (by simp only [seval, evx] <;> rfl) ?_ ?_ | refine wpG_split (by simp only [seval, evx] <;> rfl) ?_ ?_ | refine wxG_split (by simp only [seval, evx] <;> rfl) ?_ ?_) <;> (intro hc; try simp only [seval, nf] at hc)) | refine ACalls.inst ?_ | refine CallX.inst ?_ | (with_reducible refine And.intro ?_ ?_) | exact True.intro)
  rw [List.take_of_length_le (by rw [List.length_map]; omega)]
end Go.Proofs.YtgdopmhgmpkahaaDoor

/-
  alloc: instructions put in, the document's.
-/
namespace Go.Proofs.YtgdopmhgmpkahaaDoor
open Go.RowKit
set_option linter.unusedVariables false
set_option linter.unusedSimpArgs false

/-! ### The document's -/
def putN (f : List Ins) (a : Nat) (l : List Ins) (i : Nat) : List Ins := (f.take (min i a)).map (shiftI (a : Int) (l.length : Int)) ++ (if a < i then l else []) ++ ((f.take i).drop a).map (shiftI (a : Int) (l.length : Int))
theorem putN_zero {f l : List Ins} {a : Nat} : putN f a l 0 = [] := by simp [putN]
theorem putN_all {f l : List Ins} {a : Nat} (h : a < f.length) : putN f a l f.length = putL f a l := by
  unfold putN putL
  rw [Nat.min_eq_right (by omega), if_pos h, List.take_length]
theorem putN_at {f l : List Ins} {a : Nat} (h : a < f.length) : putN f a l (a + 1) = putN f a l a ++ l ++ [shiftI (a : Int) (l.length : Int) (f.getD a noIns)] := by
  unfold putN
  rw [Nat.min_eq_right (by omega), Nat.min_self, if_pos (by omega), if_neg (by omega), take_ins h, List.drop_append_of_le_length (by simp; omega)]
  simp
theorem putN_step {f l : List Ins} {a i : Nat} (hi : i < f.length) (h : i ≠ a) : putN f a l (i + 1) = putN f a l i ++ [shiftI (a : Int) (l.length : Int) (f.getD i noIns)] := by
  unfold putN
  rcases Nat.lt_or_gt_of_ne h with h | h
  · rw [Nat.min_eq_left (by omega), Nat.min_eq_left (by omega), if_neg (by omega), if_neg (by omega), take_ins hi]
    rw [List.drop_eq_nil_of_le (by simp; omega), List.drop_eq_nil_of_le (by simp; omega)]
    simp
  · rw [Nat.min_eq_right (by omega), Nat.min_eq_right (by omega), if_pos (by omega), if_pos h, take_ins hi, List.drop_append_of_le_length (by simp; omega)]
    simp
theorem putN_len {f l : List Ins} {a i : Nat} (hi : i ≤ f.length) : (putN f a l i).length ≤ i + l.length := by
  unfold putN
  simp only [List.length_append, List.length_map, List.length_drop, List.length_take]
  split <;> simp <;> omega
theorem shift_cases (a n : Int) (x : Ins) : (¬ (x.op = 16 ∨ x.op = 17) ∧ shiftI a n x = x) ∨ ((x.op = 16 ∨ x.op = 17) ∧ ((¬ a < x.to ∧ shiftI a n x = x) ∨ (a < x.to ∧ shiftI a n x = { x with to := x.to + n }))) := by
  unfold shiftI
  by_cases h1 : x.op = 16 ∨ x.op = 17
  · by_cases h2 : a < x.to
    · exact .inr ⟨h1, .inr ⟨h2, if_pos ⟨h1, h2⟩⟩⟩
    · exact .inr ⟨h1, .inl ⟨h2, if_neg fun h => h2 h.2⟩⟩
  · exact .inl ⟨h1, if_neg fun h => h1 h.1⟩
set_option maxHeartbeats 40000000 in
theorem ref23_put_ok (f : List Ins) (a : Nat) (l : List Ins) (ha : a < f.length) (hf : f.length ≤ 200) (hl : l.length ≤ 1000) (hto : ∀ x ∈ f, x.op = 16 ∨ x.op = 17 → 0 ≤ x.to ∧ x.to ≤ 1000) :
    Pure Tryd.prog 35 [encFn f, .int .i64 (a : Int), encFn l] (resP (put2 f (a : Int) l)) := by
  intro H
  refine ACalls.go joineryref23_put.low (by simp) fun hcl => ?_
  have e0 : IntKind.i64.wrap ((f.length : Int) + (l.length : Int)) = ((f.length + l.length : Nat) : Int) := by rw [IntKind.wrap_i64]; omega
  by_cases hb : 200 < f.length + l.length
  · rw [resP_full hb]
    have e1 : (200 : Int) < ((f.length + l.length : Nat) : Int) := by omega
    replace hto := Hold.mk hto
    unfold encFn
    repeat' (first | simp only [seval, evx, beq_self_eq_true, encB_def, encN_def, sb, insA, encIns, ins_dec, ins_eta, List.length_append, *] | simp (disch := omega) only [if_pos, if_neg] | refine R.seq ?_ | refine LCB.text ?_ | refine LCB.quiet rfl ?_ | refine R.anyX ?_ | refine R.block ?_ | refine LCB.skip ?_ | refine LCB.exit ?_ | refine LCB.ret ?_ | ((first | refine RetOk.val hcl ?_ | refine Weak.at hcl ?_); simp only [seval, evw, List.forall_mem_cons, List.forall_mem_map, List.forall_mem_append, List.not_mem_nil, encB_def, encN_def, sb, insA, encIns, ins_dec, ins_eta, List.length_append, *]) | ((first | refine LCB.cond (by simp only [seval, evx] <;> rfl) ?_ ?_ | refine wpG_split (by simp only [seval, evx] <;> rfl) ?_ ?_ | refine wxG_split (by simp only [seval, evx] <;> rfl) ?_ ?_) <;> (intro hc; try simp only [seval, nf] at hc)) | refine ACalls.inst ?_ | refine CallX.inst ?_ | (with_reducible refine And.intro ?_ ?_) | exact True.intro)
  have e1 : ¬ (200 : Int) < ((f.length + l.length : Nat) : Int) := by omega
  rw [resP_put hb, ← putN_all ha]
  have rk : rowsOk 6 (l.map encIns) = true := rk_map fun x _ => ⟨rfl, rfl⟩
  unfold encFn
  replace hto := Hold.mk hto
  replace hb := Hold.mk hb
  (refine R.seq ?_; refine LCB.text ?_; repeat' (first | simp only [seval, evo, beq_self_eq_true, encB_def, encN_def, sb, insA, encIns, ins_dec, ins_eta, List.length_append, *] | simp (disch := omega) only [if_pos, if_neg]))
  refine R.cut [(0, .list (f.map encIns)), (1, .int .i64 (a : Int)), (2, .list (l.map encIns))] (H ++ []) ?_ ?_
  · repeat' (first | simp only [seval, evx, beq_self_eq_true, encB_def, encN_def, sb, insA, encIns, ins_dec, ins_eta, List.length_append, *] | simp (disch := omega) only [if_pos, if_neg] | refine R.seq ?_ | refine LCB.text ?_ | refine LCB.quiet rfl ?_ | refine R.anyX ?_ | refine R.block ?_ | refine LCB.skip ?_ | refine LCB.exit ?_ | refine LCB.ret ?_ | ((first | refine RetOk.val hcl ?_ | refine Weak.at hcl ?_); simp only [seval, evw, List.forall_mem_cons, List.forall_mem_map, List.forall_mem_append, List.not_mem_nil, encB_def, encN_def, sb, insA, encIns, ins_dec, ins_eta, List.length_append, *]) | ((first | refine LCB.cond (by simp only [seval, evx] <;> rfl) ?_ ?_ | refine wpG_split (by simp only [seval, evx] <;> rfl) ?_ ?_ | refine wxG_split (by simp only [seval, evx] <;> rfl) ?_ ?_) <;> (intro hc; try simp only [seval, nf] at hc)) | refine ACalls.inst ?_ | refine CallX.inst ?_ | (with_reducible refine And.intro ?_ ?_) | exact True.intro)
  clear e0 e1
  (refine R.seq ?_; refine LCB.text ?_; repeat' (first | simp only [seval, evo, beq_self_eq_true, encB_def, encN_def, sb, insA, encIns, ins_dec, ins_eta, List.length_append, *] | simp (disch := omega) only [if_pos, if_neg]))
  refine R.seq ?_
  (refine R.seq ?_; refine LCB.text ?_; repeat' (first | simp only [seval, evo, beq_self_eq_true, encB_def, encN_def, sb, insA, encIns, ins_dec, ins_eta, List.length_append, *] | simp (disch := omega) only [if_pos, if_neg]))
  refine R.block (R.loop (S := Nat × List Ins) ⟨fun y => [(0, .list (f.map encIns)), (1, .int .i64 (a : Int)), (2, .list (l.map encIns)), (8, .sl 6 H.length y.2.length 0 y.2.length), (9, .int .i64 (y.1 : Int))], fun y => H ++ [.vec 6 (y.2.map encIns)],
    fun y => y.1 ≤ f.length ∧ y.2.length ≤ y.1 + l.length ∧ y.2 = putN f a l y.1, fun y => f.length - y.1⟩ (0, []) ⟨Nat.zero_le _, Nat.zero_le _, putN_zero.symm⟩ ((Weak.growAt 8 6 (by omega) (by simp only [seval, evo, beq_self_eq_true, encB_def, encN_def, sb, insA, encIns, ins_dec, ins_eta, List.length_append, *])).trans (Weak.at hcl ?_)) ?_)
  · simp only [seval, evw, List.forall_mem_cons, List.forall_mem_map, List.forall_mem_append, List.not_mem_nil, encB_def, encN_def, sb, insA, encIns, ins_dec, ins_eta, List.length_append, *]
  rintro ⟨i, out⟩ ⟨hi, ho, hq⟩
  simp only at hi ho hq ⊢
  by_cases hlt : i < f.length
  · have hg := getD_encIns hlt
    have e3 : (i : Int) < (f.length : Int) := by omega
    have e4 : IntKind.i64.wrap ((i : Int) + 1) = ((i + 1 : Nat) : Int) := by rw [IntKind.wrap_i64]; omega
    obtain ⟨b1, b2, b3, b4, b5⟩ : (out.length + l.length) * 48 ≤ 140737488355328 ∧ out.length + l.length ≤ 9223372036854775806 ∧ (out.length + l.length + 1) * 48 ≤ 140737488355328 ∧ (out.length + 1) * 48 ≤ 140737488355328 ∧ out.length ≤ 9223372036854775806 := ⟨by omega, by omega, by omega, by omega, by omega⟩
    have hw1 : Hold ((f.getD i noIns).op = 16 ∨ (f.getD i noIns).op = 17 → IntKind.i64.wrap ((f.getD i noIns).to + (l.length : Int)) = (f.getD i noIns).to + (l.length : Int)) := ⟨fun h => by have := hto.of _ (getD_mem hlt) h; rw [IntKind.wrap_i64]; omega⟩
    by_cases hia : i = a
    · subst hia
      have hs := putN_at (f := f) (l := l) hlt
      rw [← hq] at hs
      generalize f.getD i noIns = x at *
      have hpl2 : Hold (out.length + l.length + 1 ≤ i + 1 + l.length) := ⟨by
        have := putN_len (f := f) (l := l) (a := i) (i := i + 1) hlt
        rw [hs] at this
        simpa only [List.length_append, List.length_cons, List.length_nil, Nat.zero_add] using this⟩
      replace hs := Hold.mk hs
      clear hq ho
      rcases shift_cases (i : Int) (l.length : Int) x with ⟨g1, g2⟩ | ⟨g1, ⟨g2, g3⟩ | ⟨g2, g3⟩⟩
      · have g16 : ¬ x.op = 16 := fun h => g1 (.inl h)
        have g17 : ¬ x.op = 17 := fun h => g1 (.inr h)
        clear g1 hw1
        repeat' (first | simp only [seval, evx, beq_self_eq_true, encB_def, encN_def, sb, insA, encIns, ins_dec, ins_eta, List.length_append, *] | simp (disch := omega) only [if_pos, if_neg] | refine R.seq ?_ | refine LCB.text ?_ | refine LCB.quiet rfl ?_ | refine R.anyX ?_ | refine R.block ?_ | refine LCB.skip ?_ | refine LCB.exit ?_ | refine LCB.ret ?_ | ((first | refine RetOk.val hcl ?_ | refine Weak.at hcl ?_); simp only [seval, evw, List.forall_mem_cons, List.forall_mem_map, List.forall_mem_append, List.not_mem_nil, encB_def, encN_def, sb, insA, encIns, ins_dec, ins_eta, List.length_append, *]) | ((first | refine LCB.cond (by simp only [seval, evx] <;> rfl) ?_ ?_ | refine wpG_split (by simp only [seval, evx] <;> rfl) ?_ ?_ | refine wxG_split (by simp only [seval, evx] <;> rfl) ?_ ?_) <;> (intro hc; try simp only [seval, nf] at hc)) | refine ACalls.inst ?_ | refine CallX.inst ?_ | (with_reducible refine And.intro ?_ ?_) | exact True.intro)
        refine ⟨(i + 1, out ++ l ++ [shiftI (i : Int) (l.length : Int) x]), ⟨hlt, by simpa [Nat.add_assoc] using hpl2.of, hs.of.symm⟩, by simp only; omega, Weak.at hcl ?_⟩
        simp only [seval, evw, List.forall_mem_cons, List.forall_mem_map, List.forall_mem_append, List.not_mem_nil, encB_def, encN_def, sb, insA, encIns, ins_dec, ins_eta, List.length_append, *]
      · clear hw1
        rcases g1 with g1 | g1
        all_goals
          repeat' (first | simp only [seval, evx, beq_self_eq_true, encB_def, encN_def, sb, insA, encIns, ins_dec, ins_eta, List.length_append, *] | simp (disch := omega) only [if_pos, if_neg] | refine R.seq ?_ | refine LCB.text ?_ | refine LCB.quiet rfl ?_ | refine R.anyX ?_ | refine R.block ?_ | refine LCB.skip ?_ | refine LCB.exit ?_ | refine LCB.ret ?_ | ((first | refine RetOk.val hcl ?_ | refine Weak.at hcl ?_); simp only [seval, evw, List.forall_mem_cons, List.forall_mem_map, List.forall_mem_append, List.not_mem_nil, encB_def, encN_def, sb, insA, encIns, ins_dec, ins_eta, List.length_append, *]) | ((first | refine LCB.cond (by simp only [seval, evx] <;> rfl) ?_ ?_ | refine wpG_split (by simp only [seval, evx] <;> rfl) ?_ ?_ | refine wxG_split (by simp only [seval, evx] <;> rfl) ?_ ?_) <;> (intro hc; try simp only [seval, nf] at hc)) | refine ACalls.inst ?_ | refine CallX.inst ?_ | (with_reducible refine And.intro ?_ ?_) | exact True.intro)
          refine ⟨(i + 1, out ++ l ++ [shiftI (i : Int) (l.length : Int) x]), ⟨hlt, by simpa [Nat.add_assoc] using hpl2.of, hs.of.symm⟩, by simp only; omega, Weak.at hcl ?_⟩
          simp only [seval, evw, List.forall_mem_cons, List.forall_mem_map, List.forall_mem_append, List.not_mem_nil, encB_def, encN_def, sb, insA, encIns, ins_dec, ins_eta, List.length_append, *]
      · have hw := hw1.of g1
        clear hw1
        rcases g1 with g1 | g1
        all_goals
          repeat' (first | simp only [seval, evx, beq_self_eq_true, encB_def, encN_def, sb, insA, encIns, ins_dec, ins_eta, List.length_append, *] | simp (disch := omega) only [if_pos, if_neg] | refine R.seq ?_ | refine LCB.text ?_ | refine LCB.quiet rfl ?_ | refine R.anyX ?_ | refine R.block ?_ | refine LCB.skip ?_ | refine LCB.exit ?_ | refine LCB.ret ?_ | ((first | refine RetOk.val hcl ?_ | refine Weak.at hcl ?_); simp only [seval, evw, List.forall_mem_cons, List.forall_mem_map, List.forall_mem_append, List.not_mem_nil, encB_def, encN_def, sb, insA, encIns, ins_dec, ins_eta, List.length_append, *]) | ((first | refine LCB.cond (by simp only [seval, evx] <;> rfl) ?_ ?_ | refine wpG_split (by simp only [seval, evx] <;> rfl) ?_ ?_ | refine wxG_split (by simp only [seval, evx] <;> rfl) ?_ ?_) <;> (intro hc; try simp only [seval, nf] at hc)) | refine ACalls.inst ?_ | refine CallX.inst ?_ | (with_reducible refine And.intro ?_ ?_) | exact True.intro)
          refine ⟨(i + 1, out ++ l ++ [shiftI (i : Int) (l.length : Int) x]), ⟨hlt, by simpa [Nat.add_assoc] using hpl2.of, hs.of.symm⟩, by simp only; omega, Weak.at hcl ?_⟩
          simp only [seval, evw, List.forall_mem_cons, List.forall_mem_map, List.forall_mem_append, List.not_mem_nil, encB_def, encN_def, sb, insA, encIns, ins_dec, ins_eta, List.length_append, *]
    · have hs := putN_step (f := f) (l := l) hlt hia
      rw [← hq] at hs
      have hia2 : ¬ (i : Int) = (a : Int) := by omega
      generalize f.getD i noIns = x at *
      have hpl2 : Hold (out.length + 1 ≤ i + 1 + l.length) := ⟨by
        have := putN_len (f := f) (l := l) (a := a) (i := i + 1) hlt
        rw [hs] at this
        simpa only [List.length_append, List.length_cons, List.length_nil, Nat.zero_add] using this⟩
      replace hs := Hold.mk hs
      clear hq ho
      rcases shift_cases (a : Int) (l.length : Int) x with ⟨g1, g2⟩ | ⟨g1, ⟨g2, g3⟩ | ⟨g2, g3⟩⟩
      · have g16 : ¬ x.op = 16 := fun h => g1 (.inl h)
        have g17 : ¬ x.op = 17 := fun h => g1 (.inr h)
        clear g1 hw1
        repeat' (first | simp only [seval, evx, beq_self_eq_true, encB_def, encN_def, sb, insA, encIns, ins_dec, ins_eta, List.length_append, *] | simp (disch := omega) only [if_pos, if_neg] | refine R.seq ?_ | refine LCB.text ?_ | refine LCB.quiet rfl ?_ | refine R.anyX ?_ | refine R.block ?_ | refine LCB.skip ?_ | refine LCB.exit ?_ | refine LCB.ret ?_ | ((first | refine RetOk.val hcl ?_ | refine Weak.at hcl ?_); simp only [seval, evw, List.forall_mem_cons, List.forall_mem_map, List.forall_mem_append, List.not_mem_nil, encB_def, encN_def, sb, insA, encIns, ins_dec, ins_eta, List.length_append, *]) | ((first | refine LCB.cond (by simp only [seval, evx] <;> rfl) ?_ ?_ | refine wpG_split (by simp only [seval, evx] <;> rfl) ?_ ?_ | refine wxG_split (by simp only [seval, evx] <;> rfl) ?_ ?_) <;> (intro hc; try simp only [seval, nf] at hc)) | refine ACalls.inst ?_ | refine CallX.inst ?_ | (with_reducible refine And.intro ?_ ?_) | exact True.intro)
        refine ⟨(i + 1, out ++ [shiftI (a : Int) (l.length : Int) x]), ⟨hlt, by simpa [Nat.add_assoc] using hpl2.of, hs.of.symm⟩, by simp only; omega, Weak.at hcl ?_⟩
        simp only [seval, evw, List.forall_mem_cons, List.forall_mem_map, List.forall_mem_append, List.not_mem_nil, encB_def, encN_def, sb, insA, encIns, ins_dec, ins_eta, List.length_append, *]
      · clear hw1
        rcases g1 with g1 | g1
        all_goals
          repeat' (first | simp only [seval, evx, beq_self_eq_true, encB_def, encN_def, sb, insA, encIns, ins_dec, ins_eta, List.length_append, *] | simp (disch := omega) only [if_pos, if_neg] | refine R.seq ?_ | refine LCB.text ?_ | refine LCB.quiet rfl ?_ | refine R.anyX ?_ | refine R.block ?_ | refine LCB.skip ?_ | refine LCB.exit ?_ | refine LCB.ret ?_ | ((first | refine RetOk.val hcl ?_ | refine Weak.at hcl ?_); simp only [seval, evw, List.forall_mem_cons, List.forall_mem_map, List.forall_mem_append, List.not_mem_nil, encB_def, encN_def, sb, insA, encIns, ins_dec, ins_eta, List.length_append, *]) | ((first | refine LCB.cond (by simp only [seval, evx] <;> rfl) ?_ ?_ | refine wpG_split (by simp only [seval, evx] <;> rfl) ?_ ?_ | refine wxG_split (by simp only [seval, evx] <;> rfl) ?_ ?_) <;> (intro hc; try simp only [seval, nf] at hc)) | refine ACalls.inst ?_ | refine CallX.inst ?_ | (with_reducible refine And.intro ?_ ?_) | exact True.intro)
          refine ⟨(i + 1, out ++ [shiftI (a : Int) (l.length : Int) x]), ⟨hlt, by simpa [Nat.add_assoc] using hpl2.of, hs.of.symm⟩, by simp only; omega, Weak.at hcl ?_⟩
          simp only [seval, evw, List.forall_mem_cons, List.forall_mem_map, List.forall_mem_append, List.not_mem_nil, encB_def, encN_def, sb, insA, encIns, ins_dec, ins_eta, List.length_append, *]
      · have hw := hw1.of g1
        clear hw1
        rcases g1 with g1 | g1
        all_goals
          repeat' (first | simp only [seval, evx, beq_self_eq_true, encB_def, encN_def, sb, insA, encIns, ins_dec, ins_eta, List.length_append, *] | simp (disch := omega) only [if_pos, if_neg] | refine R.seq ?_ | refine LCB.text ?_ | refine LCB.quiet rfl ?_ | refine R.anyX ?_ | refine R.block ?_ | refine LCB.skip ?_ | refine LCB.exit ?_ | refine LCB.ret ?_ | ((first | refine RetOk.val hcl ?_ | refine Weak.at hcl ?_); simp only [seval, evw, List.forall_mem_cons, List.forall_mem_map, List.forall_mem_append, List.not_mem_nil, encB_def, encN_def, sb, insA, encIns, ins_dec, ins_eta, List.length_append, *]) | ((first | refine LCB.cond (by simp only [seval, evx] <;> rfl) ?_ ?_ | refine wpG_split (by simp only [seval, evx] <;> rfl) ?_ ?_ | refine wxG_split (by simp only [seval, evx] <;> rfl) ?_ ?_) <;> (intro hc; try simp only [seval, nf] at hc)) | refine ACalls.inst ?_ | refine CallX.inst ?_ | (with_reducible refine And.intro ?_ ?_) | exact True.intro)
          refine ⟨(i + 1, out ++ [shiftI (a : Int) (l.length : Int) x]), ⟨hlt, by simpa [Nat.add_assoc] using hpl2.of, hs.of.symm⟩, by simp only; omega, Weak.at hcl ?_⟩
          simp only [seval, evw, List.forall_mem_cons, List.forall_mem_map, List.forall_mem_append, List.not_mem_nil, encB_def, encN_def, sb, insA, encIns, ins_dec, ins_eta, List.length_append, *]
  · have hie : i = f.length := by omega
    subst hie
    rw [← hq]
    have e3 : ¬ (f.length : Int) < (f.length : Int) := by omega
    clear ho
    repeat' (first | simp only [seval, evx, beq_self_eq_true, encB_def, encN_def, sb, insA, encIns, ins_dec, ins_eta, List.length_append, *] | simp (disch := omega) only [if_pos, if_neg] | refine R.seq ?_ | refine LCB.text ?_ | refine LCB.quiet rfl ?_ | refine R.anyX ?_ | refine R.block ?_ | refine LCB.skip ?_ | refine LCB.exit ?_ | refine LCB.ret ?_ | ((first | refine RetOk.val hcl ?_ | refine Weak.at hcl ?_); simp only [seval, evw, List.forall_mem_cons, List.forall_mem_map, List.forall_mem_append, List.not_mem_nil, encB_def, encN_def, sb, insA, encIns, ins_dec, ins_eta, List.length_append, *]) | ((first | refine LCB.cond (by simp only [seval, evx] <;> rfl) ?_ ?_ | refine wpG_split (by simp only [seval, evx] <;> rfl) ?_ ?_ | refine wxG_split (by simp only [seval, evx] <;> rfl) ?_ ?_) <;> (intro hc; try simp only [seval, nf] at hc)) | refine ACalls.inst ?_ | refine CallX.inst ?_ | (with_reducible refine And.intro ?_ ?_) | exact True.intro)
end Go.Proofs.YtgdopmhgmpkahaaDoor

/-
  alloc: Put, the program's and the document's; Split.
-/
namespace Go.Proofs.YtgdopmhgmpkahaaDoor
open Go.RowKit
set_option linter.unusedVariables false
set_option linter.unusedSimpArgs false

theorem resP_eq (r : List Ins × Int) : resP r = .tup [.list (r.1.map encIns), .int .i64 r.2] := rfl
theorem putF_no {f l : List Ins} {p : Int} (h : mayB f p = false) : resP (putF f p l) = .tup [.list [], .int .i64 1] := by unfold putF; rw [h]; rfl
theorem putF_bad {f l : List Ins} {p : Int} (h : l.any (badIn (f.length : Int)) = true) : resP (putF f p l) = .tup [.list [], .int .i64 1] := by unfold putF; rw [h]; cases mayB f p <;> rfl
theorem putF_good {f l : List Ins} {p : Int} (h : mayB f p = true) (h2 : l.any (badIn (f.length : Int)) = false) : putF f p l = put2 f p l := by unfold putF; rw [h, h2]; rfl

theorem alloc_jumps_ok (x : Ins) : Pure Tryd.prog 30 [insA x] (.bool (decide (16 ≤ x.op))) := by
  intro H
  refine ACalls.go alloc_jumps.low (by simp) fun hcl => ?_
  rw [insA_eq]
  repeat' (first | simp only [seval, evx, beq_self_eq_true, encB_def, encN_def, sb, insA, encIns, ins_dec, ins_eta, *] | simp (disch := omega) only [if_pos, if_neg] | refine R.seq ?_ | refine LCB.text ?_ | refine LCB.quiet rfl ?_ | refine R.anyX ?_ | refine R.block ?_ | refine LCB.skip ?_ | refine LCB.exit ?_ | refine LCB.ret ?_ | ((first | refine RetOk.val hcl ?_ | refine Weak.at hcl ?_); simp only [seval, evw, List.forall_mem_cons, List.forall_mem_map, List.forall_mem_append, List.not_mem_nil, encB_def, encN_def, sb, insA, encIns, ins_dec, ins_eta, *]) | ((first | refine LCB.cond (by simp only [seval, evx] <;> rfl) ?_ ?_ | refine wpG_split (by simp only [seval, evx] <;> rfl) ?_ ?_ | refine wxG_split (by simp only [seval, evx] <;> rfl) ?_ ?_) <;> (intro hc; try simp only [seval, nf] at hc)) | refine ACalls.inst ?_ | refine CallX.inst ?_ | (with_reducible refine And.intro ?_ ?_) | exact True.intro)
instance pc_alloc_jumps (op d a b n to : Int) : PureC Tryd.prog 30 [.agg [.int .i64 op, .int .i64 d, .int .i64 a, .int .i64 b, .int .i64 n, .int .i64 to]] (.bool (decide (16 ≤ op))) := ⟨alloc_jumps_ok ⟨op, d, a, b, n, to⟩⟩
set_option maxHeartbeats 4000000 in
theorem alloc_Put_ok (f : List Ins) (p : Int) (l : List Ins) (hl : l.length ≤ 1000) :
    Pure Tryd.prog 11 [encFn f, .int .i64 p, encFn l] (resP (putF f p l)) := by
  intro H
  refine ACalls.go alloc_Put.low (by simp) fun hcl => ?_
  have h1 := alloc_may_ok f p
  cases hm : mayB f p
  · have hr := putF_no (l := l) hm
    rw [hm] at h1
    unfold encFn at *
    replace h1 := Hold.mk h1
    repeat' (first | simp only [seval, evx, beq_self_eq_true, encB_def, encN_def, sb, insA, encIns, ins_dec, ins_eta, *] | simp (disch := omega) only [if_pos, if_neg] | refine R.seq ?_ | refine LCB.text ?_ | refine LCB.quiet rfl ?_ | refine R.anyX ?_ | refine R.block ?_ | refine LCB.skip ?_ | refine LCB.exit ?_ | refine LCB.ret ?_ | ((first | refine RetOk.val hcl ?_ | refine Weak.at hcl ?_); simp only [seval, evw, List.forall_mem_cons, List.forall_mem_map, List.forall_mem_append, List.not_mem_nil, encB_def, encN_def, sb, insA, encIns, ins_dec, ins_eta, *]) | ((first | refine LCB.cond (by simp only [seval, evx] <;> rfl) ?_ ?_ | refine wpG_split (by simp only [seval, evx] <;> rfl) ?_ ?_ | refine wxG_split (by simp only [seval, evx] <;> rfl) ?_ ?_) <;> (intro hc; try simp only [seval, nf] at hc)) | refine ACalls.inst ?_ | refine CallX.inst ?_ | (with_reducible refine And.intro ?_ ?_) | exact True.intro)
    first | refine ACalls.pure (h1.of) ?_ | refine CallP.pure (h1.of) rfl ?_ | refine CallX.pure (h1.of) ?_
    repeat' (first | simp only [seval, evx, beq_self_eq_true, encB_def, encN_def, sb, insA, encIns, ins_dec, ins_eta, *] | simp (disch := omega) only [if_pos, if_neg] | refine R.seq ?_ | refine LCB.text ?_ | refine LCB.quiet rfl ?_ | refine R.anyX ?_ | refine R.block ?_ | refine LCB.skip ?_ | refine LCB.exit ?_ | refine LCB.ret ?_ | ((first | refine RetOk.val hcl ?_ | refine Weak.at hcl ?_); simp only [seval, evw, List.forall_mem_cons, List.forall_mem_map, List.forall_mem_append, List.not_mem_nil, encB_def, encN_def, sb, insA, encIns, ins_dec, ins_eta, *]) | ((first | refine LCB.cond (by simp only [seval, evx] <;> rfl) ?_ ?_ | refine wpG_split (by simp only [seval, evx] <;> rfl) ?_ ?_ | refine wxG_split (by simp only [seval, evx] <;> rfl) ?_ ?_) <;> (intro hc; try simp only [seval, nf] at hc)) | refine ACalls.inst ?_ | refine CallX.inst ?_ | (with_reducible refine And.intro ?_ ?_) | exact True.intro)
  obtain ⟨a, rfl, ha, hf, hto⟩ := may_iff hm
  have h2 := alloc_put_ok f a l ha hf hl hto
  have hbad := putF_bad (f := f) (l := l) (p := (a : Int))
  have hgood := putF_good (l := l) hm
  rw [hm] at h1
  unfold encFn at *
  replace h1 := Hold.mk h1
  replace h2 := Hold.mk h2
  replace hto := Hold.mk hto
  replace hbad := Hold.mk hbad
  replace hgood := Hold.mk hgood
  clear hm
  repeat' (first | simp only [seval, evx, beq_self_eq_true, encB_def, encN_def, sb, insA, encIns, ins_dec, ins_eta, *] | simp (disch := omega) only [if_pos, if_neg] | refine R.seq ?_ | refine LCB.text ?_ | refine LCB.quiet rfl ?_ | refine R.anyX ?_ | refine R.block ?_ | refine LCB.skip ?_ | refine LCB.exit ?_ | refine LCB.ret ?_ | ((first | refine RetOk.val hcl ?_ | refine Weak.at hcl ?_); simp only [seval, evw, List.forall_mem_cons, List.forall_mem_map, List.forall_mem_append, List.not_mem_nil, encB_def, encN_def, sb, insA, encIns, ins_dec, ins_eta, *]) | ((first | refine LCB.cond (by simp only [seval, evx] <;> rfl) ?_ ?_ | refine wpG_split (by simp only [seval, evx] <;> rfl) ?_ ?_ | refine wxG_split (by simp only [seval, evx] <;> rfl) ?_ ?_) <;> (intro hc; try simp only [seval, nf] at hc)) | refine ACalls.inst ?_ | refine CallX.inst ?_ | (with_reducible refine And.intro ?_ ?_) | exact True.intro)
  first | refine ACalls.pure (h1.of) ?_ | refine CallP.pure (h1.of) rfl ?_ | refine CallX.pure (h1.of) ?_
  repeat' (first | simp only [seval, evx, beq_self_eq_true, encB_def, encN_def, sb, insA, encIns, ins_dec, ins_eta, *] | simp (disch := omega) only [if_pos, if_neg] | refine R.seq ?_ | refine LCB.text ?_ | refine LCB.quiet rfl ?_ | refine R.anyX ?_ | refine R.block ?_ | refine LCB.skip ?_ | refine LCB.exit ?_ | refine LCB.ret ?_ | ((first | refine RetOk.val hcl ?_ | refine Weak.at hcl ?_); simp only [seval, evw, List.forall_mem_cons, List.forall_mem_map, List.forall_mem_append, List.not_mem_nil, encB_def, encN_def, sb, insA, encIns, ins_dec, ins_eta, *]) | ((first | refine LCB.cond (by simp only [seval, evx] <;> rfl) ?_ ?_ | refine wpG_split (by simp only [seval, evx] <;> rfl) ?_ ?_ | refine wxG_split (by simp only [seval, evx] <;> rfl) ?_ ?_) <;> (intro hc; try simp only [seval, nf] at hc)) | refine ACalls.inst ?_ | refine CallX.inst ?_ | (with_reducible refine And.intro ?_ ?_) | exact True.intro)
  refine R.loop (S := Nat) ⟨fun i => [(0, .list (f.map encIns)), (1, .int .i64 (a : Int)), (2, .list (l.map encIns)), (14, .list (l.map encIns)), (15, .int .i64 (l.length : Int)), (16, .int .i64 (i : Int))], fun i => H ++ [], fun i => i ≤ l.length ∧ (l.drop i).any (badIn (f.length : Int)) = l.any (badIn (f.length : Int)), fun i => l.length - i⟩ 0 ⟨Nat.zero_le _, rfl⟩ (Weak.at hcl ?_) ?_
  · simp only [seval, evw, List.forall_mem_cons, List.forall_mem_map, List.forall_mem_append, List.not_mem_nil, encB_def, encN_def, sb, insA, encIns, ins_dec, ins_eta, *]
  rintro i ⟨hi, hq⟩
  simp only at hi hq ⊢
  by_cases hlt : i < l.length
  · have hg := getD_encIns hlt
    rw [drop_ins hlt, List.any_cons] at hq
    have e3 : (i : Int) < (l.length : Int) := by omega
    have e4 : IntKind.i64.wrap ((i : Int) + 1) = ((i + 1 : Nat) : Int) := by rw [IntKind.wrap_i64]; omega
    have hc1 := ins_Check_ok (l.getD i noIns) (f.length : Int)
    generalize l.getD i noIns = x at *
    rw [insA_eq] at hc1
    have hbd : badIn (f.length : Int) x = (decide (16 ≤ x.op) || !decide (chk x (f.length : Int) = 0)) := rfl
    replace hc1 := Hold.mk hc1
    replace hq := Hold.mk hq
    replace hbd := Hold.mk hbd
    by_cases ho : (16 : Int) ≤ x.op
    · have hr := hbad.of (by rw [← hq.of, hbd.of, decide_eq_true ho]; rfl)
      repeat' (first | simp only [seval, evx, beq_self_eq_true, encB_def, encN_def, sb, insA, encIns, ins_dec, ins_eta, *] | simp (disch := omega) only [if_pos, if_neg] | refine R.seq ?_ | refine LCB.text ?_ | refine LCB.quiet rfl ?_ | refine R.anyX ?_ | refine R.block ?_ | refine LCB.skip ?_ | refine LCB.exit ?_ | refine LCB.ret ?_ | ((first | refine RetOk.val hcl ?_ | refine Weak.at hcl ?_); simp only [seval, evw, List.forall_mem_cons, List.forall_mem_map, List.forall_mem_append, List.not_mem_nil, encB_def, encN_def, sb, insA, encIns, ins_dec, ins_eta, *]) | ((first | refine LCB.cond (by simp only [seval, evx] <;> rfl) ?_ ?_ | refine wpG_split (by simp only [seval, evx] <;> rfl) ?_ ?_ | refine wxG_split (by simp only [seval, evx] <;> rfl) ?_ ?_) <;> (intro hc; try simp only [seval, nf] at hc)) | refine ACalls.inst ?_ | refine CallX.inst ?_ | (with_reducible refine And.intro ?_ ?_) | exact True.intro)
    · by_cases hk : chk x (f.length : Int) = 0
      · have hq2 : (l.drop (i + 1)).any (badIn (f.length : Int)) = l.any (badIn (f.length : Int)) := by
          rw [← hq.of, hbd.of, decide_eq_false ho, decide_eq_true hk]; rfl
        replace hq2 := Hold.mk hq2
        repeat' (first | simp only [seval, evx, beq_self_eq_true, encB_def, encN_def, sb, insA, encIns, ins_dec, ins_eta, *] | simp (disch := omega) only [if_pos, if_neg] | refine R.seq ?_ | refine LCB.text ?_ | refine LCB.quiet rfl ?_ | refine R.anyX ?_ | refine R.block ?_ | refine LCB.skip ?_ | refine LCB.exit ?_ | refine LCB.ret ?_ | ((first | refine RetOk.val hcl ?_ | refine Weak.at hcl ?_); simp only [seval, evw, List.forall_mem_cons, List.forall_mem_map, List.forall_mem_append, List.not_mem_nil, encB_def, encN_def, sb, insA, encIns, ins_dec, ins_eta, *]) | ((first | refine LCB.cond (by simp only [seval, evx] <;> rfl) ?_ ?_ | refine wpG_split (by simp only [seval, evx] <;> rfl) ?_ ?_ | refine wxG_split (by simp only [seval, evx] <;> rfl) ?_ ?_) <;> (intro hc; try simp only [seval, nf] at hc)) | refine ACalls.inst ?_ | refine CallX.inst ?_ | (with_reducible refine And.intro ?_ ?_) | exact True.intro)
        first | refine ACalls.pure (hc1.of) ?_ | refine CallP.pure (hc1.of) rfl ?_ | refine CallX.pure (hc1.of) ?_
        repeat' (first | simp only [seval, evx, beq_self_eq_true, encB_def, encN_def, sb, insA, encIns, ins_dec, ins_eta, *] | simp (disch := omega) only [if_pos, if_neg] | refine R.seq ?_ | refine LCB.text ?_ | refine LCB.quiet rfl ?_ | refine R.anyX ?_ | refine R.block ?_ | refine LCB.skip ?_ | refine LCB.exit ?_ | refine LCB.ret ?_ | ((first | refine RetOk.val hcl ?_ | refine Weak.at hcl ?_); simp only [seval, evw, List.forall_mem_cons, List.forall_mem_map, List.forall_mem_append, List.not_mem_nil, encB_def, encN_def, sb, insA, encIns, ins_dec, ins_eta, *]) | ((first | refine LCB.cond (by simp only [seval, evx] <;> rfl) ?_ ?_ | refine wpG_split (by simp only [seval, evx] <;> rfl) ?_ ?_ | refine wxG_split (by simp only [seval, evx] <;> rfl) ?_ ?_) <;> (intro hc; try simp only [seval, nf] at hc)) | refine ACalls.inst ?_ | refine CallX.inst ?_ | (with_reducible refine And.intro ?_ ?_) | exact True.intro)
        refine ⟨i + 1, ⟨hlt, hq2.of⟩, by simp only; omega, Weak.at hcl ?_⟩
        simp only [seval, evw, List.forall_mem_cons, List.forall_mem_map, List.forall_mem_append, List.not_mem_nil, encB_def, encN_def, sb, insA, encIns, ins_dec, ins_eta, *]
      · have hr := hbad.of (by rw [← hq.of, hbd.of, decide_eq_false ho, decide_eq_false hk]; rfl)
        repeat' (first | simp only [seval, evx, beq_self_eq_true, encB_def, encN_def, sb, insA, encIns, ins_dec, ins_eta, *] | simp (disch := omega) only [if_pos, if_neg] | refine R.seq ?_ | refine LCB.text ?_ | refine LCB.quiet rfl ?_ | refine R.anyX ?_ | refine R.block ?_ | refine LCB.skip ?_ | refine LCB.exit ?_ | refine LCB.ret ?_ | ((first | refine RetOk.val hcl ?_ | refine Weak.at hcl ?_); simp only [seval, evw, List.forall_mem_cons, List.forall_mem_map, List.forall_mem_append, List.not_mem_nil, encB_def, encN_def, sb, insA, encIns, ins_dec, ins_eta, *]) | ((first | refine LCB.cond (by simp only [seval, evx] <;> rfl) ?_ ?_ | refine wpG_split (by simp only [seval, evx] <;> rfl) ?_ ?_ | refine wxG_split (by simp only [seval, evx] <;> rfl) ?_ ?_) <;> (intro hc; try simp only [seval, nf] at hc)) | refine ACalls.inst ?_ | refine CallX.inst ?_ | (with_reducible refine And.intro ?_ ?_) | exact True.intro)
        first | refine ACalls.pure (hc1.of) ?_ | refine CallP.pure (hc1.of) rfl ?_ | refine CallX.pure (hc1.of) ?_
        repeat' (first | simp only [seval, evx, beq_self_eq_true, encB_def, encN_def, sb, insA, encIns, ins_dec, ins_eta, *] | simp (disch := omega) only [if_pos, if_neg] | refine R.seq ?_ | refine LCB.text ?_ | refine LCB.quiet rfl ?_ | refine R.anyX ?_ | refine R.block ?_ | refine LCB.skip ?_ | refine LCB.exit ?_ | refine LCB.ret ?_ | ((first | refine RetOk.val hcl ?_ | refine Weak.at hcl ?_); simp only [seval, evw, List.forall_mem_cons, List.forall_mem_map, List.forall_mem_append, List.not_mem_nil, encB_def, encN_def, sb, insA, encIns, ins_dec, ins_eta, *]) | ((first | refine LCB.cond (by simp only [seval, evx] <;> rfl) ?_ ?_ | refine wpG_split (by simp only [seval, evx] <;> rfl) ?_ ?_ | refine wxG_split (by simp only [seval, evx] <;> rfl) ?_ ?_) <;> (intro hc; try simp only [seval, nf] at hc)) | refine ACalls.inst ?_ | refine CallX.inst ?_ | (with_reducible refine And.intro ?_ ?_) | exact True.intro)
  · have hie : i = l.length := by omega
    subst hie
    rw [List.drop_length, List.any_nil] at hq
    have hg := hgood.of hq.symm
    have e3 : ¬ (l.length : Int) < (l.length : Int) := by omega
    rw [hg, resP_eq]
    have h2 := h2.of
    rw [resP_eq] at h2
    replace h2 := Hold.mk h2
    clear hg hq
    repeat' (first | simp only [seval, evx, beq_self_eq_true, encB_def, encN_def, sb, insA, encIns, ins_dec, ins_eta, *] | simp (disch := omega) only [if_pos, if_neg] | refine R.seq ?_ | refine LCB.text ?_ | refine LCB.quiet rfl ?_ | refine R.anyX ?_ | refine R.block ?_ | refine LCB.skip ?_ | refine LCB.exit ?_ | refine LCB.ret ?_ | ((first | refine RetOk.val hcl ?_ | refine Weak.at hcl ?_); simp only [seval, evw, List.forall_mem_cons, List.forall_mem_map, List.forall_mem_append, List.not_mem_nil, encB_def, encN_def, sb, insA, encIns, ins_dec, ins_eta, *]) | ((first | refine LCB.cond (by simp only [seval, evx] <;> rfl) ?_ ?_ | refine wpG_split (by simp only [seval, evx] <;> rfl) ?_ ?_ | refine wxG_split (by simp only [seval, evx] <;> rfl) ?_ ?_) <;> (intro hc; try simp only [seval, nf] at hc)) | refine ACalls.inst ?_ | refine CallX.inst ?_ | (with_reducible refine And.intro ?_ ?_) | exact True.intro)
    first | refine ACalls.pure (h2.of) ?_ | refine CallP.pure (h2.of) rfl ?_ | refine CallX.pure (h2.of) ?_
    repeat' (first | simp only [seval, evx, beq_self_eq_true, encB_def, encN_def, sb, insA, encIns, ins_dec, ins_eta, *] | simp (disch := omega) only [if_pos, if_neg] | refine R.seq ?_ | refine LCB.text ?_ | refine LCB.quiet rfl ?_ | refine R.anyX ?_ | refine R.block ?_ | refine LCB.skip ?_ | refine LCB.exit ?_ | refine LCB.ret ?_ | ((first | refine RetOk.val hcl ?_ | refine Weak.at hcl ?_); simp only [seval, evw, List.forall_mem_cons, List.forall_mem_map, List.forall_mem_append, List.not_mem_nil, encB_def, encN_def, sb, insA, encIns, ins_dec, ins_eta, *]) | ((first | refine LCB.cond (by simp only [seval, evx] <;> rfl) ?_ ?_ | refine wpG_split (by simp only [seval, evx] <;> rfl) ?_ ?_ | refine wxG_split (by simp only [seval, evx] <;> rfl) ?_ ?_) <;> (intro hc; try simp only [seval, nf] at hc)) | refine ACalls.inst ?_ | refine CallX.inst ?_ | (with_reducible refine And.intro ?_ ?_) | exact True.intro)
set_option maxHeartbeats 4000000 in
theorem ref23_Put_ok (f : List Ins) (p : Int) (l : List Ins) (hl : l.length ≤ 1000) :
    Pure Tryd.prog 12 [encFn f, .int .i64 p, encFn l] (resP (putF f p l)) := by
  intro H
  refine ACalls.go joineryref23_Put.low (by simp) fun hcl => ?_
  have h1 := ref23_has_ok f p
  cases hm : mayB f p
  · have hr := putF_no (l := l) hm
    rw [hm] at h1
    unfold encFn at *
    replace h1 := Hold.mk h1
    repeat' (first | simp only [seval, evx, beq_self_eq_true, encB_def, encN_def, sb, insA, encIns, ins_dec, ins_eta, *] | simp (disch := omega) only [if_pos, if_neg] | refine R.seq ?_ | refine LCB.text ?_ | refine LCB.quiet rfl ?_ | refine R.anyX ?_ | refine R.block ?_ | refine LCB.skip ?_ | refine LCB.exit ?_ | refine LCB.ret ?_ | ((first | refine RetOk.val hcl ?_ | refine Weak.at hcl ?_); simp only [seval, evw, List.forall_mem_cons, List.forall_mem_map, List.forall_mem_append, List.not_mem_nil, encB_def, encN_def, sb, insA, encIns, ins_dec, ins_eta, *]) | ((first | refine LCB.cond (by simp only [seval, evx] <;> rfl) ?_ ?_ | refine wpG_split (by simp only [seval, evx] <;> rfl) ?_ ?_ | refine wxG_split (by simp only [seval, evx] <;> rfl) ?_ ?_) <;> (intro hc; try simp only [seval, nf] at hc)) | refine ACalls.inst ?_ | refine CallX.inst ?_ | (with_reducible refine And.intro ?_ ?_) | exact True.intro)
    first | refine ACalls.pure (h1.of) ?_ | refine CallP.pure (h1.of) rfl ?_ | refine CallX.pure (h1.of) ?_
    repeat' (first | simp only [seval, evx, beq_self_eq_true, encB_def, encN_def, sb, insA, encIns, ins_dec, ins_eta, *] | simp (disch := omega) only [if_pos, if_neg] | refine R.seq ?_ | refine LCB.text ?_ | refine LCB.quiet rfl ?_ | refine R.anyX ?_ | refine R.block ?_ | refine LCB.skip ?_ | refine LCB.exit ?_ | refine LCB.ret ?_ | ((first | refine RetOk.val hcl ?_ | refine Weak.at hcl ?_); simp only [seval, evw, List.forall_mem_cons, List.forall_mem_map, List.forall_mem_append, List.not_mem_nil, encB_def, encN_def, sb, insA, encIns, ins_dec, ins_eta, *]) | ((first | refine LCB.cond (by simp only [seval, evx] <;> rfl) ?_ ?_ | refine wpG_split (by simp only [seval, evx] <;> rfl) ?_ ?_ | refine wxG_split (by simp only [seval, evx] <;> rfl) ?_ ?_) <;> (intro hc; try simp only [seval, nf] at hc)) | refine ACalls.inst ?_ | refine CallX.inst ?_ | (with_reducible refine And.intro ?_ ?_) | exact True.intro)
  obtain ⟨a, rfl, ha, hf, hto⟩ := may_iff hm
  have h2 := ref23_put_ok f a l ha hf hl hto
  have hbad := putF_bad (f := f) (l := l) (p := (a : Int))
  have hgood := putF_good (l := l) hm
  rw [hm] at h1
  unfold encFn at *
  replace h1 := Hold.mk h1
  replace h2 := Hold.mk h2
  replace hto := Hold.mk hto
  replace hbad := Hold.mk hbad
  replace hgood := Hold.mk hgood
  clear hm
  repeat' (first | simp only [seval, evx, beq_self_eq_true, encB_def, encN_def, sb, insA, encIns, ins_dec, ins_eta, *] | simp (disch := omega) only [if_pos, if_neg] | refine R.seq ?_ | refine LCB.text ?_ | refine LCB.quiet rfl ?_ | refine R.anyX ?_ | refine R.block ?_ | refine LCB.skip ?_ | refine LCB.exit ?_ | refine LCB.ret ?_ | ((first | refine RetOk.val hcl ?_ | refine Weak.at hcl ?_); simp only [seval, evw, List.forall_mem_cons, List.forall_mem_map, List.forall_mem_append, List.not_mem_nil, encB_def, encN_def, sb, insA, encIns, ins_dec, ins_eta, *]) | ((first | refine LCB.cond (by simp only [seval, evx] <;> rfl) ?_ ?_ | refine wpG_split (by simp only [seval, evx] <;> rfl) ?_ ?_ | refine wxG_split (by simp only [seval, evx] <;> rfl) ?_ ?_) <;> (intro hc; try simp only [seval, nf] at hc)) | refine ACalls.inst ?_ | refine CallX.inst ?_ | (with_reducible refine And.intro ?_ ?_) | exact True.intro)
  first | refine ACalls.pure (h1.of) ?_ | refine CallP.pure (h1.of) rfl ?_ | refine CallX.pure (h1.of) ?_
  repeat' (first | simp only [seval, evx, beq_self_eq_true, encB_def, encN_def, sb, insA, encIns, ins_dec, ins_eta, *] | simp (disch := omega) only [if_pos, if_neg] | refine R.seq ?_ | refine LCB.text ?_ | refine LCB.quiet rfl ?_ | refine R.anyX ?_ | refine R.block ?_ | refine LCB.skip ?_ | refine LCB.exit ?_ | refine LCB.ret ?_ | ((first | refine RetOk.val hcl ?_ | refine Weak.at hcl ?_); simp only [seval, evw, List.forall_mem_cons, List.forall_mem_map, List.forall_mem_append, List.not_mem_nil, encB_def, encN_def, sb, insA, encIns, ins_dec, ins_eta, *]) | ((first | refine LCB.cond (by simp only [seval, evx] <;> rfl) ?_ ?_ | refine wpG_split (by simp only [seval, evx] <;> rfl) ?_ ?_ | refine wxG_split (by simp only [seval, evx] <;> rfl) ?_ ?_) <;> (intro hc; try simp only [seval, nf] at hc)) | refine ACalls.inst ?_ | refine CallX.inst ?_ | (with_reducible refine And.intro ?_ ?_) | exact True.intro)
  refine R.loop (S := Nat) ⟨fun i => [(0, .list (f.map encIns)), (1, .int .i64 (a : Int)), (2, .list (l.map encIns)), (8, .int .i64 (i : Int))], fun i => H ++ [], fun i => i ≤ l.length ∧ (l.drop i).any (badIn (f.length : Int)) = l.any (badIn (f.length : Int)), fun i => l.length - i⟩ 0 ⟨Nat.zero_le _, rfl⟩ (Weak.at hcl ?_) ?_
  · simp only [seval, evw, List.forall_mem_cons, List.forall_mem_map, List.forall_mem_append, List.not_mem_nil, encB_def, encN_def, sb, insA, encIns, ins_dec, ins_eta, *]
  rintro i ⟨hi, hq⟩
  simp only at hi hq ⊢
  by_cases hlt : i < l.length
  · have hg := getD_encIns hlt
    rw [drop_ins hlt, List.any_cons] at hq
    have e3 : (i : Int) < (l.length : Int) := by omega
    have e4 : IntKind.i64.wrap ((i : Int) + 1) = ((i + 1 : Nat) : Int) := by rw [IntKind.wrap_i64]; omega
    have hc1 := ref03_Check_ok (l.getD i noIns) (f.length : Int)
    generalize l.getD i noIns = x at *
    rw [insA_eq] at hc1
    have hbd : badIn (f.length : Int) x = (decide (16 ≤ x.op) || !decide (chk x (f.length : Int) = 0)) := rfl
    replace hc1 := Hold.mk hc1
    replace hq := Hold.mk hq
    replace hbd := Hold.mk hbd
    by_cases ho : (15 : Int) < x.op
    · have hr := hbad.of (by rw [← hq.of, hbd.of, decide_eq_true (by omega)]; rfl)
      repeat' (first | simp only [seval, evx, beq_self_eq_true, encB_def, encN_def, sb, insA, encIns, ins_dec, ins_eta, *] | simp (disch := omega) only [if_pos, if_neg] | refine R.seq ?_ | refine LCB.text ?_ | refine LCB.quiet rfl ?_ | refine R.anyX ?_ | refine R.block ?_ | refine LCB.skip ?_ | refine LCB.exit ?_ | refine LCB.ret ?_ | ((first | refine RetOk.val hcl ?_ | refine Weak.at hcl ?_); simp only [seval, evw, List.forall_mem_cons, List.forall_mem_map, List.forall_mem_append, List.not_mem_nil, encB_def, encN_def, sb, insA, encIns, ins_dec, ins_eta, *]) | ((first | refine LCB.cond (by simp only [seval, evx] <;> rfl) ?_ ?_ | refine wpG_split (by simp only [seval, evx] <;> rfl) ?_ ?_ | refine wxG_split (by simp only [seval, evx] <;> rfl) ?_ ?_) <;> (intro hc; try simp only [seval, nf] at hc)) | refine ACalls.inst ?_ | refine CallX.inst ?_ | (with_reducible refine And.intro ?_ ?_) | exact True.intro)
    · by_cases hk : chk x (f.length : Int) = 0
      · have hq2 : (l.drop (i + 1)).any (badIn (f.length : Int)) = l.any (badIn (f.length : Int)) := by
          rw [← hq.of, hbd.of, decide_eq_false (by omega), decide_eq_true hk]; rfl
        replace hq2 := Hold.mk hq2
        repeat' (first | simp only [seval, evx, beq_self_eq_true, encB_def, encN_def, sb, insA, encIns, ins_dec, ins_eta, *] | simp (disch := omega) only [if_pos, if_neg] | refine R.seq ?_ | refine LCB.text ?_ | refine LCB.quiet rfl ?_ | refine R.anyX ?_ | refine R.block ?_ | refine LCB.skip ?_ | refine LCB.exit ?_ | refine LCB.ret ?_ | ((first | refine RetOk.val hcl ?_ | refine Weak.at hcl ?_); simp only [seval, evw, List.forall_mem_cons, List.forall_mem_map, List.forall_mem_append, List.not_mem_nil, encB_def, encN_def, sb, insA, encIns, ins_dec, ins_eta, *]) | ((first | refine LCB.cond (by simp only [seval, evx] <;> rfl) ?_ ?_ | refine wpG_split (by simp only [seval, evx] <;> rfl) ?_ ?_ | refine wxG_split (by simp only [seval, evx] <;> rfl) ?_ ?_) <;> (intro hc; try simp only [seval, nf] at hc)) | refine ACalls.inst ?_ | refine CallX.inst ?_ | (with_reducible refine And.intro ?_ ?_) | exact True.intro)
        first | refine ACalls.pure (hc1.of) ?_ | refine CallP.pure (hc1.of) rfl ?_ | refine CallX.pure (hc1.of) ?_
        repeat' (first | simp only [seval, evx, beq_self_eq_true, encB_def, encN_def, sb, insA, encIns, ins_dec, ins_eta, *] | simp (disch := omega) only [if_pos, if_neg] | refine R.seq ?_ | refine LCB.text ?_ | refine LCB.quiet rfl ?_ | refine R.anyX ?_ | refine R.block ?_ | refine LCB.skip ?_ | refine LCB.exit ?_ | refine LCB.ret ?_ | ((first | refine RetOk.val hcl ?_ | refine Weak.at hcl ?_); simp only [seval, evw, List.forall_mem_cons, List.forall_mem_map, List.forall_mem_append, List.not_mem_nil, encB_def, encN_def, sb, insA, encIns, ins_dec, ins_eta, *]) | ((first | refine LCB.cond (by simp only [seval, evx] <;> rfl) ?_ ?_ | refine wpG_split (by simp only [seval, evx] <;> rfl) ?_ ?_ | refine wxG_split (by simp only [seval, evx] <;> rfl) ?_ ?_) <;> (intro hc; try simp only [seval, nf] at hc)) | refine ACalls.inst ?_ | refine CallX.inst ?_ | (with_reducible refine And.intro ?_ ?_) | exact True.intro)
        refine ⟨i + 1, ⟨hlt, hq2.of⟩, by simp only; omega, Weak.at hcl ?_⟩
        simp only [seval, evw, List.forall_mem_cons, List.forall_mem_map, List.forall_mem_append, List.not_mem_nil, encB_def, encN_def, sb, insA, encIns, ins_dec, ins_eta, *]
      · have hr := hbad.of (by rw [← hq.of, hbd.of, decide_eq_false (by omega), decide_eq_false hk]; rfl)
        repeat' (first | simp only [seval, evx, beq_self_eq_true, encB_def, encN_def, sb, insA, encIns, ins_dec, ins_eta, *] | simp (disch := omega) only [if_pos, if_neg] | refine R.seq ?_ | refine LCB.text ?_ | refine LCB.quiet rfl ?_ | refine R.anyX ?_ | refine R.block ?_ | refine LCB.skip ?_ | refine LCB.exit ?_ | refine LCB.ret ?_ | ((first | refine RetOk.val hcl ?_ | refine Weak.at hcl ?_); simp only [seval, evw, List.forall_mem_cons, List.forall_mem_map, List.forall_mem_append, List.not_mem_nil, encB_def, encN_def, sb, insA, encIns, ins_dec, ins_eta, *]) | ((first | refine LCB.cond (by simp only [seval, evx] <;> rfl) ?_ ?_ | refine wpG_split (by simp only [seval, evx] <;> rfl) ?_ ?_ | refine wxG_split (by simp only [seval, evx] <;> rfl) ?_ ?_) <;> (intro hc; try simp only [seval, nf] at hc)) | refine ACalls.inst ?_ | refine CallX.inst ?_ | (with_reducible refine And.intro ?_ ?_) | exact True.intro)
        first | refine ACalls.pure (hc1.of) ?_ | refine CallP.pure (hc1.of) rfl ?_ | refine CallX.pure (hc1.of) ?_
        repeat' (first | simp only [seval, evx, beq_self_eq_true, encB_def, encN_def, sb, insA, encIns, ins_dec, ins_eta, *] | simp (disch := omega) only [if_pos, if_neg] | refine R.seq ?_ | refine LCB.text ?_ | refine LCB.quiet rfl ?_ | refine R.anyX ?_ | refine R.block ?_ | refine LCB.skip ?_ | refine LCB.exit ?_ | refine LCB.ret ?_ | ((first | refine RetOk.val hcl ?_ | refine Weak.at hcl ?_); simp only [seval, evw, List.forall_mem_cons, List.forall_mem_map, List.forall_mem_append, List.not_mem_nil, encB_def, encN_def, sb, insA, encIns, ins_dec, ins_eta, *]) | ((first | refine LCB.cond (by simp only [seval, evx] <;> rfl) ?_ ?_ | refine wpG_split (by simp only [seval, evx] <;> rfl) ?_ ?_ | refine wxG_split (by simp only [seval, evx] <;> rfl) ?_ ?_) <;> (intro hc; try simp only [seval, nf] at hc)) | refine ACalls.inst ?_ | refine CallX.inst ?_ | (with_reducible refine And.intro ?_ ?_) | exact True.intro)
  · have hie : i = l.length := by omega
    subst hie
    rw [List.drop_length, List.any_nil] at hq
    have hg := hgood.of hq.symm
    have e3 : ¬ (l.length : Int) < (l.length : Int) := by omega
    rw [hg, resP_eq]
    have h2 := h2.of
    rw [resP_eq] at h2
    replace h2 := Hold.mk h2
    clear hg hq
    repeat' (first | simp only [seval, evx, beq_self_eq_true, encB_def, encN_def, sb, insA, encIns, ins_dec, ins_eta, *] | simp (disch := omega) only [if_pos, if_neg] | refine R.seq ?_ | refine LCB.text ?_ | refine LCB.quiet rfl ?_ | refine R.anyX ?_ | refine R.block ?_ | refine LCB.skip ?_ | refine LCB.exit ?_ | refine LCB.ret ?_ | ((first | refine RetOk.val hcl ?_ | refine Weak.at hcl ?_); simp only [seval, evw, List.forall_mem_cons, List.forall_mem_map, List.forall_mem_append, List.not_mem_nil, encB_def, encN_def, sb, insA, encIns, ins_dec, ins_eta, *]) | ((first | refine LCB.cond (by simp only [seval, evx] <;> rfl) ?_ ?_ | refine wpG_split (by simp only [seval, evx] <;> rfl) ?_ ?_ | refine wxG_split (by simp only [seval, evx] <;> rfl) ?_ ?_) <;> (intro hc; try simp only [seval, nf] at hc)) | refine ACalls.inst ?_ | refine CallX.inst ?_ | (with_reducible refine And.intro ?_ ?_) | exact True.intro)
    first | refine ACalls.pure (h2.of) ?_ | refine CallP.pure (h2.of) rfl ?_ | refine CallX.pure (h2.of) ?_
    repeat' (first | simp only [seval, evx, beq_self_eq_true, encB_def, encN_def, sb, insA, encIns, ins_dec, ins_eta, *] | simp (disch := omega) only [if_pos, if_neg] | refine R.seq ?_ | refine LCB.text ?_ | refine LCB.quiet rfl ?_ | refine R.anyX ?_ | refine R.block ?_ | refine LCB.skip ?_ | refine LCB.exit ?_ | refine LCB.ret ?_ | ((first | refine RetOk.val hcl ?_ | refine Weak.at hcl ?_); simp only [seval, evw, List.forall_mem_cons, List.forall_mem_map, List.forall_mem_append, List.not_mem_nil, encB_def, encN_def, sb, insA, encIns, ins_dec, ins_eta, *]) | ((first | refine LCB.cond (by simp only [seval, evx] <;> rfl) ?_ ?_ | refine wpG_split (by simp only [seval, evx] <;> rfl) ?_ ?_ | refine wxG_split (by simp only [seval, evx] <;> rfl) ?_ ?_) <;> (intro hc; try simp only [seval, nf] at hc)) | refine ACalls.inst ?_ | refine CallX.inst ?_ | (with_reducible refine And.intro ?_ ?_) | exact True.intro)

/-! ### Split -/
def splitF (f : List Ins) (p : Int) : List Ins × Int := if mayB f p then put2 f p [⟨16, 0, 0, 0, 0, p + 1⟩] else ([], 1)
set_option maxHeartbeats 4000000 in
theorem alloc_Split_ok (f : List Ins) (p : Int) : Pure Tryd.prog 21 [encFn f, .int .i64 p] (resP (splitF f p)) := by
  intro H
  refine ACalls.go alloc_Split.low (by simp) fun hcl => ?_
  have h1 := alloc_may_ok f p
  cases hm : mayB f p
  · have hr : resP (splitF f p) = .tup [.list [], .int .i64 1] := by unfold splitF; rw [hm]; rfl
    rw [hm] at h1
    unfold encFn at *
    replace h1 := Hold.mk h1
    repeat' (first | simp only [seval, evx, beq_self_eq_true, encB_def, encN_def, sb, insA, encIns, ins_dec, ins_eta, *] | simp (disch := omega) only [if_pos, if_neg] | refine R.seq ?_ | refine LCB.text ?_ | refine LCB.quiet rfl ?_ | refine R.anyX ?_ | refine R.block ?_ | refine LCB.skip ?_ | refine LCB.exit ?_ | refine LCB.ret ?_ | ((first | refine RetOk.val hcl ?_ | refine Weak.at hcl ?_); simp only [seval, evw, List.forall_mem_cons, List.forall_mem_map, List.forall_mem_append, List.not_mem_nil, encB_def, encN_def, sb, insA, encIns, ins_dec, ins_eta, *]) | ((first | refine LCB.cond (by simp only [seval, evx] <;> rfl) ?_ ?_ | refine wpG_split (by simp only [seval, evx] <;> rfl) ?_ ?_ | refine wxG_split (by simp only [seval, evx] <;> rfl) ?_ ?_) <;> (intro hc; try simp only [seval, nf] at hc)) | refine ACalls.inst ?_ | refine CallX.inst ?_ | (with_reducible refine And.intro ?_ ?_) | exact True.intro)
    first | refine ACalls.pure (h1.of) ?_ | refine CallP.pure (h1.of) rfl ?_ | refine CallX.pure (h1.of) ?_
    repeat' (first | simp only [seval, evx, beq_self_eq_true, encB_def, encN_def, sb, insA, encIns, ins_dec, ins_eta, *] | simp (disch := omega) only [if_pos, if_neg] | refine R.seq ?_ | refine LCB.text ?_ | refine LCB.quiet rfl ?_ | refine R.anyX ?_ | refine R.block ?_ | refine LCB.skip ?_ | refine LCB.exit ?_ | refine LCB.ret ?_ | ((first | refine RetOk.val hcl ?_ | refine Weak.at hcl ?_); simp only [seval, evw, List.forall_mem_cons, List.forall_mem_map, List.forall_mem_append, List.not_mem_nil, encB_def, encN_def, sb, insA, encIns, ins_dec, ins_eta, *]) | ((first | refine LCB.cond (by simp only [seval, evx] <;> rfl) ?_ ?_ | refine wpG_split (by simp only [seval, evx] <;> rfl) ?_ ?_ | refine wxG_split (by simp only [seval, evx] <;> rfl) ?_ ?_) <;> (intro hc; try simp only [seval, nf] at hc)) | refine ACalls.inst ?_ | refine CallX.inst ?_ | (with_reducible refine And.intro ?_ ?_) | exact True.intro)
  have hr : splitF f p = put2 f p [⟨16, 0, 0, 0, 0, p + 1⟩] := by unfold splitF; rw [hm]; rfl
  rw [hr]
  obtain ⟨a, rfl, ha, hf, hto⟩ := may_iff hm
  have h2 := alloc_put_ok f a [⟨16, 0, 0, 0, 0, (a : Int) + 1⟩] ha hf (by simp) hto
  have e4 : IntKind.i64.wrap ((a : Int) + 1) = (a : Int) + 1 := by rw [IntKind.wrap_i64]; omega
  rw [hm] at h1
  generalize hrr : put2 f (a : Int) [⟨16, 0, 0, 0, 0, (a : Int) + 1⟩] = rr at *
  clear hrr hr hm
  rw [resP_eq] at *
  unfold encFn at *
  simp only [List.map_cons, List.map_nil, encIns] at h2
  replace h1 := Hold.mk h1
  replace h2 := Hold.mk h2
  replace hto := Hold.mk hto
  repeat' (first | simp only [seval, evx, beq_self_eq_true, encB_def, encN_def, sb, insA, encIns, ins_dec, ins_eta, *] | simp (disch := omega) only [if_pos, if_neg] | refine R.seq ?_ | refine LCB.text ?_ | refine LCB.quiet rfl ?_ | refine R.anyX ?_ | refine R.block ?_ | refine LCB.skip ?_ | refine LCB.exit ?_ | refine LCB.ret ?_ | ((first | refine RetOk.val hcl ?_ | refine Weak.at hcl ?_); simp only [seval, evw, List.forall_mem_cons, List.forall_mem_map, List.forall_mem_append, List.not_mem_nil, encB_def, encN_def, sb, insA, encIns, ins_dec, ins_eta, *]) | ((first | refine LCB.cond (by simp only [seval, evx] <;> rfl) ?_ ?_ | refine wpG_split (by simp only [seval, evx] <;> rfl) ?_ ?_ | refine wxG_split (by simp only [seval, evx] <;> rfl) ?_ ?_) <;> (intro hc; try simp only [seval, nf] at hc)) | refine ACalls.inst ?_ | refine CallX.inst ?_ | (with_reducible refine And.intro ?_ ?_) | exact True.intro)
  first | refine ACalls.pure (h1.of) ?_ | refine CallP.pure (h1.of) rfl ?_ | refine CallX.pure (h1.of) ?_
  repeat' (first | simp only [seval, evx, beq_self_eq_true, encB_def, encN_def, sb, insA, encIns, ins_dec, ins_eta, *] | simp (disch := omega) only [if_pos, if_neg] | refine R.seq ?_ | refine LCB.text ?_ | refine LCB.quiet rfl ?_ | refine R.anyX ?_ | refine R.block ?_ | refine LCB.skip ?_ | refine LCB.exit ?_ | refine LCB.ret ?_ | ((first | refine RetOk.val hcl ?_ | refine Weak.at hcl ?_); simp only [seval, evw, List.forall_mem_cons, List.forall_mem_map, List.forall_mem_append, List.not_mem_nil, encB_def, encN_def, sb, insA, encIns, ins_dec, ins_eta, *]) | ((first | refine LCB.cond (by simp only [seval, evx] <;> rfl) ?_ ?_ | refine wpG_split (by simp only [seval, evx] <;> rfl) ?_ ?_ | refine wxG_split (by simp only [seval, evx] <;> rfl) ?_ ?_) <;> (intro hc; try simp only [seval, nf] at hc)) | refine ACalls.inst ?_ | refine CallX.inst ?_ | (with_reducible refine And.intro ?_ ?_) | exact True.intro)
  trace_state
  refine ACalls.loseAt [.gone] [.list (f.map encIns), .int .i64 (a : Int), .list [[.int .i64 16, .int .i64 0, .int .i64 0, .int .i64 0, .int .i64 0, .int .i64 ((a : Int) + 1)]]] ?_ ?_
  · simp only [seval, evw, lk, List.forall_mem_cons, List.forall_mem_map, List.forall_mem_append, List.not_mem_nil, encB_def, encN_def, sb, insA, encIns, ins_dec, ins_eta, *]
  first | refine ACalls.pure (h2.of) ?_ | refine CallP.pure (h2.of) rfl ?_ | refine CallX.pure (h2.of) ?_
  repeat' (first | simp only [seval, evx, beq_self_eq_true, encB_def, encN_def, sb, insA, encIns, ins_dec, ins_eta, *] | simp (disch := omega) only [if_pos, if_neg] | refine R.seq ?_ | refine LCB.text ?_ | refine LCB.quiet rfl ?_ | refine R.anyX ?_ | refine R.block ?_ | refine LCB.skip ?_ | refine LCB.exit ?_ | refine LCB.ret ?_ | ((first | refine RetOk.val hcl ?_ | refine Weak.at hcl ?_); simp only [seval, evw, List.forall_mem_cons, List.forall_mem_map, List.forall_mem_append, List.not_mem_nil, encB_def, encN_def, sb, insA, encIns, ins_dec, ins_eta, *]) | ((first | refine LCB.cond (by simp only [seval, evx] <;> rfl) ?_ ?_ | refine wpG_split (by simp only [seval, evx] <;> rfl) ?_ ?_ | refine wxG_split (by simp only [seval, evx] <;> rfl) ?_ ?_) <;> (intro hc; try simp only [seval, nf] at hc)) | refine ACalls.inst ?_ | refine CallX.inst ?_ | (with_reducible refine And.intro ?_ ?_) | exact True.intro)
end Go.Proofs.YtgdopmhgmpkahaaDoor

