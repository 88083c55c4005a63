/-
  AllocCounts, of every function, place and list of instructions: what is put in makes a function just so much longer, and takes nothing out.
-/
import Derived.Test.YtgdopmhgmpkahaaDoorZ7
namespace Go.Proofs.YtgdopmhgmpkahaaDoor
open Go.ChangeShapes Go.WideShapes Go.ChangeAt Go.RowKit
set_option linter.unusedVariables false
set_option linter.unusedSimpArgs false
theorem putF_ok {f l : List Ins} {p : Int} (h : (putF f p l).2 = 0) : fnOk (putF f p l).1 = true ∧ mayB f p = true ∧ (putF f p l).1 = putL f p.toNat l := by
  cases hm : mayB f p
  · unfold putF at h; rw [hm] at h; simp at h
  · cases hb : l.any (badIn (f.length : Int))
    · have e := putF_good hm hb
      rw [e] at h ⊢
      unfold put2 at h ⊢
      split at h
      · simp at h
      · rename_i hl
        rw [if_neg hl]
        exact ⟨put_ok hm hb hl, rfl, rfl⟩
    · unfold putF at h; rw [hm, hb] at h; simp at h
theorem putF_len {f l : List Ins} {p : Int} : (putF f p l).1.length ≤ 200 ∧ ((putF f p l).2 ≠ 0 → (putF f p l).1 = []) := by
  by_cases h : (putF f p l).2 = 0
  · obtain ⟨h1, _, _⟩ := putF_ok h
    exact ⟨(fnOk_iff.1 h1).1, fun h2 => absurd h h2⟩
  · have : (putF f p l).1 = [] := by
      revert h
      unfold putF put2
      split
      · split
        · intro _; rfl
        · split
          · intro _; rfl
          · intro h; exact absurd rfl h
      · intro _; rfl
    rw [this]
    exact ⟨by simp, fun _ => rfl⟩
set_option maxHeartbeats 8000000 in
theorem AllocCounts_ok (f : List Ins) (p : Int) (l : List Ins) : Pure Tryd.prog 5 [encFn f, .int .i64 p, encFn l] (.bool true) := by
  intro H
  refine ACalls.go joinerylaw23_AllocCounts.low (by simp) fun hcl => ?_
  unfold encFn
  by_cases hf : (300 : Int) < (f.length : Int)
  · repeat' (first | simp only [seval, evx, beq_self_eq_true, encB_def, encN_def, sb, insA, encIns, ins_eta, *] | simp (disch := omega) only [if_pos, if_neg] | refine R.seq ?_ | refine LCB.text ?_ | refine LCB.quiet rfl ?_ | refine R.anyX ?_ | refine R.block ?_ | refine LCB.skip ?_ | refine LCB.exit ?_ | refine LCB.ret ?_ | ((first | refine RetOk.val hcl ?_ | refine Weak.at hcl ?_); simp only [seval, evw, List.forall_mem_cons, List.forall_mem_map, List.forall_mem_append, List.not_mem_nil, encB_def, encN_def, sb, insA, encIns, ins_eta, *]) | ((first | refine LCB.cond (by simp only [seval, evx] <;> rfl) ?_ ?_ | refine wpG_split (by simp only [seval, evx] <;> rfl) ?_ ?_ | refine wxG_split (by simp only [seval, evx] <;> rfl) ?_ ?_) <;> (intro hc; try simp only [seval, nf] at hc)) | refine ACalls.inst ?_ | refine CallX.inst ?_ | (with_reducible refine And.intro ?_ ?_) | exact True.intro)
  by_cases hl : (300 : Int) < (l.length : Int)
  · repeat' (first | simp only [seval, evx, beq_self_eq_true, encB_def, encN_def, sb, insA, encIns, ins_eta, *] | simp (disch := omega) only [if_pos, if_neg] | refine R.seq ?_ | refine LCB.text ?_ | refine LCB.quiet rfl ?_ | refine R.anyX ?_ | refine R.block ?_ | refine LCB.skip ?_ | refine LCB.exit ?_ | refine LCB.ret ?_ | ((first | refine RetOk.val hcl ?_ | refine Weak.at hcl ?_); simp only [seval, evw, List.forall_mem_cons, List.forall_mem_map, List.forall_mem_append, List.not_mem_nil, encB_def, encN_def, sb, insA, encIns, ins_eta, *]) | ((first | refine LCB.cond (by simp only [seval, evx] <;> rfl) ?_ ?_ | refine wpG_split (by simp only [seval, evx] <;> rfl) ?_ ?_ | refine wxG_split (by simp only [seval, evx] <;> rfl) ?_ ?_) <;> (intro hc; try simp only [seval, nf] at hc)) | refine ACalls.inst ?_ | refine CallX.inst ?_ | (with_reducible refine And.intro ?_ ?_) | exact True.intro)
  have h1 := alloc_Put_ok f p l (by omega)
  obtain ⟨k1, k2⟩ := putF_len (f := f) (l := l) (p := p)
  have k3 := putF_ok (f := f) (l := l) (p := p)
  obtain ⟨r, hr⟩ : ∃ r, putF f p l = r := ⟨_, rfl⟩
  rw [hr] at h1 k1 k2 k3
  obtain ⟨g, e⟩ := r
  rw [resP_eq] at h1
  simp only at h1 k1 k2 k3
  unfold encFn at h1
  by_cases he : e = 0
  case neg =>
    rw [k2 he] at h1
    clear k3 k2 k1
    replace h1 := Hold.mk h1
    repeat' (first | simp only [seval, evx, beq_self_eq_true, encB_def, encN_def, sb, insA, encIns, ins_eta, *] | simp (disch := omega) only [if_pos, if_neg] | refine R.seq ?_ | refine LCB.text ?_ | refine LCB.quiet rfl ?_ | refine R.anyX ?_ | refine R.block ?_ | refine LCB.skip ?_ | refine LCB.exit ?_ | refine LCB.ret ?_ | ((first | refine RetOk.val hcl ?_ | refine Weak.at hcl ?_); simp only [seval, evw, List.forall_mem_cons, List.forall_mem_map, List.forall_mem_append, List.not_mem_nil, encB_def, encN_def, sb, insA, encIns, ins_eta, *]) | ((first | refine LCB.cond (by simp only [seval, evx] <;> rfl) ?_ ?_ | refine wpG_split (by simp only [seval, evx] <;> rfl) ?_ ?_ | refine wxG_split (by simp only [seval, evx] <;> rfl) ?_ ?_) <;> (intro hc; try simp only [seval, nf] at hc)) | refine ACalls.inst ?_ | refine CallX.inst ?_ | (with_reducible refine And.intro ?_ ?_) | exact True.intro | refine CallX.pure h1.of ?_ | refine ACalls.pure h1.of ?_)
  obtain ⟨_, hm, hg⟩ := k3 he
  subst he
  obtain ⟨a, rfl, ha, hf2, -⟩ := may_iff hm
  rw [Int.toNat_natCast] at hg
  have hgl : g.length = f.length + l.length := by rw [hg, put_len f l (Nat.le_of_lt ha)]
  have hlt' : Hold (∀ i, i < a → g.getD i noIns = shiftI (a : Int) (l.length : Int) (f.getD i noIns)) := ⟨fun i hi => by rw [hg]; exact put_lt hi (by omega)⟩
  have hge' : Hold (∀ i, a ≤ i → i < f.length → g.getD (i + l.length) noIns = shiftI (a : Int) (l.length : Int) (f.getD i noIns)) := ⟨fun i hi h => by rw [hg]; exact put_ge hi h⟩
  have hmid : Hold (∀ i, i < l.length → g.getD (a + i) noIns = l.getD i noIns) := ⟨fun i hi => by rw [hg]; exact put_mid hi (by omega)⟩
  clear hg k3 k2 k1 hm hr
  have e0 : IntKind.i64.wrap ((f.length : Int) + (l.length : Int)) = ((f.length + l.length : Nat) : Int) := by rw [IntKind.wrap_i64]; omega
  have e1 : (g.length : Int) = ((f.length + l.length : Nat) : Int) := by rw [hgl]
  replace h1 := Hold.mk h1
  replace hgl := Hold.mk hgl
  (refine R.seq ?_; refine LCB.text ?_; repeat' (first | simp only [seval, evo, beq_self_eq_true, encB_def, encN_def, sb, insA, encIns, ins_eta, *] | simp (disch := omega) only [if_pos, if_neg]))
  refine R.cut [(0, .list (f.map encIns)), (1, .int .i64 (a : Int)), (2, .list (l.map encIns))] (H ++ []) ?_ ?_
  · repeat' (first | simp only [seval, evx, beq_self_eq_true, encB_def, encN_def, sb, insA, encIns, ins_eta, *] | simp (disch := omega) only [if_pos, if_neg] | refine R.seq ?_ | refine LCB.text ?_ | refine LCB.quiet rfl ?_ | refine R.anyX ?_ | refine R.block ?_ | refine LCB.skip ?_ | refine LCB.exit ?_ | refine LCB.ret ?_ | ((first | refine RetOk.val hcl ?_ | refine Weak.at hcl ?_); simp only [seval, evw, List.forall_mem_cons, List.forall_mem_map, List.forall_mem_append, List.not_mem_nil, encB_def, encN_def, sb, insA, encIns, ins_eta, *]) | ((first | refine LCB.cond (by simp only [seval, evx] <;> rfl) ?_ ?_ | refine wpG_split (by simp only [seval, evx] <;> rfl) ?_ ?_ | refine wxG_split (by simp only [seval, evx] <;> rfl) ?_ ?_) <;> (intro hc; try simp only [seval, nf] at hc)) | refine ACalls.inst ?_ | refine CallX.inst ?_ | (with_reducible refine And.intro ?_ ?_) | exact True.intro | refine CallX.pure h1.of ?_ | refine ACalls.pure h1.of ?_)
  refine R.cut [(0, .list (f.map encIns)), (1, .int .i64 (a : Int)), (2, .list (l.map encIns)), (7, .list (g.map encIns)), (8, .int .i64 0)] (H ++ []) ?_ ?_
  · repeat' (first | simp only [seval, evx, beq_self_eq_true, encB_def, encN_def, sb, insA, encIns, ins_eta, *] | simp (disch := omega) only [if_pos, if_neg] | refine R.seq ?_ | refine LCB.text ?_ | refine LCB.quiet rfl ?_ | refine R.anyX ?_ | refine R.block ?_ | refine LCB.skip ?_ | refine LCB.exit ?_ | refine LCB.ret ?_ | ((first | refine RetOk.val hcl ?_ | refine Weak.at hcl ?_); simp only [seval, evw, List.forall_mem_cons, List.forall_mem_map, List.forall_mem_append, List.not_mem_nil, encB_def, encN_def, sb, insA, encIns, ins_eta, *]) | ((first | refine LCB.cond (by simp only [seval, evx] <;> rfl) ?_ ?_ | refine wpG_split (by simp only [seval, evx] <;> rfl) ?_ ?_ | refine wxG_split (by simp only [seval, evx] <;> rfl) ?_ ?_) <;> (intro hc; try simp only [seval, nf] at hc)) | refine ACalls.inst ?_ | refine CallX.inst ?_ | (with_reducible refine And.intro ?_ ?_) | exact True.intro | refine CallX.pure h1.of ?_ | refine ACalls.pure h1.of ?_)
  refine R.cut [(0, .list (f.map encIns)), (1, .int .i64 (a : Int)), (2, .list (l.map encIns)), (7, .list (g.map encIns))] (H ++ []) ?_ ?_
  · repeat' (first | simp only [seval, evx, beq_self_eq_true, encB_def, encN_def, sb, insA, encIns, ins_eta, *] | simp (disch := omega) only [if_pos, if_neg] | refine R.seq ?_ | refine LCB.text ?_ | refine LCB.quiet rfl ?_ | refine R.anyX ?_ | refine R.block ?_ | refine LCB.skip ?_ | refine LCB.exit ?_ | refine LCB.ret ?_ | ((first | refine RetOk.val hcl ?_ | refine Weak.at hcl ?_); simp only [seval, evw, List.forall_mem_cons, List.forall_mem_map, List.forall_mem_append, List.not_mem_nil, encB_def, encN_def, sb, insA, encIns, ins_eta, *]) | ((first | refine LCB.cond (by simp only [seval, evx] <;> rfl) ?_ ?_ | refine wpG_split (by simp only [seval, evx] <;> rfl) ?_ ?_ | refine wxG_split (by simp only [seval, evx] <;> rfl) ?_ ?_) <;> (intro hc; try simp only [seval, nf] at hc)) | refine ACalls.inst ?_ | refine CallX.inst ?_ | (with_reducible refine And.intro ?_ ?_) | exact True.intro | refine CallX.pure h1.of ?_ | refine ACalls.pure h1.of ?_)
  refine R.cut [(0, .list (f.map encIns)), (1, .int .i64 (a : Int)), (2, .list (l.map encIns)), (7, .list (g.map encIns))] (H ++ []) ?_ ?_
  · repeat' (first | simp only [seval, evx, beq_self_eq_true, encB_def, encN_def, sb, insA, encIns, ins_eta, *] | simp (disch := omega) only [if_pos, if_neg] | refine R.seq ?_ | refine LCB.text ?_ | refine LCB.quiet rfl ?_ | refine R.anyX ?_ | refine R.block ?_ | refine LCB.skip ?_ | refine LCB.exit ?_ | refine LCB.ret ?_ | ((first | refine RetOk.val hcl ?_ | refine Weak.at hcl ?_); simp only [seval, evw, List.forall_mem_cons, List.forall_mem_map, List.forall_mem_append, List.not_mem_nil, encB_def, encN_def, sb, insA, encIns, ins_eta, *]) | ((first | refine LCB.cond (by simp only [seval, evx] <;> rfl) ?_ ?_ | refine wpG_split (by simp only [seval, evx] <;> rfl) ?_ ?_ | refine wxG_split (by simp only [seval, evx] <;> rfl) ?_ ?_) <;> (intro hc; try simp only [seval, nf] at hc)) | refine ACalls.inst ?_ | refine CallX.inst ?_ | (with_reducible refine And.intro ?_ ?_) | exact True.intro | refine CallX.pure h1.of ?_ | refine ACalls.pure h1.of ?_)
  clear h1 e0 e1
  refine R.cut [(1, .int .i64 (a : Int)), (2, .list (l.map encIns)), (7, .list (g.map encIns))] (H ++ []) ?_ ?_
  · (refine R.seq ?_; refine LCB.text ?_; repeat' (first | simp only [seval, evo, beq_self_eq_true, encB_def, encN_def, sb, insA, encIns, ins_eta, *] | simp (disch := omega) only [if_pos, if_neg]))
    refine R.block (R.loop (S := Nat) ⟨fun i => [(0, .list (f.map encIns)), (1, .int .i64 (a : Int)), (2, .list (l.map encIns)), (7, .list (g.map encIns)), (9, .int .i64 (i : Int))], fun _ => H ++ [], fun i => i ≤ f.length, fun i => f.length - i⟩ 0 (Nat.zero_le _) (Weak.at hcl ?_) ?_)
    · simp only [seval, evw, List.forall_mem_cons, List.forall_mem_map, List.forall_mem_append, List.not_mem_nil, encB_def, encN_def, sb, insA, encIns, ins_eta, *]
    intro i hi
    simp only at hi ⊢
    by_cases hlt : i < f.length
    · have hg := getD_encIns hlt
      have g1 : (i : Int) < (f.length : Int) := by omega
      have g2 : (i : Int) < (g.length : Int) := by have := hgl.of; omega
      have g3 : IntKind.i64.wrap ((i : Int) + 1) = ((i + 1 : Nat) : Int) := by rw [IntKind.wrap_i64]; omega
      have hgi := getD_encIns (l := g) (j := i) (by have := hgl.of; omega)
      by_cases hia : i < a
      · have g4 : ¬ (a : Int) ≤ (i : Int) := by omega
        have hx := hlt'.of i hia
        have hy := shift_only (a : Int) (l.length : Int) (f.getD i noIns)
        rw [hx] at hgi
        have hgo : encIns (shiftI (a : Int) (l.length : Int) (f.getD i noIns)) = encIns { f.getD i noIns with to := (shiftI (a : Int) (l.length : Int) (f.getD i noIns)).to } := by rw [hy]
        rw [hgo] at hgi
        generalize (shiftI (a : Int) (l.length : Int) (f.getD i noIns)).to = tt at *
        generalize f.getD i noIns = x at *
        clear hx hy hgo
        repeat' (first | simp only [seval, evx, beq_self_eq_true, encB_def, encN_def, sb, insA, encIns, ins_eta, *] | simp (disch := omega) only [if_pos, if_neg] | refine R.seq ?_ | refine LCB.text ?_ | refine LCB.quiet rfl ?_ | refine R.anyX ?_ | refine R.block ?_ | refine LCB.skip ?_ | refine LCB.exit ?_ | refine LCB.ret ?_ | ((first | refine RetOk.val hcl ?_ | refine Weak.at hcl ?_); simp only [seval, evw, List.forall_mem_cons, List.forall_mem_map, List.forall_mem_append, List.not_mem_nil, encB_def, encN_def, sb, insA, encIns, ins_eta, *]) | ((first | refine LCB.cond (by simp only [seval, evx] <;> rfl) ?_ ?_ | refine wpG_split (by simp only [seval, evx] <;> rfl) ?_ ?_ | refine wxG_split (by simp only [seval, evx] <;> rfl) ?_ ?_) <;> (intro hc; try simp only [seval, nf] at hc)) | refine ACalls.inst ?_ | refine CallX.inst ?_ | (with_reducible refine And.intro ?_ ?_) | exact True.intro | refine CallX.pure h1.of ?_ | refine ACalls.pure h1.of ?_)
        refine ⟨i + 1, hlt, by simp only; omega, Weak.at hcl ?_⟩
        simp only [seval, evw, List.forall_mem_cons, List.forall_mem_map, List.forall_mem_append, List.not_mem_nil, encB_def, encN_def, sb, insA, encIns, ins_eta, *]
      · have g4 : (a : Int) ≤ (i : Int) := by omega
        have hx := hge'.of i (by omega) hlt
        have hy := shift_only (a : Int) (l.length : Int) (f.getD i noIns)
        have g5 : IntKind.i64.wrap ((i : Int) + (l.length : Int)) = ((i + l.length : Nat) : Int) := by rw [IntKind.wrap_i64]; omega
        have g6 : ((i + l.length : Nat) : Int) < (g.length : Int) := by have := hgl.of; omega
        have hgj := getD_encIns (l := g) (j := i + l.length) (by have := hgl.of; omega)
        rw [hx] at hgj
        have hgo : encIns (shiftI (a : Int) (l.length : Int) (f.getD i noIns)) = encIns { f.getD i noIns with to := (shiftI (a : Int) (l.length : Int) (f.getD i noIns)).to } := by rw [hy]
        rw [hgo] at hgj
        generalize (shiftI (a : Int) (l.length : Int) (f.getD i noIns)).to = tt at *
        generalize f.getD i noIns = x at *
        generalize g.getD i noIns = z at *
        clear hx hy hgo
        repeat' (first | simp only [seval, evx, beq_self_eq_true, encB_def, encN_def, sb, insA, encIns, ins_eta, *] | simp (disch := omega) only [if_pos, if_neg] | refine R.seq ?_ | refine LCB.text ?_ | refine LCB.quiet rfl ?_ | refine R.anyX ?_ | refine R.block ?_ | refine LCB.skip ?_ | refine LCB.exit ?_ | refine LCB.ret ?_ | ((first | refine RetOk.val hcl ?_ | refine Weak.at hcl ?_); simp only [seval, evw, List.forall_mem_cons, List.forall_mem_map, List.forall_mem_append, List.not_mem_nil, encB_def, encN_def, sb, insA, encIns, ins_eta, *]) | ((first | refine LCB.cond (by simp only [seval, evx] <;> rfl) ?_ ?_ | refine wpG_split (by simp only [seval, evx] <;> rfl) ?_ ?_ | refine wxG_split (by simp only [seval, evx] <;> rfl) ?_ ?_) <;> (intro hc; try simp only [seval, nf] at hc)) | refine ACalls.inst ?_ | refine CallX.inst ?_ | (with_reducible refine And.intro ?_ ?_) | exact True.intro | refine CallX.pure h1.of ?_ | refine ACalls.pure h1.of ?_)
        refine ⟨i + 1, hlt, by simp only; omega, Weak.at hcl ?_⟩
        simp only [seval, evw, List.forall_mem_cons, List.forall_mem_map, List.forall_mem_append, List.not_mem_nil, encB_def, encN_def, sb, insA, encIns, ins_eta, *]
    · have hie : i = f.length := by omega
      subst hie
      have g1 : ¬ (f.length : Int) < (f.length : Int) := by omega
      repeat' (first | simp only [seval, evx, beq_self_eq_true, encB_def, encN_def, sb, insA, encIns, ins_eta, *] | simp (disch := omega) only [if_pos, if_neg] | refine R.seq ?_ | refine LCB.text ?_ | refine LCB.quiet rfl ?_ | refine R.anyX ?_ | refine R.block ?_ | refine LCB.skip ?_ | refine LCB.exit ?_ | refine LCB.ret ?_ | ((first | refine RetOk.val hcl ?_ | refine Weak.at hcl ?_); simp only [seval, evw, List.forall_mem_cons, List.forall_mem_map, List.forall_mem_append, List.not_mem_nil, encB_def, encN_def, sb, insA, encIns, ins_eta, *]) | ((first | refine LCB.cond (by simp only [seval, evx] <;> rfl) ?_ ?_ | refine wpG_split (by simp only [seval, evx] <;> rfl) ?_ ?_ | refine wxG_split (by simp only [seval, evx] <;> rfl) ?_ ?_) <;> (intro hc; try simp only [seval, nf] at hc)) | refine ACalls.inst ?_ | refine CallX.inst ?_ | (with_reducible refine And.intro ?_ ?_) | exact True.intro | refine CallX.pure h1.of ?_ | refine ACalls.pure h1.of ?_)
  refine R.seq ?_
  (refine R.seq ?_; refine LCB.text ?_; repeat' (first | simp only [seval, evo, beq_self_eq_true, encB_def, encN_def, sb, insA, encIns, ins_eta, *] | simp (disch := omega) only [if_pos, if_neg]))
  refine R.block (R.loop (S := Nat) ⟨fun i => [(1, .int .i64 (a : Int)), (2, .list (l.map encIns)), (7, .list (g.map encIns)), (12, .int .i64 (i : Int))], fun _ => H ++ [], fun i => i ≤ l.length, fun i => l.length - i⟩ 0 (Nat.zero_le _) (Weak.at hcl ?_) ?_)
  · simp only [seval, evw, List.forall_mem_cons, List.forall_mem_map, List.forall_mem_append, List.not_mem_nil, encB_def, encN_def, sb, insA, encIns, ins_eta, *]
  intro i hi
  simp only at hi ⊢
  by_cases hlt : i < l.length
  · have hg := getD_encIns hlt
    have g1 : (i : Int) < (l.length : Int) := by omega
    have g3 : IntKind.i64.wrap ((i : Int) + 1) = ((i + 1 : Nat) : Int) := by rw [IntKind.wrap_i64]; omega
    have g5 : IntKind.i64.wrap ((a : Int) + (i : Int)) = ((a + i : Nat) : Int) := by rw [IntKind.wrap_i64]; omega
    have g6 : ((a + i : Nat) : Int) < (g.length : Int) := by have := hgl.of; omega
    have hgi := getD_encIns (l := g) (j := a + i) (by have := hgl.of; omega)
    rw [hmid.of i hlt] at hgi
    generalize l.getD i noIns = x at *
    repeat' (first | simp only [seval, evx, beq_self_eq_true, encB_def, encN_def, sb, insA, encIns, ins_eta, *] | simp (disch := omega) only [if_pos, if_neg] | refine R.seq ?_ | refine LCB.text ?_ | refine LCB.quiet rfl ?_ | refine R.anyX ?_ | refine R.block ?_ | refine LCB.skip ?_ | refine LCB.exit ?_ | refine LCB.ret ?_ | ((first | refine RetOk.val hcl ?_ | refine Weak.at hcl ?_); simp only [seval, evw, List.forall_mem_cons, List.forall_mem_map, List.forall_mem_append, List.not_mem_nil, encB_def, encN_def, sb, insA, encIns, ins_eta, *]) | ((first | refine LCB.cond (by simp only [seval, evx] <;> rfl) ?_ ?_ | refine wpG_split (by simp only [seval, evx] <;> rfl) ?_ ?_ | refine wxG_split (by simp only [seval, evx] <;> rfl) ?_ ?_) <;> (intro hc; try simp only [seval, nf] at hc)) | refine ACalls.inst ?_ | refine CallX.inst ?_ | (with_reducible refine And.intro ?_ ?_) | exact True.intro | refine CallX.pure h1.of ?_ | refine ACalls.pure h1.of ?_)
    refine ⟨i + 1, hlt, by simp only; omega, Weak.at hcl ?_⟩
    simp only [seval, evw, List.forall_mem_cons, List.forall_mem_map, List.forall_mem_append, List.not_mem_nil, encB_def, encN_def, sb, insA, encIns, ins_eta, *]
  · have hie : i = l.length := by omega
    subst hie
    have g1 : ¬ (l.length : Int) < (l.length : Int) := by omega
    repeat' (first | simp only [seval, evx, beq_self_eq_true, encB_def, encN_def, sb, insA, encIns, ins_eta, *] | simp (disch := omega) only [if_pos, if_neg] | refine R.seq ?_ | refine LCB.text ?_ | refine LCB.quiet rfl ?_ | refine R.anyX ?_ | refine R.block ?_ | refine LCB.skip ?_ | refine LCB.exit ?_ | refine LCB.ret ?_ | ((first | refine RetOk.val hcl ?_ | refine Weak.at hcl ?_); simp only [seval, evw, List.forall_mem_cons, List.forall_mem_map, List.forall_mem_append, List.not_mem_nil, encB_def, encN_def, sb, insA, encIns, ins_eta, *]) | ((first | refine LCB.cond (by simp only [seval, evx] <;> rfl) ?_ ?_ | refine wpG_split (by simp only [seval, evx] <;> rfl) ?_ ?_ | refine wxG_split (by simp only [seval, evx] <;> rfl) ?_ ?_) <;> (intro hc; try simp only [seval, nf] at hc)) | refine ACalls.inst ?_ | refine CallX.inst ?_ | (with_reducible refine And.intro ?_ ?_) | exact True.intro | refine CallX.pure h1.of ?_ | refine ACalls.pure h1.of ?_)

theorem allocCounts_law : ∀ av, FitAs [.one (.list insSh), .one (.int .i64), .one (.list insSh)] av → ACalls Tryd.prog 5 av [] fun r _ => r = .bool true := by
  rintro _ ⟨a, _, rfl, h1, b, _, rfl, h2, c, _, rfl, h3, rfl⟩
  obtain ⟨f, rfl, hf, _⟩ := h1.inss
  obtain ⟨p, rfl, _⟩ := h2.i64
  obtain ⟨l, rfl, hl, _⟩ := h3.inss
  exact (AllocCounts_ok f p l).law

set_option maxRecDepth 100000 in
theorem allocCounts_lifted (os : Os) (started : os.Started) (H : Type) (enc : TypeId × Value → H) :
    ReturnsInHanded {} Tryd.checked os 5 .any (fun w args => (Rows.allocCountsSpec.pre enc Tryd.prog Tryd.f5 [] false w args ∧ laidMetH Tryd.prog laidL w) ∧ sizedMet enc Tryd.prog Tryd.f5 (OpenSpec.ofChange Rows.allocCountsSpec) false w args)
      (Rows.allocCountsSpec.post enc Tryd.prog Tryd.f5 false true false false) := by
  refine returnsInHanded_of_change_and (C := Tryd.checked) (X := fun w _ => laidMetH Tryd.prog laidL w) (fun _ _ _ hh h => h.of_heap hh) own_ok started (by kernel_rfl) Tryd.func5
    (ChangeSpec.witness_shaped (enc := enc) (C := Tryd.checked) (os := os) (X := fun w _ => laidMetH Tryd.prog laidL w) false (World.doorLaid Tryd.prog 400 os) #[.slice none 0 0, .int .i64 0, .slice none 0 0] 8 rfl (World.shaped_of_RefB (by kernel_rfl) (by kernel_rfl)) (by kernel_rfl) (by kernel_rfl) (by kernel_rfl) (door_met os _)) ?_
  intro W base args ds gs before hval0 hW _ _ hL _
  exact law_contract (base := base) laid_ok rfl (by kernel_rfl) (by kernel_rfl) (by kernel_rfl)
    (fun ds hl => by
      match ds, hl with
      | [d1, d2, d3], _ => rfl) (glob_of_laid hL) allocCounts_law hval0 hW

set_option maxRecDepth 100000 in
theorem allocCounts_row : Rows.AllocCountsSaid :=
  OpenClaim.holds_of_wide 5 Tryd.f5 rfl rfl rfl rfl rfl rfl rfl ⟨rfl, rfl, rfl, rfl, rfl⟩ rfl rfl rfl rfl rfl (by kernel_rfl) Tryd.func5 (by kernel_rfl)
    (of_decide_eq_true (by kernel_rfl)) (by unfold Func.isWrapper; first | (rw [if_pos (by decide +kernel)]; kernel_rfl) | (rw [if_neg (by decide +kernel)]; exact ⟨rfl, rfl⟩))
    (fun os started H enc _ => allocCounts_lifted os started H enc)

set_option maxRecDepth 100000 in
/-- **AllocCounts.** -/
theorem allocCounts_holds : Rows.AllocCountsCardSaid :=
  Claim7.holds_tied_plain_at .later [] [.data] true (true, "32cd7f34be1f3b1009565b02ab8f35c95574080d302c1bea14865de20bc3ab13") true
    allocCounts_row (fun _ h => by cases h) (by kernel_rfl) (fun _ h => by cases h) allocCounts_row_tie rfl ⟨rfl, rfl⟩ (by kernel_rfl) rfl
    (fun f fn hf hfn => by
      obtain rfl : f = 5 := Option.some.inj ((show Tryd.prog.funcNamed "joinery/joinerylaw23.AllocCounts" = some 5 by kernel_rfl).symm.trans hf) |>.symm
      obtain rfl : fn = Tryd.f5 := (Option.some.inj (Tryd.func5.symm.trans hfn)).symm
      exact ⟨by kernel_rfl, fun j t ht => by
        have hall : (Tryd.f5.params.toList.all fun u => !Tryd.prog.wantsStandIn u) = true := by kernel_rfl
        have hm : t ∈ Tryd.f5.params.toList := by
          have := Array.mem_of_getElem? ht
          simpa using this
        exact (show Tryd.prog.wantsStandIn t = false by simpa using List.all_eq_true.1 hall t hm)⟩)
    (by kernel_rfl)
end Go.Proofs.YtgdopmhgmpkahaaDoor

