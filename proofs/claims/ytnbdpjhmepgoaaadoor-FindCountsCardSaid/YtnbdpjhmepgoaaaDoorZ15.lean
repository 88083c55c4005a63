/-
  Texts of this claim, put together.
-/
import Derived.RangeFuncRecord
import Derived.RangeFuncCalls
import Derived.KernelRfl
import Derived.Test.YtnbdpjhmepgoaaaDoorZ14
namespace Go.Proofs.YtnbdpjhmepgoaaaDoor
open Go.RowKit
set_option linter.unusedVariables false
set_option linter.unusedSimpArgs false
set_option linter.defProp false in
def dq19 := And.intro @encB_def (And.intro @encN_def (And.intro @sb (And.intro @et (And.intro @eb (And.intro @ins_dec (And.intro @ins_eta (And.intro @pathH_eq (And.intro @Nat.mul_one (And.intro @tbA_eq (And.intro @M0_eq (@CallA_fn2)))))))))))
set_option maxRecDepth 20000 in
set_option maxHeartbeats 16000000 in
theorem path_From_ok (f : List Ins) (p : Int) (hfl : f.length ≤ 9223372036854775807) : Pure Tryd.prog 37 [encFn f, .int .i64 p] (pathA f p) := by
  intro H
  refine ACalls.go path_From.low (by simp) fun hcl => ?_
  have h1 := asm_Right_ok f
  unfold encFn at *
  by_cases hr : fnOk f = true ∧ 0 ≤ p ∧ p < (f.length : Int)
  case neg =>
    have hres := pathA_no hr
    rw [hres]
    unfold z26
    clear hres
    by_cases c1 : fnOk f = true
    · rw [c1] at h1
      by_cases c2 : p < 0
      · replace h1 := Hold.mk h1
        replace hr := Hold.mk hr
        replace c1 := Hold.mk c1
        repeat' (first | simp only [seval, evx, beq_self_eq_true, insA, encIns, dq19, *] | simp (disch := omega) only [if_pos, if_neg] | refine zG ?_ | refine zH ?_ | refine zI rfl ?_ | refine zK ?_ | refine zL ?_ | refine zM ?_ | refine zN ?_ | refine zO ?_ | ((first | refine zP hcl ?_ | refine zQ hcl ?_); simp only [seval, evw, fm, insA, encIns, dq19, *]) | ((first | refine zB ?_ ?_ | refine zD ?_ ?_ | refine zF ?_ ?_) <;> (intro hc; try simp only [seval, nf] at hc)) | refine zR ?_ | refine CallX.inst ?_ | (with_reducible refine And.intro ?_ ?_) | exact True.intro | refine zU h1.of ?_ | refine zT h1.of ?_)
      · have c3 : (f.length : Int) ≤ p := by
          apply Int.not_lt.1
          intro h
          exact hr ⟨c1, by omega, h⟩
        replace h1 := Hold.mk h1
        replace hr := Hold.mk hr
        replace c1 := Hold.mk c1
        repeat' (first | simp only [seval, evx, beq_self_eq_true, insA, encIns, dq19, *] | simp (disch := omega) only [if_pos, if_neg] | refine zG ?_ | refine zH ?_ | refine zI rfl ?_ | refine zK ?_ | refine zL ?_ | refine zM ?_ | refine zN ?_ | refine zO ?_ | ((first | refine zP hcl ?_ | refine zQ hcl ?_); simp only [seval, evw, fm, insA, encIns, dq19, *]) | ((first | refine zB ?_ ?_ | refine zD ?_ ?_ | refine zF ?_ ?_) <;> (intro hc; try simp only [seval, nf] at hc)) | refine zR ?_ | refine CallX.inst ?_ | (with_reducible refine And.intro ?_ ?_) | exact True.intro | refine zU h1.of ?_ | refine zT h1.of ?_)
    · replace c1 : fnOk f = false := by simpa using c1
      rw [c1] at h1
      replace h1 := Hold.mk h1
      replace hr := Hold.mk hr
      replace c1 := Hold.mk c1
      repeat' (first | simp only [seval, evx, beq_self_eq_true, insA, encIns, dq19, *] | simp (disch := omega) only [if_pos, if_neg] | refine zG ?_ | refine zH ?_ | refine zI rfl ?_ | refine zK ?_ | refine zL ?_ | refine zM ?_ | refine zN ?_ | refine zO ?_ | ((first | refine zP hcl ?_ | refine zQ hcl ?_); simp only [seval, evw, fm, insA, encIns, dq19, *]) | ((first | refine zB ?_ ?_ | refine zD ?_ ?_ | refine zF ?_ ?_) <;> (intro hc; try simp only [seval, nf] at hc)) | refine zR ?_ | refine CallX.inst ?_ | (with_reducible refine And.intro ?_ ?_) | exact True.intro | refine zU h1.of ?_ | refine zT h1.of ?_)
  obtain ⟨hf, hp0, hp1⟩ := hr
  obtain ⟨a, rfl⟩ := Int.eq_ofNat_of_zero_le hp0
  have ha : a < f.length := by omega
  have hres := pathA_yes hf ha
  rw [hres]
  clear hres hp0
  rw [hf] at h1
  have k200 : f.length ≤ 200 := (fnOk_iff.1 hf).1
  have e1 : ¬ (a : Int) < 0 := by omega
  have e2 : ¬ (f.length : Int) ≤ (a : Int) := by omega
  have hml : (bc M0).length = 200 := by rw [bc_len, M0_len]
  have htl : (tbc tb0).length = 24 := by rw [tbc_len]; rfl
  replace h1 := Hold.mk h1
  replace hf := Hold.mk hf
  (refine zG ?_; refine zH ?_; repeat' (first | simp only [seval, evo, beq_self_eq_true, insA, encIns, dq19, *] | simp (disch := omega) only [if_pos, if_neg]))
  refine R.cut [(1, .int .i64 (a : Int)), (2, .ptr H.length 1 0 0), (4, .ptr (H.length + 1) 1 0 0)] (H ++ [.vec 1 [[.list (f.map encIns)]], .vec 26 [[.int .i64 0, .imm .nilIface, .imm .nilIface, .imm .nilIface, .imm .nilIface, .imm .nilIface, .imm .nilIface, .imm .nilIface, .imm .nilIface, .imm .nilIface, .imm .nilIface, .imm .nilIface, .imm .nilIface, .imm .nilIface, .imm .nilIface, .imm .nilIface, .imm .nilIface, .imm .nilIface, .imm .nilIface, .imm .nilIface, .imm .nilIface, .imm .nilIface, .imm .nilIface, .imm .nilIface, .imm .nilIface, .int .i64 0]]]) ?_ ?_
  · repeat' (first | simp only [seval, evx, beq_self_eq_true, insA, encIns, dq19, *] | simp (disch := omega) only [if_pos, if_neg] | refine zG ?_ | refine zH ?_ | refine zI rfl ?_ | refine zK ?_ | refine zL ?_ | refine zM ?_ | refine zN ?_ | refine zO ?_ | ((first | refine zP hcl ?_ | refine zQ hcl ?_); simp only [seval, evw, fm, insA, encIns, dq19, *]) | ((first | refine zB ?_ ?_ | refine zD ?_ ?_ | refine zF ?_ ?_) <;> (intro hc; try simp only [seval, nf] at hc)) | refine zR ?_ | refine CallX.inst ?_ | (with_reducible refine And.intro ?_ ?_) | exact True.intro | refine zU h1.of ?_ | refine zT h1.of ?_)
  refine R.cut [(1, .int .i64 (a : Int)), (2, .ptr H.length 1 0 0), (4, .ptr (H.length + 1) 1 0 0), (6, .ptr (H.length + 2) 1 0 0)] (H ++ [.vec 1 [[.list (f.map encIns)]], .vec 26 [[.int .i64 0, .imm .nilIface, .imm .nilIface, .imm .nilIface, .imm .nilIface, .imm .nilIface, .imm .nilIface, .imm .nilIface, .imm .nilIface, .imm .nilIface, .imm .nilIface, .imm .nilIface, .imm .nilIface, .imm .nilIface, .imm .nilIface, .imm .nilIface, .imm .nilIface, .imm .nilIface, .imm .nilIface, .imm .nilIface, .imm .nilIface, .imm .nilIface, .imm .nilIface, .imm .nilIface, .imm .nilIface, .int .i64 0]], .vec 200 [bc M0]]) ?_ ?_
  · repeat' (first | simp only [seval, evx, beq_self_eq_true, insA, encIns, dq19, *] | simp (disch := omega) only [if_pos, if_neg] | refine zG ?_ | refine zH ?_ | refine zI rfl ?_ | refine zK ?_ | refine zL ?_ | refine zM ?_ | refine zN ?_ | refine zO ?_ | ((first | refine zP hcl ?_ | refine zQ hcl ?_); simp only [seval, evw, fm, insA, encIns, dq19, *]) | ((first | refine zB ?_ ?_ | refine zD ?_ ?_ | refine zF ?_ ?_) <;> (intro hc; try simp only [seval, nf] at hc)) | refine zR ?_ | refine CallX.inst ?_ | (with_reducible refine And.intro ?_ ?_) | exact True.intro | refine zU h1.of ?_ | refine zT h1.of ?_)
  clear hml
  refine R.cut [(2, .ptr H.length 1 0 0), (4, .ptr (H.length + 1) 1 0 0), (6, .ptr (H.length + 2) 1 0 0), (7, .ptr (H.length + 3) 1 0 0)] (H ++ pathH f M0 a tb0 0 [.int .i64 0, .imm .nilIface, .imm .nilIface, .imm .nilIface, .imm .nilIface, .imm .nilIface, .imm .nilIface, .imm .nilIface, .imm .nilIface, .imm .nilIface, .imm .nilIface, .imm .nilIface, .imm .nilIface, .imm .nilIface, .imm .nilIface, .imm .nilIface, .imm .nilIface, .imm .nilIface, .imm .nilIface, .imm .nilIface, .imm .nilIface, .imm .nilIface, .imm .nilIface, .imm .nilIface, .imm .nilIface, .int .i64 0]) ?_ ?_
  · repeat' (first | simp only [seval, evx, beq_self_eq_true, insA, encIns, dq19, *] | simp (disch := omega) only [if_pos, if_neg] | refine zG ?_ | refine zH ?_ | refine zI rfl ?_ | refine zK ?_ | refine zL ?_ | refine zM ?_ | refine zN ?_ | refine zO ?_ | ((first | refine zP hcl ?_ | refine zQ hcl ?_); simp only [seval, evw, fm, insA, encIns, dq19, *]) | ((first | refine zB ?_ ?_ | refine zD ?_ ?_ | refine zF ?_ ?_) <;> (intro hc; try simp only [seval, nf] at hc)) | refine zR ?_ | refine CallX.inst ?_ | (with_reducible refine And.intro ?_ ?_) | exact True.intro | refine zU h1.of ?_ | refine zT h1.of ?_)
  (refine zG ?_; refine zH ?_; repeat' (first | simp only [seval, evo, beq_self_eq_true, insA, encIns, dq19, *] | simp (disch := omega) only [if_pos, if_neg]))
  refine R.seq ?_
  refine R.block (R.loop (S := List Nat × List Bool × Nat × Tb) ⟨fun y => [(2, .ptr H.length 1 0 0), (4, .ptr (H.length + 1) 1 0 0), (6, .ptr (H.length + 2) 1 0 0), (7, .ptr (H.length + 3) 1 0 0), (8, .fn (.func 48) [] [.ptr H.length 1 0 0, .ptr (H.length + 3) 1 0 0, .ptr (H.length + 2) 1 0 0])],
    fun y => H ++ pathH f y.2.1 y.2.2.1 y.2.2.2 y.1.length [.int .i64 0, .imm .nilIface, .imm .nilIface, .imm .nilIface, .imm .nilIface, .imm .nilIface, .imm .nilIface, .imm .nilIface, .imm .nilIface, .imm .nilIface, .imm .nilIface, .imm .nilIface, .imm .nilIface, .imm .nilIface, .imm .nilIface, .imm .nilIface, .imm .nilIface, .imm .nilIface, .imm .nilIface, .imm .nilIface, .imm .nilIface, .imm .nilIface, .imm .nilIface, .imm .nilIface, .imm .nilIface, .int .i64 0],
    fun y => PInv f a y.1 y.2.2.1 y.2.2.2 ∧ y.2.1.length = 200 ∧ ∀ j, j < 200 → y.2.1.getD j false = decide (j ∈ y.1), fun y => f.length - y.1.length⟩ ([], M0, a, tb0) ⟨PInv.start ha, M0_len, fun j _ => by rw [M0_get]; simp⟩ (Weak.at hcl ?_) ?_)
  · simp only [seval, evw, fm, insA, encIns, dq19, *]
  rintro ⟨V, M, p, T⟩ ⟨hI, hM, hq⟩
  simp only at hI hM hq ⊢
  have hIl := hI.len
  have hfo := path_follow_ok hcl f M p T V.length [.int .i64 0, .imm .nilIface, .imm .nilIface, .imm .nilIface, .imm .nilIface, .imm .nilIface, .imm .nilIface, .imm .nilIface, .imm .nilIface, .imm .nilIface, .imm .nilIface, .imm .nilIface, .imm .nilIface, .imm .nilIface, .imm .nilIface, .imm .nilIface, .imm .nilIface, .imm .nilIface, .imm .nilIface, .imm .nilIface, .imm .nilIface, .imm .nilIface, .imm .nilIface, .imm .nilIface, .imm .nilIface, .int .i64 0] (fun m => rfl) rfl hf.of hI.lt hM hI.ok (by omega)
  have hgm := bc_get (B := M) (i := p) (by have := hI.lt; omega)
  have g2 : (p : Int) < ((200 : Nat) : Int) := by have := hI.lt; omega
  have hbl : (bc M).length = 200 := by rw [bc_len, hM]
  have htl2 : (tbc T).length = 24 := by rw [tbc_len, hI.ok.1]
  have hstep := fun m1 m2 => hI.step hf.of m1 m2
  have hstop := hI.stop
  have hloop := hI.loop
  have hqp := hq p (by have := hI.lt; omega)
  have hset : ∀ j, j < 200 → (M.set p true).getD j false = decide (j ∈ p :: V) := fun j hj => by
    rw [List.getD_eq_getElem?_getD, List.getElem?_set]
    by_cases e : p = j
    · subst e; simp [hM, hj]
    · rw [if_neg e, ← List.getD_eq_getElem?_getD, hq j hj]
      simp [Ne.symm e]
  have hVl := fun (h : PInv f a (p :: V) (nextPc f p) (afterT T (f.getD p noIns))) => h.len
  clear hI hq
  replace hset := Hold.mk hset
  replace hfo := Hold.mk hfo
  replace hstep := Hold.mk hstep
  replace hstop := Hold.mk hstop
  replace hloop := Hold.mk hloop
  replace hVl := Hold.mk hVl
  replace hqp := Hold.mk hqp
  repeat' (first | simp only [seval, evx, beq_self_eq_true, insA, encIns, dq19, *] | simp (disch := omega) only [if_pos, if_neg] | refine zG ?_ | refine zH ?_ | refine zI rfl ?_ | refine zK ?_ | refine zL ?_ | refine zM ?_ | refine zN ?_ | refine zO ?_ | ((first | refine zP hcl ?_ | refine zQ hcl ?_); simp only [seval, evw, fm, insA, encIns, dq19, *]) | ((first | refine zB ?_ ?_ | refine zD ?_ ?_ | refine zF ?_ ?_) <;> (intro hc; try simp only [seval, nf] at hc)) | refine zR ?_ | refine CallX.inst ?_ | (with_reducible refine And.intro ?_ ?_) | exact True.intro | refine zU h1.of ?_ | refine zT h1.of ?_)
  refine hfo.of.mono ?_
  rintro r' H' (⟨m1, m2, rfl, rfl⟩ | ⟨m1, rfl, rfl⟩)
  · have hv : p ∉ V := by
      have := hqp.of
      rw [m2] at this
      simpa using this.symm
    have hI2 := hstep.of m1 hv
    have hl2 := hVl.of hI2
    rw [List.length_cons] at hl2
    replace hI2 := Hold.mk hI2
    repeat' (first | simp only [seval, evx, beq_self_eq_true, insA, encIns, dq19, *] | simp (disch := omega) only [if_pos, if_neg] | refine zG ?_ | refine zH ?_ | refine zI rfl ?_ | refine zK ?_ | refine zL ?_ | refine zM ?_ | refine zN ?_ | refine zO ?_ | ((first | refine zP hcl ?_ | refine zQ hcl ?_); simp only [seval, evw, fm, insA, encIns, dq19, *]) | ((first | refine zB ?_ ?_ | refine zD ?_ ?_ | refine zF ?_ ?_) <;> (intro hc; try simp only [seval, nf] at hc)) | refine zR ?_ | refine CallX.inst ?_ | (with_reducible refine And.intro ?_ ?_) | exact True.intro | refine zU h1.of ?_ | refine zT h1.of ?_)
    refine ⟨(p :: V, M.set p true, nextPc f p, afterT T (f.getD p noIns)), ⟨hI2.of, by rw [List.length_set]; exact hM, hset.of⟩, by simp only [List.length_cons]; omega, Weak.at hcl ?_⟩
    simp only [seval, evw, fm, insA, encIns, dq19, *]
  · cases hmp : M.getD p false
    · have hno : movesAt f p = false := m1.resolve_right (by rw [hmp]; simp)
      have hpf := hstop.of hno
      rw [hmp] at hgm
      replace m1 := Hold.mk m1
      replace hno := Hold.mk hno
      repeat' (first | simp only [seval, evx, beq_self_eq_true, insA, encIns, dq19, *] | simp (disch := omega) only [if_pos, if_neg] | refine zG ?_ | refine zH ?_ | refine zI rfl ?_ | refine zK ?_ | refine zL ?_ | refine zM ?_ | refine zN ?_ | refine zO ?_ | ((first | refine zP hcl ?_ | refine zQ hcl ?_); simp only [seval, evw, fm, insA, encIns, dq19, *]) | ((first | refine zB ?_ ?_ | refine zD ?_ ?_ | refine zF ?_ ?_) <;> (intro hc; try simp only [seval, nf] at hc)) | refine zR ?_ | refine CallX.inst ?_ | (with_reducible refine And.intro ?_ ?_) | exact True.intro | refine zU h1.of ?_ | refine zT h1.of ?_)
    · have hv : p ∈ V := by
        have := hqp.of
        rw [hmp] at this
        simpa using this.symm
      have hpf := hloop.of hv
      rw [hmp] at hgm
      replace m1 := Hold.mk m1
      replace hv := Hold.mk hv
      repeat' (first | simp only [seval, evx, beq_self_eq_true, insA, encIns, dq19, *] | simp (disch := omega) only [if_pos, if_neg] | refine zG ?_ | refine zH ?_ | refine zI rfl ?_ | refine zK ?_ | refine zL ?_ | refine zM ?_ | refine zN ?_ | refine zO ?_ | ((first | refine zP hcl ?_ | refine zQ hcl ?_); simp only [seval, evw, fm, insA, encIns, dq19, *]) | ((first | refine zB ?_ ?_ | refine zD ?_ ?_ | refine zF ?_ ?_) <;> (intro hc; try simp only [seval, nf] at hc)) | refine zR ?_ | refine CallX.inst ?_ | (with_reducible refine And.intro ?_ ?_) | exact True.intro | refine zU h1.of ?_ | refine zT h1.of ?_)
end Go.Proofs.YtnbdpjhmepgoaaaDoor
namespace Go.Proofs.YtnbdpjhmepgoaaaDoor
open Go.RowKit
set_option linter.unusedVariables false
set_option linter.unusedSimpArgs false
def sideA (t : Tr) (sl : Bool) : AV := .agg [evs t.evs, .int .i64 t.out.how, .int .i64 t.out.value, ints t.out.heap, .int .i64 t.steps, .int .i64 t.work, .bool sl]
theorem sideA_eq (t : Tr) (sl : Bool) : sideA t sl = .agg [.list (t.evs.map encEv), .int .i64 t.out.how, .int .i64 t.out.value, .list (t.out.heap.map encI), .int .i64 t.steps, .int .i64 t.work, .bool sl] := rfl
theorem drop_ev {l : List Ev} {j : Nat} (h : j < l.length) : l.drop j = l.getD j ⟨0, 0, 0⟩ :: l.drop (j + 1) := by
  rw [List.drop_eq_getElem_cons h]
  simp [List.getD, h]
theorem getD_ev {l : List Ev} {j : Nat} (h : j < l.length) : (l.map encEv).getD j [] = [.int .i64 (l.getD j ⟨0, 0, 0⟩).n, .int .i64 (l.getD j ⟨0, 0, 0⟩).arg, .int .i64 (l.getD j ⟨0, 0, 0⟩).ans] := by
  simp [List.getD, h, encEv]
theorem ev_dec' (x y : Ev) : (decide (x.n = y.n) && (decide (x.arg = y.arg) && decide (x.ans = y.ans))) = decide (x = y) := by
  cases x; cases y
  rw [Bool.eq_iff_iff]
  simp
set_option linter.defProp false in
def dq20 := And.intro @sb (And.intro @ew (And.intro @ec (And.intro @et (And.intro @evs_eq (And.intro @encEv_def (And.intro @List.map_nil.{0,0} (And.intro @Nat.mul_one (And.intro @sideA_eq (@trA_eq)))))))))
set_option maxHeartbeats 4000000 in
theorem differ_Begins_ok (a b : List Ev) (hl : a.length ≤ 9223372036854775806) : Pure Tryd.prog 21 [evs a, evs b] (.bool (begB a b)) := by
  intro H
  refine ACalls.go differ_Begins.low (by simp) fun hcl => ?_
  have hB : begB a b = (decide (a.length ≤ b.length) && decide (a = b.take a.length)) := rfl
  rw [hB]
  by_cases hgt : a.length ≤ b.length
  · have e1 : ¬ (b.length : Int) < (a.length : Int) := by omega
    rw [decide_eq_true hgt, Bool.true_and]
    have hs : decide (a = b.take a.length) = decide (a.drop 0 = (b.take a.length).drop 0) := rfl
    generalize decide (a = b.take a.length) = B at *
    replace hs := Hold.mk hs
    replace hgt := Hold.mk hgt
    replace hB := Hold.mk hB
    repeat' (first | simp only [seval, evx, beq_self_eq_true, dq20, *] | simp (disch := omega) only [if_pos, if_neg] | refine zG ?_ | refine zH ?_ | refine zI rfl ?_ | refine zK ?_ | refine zL ?_ | refine zM ?_ | refine zN ?_ | refine zO ?_ | ((first | refine zP hcl ?_ | refine zQ hcl ?_); simp only [seval, evw, fm, dq20, *]) | ((first | refine zB ?_ ?_ | refine zD ?_ ?_ | refine zF ?_ ?_) <;> (intro hc; try simp only [seval, nf] at hc)) | refine zR ?_ | refine CallX.inst ?_ | (with_reducible refine And.intro ?_ ?_) | exact True.intro)
    refine R.loop (S := Nat) ⟨fun i => [(0, .list (a.map encEv)), (1, .list (b.map encEv)), (12, .list (a.map encEv)), (13, .int .i64 (a.length : Int)), (14, .int .i64 (i : Int))], fun _ => H ++ [],
      fun i => i ≤ a.length ∧ decide (a.drop i = (b.take a.length).drop i) = B, fun i => a.length - i⟩ 0 ⟨Nat.zero_le _, hs.of.symm⟩ (Weak.at hcl ?_) ?_
    · simp only [seval, evw, fm, dq20, *]
    rintro i ⟨hi, hq⟩
    simp only at hi hq ⊢
    by_cases hlt : i < a.length
    · have hg := getD_ev hlt
      have hlt2 : i < b.length := by have := hgt.of; omega
      have hg2 := getD_ev hlt2
      have hd2 : (b.take a.length).drop i = b.getD i ⟨0, 0, 0⟩ :: (b.take a.length).drop (i + 1) := by
        rw [drop_ev (by rw [List.length_take]; omega)]
        congr 1
        rw [List.getD_eq_getElem?_getD, List.getElem?_take, if_pos hlt, List.getD_eq_getElem?_getD]
      rw [drop_ev hlt, hd2] at hq
      have hne := ev_dec' (a.getD i ⟨0, 0, 0⟩) (b.getD i ⟨0, 0, 0⟩)
      have e3 : (i : Int) < (a.length : Int) := by omega
      have e5 : (i : Int) < (b.length : Int) := by omega
      have e4 : IntKind.i64.wrap ((i : Int) + 1) = ((i + 1 : Nat) : Int) := by rw [IntKind.wrap_i64]; omega
      clear hd2
      generalize a.getD i ⟨0, 0, 0⟩ = x at *
      generalize b.getD i ⟨0, 0, 0⟩ = y at *
      by_cases hxy : x = y
      · subst hxy
        have hq2 : decide (a.drop (i + 1) = (b.take a.length).drop (i + 1)) = B := by rw [← hq]; simp
        clear hq hne
        replace hq2 := Hold.mk hq2
        repeat' (first | simp only [seval, evx, beq_self_eq_true, dq20, *] | simp (disch := omega) only [if_pos, if_neg] | refine zG ?_ | refine zH ?_ | refine zI rfl ?_ | refine zK ?_ | refine zL ?_ | refine zM ?_ | refine zN ?_ | refine zO ?_ | ((first | refine zP hcl ?_ | refine zQ hcl ?_); simp only [seval, evw, fm, dq20, *]) | ((first | refine zB ?_ ?_ | refine zD ?_ ?_ | refine zF ?_ ?_) <;> (intro hc; try simp only [seval, nf] at hc)) | refine zR ?_ | refine CallX.inst ?_ | (with_reducible refine And.intro ?_ ?_) | exact True.intro)
        refine ⟨i + 1, ⟨hlt, hq2.of⟩, by simp only; omega, Weak.at hcl ?_⟩
        simp only [seval, evw, fm, dq20, *]
      · rw [decide_eq_false hxy] at hne
        have hB2 : B = false := by rw [← hq]; simp [hxy]
        replace hq := Hold.mk hq
        repeat' (first | simp only [seval, evx, beq_self_eq_true, dq20, *] | simp (disch := omega) only [if_pos, if_neg] | refine zG ?_ | refine zH ?_ | refine zI rfl ?_ | refine zK ?_ | refine zL ?_ | refine zM ?_ | refine zN ?_ | refine zO ?_ | ((first | refine zP hcl ?_ | refine zQ hcl ?_); simp only [seval, evw, fm, dq20, *]) | ((first | refine zB ?_ ?_ | refine zD ?_ ?_ | refine zF ?_ ?_) <;> (intro hc; try simp only [seval, nf] at hc)) | refine zR ?_ | refine CallX.inst ?_ | (with_reducible refine And.intro ?_ ?_) | exact True.intro)
    · have hie : i = a.length := by omega
      subst hie
      have e3 : ¬ (a.length : Int) < (a.length : Int) := by omega
      have hB2 : B = true := by rw [← hq]; simp
      replace hq := Hold.mk hq
      repeat' (first | simp only [seval, evx, beq_self_eq_true, dq20, *] | simp (disch := omega) only [if_pos, if_neg] | refine zG ?_ | refine zH ?_ | refine zI rfl ?_ | refine zK ?_ | refine zL ?_ | refine zM ?_ | refine zN ?_ | refine zO ?_ | ((first | refine zP hcl ?_ | refine zQ hcl ?_); simp only [seval, evw, fm, dq20, *]) | ((first | refine zB ?_ ?_ | refine zD ?_ ?_ | refine zF ?_ ?_) <;> (intro hc; try simp only [seval, nf] at hc)) | refine zR ?_ | refine CallX.inst ?_ | (with_reducible refine And.intro ?_ ?_) | exact True.intro)
  · have e1 : (b.length : Int) < (a.length : Int) := by omega
    rw [decide_eq_false hgt, Bool.false_and]
    clear hB
    repeat' (first | simp only [seval, evx, beq_self_eq_true, dq20, *] | simp (disch := omega) only [if_pos, if_neg] | refine zG ?_ | refine zH ?_ | refine zI rfl ?_ | refine zK ?_ | refine zL ?_ | refine zM ?_ | refine zN ?_ | refine zO ?_ | ((first | refine zP hcl ?_ | refine zQ hcl ?_); simp only [seval, evw, fm, dq20, *]) | ((first | refine zB ?_ ?_ | refine zD ?_ ?_ | refine zF ?_ ?_) <;> (intro hc; try simp only [seval, nf] at hc)) | refine zR ?_ | refine CallX.inst ?_ | (with_reducible refine And.intro ?_ ?_) | exact True.intro)
theorem differ_Halted_ok (t : Tr) : Pure Tryd.prog 23 [trA t] (.bool (haltB t.out)) := by
  intro H
  refine ACalls.go differ_Halted.low (by simp) fun hcl => ?_
  rw [trA_eq]
  generalize hb : haltB t.out = b
  have hb' : b = (decide (1 ≤ t.out.how) && decide (t.out.how ≤ 4)) := by rw [← hb]; rfl
  clear hb
  replace hb' := Hold.mk hb'
  repeat' (first | simp only [seval, evx, beq_self_eq_true, dq20, *] | simp (disch := omega) only [if_pos, if_neg] | refine zG ?_ | refine zH ?_ | refine zI rfl ?_ | refine zK ?_ | refine zL ?_ | refine zM ?_ | refine zN ?_ | refine zO ?_ | ((first | refine zP hcl ?_ | refine zQ hcl ?_); simp only [seval, evw, fm, dq20, *]) | ((first | refine zB ?_ ?_ | refine zD ?_ ?_ | refine zF ?_ ?_) <;> (intro hc; try simp only [seval, nf] at hc)) | refine zR ?_ | refine CallX.inst ?_ | (with_reducible refine And.intro ?_ ?_) | exact True.intro)
  all_goals rw [hb'.of]
  all_goals first
    | (rw [decide_eq_true (by omega), decide_eq_true (by omega)]; rfl)
    | (symm; rw [Bool.and_eq_false_iff, decide_eq_false_iff_not, decide_eq_false_iff_not]; omega)
    | (rw [Bool.eq_iff_iff]; simp; omega)
set_option linter.defProp false in
def dq21 := And.intro @sb (And.intro @ew (And.intro @ec (And.intro @et (And.intro @evs_eq (And.intro @encEv_def (And.intro @List.map_nil.{0,0} (@Nat.mul_one)))))))
theorem differ_either_ok {g : FuncId} {a b : Tr} {p q x y : Bool} (g1 : Pure Tryd.prog g [sideA a p, sideA b q] (.bool x)) (g2 : Pure Tryd.prog g [sideA b q, sideA a p] (.bool y)) : Pure Tryd.prog 19 [sideA a p, sideA b q, .fn (.func g) [] []] (.bool (x || y)) := by
  intro H
  refine ACalls.go differ_either.low (by simp) fun hcl => ?_
  rw [sideA_eq, sideA_eq] at *
  have h1 := Hold.mk g1
  have h2 := Hold.mk g2
  clear g1 g2
  cases x <;> (repeat' (first | simp only [seval, evx, beq_self_eq_true, dq21, *] | simp (disch := omega) only [if_pos, if_neg] | refine zG ?_ | refine zH ?_ | refine zI rfl ?_ | refine zK ?_ | refine zL ?_ | refine zM ?_ | refine zN ?_ | refine zO ?_ | ((first | refine zP hcl ?_ | refine zQ hcl ?_); simp only [seval, evw, fm, dq21, *]) | ((first | refine zB ?_ ?_ | refine zD ?_ ?_ | refine zF ?_ ?_) <;> (intro hc; try simp only [seval, nf] at hc)) | refine zR ?_ | refine CallX.inst ?_ | (with_reducible refine And.intro ?_ ?_) | exact True.intro | refine zU h1.of ?_ | refine zT h1.of ?_ | refine zU h2.of ?_ | refine zT h2.of ?_ | refine zU h3.of ?_ | refine zT h3.of ?_ | refine zU h4.of ?_ | refine zU h5.of ?_ | refine zU h6.of ?_ | refine zT h4.of ?_))
theorem differ_Tell_1_ok (a b : Tr) (p q : Bool) (hl : a.evs.length ≤ 9223372036854775806) : Pure Tryd.prog 20 [sideA a p, sideA b q] (.bool (begB a.evs b.evs)) := by
  intro H
  refine ACalls.go differ_Tell_1.low (by simp) fun hcl => ?_
  have h1 := differ_Begins_ok a.evs b.evs hl
  rw [sideA_eq, sideA_eq]
  unfold evs at h1
  replace h1 := Hold.mk h1
  repeat' (first | simp only [seval, evx, beq_self_eq_true, dq21, *] | simp (disch := omega) only [if_pos, if_neg] | refine zG ?_ | refine zH ?_ | refine zI rfl ?_ | refine zK ?_ | refine zL ?_ | refine zM ?_ | refine zN ?_ | refine zO ?_ | ((first | refine zP hcl ?_ | refine zQ hcl ?_); simp only [seval, evw, fm, dq21, *]) | ((first | refine zB ?_ ?_ | refine zD ?_ ?_ | refine zF ?_ ?_) <;> (intro hc; try simp only [seval, nf] at hc)) | refine zR ?_ | refine CallX.inst ?_ | (with_reducible refine And.intro ?_ ?_) | exact True.intro | refine zU h1.of ?_ | refine zT h1.of ?_ | refine zU h2.of ?_ | refine zT h2.of ?_ | refine zU h3.of ?_ | refine zT h3.of ?_ | refine zU h4.of ?_ | refine zU h5.of ?_ | refine zU h6.of ?_ | refine zT h4.of ?_)
theorem differ_Tell_2_ok (a b : Tr) (p q : Bool) (hl : b.evs.length ≤ 9223372036854775806) : Pure Tryd.prog 22 [sideA a p, sideA b q] (.bool (haltB a.out && !begB b.evs a.evs)) := by
  intro H
  refine ACalls.go differ_Tell_2.low (by simp) fun hcl => ?_
  have h1 := differ_Begins_ok b.evs a.evs hl
  have h2 := differ_Halted_ok a
  rw [sideA_eq, sideA_eq]
  rw [trA_eq] at h2
  unfold evs at h1
  replace h1 := Hold.mk h1
  cases hh : haltB a.out <;> rw [hh] at h2 <;> replace h2 := Hold.mk h2 <;> (repeat' (first | simp only [seval, evx, beq_self_eq_true, dq21, *] | simp (disch := omega) only [if_pos, if_neg] | refine zG ?_ | refine zH ?_ | refine zI rfl ?_ | refine zK ?_ | refine zL ?_ | refine zM ?_ | refine zN ?_ | refine zO ?_ | ((first | refine zP hcl ?_ | refine zQ hcl ?_); simp only [seval, evw, fm, dq21, *]) | ((first | refine zB ?_ ?_ | refine zD ?_ ?_ | refine zF ?_ ?_) <;> (intro hc; try simp only [seval, nf] at hc)) | refine zR ?_ | refine CallX.inst ?_ | (with_reducible refine And.intro ?_ ?_) | exact True.intro | refine zU h1.of ?_ | refine zT h1.of ?_ | refine zU h2.of ?_ | refine zT h2.of ?_ | refine zU h3.of ?_ | refine zT h3.of ?_ | refine zU h4.of ?_ | refine zU h5.of ?_ | refine zU h6.of ?_ | refine zT h4.of ?_))
theorem differ_Tell_3_ok (a b : Tr) (p q : Bool) : Pure Tryd.prog 25 [sideA a p, sideA b q] (.bool (haltB a.out && q)) := by
  intro H
  refine ACalls.go differ_Tell_3.low (by simp) fun hcl => ?_
  have h2 := differ_Halted_ok a
  rw [sideA_eq, sideA_eq]
  rw [trA_eq] at h2
  cases hh : haltB a.out <;> rw [hh] at h2 <;> replace h2 := Hold.mk h2 <;> (repeat' (first | simp only [seval, evx, beq_self_eq_true, dq21, *] | simp (disch := omega) only [if_pos, if_neg] | refine zG ?_ | refine zH ?_ | refine zI rfl ?_ | refine zK ?_ | refine zL ?_ | refine zM ?_ | refine zN ?_ | refine zO ?_ | ((first | refine zP hcl ?_ | refine zQ hcl ?_); simp only [seval, evw, fm, dq21, *]) | ((first | refine zB ?_ ?_ | refine zD ?_ ?_ | refine zF ?_ ?_) <;> (intro hc; try simp only [seval, nf] at hc)) | refine zR ?_ | refine CallX.inst ?_ | (with_reducible refine And.intro ?_ ?_) | exact True.intro | refine zU h1.of ?_ | refine zT h1.of ?_ | refine zU h2.of ?_ | refine zT h2.of ?_ | refine zU h3.of ?_ | refine zT h3.of ?_ | refine zU h4.of ?_ | refine zU h5.of ?_ | refine zU h6.of ?_ | refine zT h4.of ?_))
theorem onF_still {f : List Ins} {ans : List Int} : ∀ (n : Nat) (s : St) (t : Tr), stRight f s = true → stRight f (onF f ans n s t).2 = true
  | 0, s, t, h => h
  | n + 1, s, t, h => by
    by_cases h0 : t.out.how = 0
    · rw [onF, if_pos h0]
      exact onF_still n _ _ (stepF_still h)
    · rw [onF_stop h0]
      exact h
theorem onF_evlen {f : List Ins} {ans : List Int} : ∀ (n : Nat) (s : St) (t : Tr), (onF f ans n s t).1.evs.length ≤ t.evs.length + n
  | 0, s, t => Nat.le_refl _
  | n + 1, s, t => by
    by_cases h0 : t.out.how = 0
    · rw [onF, if_pos h0]
      have h1 := onF_evlen n (stepF f s ans).1 (nextT f ans s t) (ans := ans) (f := f)
      have h2 := stepF_evs f s ans
      have e : (nextT f ans s t).evs.length = t.evs.length + (stepF f s ans).2.1.length := List.length_append
      omega
    · rw [onF_stop h0]
      show t.evs.length ≤ _
      omega
theorem onF_L {f : List Ins} {ans : List Int} : ∀ (n : Nat) (s : St) (t : Tr), (onF f ans n s t).2.L.length = s.L.length
  | 0, s, t => rfl
  | n + 1, s, t => by
    by_cases h0 : t.out.how = 0
    · rw [onF, if_pos h0, onF_L n, stepF_len]
    · rw [onF_stop h0]
def ofA (f : List Ins) (c : Cs) : AV := if fnOk f && csRight c then .tup [sideA (runF f c).1 (silB f (runF f c)), .int .i64 0] else .tup [sideA tr0 false, .int .i64 1]
theorem tr0_side : sideA tr0 false = .agg [.list [], .int .i64 0, .int .i64 0, .list [], .int .i64 0, .int .i64 0, .bool false] := rfl
set_option linter.defProp false in
def dq22 := And.intro @sb (And.intro @ew (And.intro @ec (And.intro @et (And.intro @z51_cl (And.intro @z51_dr (And.intro @z51_ac (And.intro @z51_ln (And.intro @evs_eq (And.intro @encEv_def (And.intro @List.map_nil.{0,0} (And.intro @Nat.mul_one (And.intro @sideA_eq (@trA_eq)))))))))))))
set_option maxRecDepth 20000 in
set_option maxHeartbeats 16000000 in
theorem differ_of_ok (f : List Ins) (c : Cs) (hR : c.R.length = 8) (hf : f.length ≤ 9223372036854775807) : Pure Tryd.prog 18 [encFn f, csA c] (ofA f c) := by
  intro H
  refine ACalls.go differ_of.low (by simp) fun hcl => ?_
  have h1 := run_Run_ok f c hR hf
  have hil : (ic c.R).length = 8 := by rw [ic_len, hR]
  unfold runA at h1
  unfold ofA
  cases hr : fnOk f && csRight c
  · rw [hr, if_neg (by decide), tr0_eq, st0_eq] at h1
    rw [if_neg (by decide), tr0_side]
    rw [csA_eq] at *
    unfold encFn at *
    replace h1 := Hold.mk h1
    replace hr := Hold.mk hr
    repeat' (first | simp only [seval, evx, beq_self_eq_true, dq22, *] | simp (disch := omega) only [if_pos, if_neg] | refine zG ?_ | refine zH ?_ | refine zI rfl ?_ | refine zK ?_ | refine zL ?_ | refine zM ?_ | refine zN ?_ | refine zO ?_ | ((first | refine zP hcl ?_ | refine zQ hcl ?_); simp only [seval, evw, fm, dq22, *]) | ((first | refine zB ?_ ?_ | refine zD ?_ ?_ | refine zF ?_ ?_) <;> (intro hc; try simp only [seval, nf] at hc)) | refine zR ?_ | refine CallX.inst ?_ | (with_reducible refine And.intro ?_ ?_) | exact True.intro | refine zU h1.of ?_ | refine zT h1.of ?_ | refine zU h2.of ?_ | refine zT h2.of ?_)
  rw [hr, if_pos rfl] at h1
  rw [if_pos rfl]
  simp only [Bool.and_eq_true] at hr
  obtain ⟨r1, r2⟩ := hr
  have hst : stRight f (runF f c).2 = true := onF_still _ _ _ (beginS_right r1 r2 (fnOk_iff.1 r1).2.1)
  have hsl : (runF f c).2.L.length = 24 := by
    unfold runF
    rw [onF_L, beginS_len hR]
  have hsil : silB f (runF f c) = (decide ((runF f c).1.out.how = 0) && decide (pathTo f (f.length + 1) (runF f c).2.pc.toNat = none)) := rfl
  generalize silB f (runF f c) = sl at *
  generalize runF f c = r at *
  obtain ⟨t, s⟩ := r
  simp only at h1 hst hsl hsil ⊢
  obtain ⟨k1, k2, k3, k4, k5, k6⟩ := stRight_iff.1 hst
  obtain ⟨L, heap, pc, asked⟩ := s
  simp only at k2 k3 hsl hsil
  obtain ⟨a, rfl⟩ := Int.eq_ofNat_of_zero_le k2
  have ha : a < f.length := by omega
  have h2 := path_From_ok f (a : Int) hf
  rw [pathA_yes r1 ha] at h2
  rw [Int.toNat_natCast, ← pathF_to] at hsil
  have hwl : (wc L).length = 48 := by rw [wc_len, hsl]
  have hpl := pathR_lt r1 (f.length + 1) a tb0 0 ha tb0_ok
  have htl0 : (tbc tb0).length = 24 := by rw [tbc_len]; rfl
  have hpe : pathF f a = pathR f (f.length + 1) a tb0 0 := rfl
  rw [← hpe] at hpl
  obtain ⟨tev, ⟨th, tv, thp⟩, tst, twk⟩ := t
  simp only at hsil
  rw [csA_eq] at *
  rw [trA_eq, stA_eq] at h1
  rw [sideA_eq]
  simp only at h1 ⊢
  unfold encFn at *
  clear hst k1 k2 k3 k4 k5 k6 r1 r2 ha hpe
  replace h1 := Hold.mk h1
  replace hR := Hold.mk hR
  cases hp : pathF f a with
  | none =>
    rw [hp] at h2 hsil
    simp only at h2
    rw [Option.map_none, decide_eq_true rfl, Bool.and_true] at hsil
    clear hpl
    replace h2 := Hold.mk h2
    replace hp := Hold.mk hp
    by_cases h0 : th = 0
    · rw [decide_eq_true h0] at hsil
      subst hsil
      repeat' (first | simp only [seval, evx, beq_self_eq_true, dq22, *] | simp (disch := omega) only [if_pos, if_neg] | refine zG ?_ | refine zH ?_ | refine zI rfl ?_ | refine zK ?_ | refine zL ?_ | refine zM ?_ | refine zN ?_ | refine zO ?_ | ((first | refine zP hcl ?_ | refine zQ hcl ?_); simp only [seval, evw, fm, dq22, *]) | ((first | refine zB ?_ ?_ | refine zD ?_ ?_ | refine zF ?_ ?_) <;> (intro hc; try simp only [seval, nf] at hc)) | refine zR ?_ | refine CallX.inst ?_ | (with_reducible refine And.intro ?_ ?_) | exact True.intro | refine zU h1.of ?_ | refine zT h1.of ?_ | refine zU h2.of ?_ | refine zT h2.of ?_)
    · rw [decide_eq_false h0] at hsil
      subst hsil
      repeat' (first | simp only [seval, evx, beq_self_eq_true, dq22, *] | simp (disch := omega) only [if_pos, if_neg] | refine zG ?_ | refine zH ?_ | refine zI rfl ?_ | refine zK ?_ | refine zL ?_ | refine zM ?_ | refine zN ?_ | refine zO ?_ | ((first | refine zP hcl ?_ | refine zQ hcl ?_); simp only [seval, evw, fm, dq22, *]) | ((first | refine zB ?_ ?_ | refine zD ?_ ?_ | refine zF ?_ ?_) <;> (intro hc; try simp only [seval, nf] at hc)) | refine zR ?_ | refine CallX.inst ?_ | (with_reducible refine And.intro ?_ ?_) | exact True.intro | refine zU h1.of ?_ | refine zT h1.of ?_ | refine zU h2.of ?_ | refine zT h2.of ?_)
  | some q =>
    obtain ⟨q, U, m⟩ := q
    rw [hp] at h2 hsil
    simp only at h2
    have hsome : decide (Option.map (·.1) (some (q, U, m)) = none) = false := rfl
    rw [hsome, Bool.and_false] at hsil
    obtain ⟨-, hU, -, -⟩ := hpl q U m hp
    have htl : (tbc U).length = 24 := by rw [tbc_len, hU.1]
    have hq0 : ¬ (q : Int) < 0 := by omega
    subst hsil
    clear hpl hU
    replace h2 := Hold.mk h2
    replace hp := Hold.mk hp
    by_cases h0 : th = 0
    · repeat' (first | simp only [seval, evx, beq_self_eq_true, dq22, *] | simp (disch := omega) only [if_pos, if_neg] | refine zG ?_ | refine zH ?_ | refine zI rfl ?_ | refine zK ?_ | refine zL ?_ | refine zM ?_ | refine zN ?_ | refine zO ?_ | ((first | refine zP hcl ?_ | refine zQ hcl ?_); simp only [seval, evw, fm, dq22, *]) | ((first | refine zB ?_ ?_ | refine zD ?_ ?_ | refine zF ?_ ?_) <;> (intro hc; try simp only [seval, nf] at hc)) | refine zR ?_ | refine CallX.inst ?_ | (with_reducible refine And.intro ?_ ?_) | exact True.intro | refine zU h1.of ?_ | refine zT h1.of ?_ | refine zU h2.of ?_ | refine zT h2.of ?_)
    · repeat' (first | simp only [seval, evx, beq_self_eq_true, dq22, *] | simp (disch := omega) only [if_pos, if_neg] | refine zG ?_ | refine zH ?_ | refine zI rfl ?_ | refine zK ?_ | refine zL ?_ | refine zM ?_ | refine zN ?_ | refine zO ?_ | ((first | refine zP hcl ?_ | refine zQ hcl ?_); simp only [seval, evw, fm, dq22, *]) | ((first | refine zB ?_ ?_ | refine zD ?_ ?_ | refine zF ?_ ?_) <;> (intro hc; try simp only [seval, nf] at hc)) | refine zR ?_ | refine CallX.inst ?_ | (with_reducible refine And.intro ?_ ?_) | exact True.intro | refine zU h1.of ?_ | refine zT h1.of ?_ | refine zU h2.of ?_ | refine zT h2.of ?_)
theorem csRight_iff {c : Cs} : csRight c = true ↔ c.heap.length ≤ 16 ∧ c.ans.length ≤ 5000 ∧ 0 ≤ c.fuel ∧ c.fuel ≤ 5000 := by
  unfold csRight
  simp only [Bool.and_eq_true, decide_eq_true_eq]
theorem out_dec3 (a b : Out) : decide (a = b) = (decide (a.how = b.how) && (decide (a.value = b.value) && decide (a.heap = b.heap))) := by
  cases a; cases b
  rw [Bool.eq_iff_iff]
  simp
theorem stepF_oh {f : List Ins} {s : St} {ask : List Int} (hs : s.heap.length ≤ 16) : (stepF f s ask).2.2.heap.length ≤ 16 := by
  unfold stepF
  split
  · simp only
    split
    · exact hs
    · simp
  · simp
theorem onF_oh {f : List Ins} {ans : List Int} : ∀ (n : Nat) (s : St) (t : Tr), stRight f s = true → t.out.heap.length ≤ 16 → (onF f ans n s t).1.out.heap.length ≤ 16
  | 0, s, t, _, h => h
  | n + 1, s, t, hs, h => by
    by_cases h0 : t.out.how = 0
    · rw [onF, if_pos h0]
      exact onF_oh n _ _ (stepF_still hs) (stepF_oh (stRight_iff.1 hs).2.2.2.1)
    · rw [onF_stop h0]
      exact h
def tellA (f g : List Ins) (c : Cs) : AV := if fnOk f && (fnOk g && csRight c) then .tup [.int .i64 (tellF f g c), .int .i64 0] else .tup [.int .i64 0, .int .i64 1]
theorem tellS_ifs (x y : Sd) : tellS x y = if (!(begB x.evs y.evs || begB y.evs x.evs)) = true then 1 else if ((haltB x.out && !begB y.evs x.evs) || (haltB y.out && !begB x.evs y.evs)) = true then 2 else if (haltB x.out && (haltB y.out && !decide (x.out = y.out))) = true then 3 else if ((haltB x.out && y.sil) || (haltB y.out && x.sil)) = true then 4 else 0 := by
  unfold tellS
  rw [Bool.not_or]
set_option linter.defProp false in
def dq23 := And.intro @sb (And.intro @ew (And.intro @ec (And.intro @evs_eq (And.intro @encEv_def (And.intro @List.map_nil.{0,0} (And.intro @Nat.mul_one (And.intro @sideA_eq (And.intro @trA_eq (@encI_def)))))))))
set_option maxHeartbeats 4000000 in
theorem heap_Same_ok (a b : List Int) (hl : a.length ≤ 9223372036854775806) : Pure Tryd.prog 24 [ints a, ints b] (.bool (decide (a = b))) := by
  intro H
  refine ACalls.go heap_Same.low (by simp) fun hcl => ?_
  unfold ints
  by_cases hlen : a.length = b.length
  case neg =>
    have e1 : ¬ (a.length : Int) = (b.length : Int) := by omega
    have hB : decide (a = b) = false := decide_eq_false fun e => hlen (congrArg List.length e)
    repeat' (first | simp only [seval, evx, beq_self_eq_true, dq23, *] | simp (disch := omega) only [if_pos, if_neg] | refine zG ?_ | refine zH ?_ | refine zI rfl ?_ | refine zK ?_ | refine zL ?_ | refine zM ?_ | refine zN ?_ | refine zO ?_ | ((first | refine zP hcl ?_ | refine zQ hcl ?_); simp only [seval, evw, fm, dq23, *]) | ((first | refine zB ?_ ?_ | refine zD ?_ ?_ | refine zF ?_ ?_) <;> (intro hc; try simp only [seval, nf] at hc)) | refine zR ?_ | refine CallX.inst ?_ | (with_reducible refine And.intro ?_ ?_) | exact True.intro)
  have e1 : (a.length : Int) = (b.length : Int) := by omega
  have hs : decide (a = b) = decide (a.drop 0 = b.drop 0) := rfl
  generalize decide (a = b) = B at *
  replace hs := Hold.mk hs
  replace hlen := Hold.mk hlen
  repeat' (first | simp only [seval, evx, beq_self_eq_true, dq23, *] | simp (disch := omega) only [if_pos, if_neg] | refine zG ?_ | refine zH ?_ | refine zI rfl ?_ | refine zK ?_ | refine zL ?_ | refine zM ?_ | refine zN ?_ | refine zO ?_ | ((first | refine zP hcl ?_ | refine zQ hcl ?_); simp only [seval, evw, fm, dq23, *]) | ((first | refine zB ?_ ?_ | refine zD ?_ ?_ | refine zF ?_ ?_) <;> (intro hc; try simp only [seval, nf] at hc)) | refine zR ?_ | refine CallX.inst ?_ | (with_reducible refine And.intro ?_ ?_) | exact True.intro)
  clear e1
  refine R.loop (S := Nat) ⟨fun i => [(0, .list (a.map encI)), (1, .list (b.map encI)), (12, .int .i64 (a.length : Int)), (13, .int .i64 (i : Int))], fun i => H ++ [], fun i => i ≤ a.length ∧ decide (a.drop i = b.drop i) = B, fun i => a.length - i⟩ 0 ⟨Nat.zero_le _, hs.of.symm⟩ (Weak.at hcl ?_) ?_
  · have e1 : (a.length : Int) = (b.length : Int) := by have := hlen.of; omega
    simp only [seval, evw, fm, dq23, *]
  rintro i ⟨hi, hq⟩
  simp only at hi hq ⊢
  by_cases hlt : i < a.length
  · have hg := getD_encI hlt
    have hlt2 : i < b.length := by have := hlen.of; omega
    have hg2 := getD_encI hlt2
    have e1 : (i : Int) < (a.length : Int) := by omega
    have e2 : (i : Int) < (b.length : Int) := by omega
    have e4 : IntKind.i64.wrap ((i : Int) + 1) = ((i + 1 : Nat) : Int) := by rw [IntKind.wrap_i64]; omega
    have d1 : a.drop i = a.getD i 0 :: a.drop (i + 1) := by
      rw [List.drop_eq_getElem_cons hlt]
      simp [List.getD, hlt]
    have d2 : b.drop i = b.getD i 0 :: b.drop (i + 1) := by
      rw [List.drop_eq_getElem_cons hlt2]
      simp [List.getD, hlt2]
    rw [d1, d2] at hq
    clear d1 d2
    generalize a.getD i 0 = x at *
    generalize b.getD i 0 = y at *
    by_cases hxy : x = y
    · subst hxy
      have hq2 : decide (a.drop (i + 1) = b.drop (i + 1)) = B := by simpa using hq
      clear hq
      replace hq2 := Hold.mk hq2
      repeat' (first | simp only [seval, evx, beq_self_eq_true, dq23, *] | simp (disch := omega) only [if_pos, if_neg] | refine zG ?_ | refine zH ?_ | refine zI rfl ?_ | refine zK ?_ | refine zL ?_ | refine zM ?_ | refine zN ?_ | refine zO ?_ | ((first | refine zP hcl ?_ | refine zQ hcl ?_); simp only [seval, evw, fm, dq23, *]) | ((first | refine zB ?_ ?_ | refine zD ?_ ?_ | refine zF ?_ ?_) <;> (intro hc; try simp only [seval, nf] at hc)) | refine zR ?_ | refine CallX.inst ?_ | (with_reducible refine And.intro ?_ ?_) | exact True.intro)
      refine ⟨i + 1, ⟨hlt, hq2.of⟩, by simp only; omega, Weak.at hcl ?_⟩
      simp only [seval, evw, fm, dq23, *]
    · have hBf : B = false := by rw [← hq]; simp [hxy]
      replace hq := Hold.mk hq
      repeat' (first | simp only [seval, evx, beq_self_eq_true, dq23, *] | simp (disch := omega) only [if_pos, if_neg] | refine zG ?_ | refine zH ?_ | refine zI rfl ?_ | refine zK ?_ | refine zL ?_ | refine zM ?_ | refine zN ?_ | refine zO ?_ | ((first | refine zP hcl ?_ | refine zQ hcl ?_); simp only [seval, evw, fm, dq23, *]) | ((first | refine zB ?_ ?_ | refine zD ?_ ?_ | refine zF ?_ ?_) <;> (intro hc; try simp only [seval, nf] at hc)) | refine zR ?_ | refine CallX.inst ?_ | (with_reducible refine And.intro ?_ ?_) | exact True.intro)
  · have hie : i = a.length := by omega
    subst hie
    have e3 : ¬ (a.length : Int) < (a.length : Int) := by omega
    have hB2 : B = true := by
      rw [← hq, List.drop_length, List.drop_of_length_le (by have := hlen.of; omega)]
      simp
    replace hq := Hold.mk hq
    repeat' (first | simp only [seval, evx, beq_self_eq_true, dq23, *] | simp (disch := omega) only [if_pos, if_neg] | refine zG ?_ | refine zH ?_ | refine zI rfl ?_ | refine zK ?_ | refine zL ?_ | refine zM ?_ | refine zN ?_ | refine zO ?_ | ((first | refine zP hcl ?_ | refine zQ hcl ?_); simp only [seval, evw, fm, dq23, *]) | ((first | refine zB ?_ ?_ | refine zD ?_ ?_ | refine zF ?_ ?_) <;> (intro hc; try simp only [seval, nf] at hc)) | refine zR ?_ | refine CallX.inst ?_ | (with_reducible refine And.intro ?_ ?_) | exact True.intro)
set_option maxRecDepth 20000 in
set_option maxHeartbeats 16000000 in
theorem differ_Tell_ok (f g : List Ins) (c : Cs) (hR : c.R.length = 8) (hf : f.length ≤ 9223372036854775807) (hg : g.length ≤ 9223372036854775807) : Pure Tryd.prog 10 [encFn f, encFn g, csA c] (tellA f g c) := by
  intro H
  refine ACalls.go differ_Tell.low (by simp) fun hcl => ?_
  have h1 := differ_of_ok f c hR hf
  have h2 := differ_of_ok g c hR hg
  have hil : (ic c.R).length = 8 := by rw [ic_len, hR]
  unfold ofA at h1 h2
  unfold tellA
  rw [csA_eq] at *
  unfold encFn at *
  by_cases hr : (fnOk f && (fnOk g && csRight c)) = true
  case neg =>
    rw [if_neg hr]
    by_cases k1 : (fnOk f && csRight c) = true
    · rw [if_pos k1] at h1
      by_cases k2 : (fnOk g && csRight c) = true
      · exfalso
        simp only [Bool.and_eq_true] at k1 k2 hr
        exact hr ⟨k1.1, k2.1, k1.2⟩
      · rw [if_neg k2, tr0_side] at h2
        generalize silB f (runF f c) = p at *
        generalize runF f c = r at *
        rw [sideA_eq] at h1
        replace h1 := Hold.mk h1
        replace h2 := Hold.mk h2
        replace hr := Hold.mk hr
        replace k1 := Hold.mk k1
        replace k2 := Hold.mk k2
        repeat' (first | simp only [seval, evx, beq_self_eq_true, dq23, *] | simp (disch := omega) only [if_pos, if_neg] | refine zG ?_ | refine zH ?_ | refine zI rfl ?_ | refine zK ?_ | refine zL ?_ | refine zM ?_ | refine zN ?_ | refine zO ?_ | ((first | refine zP hcl ?_ | refine zQ hcl ?_); simp only [seval, evw, fm, dq23, *]) | ((first | refine zB ?_ ?_ | refine zD ?_ ?_ | refine zF ?_ ?_) <;> (intro hc; try simp only [seval, nf] at hc)) | refine zR ?_ | refine CallX.inst ?_ | (with_reducible refine And.intro ?_ ?_) | exact True.intro | refine zU h1.of ?_ | refine zT h1.of ?_ | refine zU h2.of ?_ | refine zT h2.of ?_ | refine zU h3.of ?_ | refine zU h4.of ?_ | refine zU h5.of ?_ | refine zU h6.of ?_ | refine zU h7.of ?_ | refine zU h8.of ?_)
    · rw [if_neg k1, tr0_side] at h1
      by_cases k2 : (fnOk g && csRight c) = true
      · rw [if_pos k2] at h2
        generalize silB g (runF g c) = p at *
        generalize runF g c = r at *
        rw [sideA_eq] at h2
        replace h1 := Hold.mk h1
        replace h2 := Hold.mk h2
        replace hr := Hold.mk hr
        replace k1 := Hold.mk k1
        replace k2 := Hold.mk k2
        repeat' (first | simp only [seval, evx, beq_self_eq_true, dq23, *] | simp (disch := omega) only [if_pos, if_neg] | refine zG ?_ | refine zH ?_ | refine zI rfl ?_ | refine zK ?_ | refine zL ?_ | refine zM ?_ | refine zN ?_ | refine zO ?_ | ((first | refine zP hcl ?_ | refine zQ hcl ?_); simp only [seval, evw, fm, dq23, *]) | ((first | refine zB ?_ ?_ | refine zD ?_ ?_ | refine zF ?_ ?_) <;> (intro hc; try simp only [seval, nf] at hc)) | refine zR ?_ | refine CallX.inst ?_ | (with_reducible refine And.intro ?_ ?_) | exact True.intro | refine zU h1.of ?_ | refine zT h1.of ?_ | refine zU h2.of ?_ | refine zT h2.of ?_ | refine zU h3.of ?_ | refine zU h4.of ?_ | refine zU h5.of ?_ | refine zU h6.of ?_ | refine zU h7.of ?_ | refine zU h8.of ?_)
      · rw [if_neg k2, tr0_side] at h2
        replace h1 := Hold.mk h1
        replace h2 := Hold.mk h2
        replace hr := Hold.mk hr
        replace k1 := Hold.mk k1
        replace k2 := Hold.mk k2
        repeat' (first | simp only [seval, evx, beq_self_eq_true, dq23, *] | simp (disch := omega) only [if_pos, if_neg] | refine zG ?_ | refine zH ?_ | refine zI rfl ?_ | refine zK ?_ | refine zL ?_ | refine zM ?_ | refine zN ?_ | refine zO ?_ | ((first | refine zP hcl ?_ | refine zQ hcl ?_); simp only [seval, evw, fm, dq23, *]) | ((first | refine zB ?_ ?_ | refine zD ?_ ?_ | refine zF ?_ ?_) <;> (intro hc; try simp only [seval, nf] at hc)) | refine zR ?_ | refine CallX.inst ?_ | (with_reducible refine And.intro ?_ ?_) | exact True.intro | refine zU h1.of ?_ | refine zT h1.of ?_ | refine zU h2.of ?_ | refine zT h2.of ?_ | refine zU h3.of ?_ | refine zU h4.of ?_ | refine zU h5.of ?_ | refine zU h6.of ?_ | refine zU h7.of ?_ | refine zU h8.of ?_)
  rw [if_pos hr]
  simp only [Bool.and_eq_true] at hr
  obtain ⟨r1, r2, r3⟩ := hr
  rw [r1, r3, if_pos (show (true && true) = true from rfl)] at h1
  rw [r2, r3, if_pos (show (true && true) = true from rfl)] at h2
  obtain ⟨q1, q2, q3, q4⟩ := csRight_iff.1 r3
  have la : (runF f c).1.evs.length ≤ 9223372036854775806 := by
    have := onF_evlen (f := f) (ans := c.ans) c.fuel.toNat (beginS c) tr0
    have e : tr0.evs.length = 0 := rfl
    have e2 : onF f c.ans c.fuel.toNat (beginS c) tr0 = runF f c := rfl
    rw [e2, e] at this
    omega
  have lb : (runF g c).1.evs.length ≤ 9223372036854775806 := by
    have := onF_evlen (f := g) (ans := c.ans) c.fuel.toNat (beginS c) tr0
    have e : tr0.evs.length = 0 := rfl
    have e2 : onF g c.ans c.fuel.toNat (beginS c) tr0 = runF g c := rfl
    rw [e2, e] at this
    omega
  have lh : (runF f c).1.out.heap.length ≤ 9223372036854775806 := Nat.le_trans (onF_oh _ _ _ (beginS_right r1 r3 (fnOk_iff.1 r1).2.1) (by simp [tr0, out0])) (by decide)
  have hT : tellF f g c = tellS (sdOf f (runF f c)) (sdOf g (runF g c)) := rfl
  rw [hT, tellS_ifs]
  unfold sdOf
  simp only
  generalize silB f (runF f c) = p at *
  generalize silB g (runF g c) = q at *
  generalize runF f c = ra at *
  generalize runF g c = rb at *
  obtain ⟨a, ua⟩ := ra
  obtain ⟨b, ub⟩ := rb
  simp only at h1 h2 la lb lh ⊢
  clear hT r1 r2 r3 q1 q2 q3 q4
  have h3 := differ_Halted_ok a
  have h4 := differ_Halted_ok b
  have h6 := differ_either_ok (differ_Tell_1_ok a b p q la) (differ_Tell_1_ok b a q p lb)
  have h7 := differ_either_ok (differ_Tell_2_ok a b p q lb) (differ_Tell_2_ok b a q p la)
  have h8 := differ_either_ok (differ_Tell_3_ok a b p q) (differ_Tell_3_ok b a q p)
  have hdo := out_dec3 a.out b.out
  have h5 := heap_Same_ok a.out.heap b.out.heap lh
  rw [hdo]
  clear hdo la lb lh
  rw [trA_eq] at h3 h4
  rw [sideA_eq, sideA_eq] at h6 h7 h8
  rw [sideA_eq] at h1 h2
  generalize (begB a.evs b.evs || begB b.evs a.evs) = X1 at *
  generalize ((haltB a.out && !begB b.evs a.evs) || (haltB b.out && !begB a.evs b.evs)) = X2 at *
  generalize ((haltB a.out && q) || (haltB b.out && p)) = X4 at *
  obtain ⟨aev, ⟨ah, av, ahp⟩, ast, awk⟩ := a
  obtain ⟨bev, ⟨bh, bv, bhp⟩, bst, bwk⟩ := b
  simp only at h1 h2 h3 h4 h5 h6 h7 h8 ⊢
  unfold ints at h5
  generalize haltB ⟨ah, av, ahp⟩ = HA at *
  generalize haltB ⟨bh, bv, bhp⟩ = HB at *
  replace h1 := Hold.mk h1
  replace h2 := Hold.mk h2
  replace h3 := Hold.mk h3
  replace h4 := Hold.mk h4
  replace h5 := Hold.mk h5
  replace h6 := Hold.mk h6
  replace h7 := Hold.mk h7
  replace h8 := Hold.mk h8
  replace hR := Hold.mk hR
  (refine zG ?_; refine zH ?_; repeat' (first | simp only [seval, evx, beq_self_eq_true, dq23, *] | simp (disch := omega) only [if_pos, if_neg]))
  refine R.cut [(0, .list (f.map encIns)), (1, .list (g.map encIns)), (5, .ptr H.length 1 0 0), (8, .ptr (H.length + 1) 1 0 0), (9, .int .i64 0)] (H ++ [.vec 11 [ic c.R ++ [.list (c.heap.map encI), .list (c.ans.map encI), .int .i64 c.fuel]], .vec 7 [[.list (aev.map encEv), .int .i64 ah, .int .i64 av, .list (ahp.map encI), .int .i64 ast, .int .i64 awk, .bool p]]]) ?_ ?_
  · repeat' (first | simp only [seval, evx, beq_self_eq_true, dq23, *] | simp (disch := omega) only [if_pos, if_neg] | refine zG ?_ | refine zH ?_ | refine zI rfl ?_ | refine zK ?_ | refine zL ?_ | refine zM ?_ | refine zN ?_ | refine zO ?_ | ((first | refine zP hcl ?_ | refine zQ hcl ?_); simp only [seval, evw, fm, dq23, *]) | ((first | refine zB ?_ ?_ | refine zD ?_ ?_ | refine zF ?_ ?_) <;> (intro hc; try simp only [seval, nf] at hc)) | refine zR ?_ | refine CallX.inst ?_ | (with_reducible refine And.intro ?_ ?_) | exact True.intro | refine zU h1.of ?_ | refine zT h1.of ?_ | refine zU h2.of ?_ | refine zT h2.of ?_ | refine zU h3.of ?_ | refine zU h4.of ?_ | refine zU h5.of ?_ | refine zU h6.of ?_ | refine zU h7.of ?_ | refine zU h8.of ?_)
  refine R.cut [(5, .ptr H.length 1 0 0), (8, .ptr (H.length + 1) 1 0 0), (9, .int .i64 0), (10, .ptr (H.length + 2) 1 0 0), (11, .int .i64 0)] (H ++ [.vec 11 [ic c.R ++ [.list (c.heap.map encI), .list (c.ans.map encI), .int .i64 c.fuel]], .vec 7 [[.list (aev.map encEv), .int .i64 ah, .int .i64 av, .list (ahp.map encI), .int .i64 ast, .int .i64 awk, .bool p]], .vec 7 [[.list (bev.map encEv), .int .i64 bh, .int .i64 bv, .list (bhp.map encI), .int .i64 bst, .int .i64 bwk, .bool q]]]) ?_ ?_
  · repeat' (first | simp only [seval, evx, beq_self_eq_true, dq23, *] | simp (disch := omega) only [if_pos, if_neg] | refine zG ?_ | refine zH ?_ | refine zI rfl ?_ | refine zK ?_ | refine zL ?_ | refine zM ?_ | refine zN ?_ | refine zO ?_ | ((first | refine zP hcl ?_ | refine zQ hcl ?_); simp only [seval, evw, fm, dq23, *]) | ((first | refine zB ?_ ?_ | refine zD ?_ ?_ | refine zF ?_ ?_) <;> (intro hc; try simp only [seval, nf] at hc)) | refine zR ?_ | refine CallX.inst ?_ | (with_reducible refine And.intro ?_ ?_) | exact True.intro | refine zU h1.of ?_ | refine zT h1.of ?_ | refine zU h2.of ?_ | refine zT h2.of ?_ | refine zU h3.of ?_ | refine zU h4.of ?_ | refine zU h5.of ?_ | refine zU h6.of ?_ | refine zU h7.of ?_ | refine zU h8.of ?_)
  refine R.cut [(8, .ptr (H.length + 1) 1 0 0), (10, .ptr (H.length + 2) 1 0 0)] (H ++ [.vec 11 [ic c.R ++ [.list (c.heap.map encI), .list (c.ans.map encI), .int .i64 c.fuel]], .vec 7 [[.list (aev.map encEv), .int .i64 ah, .int .i64 av, .list (ahp.map encI), .int .i64 ast, .int .i64 awk, .bool p]], .vec 7 [[.list (bev.map encEv), .int .i64 bh, .int .i64 bv, .list (bhp.map encI), .int .i64 bst, .int .i64 bwk, .bool q]]]) ?_ ?_
  · repeat' (first | simp only [seval, evx, beq_self_eq_true, dq23, *] | simp (disch := omega) only [if_pos, if_neg] | refine zG ?_ | refine zH ?_ | refine zI rfl ?_ | refine zK ?_ | refine zL ?_ | refine zM ?_ | refine zN ?_ | refine zO ?_ | ((first | refine zP hcl ?_ | refine zQ hcl ?_); simp only [seval, evw, fm, dq23, *]) | ((first | refine zB ?_ ?_ | refine zD ?_ ?_ | refine zF ?_ ?_) <;> (intro hc; try simp only [seval, nf] at hc)) | refine zR ?_ | refine CallX.inst ?_ | (with_reducible refine And.intro ?_ ?_) | exact True.intro | refine zU h1.of ?_ | refine zT h1.of ?_ | refine zU h2.of ?_ | refine zT h2.of ?_ | refine zU h3.of ?_ | refine zU h4.of ?_ | refine zU h5.of ?_ | refine zU h6.of ?_ | refine zU h7.of ?_ | refine zU h8.of ?_)
  clear h1 h2
  obtain ⟨X3, hX3⟩ : ∃ X3, (HA && (HB && !(decide (ah = bh) && (decide (av = bv) && decide (ahp = bhp))))) = X3 := ⟨_, rfl⟩
  rw [hX3]
  refine R.cut [(12, .sl 1 (H.length + 3) 5 0 5)] (H ++ [.vec 11 [ic c.R ++ [.list (c.heap.map encI), .list (c.ans.map encI), .int .i64 c.fuel]], .vec 7 [[.list (aev.map encEv), .int .i64 ah, .int .i64 av, .list (ahp.map encI), .int .i64 ast, .int .i64 awk, .bool p]], .vec 7 [[.list (bev.map encEv), .int .i64 bh, .int .i64 bv, .list (bhp.map encI), .int .i64 bst, .int .i64 bwk, .bool q]], .vec 1 [[.bool false], [.bool (!X1)], [.bool X2], [.bool X3], [.bool X4]]]) ?_ ?_
  · cases HA
    · have e3 : X3 = false := hX3.symm
      subst e3
      clear hX3 h4
      repeat' (first | simp only [seval, evx, beq_self_eq_true, dq23, *] | simp (disch := omega) only [if_pos, if_neg] | refine zG ?_ | refine zH ?_ | refine zI rfl ?_ | refine zK ?_ | refine zL ?_ | refine zM ?_ | refine zN ?_ | refine zO ?_ | ((first | refine zP hcl ?_ | refine zQ hcl ?_); simp only [seval, evw, fm, dq23, *]) | ((first | refine zB ?_ ?_ | refine zD ?_ ?_ | refine zF ?_ ?_) <;> (intro hc; try simp only [seval, nf] at hc)) | refine zR ?_ | refine CallX.inst ?_ | (with_reducible refine And.intro ?_ ?_) | exact True.intro | refine zU h1.of ?_ | refine zT h1.of ?_ | refine zU h2.of ?_ | refine zT h2.of ?_ | refine zU h3.of ?_ | refine zU h4.of ?_ | refine zU h5.of ?_ | refine zU h6.of ?_ | refine zU h7.of ?_ | refine zU h8.of ?_)
    · cases HB
      · have e3 : X3 = false := hX3.symm
        subst e3
        clear hX3
        repeat' (first | simp only [seval, evx, beq_self_eq_true, dq23, *] | simp (disch := omega) only [if_pos, if_neg] | refine zG ?_ | refine zH ?_ | refine zI rfl ?_ | refine zK ?_ | refine zL ?_ | refine zM ?_ | refine zN ?_ | refine zO ?_ | ((first | refine zP hcl ?_ | refine zQ hcl ?_); simp only [seval, evw, fm, dq23, *]) | ((first | refine zB ?_ ?_ | refine zD ?_ ?_ | refine zF ?_ ?_) <;> (intro hc; try simp only [seval, nf] at hc)) | refine zR ?_ | refine CallX.inst ?_ | (with_reducible refine And.intro ?_ ?_) | exact True.intro | refine zU h1.of ?_ | refine zT h1.of ?_ | refine zU h2.of ?_ | refine zT h2.of ?_ | refine zU h3.of ?_ | refine zU h4.of ?_ | refine zU h5.of ?_ | refine zU h6.of ?_ | refine zU h7.of ?_ | refine zU h8.of ?_)
      · rw [Bool.true_and, Bool.true_and] at hX3
        by_cases c1 : ah = bh
        · by_cases c2 : av = bv
          · rw [decide_eq_true c1, decide_eq_true c2, Bool.true_and, Bool.true_and] at hX3
            replace hX3 := Hold.mk hX3
            have e3 : (!decide (ahp = bhp)) = X3 := hX3.of
            subst c1
            subst c2
            have d1 : decide (ah = ah) = true := by simp
            have d2 : decide (av = av) = true := by simp
            repeat' (first | simp only [seval, evx, beq_self_eq_true, dq23, *] | simp (disch := omega) only [if_pos, if_neg] | refine zG ?_ | refine zH ?_ | refine zI rfl ?_ | refine zK ?_ | refine zL ?_ | refine zM ?_ | refine zN ?_ | refine zO ?_ | ((first | refine zP hcl ?_ | refine zQ hcl ?_); simp only [seval, evw, fm, dq23, *]) | ((first | refine zB ?_ ?_ | refine zD ?_ ?_ | refine zF ?_ ?_) <;> (intro hc; try simp only [seval, nf] at hc)) | refine zR ?_ | refine CallX.inst ?_ | (with_reducible refine And.intro ?_ ?_) | exact True.intro | refine zU h1.of ?_ | refine zT h1.of ?_ | refine zU h2.of ?_ | refine zT h2.of ?_ | refine zU h3.of ?_ | refine zU h4.of ?_ | refine zU h5.of ?_ | refine zU h6.of ?_ | refine zU h7.of ?_ | refine zU h8.of ?_)
          · rw [decide_eq_true c1, decide_eq_false c2, Bool.true_and, Bool.false_and] at hX3
            have e3 : X3 = true := hX3.symm
            subst e3
            clear hX3
            subst c1
            have d1 : decide (ah = ah) = true := by simp
            repeat' (first | simp only [seval, evx, beq_self_eq_true, dq23, *] | simp (disch := omega) only [if_pos, if_neg] | refine zG ?_ | refine zH ?_ | refine zI rfl ?_ | refine zK ?_ | refine zL ?_ | refine zM ?_ | refine zN ?_ | refine zO ?_ | ((first | refine zP hcl ?_ | refine zQ hcl ?_); simp only [seval, evw, fm, dq23, *]) | ((first | refine zB ?_ ?_ | refine zD ?_ ?_ | refine zF ?_ ?_) <;> (intro hc; try simp only [seval, nf] at hc)) | refine zR ?_ | refine CallX.inst ?_ | (with_reducible refine And.intro ?_ ?_) | exact True.intro | refine zU h1.of ?_ | refine zT h1.of ?_ | refine zU h2.of ?_ | refine zT h2.of ?_ | refine zU h3.of ?_ | refine zU h4.of ?_ | refine zU h5.of ?_ | refine zU h6.of ?_ | refine zU h7.of ?_ | refine zU h8.of ?_)
        · rw [decide_eq_false c1, Bool.false_and] at hX3
          have e3 : X3 = true := hX3.symm
          subst e3
          clear hX3
          repeat' (first | simp only [seval, evx, beq_self_eq_true, dq23, *] | simp (disch := omega) only [if_pos, if_neg] | refine zG ?_ | refine zH ?_ | refine zI rfl ?_ | refine zK ?_ | refine zL ?_ | refine zM ?_ | refine zN ?_ | refine zO ?_ | ((first | refine zP hcl ?_ | refine zQ hcl ?_); simp only [seval, evw, fm, dq23, *]) | ((first | refine zB ?_ ?_ | refine zD ?_ ?_ | refine zF ?_ ?_) <;> (intro hc; try simp only [seval, nf] at hc)) | refine zR ?_ | refine CallX.inst ?_ | (with_reducible refine And.intro ?_ ?_) | exact True.intro | refine zU h1.of ?_ | refine zT h1.of ?_ | refine zU h2.of ?_ | refine zT h2.of ?_ | refine zU h3.of ?_ | refine zU h4.of ?_ | refine zU h5.of ?_ | refine zU h6.of ?_ | refine zU h7.of ?_ | refine zU h8.of ?_)
  clear h3 h4 h5 h6 h7 h8 hX3
  generalize hres : (if (!X1) = true then (1 : Int) else if X2 = true then 2 else if X3 = true then 3 else if X4 = true then 4 else 0) = RES
  replace hres := Hold.mk hres
  have cO1 : ∀ m, (AObj.vec 11 [ic c.R ++ [.list (c.heap.map encI), .list (c.ans.map encI), .int .i64 c.fuel]]).clean m := fun m => by
    simp only [seval, evw, fm, dq23, *]
  have cO2 : ∀ m, (AObj.vec 7 [[.list (aev.map encEv), .int .i64 ah, .int .i64 av, .list (ahp.map encI), .int .i64 ast, .int .i64 awk, .bool p]]).clean m := fun m => by
    simp only [seval, evw, fm, dq23, *]
  have cO3 : ∀ m, (AObj.vec 7 [[.list (bev.map encEv), .int .i64 bh, .int .i64 bv, .list (bhp.map encI), .int .i64 bst, .int .i64 bwk, .bool q]]).clean m := fun m => by
    simp only [seval, evw, fm, dq23, *]
  generalize AObj.vec 11 [ic c.R ++ [.list (c.heap.map encI), .list (c.ans.map encI), .int .i64 c.fuel]] = O1 at *
  generalize AObj.vec 7 [[.list (aev.map encEv), .int .i64 ah, .int .i64 av, .list (ahp.map encI), .int .i64 ast, .int .i64 awk, .bool p]] = O2 at *
  generalize AObj.vec 7 [[.list (bev.map encEv), .int .i64 bh, .int .i64 bv, .list (bhp.map encI), .int .i64 bst, .int .i64 bwk, .bool q]] = O3 at *
  have w1 : IntKind.i64.wrap 1 = 1 := by decide
  have w2 : IntKind.i64.wrap 2 = 2 := by decide
  have w3 : IntKind.i64.wrap 3 = 3 := by decide
  have w4 : IntKind.i64.wrap 4 = 4 := by decide
  have w5 : IntKind.i64.wrap 5 = 5 := by decide
  clear hil
  repeat' (first | simp only [seval, evx, beq_self_eq_true, dq23, *] | simp (disch := omega) only [if_pos, if_neg] | refine zG ?_ | refine zH ?_ | refine zI rfl ?_ | refine zK ?_ | refine zL ?_ | refine zM ?_ | refine zN ?_ | refine zO ?_ | ((first | refine zP hcl ?_ | refine zQ hcl ?_); simp only [seval, evw, fm, dq23, *]) | ((first | refine zB ?_ ?_ | refine zD ?_ ?_ | refine zF ?_ ?_) <;> (intro hc; try simp only [seval, nf] at hc)) | refine zR ?_ | refine CallX.inst ?_ | (with_reducible refine And.intro ?_ ?_) | exact True.intro | refine zU h1.of ?_ | refine zT h1.of ?_ | refine zU h2.of ?_ | refine zT h2.of ?_ | refine zU h3.of ?_ | refine zU h4.of ?_ | refine zU h5.of ?_ | refine zU h6.of ?_ | refine zU h7.of ?_ | refine zU h8.of ?_)
  refine R.loop (S := Nat) ⟨fun i => [(86, .sl 1 (H.length + 3) 5 0 5), (87, .int .i64 5), (88, .int .i64 (i : Int))], fun i => H ++ [O1, O2, O3, .vec 1 [[.bool false], [.bool (!X1)], [.bool X2], [.bool X3], [.bool X4]]],
    fun i => i ≤ 5 ∧ (2 ≤ i → X1 = true) ∧ (3 ≤ i → X2 = false) ∧ (4 ≤ i → X3 = false) ∧ (5 ≤ i → X4 = false), fun i => 5 - i⟩ 0 ⟨by omega, by omega, by omega, by omega, by omega⟩ (Weak.at hcl ?_) ?_
  · simp only [seval, evw, fm, dq23, *]
  rintro i ⟨hi, q1, q2, q3, q4⟩
  simp only at hi q1 q2 q3 q4 ⊢
  have hi6 : i = 0 ∨ i = 1 ∨ i = 2 ∨ i = 3 ∨ i = 4 ∨ i = 5 := by omega
  rcases hi6 with rfl | rfl | rfl | rfl | rfl | rfl
  · clear q1 q2 q3 q4
    repeat' (first | simp only [seval, evx, beq_self_eq_true, dq23, *] | simp (disch := omega) only [if_pos, if_neg] | refine zG ?_ | refine zH ?_ | refine zI rfl ?_ | refine zK ?_ | refine zL ?_ | refine zM ?_ | refine zN ?_ | refine zO ?_ | ((first | refine zP hcl ?_ | refine zQ hcl ?_); simp only [seval, evw, fm, dq23, *]) | ((first | refine zB ?_ ?_ | refine zD ?_ ?_ | refine zF ?_ ?_) <;> (intro hc; try simp only [seval, nf] at hc)) | refine zR ?_ | refine CallX.inst ?_ | (with_reducible refine And.intro ?_ ?_) | exact True.intro | refine zU h1.of ?_ | refine zT h1.of ?_ | refine zU h2.of ?_ | refine zT h2.of ?_ | refine zU h3.of ?_ | refine zU h4.of ?_ | refine zU h5.of ?_ | refine zU h6.of ?_ | refine zU h7.of ?_ | refine zU h8.of ?_)
    refine ⟨1, by simp, by simp only; omega, Weak.at hcl ?_⟩
    simp only [seval, evw, fm, dq23, *]
  · clear q1 q2 q3 q4
    cases X1
    · have hr : RES = 1 := hres.of.symm
      repeat' (first | simp only [seval, evx, beq_self_eq_true, dq23, *] | simp (disch := omega) only [if_pos, if_neg] | refine zG ?_ | refine zH ?_ | refine zI rfl ?_ | refine zK ?_ | refine zL ?_ | refine zM ?_ | refine zN ?_ | refine zO ?_ | ((first | refine zP hcl ?_ | refine zQ hcl ?_); simp only [seval, evw, fm, dq23, *]) | ((first | refine zB ?_ ?_ | refine zD ?_ ?_ | refine zF ?_ ?_) <;> (intro hc; try simp only [seval, nf] at hc)) | refine zR ?_ | refine CallX.inst ?_ | (with_reducible refine And.intro ?_ ?_) | exact True.intro | refine zU h1.of ?_ | refine zT h1.of ?_ | refine zU h2.of ?_ | refine zT h2.of ?_ | refine zU h3.of ?_ | refine zU h4.of ?_ | refine zU h5.of ?_ | refine zU h6.of ?_ | refine zU h7.of ?_ | refine zU h8.of ?_)
    · repeat' (first | simp only [seval, evx, beq_self_eq_true, dq23, *] | simp (disch := omega) only [if_pos, if_neg] | refine zG ?_ | refine zH ?_ | refine zI rfl ?_ | refine zK ?_ | refine zL ?_ | refine zM ?_ | refine zN ?_ | refine zO ?_ | ((first | refine zP hcl ?_ | refine zQ hcl ?_); simp only [seval, evw, fm, dq23, *]) | ((first | refine zB ?_ ?_ | refine zD ?_ ?_ | refine zF ?_ ?_) <;> (intro hc; try simp only [seval, nf] at hc)) | refine zR ?_ | refine CallX.inst ?_ | (with_reducible refine And.intro ?_ ?_) | exact True.intro | refine zU h1.of ?_ | refine zT h1.of ?_ | refine zU h2.of ?_ | refine zT h2.of ?_ | refine zU h3.of ?_ | refine zU h4.of ?_ | refine zU h5.of ?_ | refine zU h6.of ?_ | refine zU h7.of ?_ | refine zU h8.of ?_)
      refine ⟨2, by simp, by simp only; omega, Weak.at hcl ?_⟩
      simp only [seval, evw, fm, dq23, *]
  · have q1 := q1 (by omega)
    subst q1
    clear q2 q3 q4
    cases X2
    · repeat' (first | simp only [seval, evx, beq_self_eq_true, dq23, *] | simp (disch := omega) only [if_pos, if_neg] | refine zG ?_ | refine zH ?_ | refine zI rfl ?_ | refine zK ?_ | refine zL ?_ | refine zM ?_ | refine zN ?_ | refine zO ?_ | ((first | refine zP hcl ?_ | refine zQ hcl ?_); simp only [seval, evw, fm, dq23, *]) | ((first | refine zB ?_ ?_ | refine zD ?_ ?_ | refine zF ?_ ?_) <;> (intro hc; try simp only [seval, nf] at hc)) | refine zR ?_ | refine CallX.inst ?_ | (with_reducible refine And.intro ?_ ?_) | exact True.intro | refine zU h1.of ?_ | refine zT h1.of ?_ | refine zU h2.of ?_ | refine zT h2.of ?_ | refine zU h3.of ?_ | refine zU h4.of ?_ | refine zU h5.of ?_ | refine zU h6.of ?_ | refine zU h7.of ?_ | refine zU h8.of ?_)
      refine ⟨3, by simp, by simp only; omega, Weak.at hcl ?_⟩
      simp only [seval, evw, fm, dq23, *]
    · have hr : RES = 2 := hres.of.symm
      repeat' (first | simp only [seval, evx, beq_self_eq_true, dq23, *] | simp (disch := omega) only [if_pos, if_neg] | refine zG ?_ | refine zH ?_ | refine zI rfl ?_ | refine zK ?_ | refine zL ?_ | refine zM ?_ | refine zN ?_ | refine zO ?_ | ((first | refine zP hcl ?_ | refine zQ hcl ?_); simp only [seval, evw, fm, dq23, *]) | ((first | refine zB ?_ ?_ | refine zD ?_ ?_ | refine zF ?_ ?_) <;> (intro hc; try simp only [seval, nf] at hc)) | refine zR ?_ | refine CallX.inst ?_ | (with_reducible refine And.intro ?_ ?_) | exact True.intro | refine zU h1.of ?_ | refine zT h1.of ?_ | refine zU h2.of ?_ | refine zT h2.of ?_ | refine zU h3.of ?_ | refine zU h4.of ?_ | refine zU h5.of ?_ | refine zU h6.of ?_ | refine zU h7.of ?_ | refine zU h8.of ?_)
  · have q1 := q1 (by omega)
    have q2 := q2 (by omega)
    subst q1 q2
    clear q3 q4
    cases X3
    · repeat' (first | simp only [seval, evx, beq_self_eq_true, dq23, *] | simp (disch := omega) only [if_pos, if_neg] | refine zG ?_ | refine zH ?_ | refine zI rfl ?_ | refine zK ?_ | refine zL ?_ | refine zM ?_ | refine zN ?_ | refine zO ?_ | ((first | refine zP hcl ?_ | refine zQ hcl ?_); simp only [seval, evw, fm, dq23, *]) | ((first | refine zB ?_ ?_ | refine zD ?_ ?_ | refine zF ?_ ?_) <;> (intro hc; try simp only [seval, nf] at hc)) | refine zR ?_ | refine CallX.inst ?_ | (with_reducible refine And.intro ?_ ?_) | exact True.intro | refine zU h1.of ?_ | refine zT h1.of ?_ | refine zU h2.of ?_ | refine zT h2.of ?_ | refine zU h3.of ?_ | refine zU h4.of ?_ | refine zU h5.of ?_ | refine zU h6.of ?_ | refine zU h7.of ?_ | refine zU h8.of ?_)
      refine ⟨4, by simp, by simp only; omega, Weak.at hcl ?_⟩
      simp only [seval, evw, fm, dq23, *]
    · have hr : RES = 3 := hres.of.symm
      repeat' (first | simp only [seval, evx, beq_self_eq_true, dq23, *] | simp (disch := omega) only [if_pos, if_neg] | refine zG ?_ | refine zH ?_ | refine zI rfl ?_ | refine zK ?_ | refine zL ?_ | refine zM ?_ | refine zN ?_ | refine zO ?_ | ((first | refine zP hcl ?_ | refine zQ hcl ?_); simp only [seval, evw, fm, dq23, *]) | ((first | refine zB ?_ ?_ | refine zD ?_ ?_ | refine zF ?_ ?_) <;> (intro hc; try simp only [seval, nf] at hc)) | refine zR ?_ | refine CallX.inst ?_ | (with_reducible refine And.intro ?_ ?_) | exact True.intro | refine zU h1.of ?_ | refine zT h1.of ?_ | refine zU h2.of ?_ | refine zT h2.of ?_ | refine zU h3.of ?_ | refine zU h4.of ?_ | refine zU h5.of ?_ | refine zU h6.of ?_ | refine zU h7.of ?_ | refine zU h8.of ?_)
  · have q1 := q1 (by omega)
    have q2 := q2 (by omega)
    have q3 := q3 (by omega)
    subst q1 q2 q3
    clear q4
    cases X4
    · repeat' (first | simp only [seval, evx, beq_self_eq_true, dq23, *] | simp (disch := omega) only [if_pos, if_neg] | refine zG ?_ | refine zH ?_ | refine zI rfl ?_ | refine zK ?_ | refine zL ?_ | refine zM ?_ | refine zN ?_ | refine zO ?_ | ((first | refine zP hcl ?_ | refine zQ hcl ?_); simp only [seval, evw, fm, dq23, *]) | ((first | refine zB ?_ ?_ | refine zD ?_ ?_ | refine zF ?_ ?_) <;> (intro hc; try simp only [seval, nf] at hc)) | refine zR ?_ | refine CallX.inst ?_ | (with_reducible refine And.intro ?_ ?_) | exact True.intro | refine zU h1.of ?_ | refine zT h1.of ?_ | refine zU h2.of ?_ | refine zT h2.of ?_ | refine zU h3.of ?_ | refine zU h4.of ?_ | refine zU h5.of ?_ | refine zU h6.of ?_ | refine zU h7.of ?_ | refine zU h8.of ?_)
      refine ⟨5, by simp, by simp only; omega, Weak.at hcl ?_⟩
      simp only [seval, evw, fm, dq23, *]
    · have hr : RES = 4 := hres.of.symm
      repeat' (first | simp only [seval, evx, beq_self_eq_true, dq23, *] | simp (disch := omega) only [if_pos, if_neg] | refine zG ?_ | refine zH ?_ | refine zI rfl ?_ | refine zK ?_ | refine zL ?_ | refine zM ?_ | refine zN ?_ | refine zO ?_ | ((first | refine zP hcl ?_ | refine zQ hcl ?_); simp only [seval, evw, fm, dq23, *]) | ((first | refine zB ?_ ?_ | refine zD ?_ ?_ | refine zF ?_ ?_) <;> (intro hc; try simp only [seval, nf] at hc)) | refine zR ?_ | refine CallX.inst ?_ | (with_reducible refine And.intro ?_ ?_) | exact True.intro | refine zU h1.of ?_ | refine zT h1.of ?_ | refine zU h2.of ?_ | refine zT h2.of ?_ | refine zU h3.of ?_ | refine zU h4.of ?_ | refine zU h5.of ?_ | refine zU h6.of ?_ | refine zU h7.of ?_ | refine zU h8.of ?_)
  · have q1 := q1 (by omega)
    have q2 := q2 (by omega)
    have q3 := q3 (by omega)
    have q4 := q4 (by omega)
    subst q1 q2 q3 q4
    have hr : RES = 0 := hres.of.symm
    repeat' (first | simp only [seval, evx, beq_self_eq_true, dq23, *] | simp (disch := omega) only [if_pos, if_neg] | refine zG ?_ | refine zH ?_ | refine zI rfl ?_ | refine zK ?_ | refine zL ?_ | refine zM ?_ | refine zN ?_ | refine zO ?_ | ((first | refine zP hcl ?_ | refine zQ hcl ?_); simp only [seval, evw, fm, dq23, *]) | ((first | refine zB ?_ ?_ | refine zD ?_ ?_ | refine zF ?_ ?_) <;> (intro hc; try simp only [seval, nf] at hc)) | refine zR ?_ | refine CallX.inst ?_ | (with_reducible refine And.intro ?_ ?_) | exact True.intro | refine zU h1.of ?_ | refine zT h1.of ?_ | refine zU h2.of ?_ | refine zT h2.of ?_ | refine zU h3.of ?_ | refine zU h4.of ?_ | refine zU h5.of ?_ | refine zU h6.of ?_ | refine zU h7.of ?_ | refine zU h8.of ?_)
def fz : Cs := ⟨[0, 0, 0, 0, 0, 0, 0, 0], [], [], 0⟩
def fdC (k kind : Int) (c : Cs) : List AV := .int .i64 k :: .int .i64 kind :: (ic c.R ++ [.list (c.heap.map encI), .list (c.ans.map encI), .int .i64 c.fuel])
theorem fdC_eq (k kind : Int) (c : Cs) : fdC k kind c = .int .i64 k :: .int .i64 kind :: (ic c.R ++ [.list (c.heap.map encI), .list (c.ans.map encI), .int .i64 c.fuel]) := rfl
theorem fz_eq : fdC 0 0 fz = [.int .i64 0, .int .i64 0, .int .i64 0, .int .i64 0, .int .i64 0, .int .i64 0, .int .i64 0, .int .i64 0, .int .i64 0, .int .i64 0, .list [], .list [], .int .i64 0] := rfl
def findA (f g : List Ins) (t fu : Int) : AV :=
  if fnOk f && fnOk g then (match findF f g t fu with
    | some k => .tup [.agg (fdC (k : Int) (tellF f g (atOf f g (k : Int) fu)) (atOf f g (k : Int) fu)), .bool true, .int .i64 0]
    | none => .tup [.agg (fdC 0 0 fz), .bool false, .int .i64 0])
  else .tup [.agg (fdC 0 0 fz), .bool false, .int .i64 1]
theorem findA_no {f g : List Ins} {t fu : Int} (h : (fnOk f && fnOk g) = false) : findA f g t fu = .tup [.agg (fdC 0 0 fz), .bool false, .int .i64 1] := by unfold findA; rw [h]; rfl
theorem findA_none {f g : List Ins} {t fu : Int} (hf : fnOk f = true) (hg : fnOk g = true) (h : findF f g t fu = none) : findA f g t fu = .tup [.agg (fdC 0 0 fz), .bool false, .int .i64 0] := by unfold findA; rw [hf, hg, h]; rfl
theorem findA_some {f g : List Ins} {t fu : Int} {k : Nat} (hf : fnOk f = true) (hg : fnOk g = true) (h : findF f g t fu = some k) : findA f g t fu = .tup [.agg (fdC (k : Int) (tellF f g (atOf f g (k : Int) fu)) (atOf f g (k : Int) fu)), .bool true, .int .i64 0] := by unfold findA; rw [hf, hg, h]; rfl
theorem tellA_at {f g : List Ins} {c : Cs} (hf : fnOk f = true) (hg : fnOk g = true) (hc : csRight c = true) : tellA f g c = .tup [.int .i64 (tellF f g c), .int .i64 0] := by
  unfold tellA
  rw [hf, hg, hc]
  rfl
def sideO (o : Obj) : Prop := ∀ x y z, o ≠ .cells x y z
def Cx.putS (c : Cx) (l : Nat) (o : Obj) : Cx := ⟨c.ι, c.H, c.w.putObj l o⟩
theorem putS_cell {w : World} {l b i : Nat} {o o' : Obj} (hl : w.heap[l]? = some o) (ho : sideO o) (ho' : sideO o') : (w.putObj l o').cell? ⟨b, i, none⟩ = w.cell? ⟨b, i, none⟩ := by
  by_cases e : b = l
  · subst e
    have h1 : (w.putObj b o').heap[b]? = some o' := World.putObj_heap_same (Array.getElem?_eq_some_iff.1 hl).1
    unfold World.cell?
    simp only [h1, hl]
    cases o with
    | cells x y z => exact absurd rfl (ho x y z)
    | _ =>
      cases o' with
      | cells x y z => exact absurd rfl (ho' x y z)
      | _ => rfl
  · exact cell_same (World.putObj_heap_other e)
theorem putS_cellsIn {w : World} {l b : Nat} {o o' : Obj} (hl : w.heap[l]? = some o) (ho : sideO o) (ho' : sideO o') : cellsIn (w.putObj l o') b = cellsIn w b := by
  by_cases e : b = l
  · subst e
    have h1 : (w.putObj b o').heap[b]? = some o' := World.putObj_heap_same (Array.getElem?_eq_some_iff.1 hl).1
    unfold cellsIn
    simp only [h1, hl]
    cases o with
    | cells x y z => exact absurd rfl (ho x y z)
    | _ =>
      cases o' with
      | cells x y z => exact absurd rfl (ho' x y z)
      | _ => rfl
  · unfold cellsIn; rw [World.putObj_heap_other e]
theorem RepV.putS {c : Cx} {l : Nat} {o o' : Obj} (hl : c.w.heap[l]? = some o) (ho : sideO o) (ho' : sideO o') {a : AV} {v : Value} (h : RepV c a v) : RepV (c.putS l o') a v := by
  induction h with
  | int k n => exact .int k n
  | bool b => exact .bool b
  | str s => exact .str s
  | imm v => exact .imm v
  | list sz xs b o cap cs h0 hn hsz hlen hcap hw hst hc hr ih =>
    exact .list sz xs b o cap cs h0 hn hsz hlen hcap hw hst (fun i j a ha => (putS_cell hl ho ho').trans (hc i j a ha)) ih
  | lnil A cap => exact .lnil A cap
  | sl sz k n off len A cap hk hcl hA hn hv =>
    refine .sl sz k n off len A cap hk hcl hA hn (fun xs hx hl' => ?_)
    obtain ⟨h1, h2⟩ := hv xs hx hl'
    refine ⟨h1, ?_⟩
    rcases h2 with ⟨b, e1, e2, e3⟩ | h2
    · exact .inl ⟨b, e1, e2, by rw [e3]; show cellsIn c.w b / sz - off = cellsIn (c.w.putObj l o') b / sz - off; rw [putS_cellsIn hl ho ho']⟩
    · exact .inr h2
  | ptr k n i off b0 o0 hk hn hv => exact .ptr k n i off b0 o0 hk hn hv
  | lptr row off b o cs h0 hw hst hc hr ih => exact .lptr row off b o cs h0 hw hst (fun j a ha => (putS_cell hl ho ho').trans (hc j a ha)) ih
  | iter k A hk hv => exact .iter k A hk hv
  | map k r hk hv => exact .map k r hk hv
  | fn f first cap fs gs hf hg hfr hgr ih1 ih2 => exact .fn f first cap fs gs hf hg ih1 ih2
  | iface t a v h ih => exact .iface t a v ih
  | agg xs vs hs hr ih => exact .agg xs vs hs ih
  | tup xs vs hs hr ih => exact .tup xs vs hs ih
  | dead v => exact .dead v
theorem RepH.putS {c : Cx} {l : Nat} {o o' : Obj} (hl : c.w.heap[l]? = some o) (ho : sideO o) (ho' : sideO o') (hw : ¬ c.wr l) (h : RepH c) : RepH (c.putS l o') where
  obj := fun k x hk => by
    have hx := h.obj k x hk
    have hne : x.live = true → ∀ b, c.ι k = some b → (c.putS l o').w.heap[b]? = c.w.heap[b]? := fun hlv b hb => World.putObj_heap_other fun e => hw ⟨k, x, hk, hlv, by rw [hb, e]⟩
    cases x with
    | gone => exact hx
    | iter s p =>
      obtain ⟨b, h1, h2⟩ := hx
      exact ⟨b, h1, (hne rfl b h1).trans h2⟩
    | map es =>
      obtain ⟨b, ents, clock, h1, h2, h3, h4⟩ := hx
      refine ⟨b, ents, clock, h1, (hne rfl b h1).trans h2, h3, fun i p hp => ?_⟩
      obtain ⟨e, he, hk, hv⟩ := h4 i p hp
      exact ⟨e, he, hk.putS hl ho ho', hv.putS hl ho ho'⟩
    | vec sz xs =>
      obtain ⟨h1, h2, h3, h4⟩ := hx
      refine ⟨h1, h2, h3, ?_⟩
      show match c.ι k with
        | none => xs = []
        | some b => _
      cases hi : c.ι k with
      | none => rw [hi] at h4; exact h4
      | some b =>
        rw [hi] at h4
        obtain ⟨cs, e, fr, g1, g2, g3, g4⟩ := h4
        exact ⟨cs, e, fr, (hne rfl b hi).trans g1, g2, g3, fun i j a ha => (g4 i j a ha).putS hl ho ho'⟩
  lt := fun k x b h1 h2 h3 => by
    have := h.lt k x b h1 h2 h3
    show b < (c.w.putObj l o').heap.size
    rwa [World.putObj_size]
  inj := h.inj
  glob := fun g row hg => by
    obtain ⟨h0, hw', hc⟩ := h.glob g row hg
    exact ⟨h0, hw', fun j a ha => by
      obtain ⟨h1, v, h2, h3⟩ := hc j a ha
      exact ⟨h1, v, (putS_cell hl ho ho').trans h2, h3.putS hl ho ho'⟩⟩
theorem Fr.putS {c0 c : Cx} {l : Nat} {o o' : Obj} (hl : c.w.heap[l]? = some o) (ho : sideO o) (ho' : sideO o') (h0 : c0.w.heap.size ≤ l) (h : Fr c0 c) : Fr c0 (c.putS l o') where
  os := h.os
  tape := h.tape
  output := h.output
  size := by show _ ≤ (c.w.putObj l o').heap.size; rw [World.putObj_size]; exact h.size
  keep := fun b hb hw => ⟨(World.putObj_heap_other (by omega)).trans (h.keep b hb hw).1, (h.keep b hb hw).2⟩
  len := h.len
  vec := fun k sz xs hk hx => by
    obtain ⟨ys, h1, h2, h3⟩ := h.vec k sz xs hk hx
    exact ⟨ys, h1, h2, fun e => ⟨(h3 e).1, fun b hb => by rw [← (h3 e).2 b hb]; exact putS_cellsIn hl ho ho'⟩⟩
  map := h.map
  iter := h.iter
theorem RepS.putS {N : Nat} {ι : Nat → Option Nat} {σ : AS} {a : Act} {w : World} {l : Nat} {o o' : Obj} (hl : w.heap[l]? = some o) (ho : sideO o) (ho' : sideO o') (hw : ¬ Cx.wr ⟨ι, σ.H, w⟩ l) (h : RepS N ι σ a w) : RepS N ι σ a (w.putObj l o') :=
  ⟨RepH.putS (c := ⟨ι, σ.H, w⟩) hl ho ho' hw h.h, h.t.size, fun n => RepV.putS (c := ⟨ι, σ.H, w⟩) hl ho ho' (h.t.val n), h.t.defers⟩
theorem Fr.alloc {c : Cx} (o : Obj) (hH : RepH c) : Fr c ⟨c.ι, c.H, c.w.alloc o⟩ where
  os := rfl
  tape := rfl
  output := rfl
  size := by rw [World.size_alloc]; omega
  keep := fun b hb hw => ⟨Below.heap_alloc c.w o b hb, hw⟩
  len := Nat.le_refl _
  vec := fun k sz xs hk hx => ⟨xs, hx, Nat.le_refl _, fun _ => ⟨rfl, fun b hb => by
    have : b < c.w.heap.size := hH.lt k (.vec sz xs) b hx rfl hb
    unfold cellsIn
    rw [Below.heap_alloc c.w o b this]⟩⟩
  map := fun k es hk hx => ⟨⟨es, hx⟩, rfl⟩
  iter := fun k s p hk hx => ⟨⟨s, p, hx⟩, rfl⟩
theorem RepH.alloc {c : Cx} (o : Obj) (h : RepH c) : RepH ⟨c.ι, c.H, c.w.alloc o⟩ where
  obj := fun k x hk => (h.obj k x hk).mono (Fr.alloc o h) rfl fun hl b hb => Below.heap_alloc c.w o b (h.lt k x b hk hl hb)
  lt := fun k x b h1 h2 h3 => by
    have := h.lt k x b h1 h2 h3
    show b < (c.w.alloc o).heap.size
    rw [World.size_alloc]
    omega
  inj := h.inj
  glob := h.glob.mono (Fr.alloc o h)
theorem wr_lt {c : Cx} (h : RepH c) {l : Nat} (hl : c.w.heap.size ≤ l) : ¬ c.wr l := fun ⟨k, o, h1, h2, h3⟩ => by
  have := h.lt k o l h1 h2 h3
  omega
def Wide (F : Fence) : Prop := F = Fence.wide ∨ ∃ l, F = Fence.wide.inRound l
theorem Wide.fn {F : Fence} (h : Wide F) (f : FuncId) : F.fn f := by
  rcases h with rfl | ⟨l, rfl⟩ <;> exact trivial
theorem Wide.depth {F : Fence} (h : Wide F) : F.depth = none := by
  rcases h with rfl | ⟨l, rfl⟩ <;> rfl
theorem Wide.calls {F : Fence} (h : Wide F) {n : Nat} {P : Program} {f : FuncId} {args : Array Value} {w : World} {R : Ending → World → Prop} (hc : Calls P f args w R) : CallsIn F n P f args w R := by
  rcases h with rfl | ⟨l, rfl⟩
  · exact callsIn_wide.2 hc
  · exact CallsIn.inRound l (callsIn_wide.2 hc)
def noD (a : Act) : Act := { a with defers := [] }
theorem noD_put (a : Act) (d : Option Tmp) (v : Value) : noD (a.put d v) = (noD a).put d v := by cases d <;> rfl
theorem put_defers (a : Act) (d : Option Tmp) (v : Value) : (a.put d v).defers = a.defers := by cases d <;> rfl
theorem noD_eval (a : Act) : (noD a).eval = a.eval := by funext x; cases x <;> rfl
section
variable {P : Program} {N : Nat} {F : Fence} {n : Nat}
def NextR (c0 : Cx) (N : Nat) (ds : List Deferred) (K : AS → Prop) : Act → World → Prop := fun a w => ∃ σ ι, RepS N ι σ (noD a) w ∧ a.defers = ds ∧ Fr c0 ⟨ι, σ.H, w⟩ ∧ K σ
theorem opIn (hF : Wide F) {o : Oper} {K : AS → Prop} {σ : AS} (hd : ∀ k, o.dst = some k → k < N) (h : wpO P ⟨o.dst, lowOp P o, none⟩ K σ) {c0 : Cx} {ι : Nat → Option Nat} {a : Act} {w : World} (hs : RepS N ι σ (noD a) w) (hf : Fr c0 ⟨ι, σ.H, w⟩) (Q : Exit → Act → World → Prop) :
    o.wpIn F n P a w (NextR c0 N a.defers K) Q := by
  have hρ : ∀ x, RepV ⟨ι, σ.H, w⟩ (ev σ.t (lowX x)) (a.eval x) := fun x => by
    have := hs.t.eval hs.h.glob x
    rwa [noD_eval] at this
  have hnd : ∀ c, o.op ≠ .defer c := fun c hc => by
    have : lowOp P o = .bad := by simp [lowOp, hc]
    rw [this] at h
    simp [wpO, stepL, pureStep] at h
  refine ⟨fun f _ => hF.fn f, ?_⟩
  rw [Oper.semAt_eq _ _ _ hnd]
  have nx : ∀ {v : AV} {H' : List AObj} {ι' : Nat → Option Nat} {w' : World} {u : Value}, RepH ⟨ι', H', w'⟩ → Fr ⟨ι, σ.H, w⟩ ⟨ι', H', w'⟩ → RepV ⟨ι', H', w'⟩ v u → K ⟨σ.t.put o.dst v, H'⟩ → NextR c0 N a.defers K (a.put o.dst u) w' := fun {v H' ι' w' u} h3 h4 h5 hK =>
    ⟨⟨σ.t.put o.dst v, H'⟩, ι', by rw [noD_put]; exact ⟨h3, (hs.t.mono h4).put hd h5⟩, put_defers _ _ _, hf.trans h4, hK⟩
  have stp : ∀ v H', stepL (lowOp P o) σ = some (v, H') → K ⟨σ.t.put o.dst v, H'⟩ → o.uponIn F n P a (NextR c0 N a.defers K) Q ((execOp a.eval o).run P w) := fun v H' hst hK => by
    obtain ⟨ι', w', m, u, h1, h2, h3, h4, h5⟩ := step_sound (c := ⟨ι, σ.H, w⟩) (ρ := a.eval) (t := σ.t) hs.h hρ hst
    rw [h1]
    rcases h2 with rfl | ⟨rfl, rfl⟩
    · exact nx h3 h4 h5 hK
    · exact nx h3 h4 h5 hK
  unfold wpO at h
  simp only at h
  split at h
  · rename_i f args hop
    cases hoo : o.op with
    | call cl =>
      cases hc : cl.callee with
      | value fo =>
        simp only [lowOp, hoo, hc, LOp.call.injEq] at hop
        obtain ⟨rfl, rfl⟩ := hop
        have hfv := hρ fo
        unfold CallA at h
        split at h
        · rename_i f' first cap hfe
          rw [hfe] at hfv
          obtain ⟨us, vs, hv, h1, h2⟩ := hfv.fn_inv
          obtain ⟨⟨fn, hfn, hbody, hname⟩, hcall⟩ := h
          have hargs : RepVs ⟨ι, σ.H, w⟩ (first ++ (cl.args.toList.map lowX).map (ev σ.t) ++ cap) (us ++ cl.args.map a.eval ++ vs) := (h1.append (RepVs_map hρ cl.args)).append h2
          have hc' := hcall ι w _ hs.h hargs
          have hne : fn.body.isNone = false := by
            cases hb : fn.body with
            | none => simp [hb] at hbody
            | some b => rfl
          have hrun : (execOp a.eval o).run P w = .ok (.enter f' (us ++ cl.args.map a.eval ++ vs)) w := by
            simp only [execOp, hoo, resolve, hc, hv, Deferred.ofValue, Sem.run_bind, Sem.run_pure, Result.andThen_ok, invoke, callFunc, run_program, hfn, hname, hne, Bool.false_eq_true, if_false]
          rw [hrun]
          refine ⟨fun hd => by rw [hF.depth] at hd; simp at hd, hF.calls (hc'.mono fun e w' ⟨r, v, ι', H', g1, g2, g3, g4, g5⟩ => ?_)⟩
          subst g1
          exact nx g3 g5 g4 g2
        · exact h.elim
      | invoke r m => simp [lowOp, hoo, hc] at hop
      | builtin b => cases b <;> simp only [lowOp, hoo, hc] at hop <;> (repeat' split at hop) <;> simp at hop
    | unOp op ty x => cases op <;> simp [lowOp, hoo] at hop
    | makeMap ty r => cases r <;> simp [lowOp, hoo] at hop
    | next it b => cases b <;> simp [lowOp, hoo] at hop
    | typeAssert x xt ty ok => cases ok <;> simp only [lowOp, hoo] at hop <;> (repeat' split at hop) <;> simp at hop
    | _ => simp only [lowOp, hoo] at hop <;> (repeat' split at hop) <;> simp at hop
  · split at h
    · rename_i v H' hst
      exact stp v H' hst h
    · exact h.elim
theorem low_plain {ops : Array Oper} {o : Oper} (hg : (lowOperN P N ops o).guard = none) (hb : (lowOperN P N ops o).op ≠ .bad) : o.guard = none ∧ (∀ k, o.dst = some k → k < N) ∧ lowOperN P N ops o = ⟨o.dst, lowOp P o, none⟩ := by
  have hd : ∀ k, o.dst = some k → k < N := fun k hk => by
    unfold lowOperN at hb
    rw [hk] at hb
    simp only at hb
    split at hb
    · assumption
    · simp at hb
  have hlow : lowOperN P N ops o = lowOper P ops o := by
    unfold lowOperN
    split
    · rename_i d hd'
      rw [if_pos (hd d hd')]
    · rfl
  rw [hlow] at hg hb ⊢
  unfold lowOper at hg hb ⊢
  split
  · rename_i h; exact ⟨h, hd, rfl⟩
  · rename_i j b h
    simp only [h] at hg hb
    split at hg
    · simp at hg
    · rename_i h2
      simp [h2] at hb
theorem wpG_notbad {o : LOper} {K : AS → Prop} {σ : AS} (hg : o.guard = none) (h : wpG P o K σ) : o.op ≠ .bad ∧ wpO P o K σ := by
  unfold wpG at h
  rw [hg] at h
  simp only at h
  refine ⟨fun e => ?_, h⟩
  unfold wpO at h
  rw [e] at h
  simp [stepL, pureStep] at h
theorem listIn (hF : Wide F) {ops : Array Oper} {Qr : Exit → Act → World → Prop} {c0 : Cx} {K : AS → Prop} {rest : List Oper} : ∀ (l : List Oper) (σ : AS) (ι : Nat → Option Nat) (a : Act) (w : World), (∀ o ∈ l, (lowOperN P N ops o).guard = none) → wpL P (l.map (lowOperN P N ops)) K σ → RepS N ι σ (noD a) w → Fr c0 ⟨ι, σ.H, w⟩ →
    (∀ a' w', NextR c0 N a.defers K a' w' → wpListIn F n P ops Qr rest a' w') → wpListIn F n P ops Qr (l ++ rest) a w
  | [], σ, ι, a, w, _, h, hs, hf, hr => hr a w ⟨σ, ι, hs, rfl, hf, h⟩
  | o :: l, σ, ι, a, w, hg, h, hs, hf, hr => by
    simp only [List.map_cons, wpL] at h
    obtain ⟨h1, h2⟩ := wpG_notbad (hg o (by simp)) h
    obtain ⟨g1, g2, g3⟩ := low_plain (hg o (by simp)) h1
    rw [g3] at h2
    show wpListIn F n P ops Qr (o :: (l ++ rest)) a w
    unfold wpListIn
    rw [if_pos (by simp [Region.wanted, g1])]
    have := opIn (n := n) hF g2 h2 hs hf Qr
    refine ⟨this.1, ?_⟩
    have mono : ∀ {r : Result Next} {nx nx' : Act → World → Prop}, (∀ a w, nx a w → nx' a w) → o.uponIn F n P a nx Qr r → o.uponIn F n P a nx' Qr r := fun {r nx nx'} hm hu => by
      cases r with
      | halt x w' => cases x <;> exact hu
      | ok nxt w' =>
        cases nxt with
        | value v => exact hm _ _ hu
        | skip => exact hm _ _ hu
        | defer d => exact hm _ _ hu
        | enter f args => exact ⟨hu.1, hu.2.mono fun e w'' he => by cases e <;> first | exact hm _ _ he | exact he⟩
        | row rw_ args => exact ⟨hu.1, hu.2.mono fun v w'' he => hm _ _ he⟩
        | round l f tm as_ bd => exact ⟨hu.1, hu.2.mono fun e w'' he => by cases e <;> first | exact hm _ _ he | exact he⟩
        | _ => exact hu
    refine mono (fun a' w' ⟨σ', ι', k1, k2, k3, k4⟩ => ?_) this.2
    have := listIn hF (Qr := Qr) (rest := rest) l σ' ι' a' w' (fun o ho => hg o (by simp [ho])) k4 k1 k3 (by rw [k2]; exact hr)
    exact this
def GoodR (c0 : Cx) (N : Nat) (ds : List Deferred) (Q : Exit → AS → Prop) : Exit → Act → World → Prop := fun e a w => calm e ∧ ∃ σ ι, RepS N ι σ (noD a) w ∧ a.defers = ds ∧ Fr c0 ⟨ι, σ.H, w⟩ ∧ Q e σ
def LCR (P : Program) (N : Nat) (lc : LCode) (Q : Exit → AS → Prop) (σ : AS) : Prop :=
  ∀ code, lowCode P N code = lc → ∀ (F : Fence) (n : Nat) (c0 : Cx) (ι : Nat → Option Nat) (a : Act) (w : World), Wide F → RepS N ι σ (noD a) w → Fr c0 ⟨ι, σ.H, w⟩ → code.wpIn F n P (GoodR c0 N a.defers Q) a w
variable {Q : Exit → AS → Prop} {σ : AS}
theorem LCR.text {l : List LOper} (hg : l.all (fun o => o.guard.isNone) = true) (h : wpL P l (Q .normal) σ) : LCR P N (.text l) Q σ := fun code hc F n c0 ι a w hF hs hf => by
  cases code with
  | region id ops d =>
    cases d with
    | false =>
      simp only [lowCode, LCode.text.injEq] at hc
      subst hc
      refine wpIn_region_list ?_
      have := listIn (n := n) (rest := []) (Qr := GoodR c0 N a.defers Q) hF ops.toList σ ι a w (fun o ho => by
        rw [List.all_eq_true] at hg
        have := hg _ (List.mem_map_of_mem ho)
        simpa using this) h hs hf (fun a' w' ⟨σ', ι', k1, k2, k3, k4⟩ => ⟨trivial, σ', ι', k1, k2, k3, k4⟩)
      simpa using this
    | true => simp [lowCode] at hc; split at hc <;> simp at hc
  | _ => simp [lowCode] at hc
theorem LCR.skip (h : Q .normal σ) : LCR P N .skip Q σ := fun code hc F n c0 ι a w hF hs hf => by
  cases code with
  | skip => exact wpIn_skip ⟨trivial, σ, ι, hs, rfl, hf, h⟩
  | label l => exact wpIn_label ⟨trivial, σ, ι, hs, rfl, hf, h⟩
  | region id ops d => cases d <;> simp [lowCode] at hc; split at hc <;> simp at hc
  | _ => simp [lowCode] at hc
theorem LCR.ret (h : Q .ret σ) : LCR P N .ret Q σ := fun code hc F n c0 ι a w hF hs hf => by
  cases code with
  | ret => exact wpIn_ret ⟨trivial, σ, ι, hs, rfl, hf, h⟩
  | region id ops d => cases d <;> simp [lowCode] at hc; split at hc <;> simp at hc
  | _ => simp [lowCode] at hc
theorem LCR.seq {x y : LCode} (h : LCR P N x (fun e σ' => match e with | .normal => LCR P N y Q σ' | e => Q e σ') σ) : LCR P N (.seq x y) Q σ := fun code hc F n c0 ι a w hF hs hf => by
  cases code with
  | seq c d =>
    simp only [lowCode, LCode.seq.injEq] at hc
    refine wpIn_seq (wpIn_mono (h c hc.1 F n c0 ι a w hF hs hf) fun e a1 w ⟨h0, σ', ι', h1, hd, h2, h3⟩ => ?_)
    cases e with
    | normal =>
      have := h3 d hc.2 F n c0 ι' a1 w hF h1 h2
      rw [hd] at this
      exact this
    | _ => exact ⟨h0, σ', ι', h1, hd, h2, h3⟩
  | region id ops d => cases d <;> simp [lowCode] at hc; split at hc <;> simp at hc
  | _ => simp [lowCode] at hc
theorem LCR.cond {c : Opd} {x y : LCode} {t : Bool} (hc : ev σ.t c = .bool t) (ht : t = true → LCR P N x Q σ) (hf : t = false → LCR P N y Q σ) : LCR P N (.cond c x y) Q σ := fun code hcd F n c0 ι a w hF hs hfr => by
  cases code with
  | cond c' d e =>
    simp only [lowCode, LCode.cond.injEq] at hcd
    obtain ⟨rfl, h1, h2⟩ := hcd
    have hv := hs.t.eval hs.h.glob c'
    rw [noD_eval, hc] at hv
    refine wpIn_cond hv.bool_inv ?_
    cases t with
    | true => exact ht rfl d h1 F n c0 ι a w hF hs hfr
    | false => exact hf rfl e h2 F n c0 ι a w hF hs hfr
  | region id ops d => cases d <;> simp [lowCode] at hcd; split at hcd <;> simp at hcd
  | _ => simp [lowCode] at hcd
theorem LCR.block {id : Nat} {x : LCode} (h : LCR P N x (fun e σ' => match e with | .exit i => if i = id then Q .normal σ' else Q (.exit i) σ' | e => Q e σ') σ) : LCR P N (.block id x) Q σ := fun code hc F n c0 ι a w hF hs hf => by
  cases code with
  | block id' d =>
    simp only [lowCode, LCode.block.injEq] at hc
    obtain ⟨rfl, hc⟩ := hc
    refine wpIn_block (wpIn_mono (h d hc F n c0 ι a w hF hs hf) fun e a w ⟨h0, σ', ι', h1, hd, h2, h3⟩ => ?_)
    cases e with
    | exit i =>
      simp only [Exit.inBlock]
      simp only at h3
      split
      · rename_i e; rw [if_pos e] at h3; exact ⟨trivial, σ', ι', h1, hd, h2, h3⟩
      · rename_i e; rw [if_neg e] at h3; exact ⟨trivial, σ', ι', h1, hd, h2, h3⟩
    | _ => exact ⟨h0, σ', ι', h1, hd, h2, h3⟩
  | region id ops d => cases d <;> simp [lowCode] at hc; split at hc <;> simp at hc
  | _ => simp [lowCode] at hc
theorem LCR.mono {lc : LCode} {Q' : Exit → AS → Prop} (h : LCR P N lc Q σ) (hq : ∀ e σ, Q e σ → Q' e σ) : LCR P N lc Q' σ := fun code hc F n c0 ι a w hF hs hf =>
  wpIn_mono (h code hc F n c0 ι a w hF hs hf) fun e a w ⟨h0, σ', ι', h1, hd, h2, h3⟩ => ⟨h0, σ', ι', h1, hd, h2, hq _ _ h3⟩
theorem yieldIn {ops : Array Oper} {o : Oper} {d : Option Nat} {fx : Opd} {args : List Opd} (hlow : lowOperN P N ops o = ⟨d, .call fx args, none⟩) {ι : Nat → Option Nat} {a : Act} {w : World} (hs : RepS N ι σ a w) {l : Nat} (hfx : ev σ.t fx = .imm (.func (.yield l) #[] #[]))
    {r : Loop} (hl : w.heap[l]? = some (.loop r)) (hsz : args.length = r.params.size) {next : Act → World → Prop} {Q : Exit → Act → World → Prop}
    (hround : ∀ vals : Array Value, RepVs ⟨ι, σ.H, w⟩ (args.map (ev σ.t)) vals → RoundIn Fence.wide (n - 1) P l r.fn ((r.params.zip vals).foldl (fun tmps (t, a) => tmps.setIfInBounds t a) r.tmps) r.assign r.body w fun e w' => ∃ v, e = .returned v ∧ next (a.put d v) w') :
    Region.wanted o (yielded ops a.tmps) = true ∧ o.wpIn Fence.wide n P a w next Q := by
  have hg : (lowOperN P N ops o).guard = none := by rw [hlow]
  have hb : (lowOperN P N ops o).op ≠ .bad := by rw [hlow]; simp
  obtain ⟨g1, g2, g3⟩ := low_plain hg hb
  rw [g3] at hlow
  simp only [LOper.mk.injEq, and_true] at hlow
  obtain ⟨hdst, hop⟩ := hlow
  subst hdst
  have hρ : ∀ x, RepV ⟨ι, σ.H, w⟩ (ev σ.t (lowX x)) (a.eval x) := hs.t.eval hs.h.glob
  refine ⟨by simp [Region.wanted, g1], fun f _ => trivial, ?_⟩
  show o.uponIn Fence.wide n P a next Q ((execOp a.eval o).run P w)
  cases hoo : o.op with
  | call cl =>
    cases hc : cl.callee with
    | value fo =>
      simp only [lowOp, hoo, hc, LOp.call.injEq] at hop
      obtain ⟨rfl, rfl⟩ := hop
      have hfv := hρ fo
      rw [hfx] at hfv
      have hv : a.eval fo = .func (.yield l) #[] #[] := hfv.imm_inv
      have hargs : RepVs ⟨ι, σ.H, w⟩ ((cl.args.toList.map lowX).map (ev σ.t)) (cl.args.map a.eval) := RepVs_map hρ cl.args
      have hy := run_yield (P := P) (args := cl.args.map a.eval) hl (by simpa using hsz)
      have hrun : (execOp a.eval o).run P w = .ok (.round l r.fn ((r.params.zip (cl.args.map a.eval)).foldl (fun tmps (t, a) => tmps.setIfInBounds t a) r.tmps) r.assign r.body) w := by
        rw [← hy]
        simp [execOp, hoo, resolve, hc, hv, Deferred.ofValue, invoke]
      rw [hrun]
      refine ⟨fun hd => by simp [Fence.wide] at hd, (hround _ hargs).mono fun e w' ⟨v, he, hn⟩ => ?_⟩
      subst he
      exact hn
    | invoke r m => simp [lowOp, hoo, hc] at hop
    | builtin b => cases b <;> simp only [lowOp, hoo, hc] at hop <;> (repeat' split at hop) <;> simp at hop
  | unOp op ty x => cases op <;> simp [lowOp, hoo] at hop
  | makeMap ty r => cases r <;> simp [lowOp, hoo] at hop
  | next it b => cases b <;> simp [lowOp, hoo] at hop
  | typeAssert x xt ty ok => cases ok <;> simp only [lowOp, hoo] at hop <;> (repeat' split at hop) <;> simp at hop
  | _ => simp only [lowOp, hoo] at hop <;> (repeat' split at hop) <;> simp at hop
end
def caH (f g : List Ins) (t fu : Int) : List AObj := [.vec 1 [[.list (f.map encIns)]], .vec 1 [[.list (g.map encIns)]], .vec 2 [[.int .i64 t, .int .i64 fu]]]
set_option linter.defProp false in
def dq24 := And.intro @sb (And.intro @ew (And.intro @ec (And.intro @encI_def (@List.map_nil.{0,0}))))
theorem find_cases_ok (f g : List Ins) (t fu : Int) (H : List AObj) : ACalls Tryd.prog 17 [encFn f, encFn g, .agg [.int .i64 t, .int .i64 fu]] H fun r H' => r = .fn (.func 35) [] [.ptr (H.length + 2) 1 0 0, .ptr H.length 1 0 0, .ptr (H.length + 1) 1 0 0] ∧ H' = H ++ caH f g t fu := by
  refine ACalls.go find_cases.low (by simp) fun hcl => ?_
  unfold encFn caH
  (refine zG ?_; refine zH ?_; repeat' (first | simp only [seval, evx, beq_self_eq_true, dq24, *] | simp (disch := omega) only [if_pos, if_neg]))
  (refine zG ?_; refine zH ?_; repeat' (first | simp only [seval, evx, beq_self_eq_true, dq24, *] | simp (disch := omega) only [if_pos, if_neg]))
  refine LCB.ret ⟨.inr rfl, RetOk.finB [.vec 1 [[.list (f.map encIns)]], .vec 1 [[.list (g.map encIns)]], .vec 2 [[.int .i64 t, .int .i64 fu]]] (.fn (.func 35) [] [.ptr (H.length + 2) 1 0 0, .ptr H.length 1 0 0, .ptr (H.length + 1) 1 0 0]) (Nat.le_add_right _ _) hcl ⟨?_, ?_⟩ ?_ ⟨rfl, rfl⟩⟩
  · rfl
  · simp only [seval, evw, fm, dq24, *]
  · simp only [seval, evw, fm, dq24, *]
def clS (l jb jf jg i : Nat) : List (Nat × AV) := [(0, .imm (.func (.yield l) #[] #[])), (1, .ptr jb 1 0 0), (2, .ptr jf 1 0 0), (3, .ptr jg 1 0 0), (5, .int .i64 (i : Int))]
theorem casesA {H : List AObj} (hcl : Clean H.length H) {l jb jf jg : Nat} {t fu : Int} (hb : H[jb]? = some (.vec 2 [[.int .i64 t, .int .i64 fu]])) (hj2 : jf < H.length) (hj3 : jg < H.length) (i : Nat) : LCB Tryd.prog 27 H.length (.seq find_cases_1.k1 (.cond (.tmp 14) .skip (.exit 0))) (fun e σ' => (i < triesN t → e = .normal ∧ Weak H.length 27 σ' ⟨mkT (clS l jb jf jg i), H ++ []⟩) ∧ (¬ i < triesN t → e = .exit 0 ∧ Weak H.length 27 σ' ⟨mkT (clS l jb jf jg i), H ++ []⟩)) ⟨mkT (clS l jb jf jg i), H ++ []⟩ := by
  unfold clS
  have hj : jb < H.length := (List.getElem?_eq_some_iff.1 hb).1
  have hb2 : ∀ M : List AObj, (H ++ M)[jb]? = some (.vec 2 [[.int .i64 t, .int .i64 fu]]) := fun M => by rw [in_get hj, hb]
  have hiff : i < triesN t ↔ ((i : Int) ≤ min2 t 1000 ∨ (i : Int) = 0) := by unfold triesN min2; split <;> omega
  refine LCB.seq ?_
  unfold find_cases_1.k1
  refine LCB.text ?_
  by_cases k1 : (i : Int) ≤ min2 t 1000
  · have h1 : i < triesN t := hiff.2 (.inl k1)
    clear hiff
    repeat' (first | simp only [seval, evx, beq_self_eq_true, dq24, *] | simp (disch := omega) only [if_pos, if_neg])
    refine LCB.cond (t := true) rfl (fun _ => LCB.skip ⟨rfl, Weak.at hcl ?_⟩) (fun h => by cases h)
    simp only [seval, evw, fm, dq24, *]
  · by_cases k2 : (i : Int) = 0
    · have h1 : i < triesN t := hiff.2 (.inr k2)
      clear hiff
      have hi0 : i = 0 := by omega
      subst hi0
      have k3 : ¬ (0 : Int) ≤ min2 t 1000 := k1
      clear k1 k2
      repeat' (first | simp only [seval, evx, beq_self_eq_true, dq24, *] | simp (disch := omega) only [if_pos, if_neg])
      refine LCB.cond (t := true) rfl (fun _ => LCB.skip ⟨rfl, Weak.at hcl ?_⟩) (fun h => by cases h)
      simp only [seval, evw, fm, dq24, *]
    · have h1 : ¬ i < triesN t := fun h => (hiff.1 h).elim k1 k2
      clear hiff
      repeat' (first | simp only [seval, evx, beq_self_eq_true, dq24, *] | simp (disch := omega) only [if_pos, if_neg])
      refine LCB.cond (t := false) rfl (fun h => by cases h) (fun _ => LCB.exit ⟨rfl, Weak.at hcl ?_⟩)
      simp only [seval, evw, fm, dq24, *]
theorem cases4 {H : List AObj} (hcl : Clean H.length H) {l jb jf jg : Nat} (hj1 : jb < H.length) (hj2 : jf < H.length) (hj3 : jg < H.length) (i : Nat) (hi : i ≤ 2000) : LCB Tryd.prog 27 H.length find_cases_1.k4 (fun e σ' => e = .normal ∧ Weak H.length 27 σ' ⟨mkT (clS l jb jf jg (i + 1)), H ++ []⟩) ⟨mkT (clS l jb jf jg i), H ++ []⟩ := by
  unfold clS find_cases_1.k4
  have e4 : IntKind.i64.wrap ((i : Int) + 1) = ((i + 1 : Nat) : Int) := by rw [IntKind.wrap_i64]; omega
  refine LCB.text ?_
  repeat' (first | simp only [seval, evx, beq_self_eq_true, dq24, *] | simp (disch := omega) only [if_pos, if_neg])
  refine Weak.at hcl ?_
  simp only [seval, evw, fm, dq24, *]
def opsL : LCode → List LOper
  | .text l => l
  | _ => []
def clS2 (l jb jf jg i : Nat) (c : AV) : List (Nat × AV) := [(0, .imm (.func (.yield l) #[] #[])), (1, .ptr jb 1 0 0), (2, .ptr jf 1 0 0), (3, .ptr jg 1 0 0), (5, .int .i64 (i : Int)), (17, .imm (.func (.yield l) #[] #[])), (18, .int .i64 (i : Int)), (24, c)]
theorem casesW {H : List AObj} (hcl : Clean H.length H) {l jb jf jg : Nat} {f g : List Ins} {t fu : Int} (hb : H[jb]? = some (.vec 2 [[.int .i64 t, .int .i64 fu]])) (hf : H[jf]? = some (.vec 1 [[.list (f.map encIns)]])) (hg : H[jg]? = some (.vec 1 [[.list (g.map encIns)]])) (i : Nat) :
    wpL Tryd.prog ((opsL find_cases_1.k2).take 8) (fun σ' => Weak H.length 27 σ' ⟨mkT (clS2 l jb jf jg i (csA (atOf f g (i : Int) fu))), H ++ []⟩) ⟨mkT (clS l jb jf jg i), H ++ []⟩ := by
  have hj : jb < H.length := (List.getElem?_eq_some_iff.1 hb).1
  have hjf : jf < H.length := (List.getElem?_eq_some_iff.1 hf).1
  have hjg : jg < H.length := (List.getElem?_eq_some_iff.1 hg).1
  have hb2 : ∀ M : List AObj, (H ++ M)[jb]? = some (.vec 2 [[.int .i64 t, .int .i64 fu]]) := fun M => by rw [in_get hj, hb]
  have hf2 : ∀ M : List AObj, (H ++ M)[jf]? = some (.vec 1 [[.list (f.map encIns)]]) := fun M => by rw [in_get hjf, hf]
  have hg2 : ∀ M : List AObj, (H ++ M)[jg]? = some (.vec 1 [[.list (g.map encIns)]]) := fun M => by rw [in_get hjg, hg]
  have h1 := cand_At_ok f g (i : Int) fu
  have hil : (ic (atOf f g (i : Int) fu).R).length = 8 := by rw [ic_len]; exact (at_fits f g (i : Int) fu).1
  rw [csA_eq] at *
  generalize atOf f g (i : Int) fu = c at *
  unfold clS clS2 find_cases_1.k2 opsL
  unfold encFn at *
  replace h1 := Hold.mk h1
  replace hb := Hold.mk hb
  replace hf := Hold.mk hf
  replace hg := Hold.mk hg
  repeat' (first | simp only [seval, evx, beq_self_eq_true, dq24, *] | simp (disch := omega) only [if_pos, if_neg])
  first | refine zT (h1.of) ?_ | refine zV (h1.of) rfl ?_ | refine zU (h1.of) ?_
  repeat' (first | simp only [seval, evx, beq_self_eq_true, dq24, *] | simp (disch := omega) only [if_pos, if_neg])
  refine Weak.at hcl ?_
  simp only [seval, evw, fm, dq24, *]
def fS (h : Nat) : List (Nat × AV) := [(3, .ptr h 1 0 0), (4, .ptr (h + 1) 1 0 0), (5, .ptr (h + 2) 1 0 0), (6, .ptr (h + 3) 1 0 0), (7, .ptr (h + 4) 1 0 0), (8, .ptr (h + 5) 1 0 0)]
def fz13 : List AV := [.int .i64 0, .int .i64 0, .int .i64 0, .int .i64 0, .int .i64 0, .int .i64 0, .int .i64 0, .int .i64 0, .int .i64 0, .int .i64 0, .imm (.slice none 0 0), .imm (.slice none 0 0), .int .i64 0]
def fH (f g : List Ins) (t fu : Int) (res : List AV) (ok : Bool) (en : Int) : List AObj := [.vec 1 [[.list (f.map encIns)]], .vec 1 [[.list (g.map encIns)]], .vec 2 [[.int .i64 t, .int .i64 fu]], .vec 13 [res], .vec 1 [[.bool ok]], .vec 1 [[.int .i64 en]]]
def fH9 (f g : List Ins) (t fu : Int) (res : List AV) (ok : Bool) (en : Int) : List AObj := [.vec 1 [[.list (f.map encIns)]], .vec 1 [[.list (g.map encIns)]], .vec 2 [[.int .i64 t, .int .i64 fu]], .vec 13 [res], .vec 1 [[.bool ok]], .vec 1 [[.int .i64 en]], .vec 1 [[.list (f.map encIns)]], .vec 1 [[.list (g.map encIns)]], .vec 2 [[.int .i64 t, .int .i64 fu]]]
def fRes : List LRes := [.cell 6 true 13, .cell 7 false 1, .cell 8 false 1]
theorem findK1 {H : List AObj} (hcl : Clean H.length H) (f g : List Ins) (t fu : Int) : LCB Tryd.prog 42 H.length find_Find.k1 (fun e σ' => e = .normal ∧ Weak H.length 42 σ' ⟨mkT (fS H.length), H ++ fH f g t fu fz13 false 0⟩) ⟨argsT [.list (f.map encIns), .list (g.map encIns), .agg [.int .i64 t, .int .i64 fu]], H ++ []⟩ := by
  unfold fS fH fz13 find_Find.k1
  refine LCB.text ?_
  repeat' (first | simp only [seval, evx, beq_self_eq_true, dq24, *] | simp (disch := omega) only [if_pos, if_neg])
  refine Weak.at hcl ?_
  simp only [seval, evw, fm, dq24, *]
theorem findK4 {H : List AObj} (hcl : Clean H.length H) (f g : List Ins) (t fu : Int) (hr : fnOk f = true) (hr2 : fnOk g = true) : LCB Tryd.prog 42 H.length find_Find.k4 (fun e σ' => e = .normal ∧ Weak H.length 42 σ' ⟨mkT (fS H.length), H ++ fH f g t fu fz13 false 0⟩) ⟨mkT (fS H.length), H ++ fH f g t fu fz13 false 0⟩ := by
  have h1 := asm_Right_ok f
  have h2 := asm_Right_ok g
  rw [hr] at h1
  rw [hr2] at h2
  unfold fS fH fz13 find_Find.k4
  unfold encFn at *
  replace h1 := Hold.mk h1
  replace h2 := Hold.mk h2
  refine LCB.seq ?_
  unfold find_Find.k2
  refine LCB.text ?_
  repeat' (first | simp only [seval, evx, beq_self_eq_true, dq24, *] | refine zT h1.of ?_ | refine zT h2.of ?_)
  refine LCB.cond (t := false) rfl (fun h => by cases h) (fun _ => LCB.skip ⟨rfl, Weak.at hcl ?_⟩)
  simp only [seval, evw, fm, dq24, *]
theorem findK4n {H : List AObj} (hcl : Clean H.length H) (f g : List Ins) (t fu : Int) (hr : (fnOk f && fnOk g) = false) : LCB Tryd.prog 42 H.length find_Find.k4 (fun e σ' => e = .ret ∧ RetOk H.length fRes (fun r H' => r = findA f g t fu ∧ H' = H) σ') ⟨mkT (fS H.length), H ++ fH f g t fu fz13 false 0⟩ := by
  have h1 := asm_Right_ok f
  have h2 := asm_Right_ok g
  rw [findA_no hr, fz_eq]
  unfold fS fH fz13 find_Find.k4 fRes
  unfold encFn at *
  generalize fnOk f = b1 at *
  generalize fnOk g = b2 at *
  replace h1 := Hold.mk h1
  replace h2 := Hold.mk h2
  refine LCB.seq ?_
  unfold find_Find.k2
  refine LCB.text ?_
  cases b1
  · clear hr
    repeat' (first | simp only [seval, evx, beq_self_eq_true, dq24, *] | refine zT h1.of ?_ | refine zT h2.of ?_)
    refine LCB.cond (t := true) rfl (fun _ => LCB.seq ?_) (fun h => by cases h)
    unfold find_Find.k3
    refine LCB.text ?_
    repeat' (first | simp only [seval, evx, beq_self_eq_true, dq24, *] | simp (disch := omega) only [if_pos, if_neg])
    refine LCB.ret ⟨rfl, RetOk.val hcl ?_⟩
    simp only [seval, evw, fm, dq24, *]
  · cases b2
    case true => simp at hr
    clear hr
    repeat' (first | simp only [seval, evx, beq_self_eq_true, dq24, *] | refine zT h1.of ?_ | refine zT h2.of ?_)
    refine LCB.cond (t := true) rfl (fun _ => LCB.seq ?_) (fun h => by cases h)
    unfold find_Find.k3
    refine LCB.text ?_
    repeat' (first | simp only [seval, evx, beq_self_eq_true, dq24, *] | simp (disch := omega) only [if_pos, if_neg])
    refine LCB.ret ⟨rfl, RetOk.val hcl ?_⟩
    simp only [seval, evw, fm, dq24, *]
def rfA : LCode := .seq (.text [⟨some 9, .mv (.tmp 26), none⟩]) (.text [⟨some 10, .alloc [.int .i64 0, .int .i64 0, .int .i64 0, .int .i64 0, .int .i64 0, .int .i64 0, .int .i64 0, .int .i64 0, .imm (.slice none 0 0), .imm (.slice none 0 0), .int .i64 0], none⟩, ⟨none, .store 11 (.tmp 10) (.tmp 27), none⟩])
def rfB1 : LCode := .text [⟨some 29, .load false 1 (.tmp 3), none⟩, ⟨some 30, .load false 1 (.tmp 4), none⟩, ⟨some 31, .load true 11 (.tmp 10), none⟩, ⟨some 32, .call (.cst (.fn (.func 10) [] [])) [.tmp 29, .tmp 30, .tmp 31], none⟩, ⟨some 28, .mv (.tmp 32), none⟩, ⟨some 33, .extract (.tmp 28) 0, none⟩, ⟨some 34, .extract (.tmp 28) 1, none⟩, ⟨some 11, .mv (.tmp 33), none⟩, ⟨some 12, .mv (.tmp 34), none⟩]
def rfB2 : LCode := .text [⟨some 35, .mv (.tmp 11), none⟩, ⟨some 36, .bin .neq .other (.tmp 35) (.cst (.int .i64 0)), none⟩]
def rfB3 : LCode := .text [⟨some 37, .mv (.tmp 9), none⟩, ⟨some 38, .mv (.tmp 11), none⟩, ⟨some 39, .load true 11 (.tmp 10), none⟩, ⟨some 40, .build [.int .i64 0, .int .i64 0, .int .i64 0, .int .i64 0, .int .i64 0, .int .i64 0, .int .i64 0, .int .i64 0, .int .i64 0, .int .i64 0, .imm (.slice none 0 0), .imm (.slice none 0 0), .int .i64 0] [(0, 1, .tmp 37), (1, 1, .tmp 38), (2, 11, .tmp 39)], none⟩, ⟨none, .store 13 (.tmp 6) (.tmp 40), none⟩, ⟨none, .store 1 (.tmp 7) (.cst (.bool true)), none⟩, ⟨none, .store 1 (.tmp 8) (.cst (.int .i64 0)), none⟩]
def rfB : LCode := .block 1 (.seq rfB1 (.seq rfB2 (.cond (.tmp 36) (.seq rfB3 .ret) .skip)))
theorem roundA {H : List AObj} (hcl : Clean H.length H) (f g : List Ins) (t fu : Int) (k : Nat) (c : Cs) (hR : c.R.length = 8) (res : List AV) : LCR Tryd.prog 42 rfA (fun e σ' => e = .normal ∧ Weak (H.length + 9) 42 σ' ⟨mkT (fS H.length ++ [(9, .int .i64 (k : Int)), (10, .ptr (H.length + 9) 1 0 0)]), H ++ (fH9 f g t fu fz13 false 0 ++ [.vec 11 [ic c.R ++ [.list (c.heap.map encI), .list (c.ans.map encI), .int .i64 c.fuel]]])⟩)
    ⟨mkT (fS H.length ++ [(26, .int .i64 (k : Int)), (27, csA c)]), H ++ fH9 f g t fu fz13 false 0⟩ := by
  have hil : (ic c.R).length = 8 := by rw [ic_len, hR]
  rw [csA_eq]
  unfold fS fH9 fz13 rfA
  replace hR := Hold.mk hR
  refine LCR.seq (LCR.text rfl ?_)
  repeat' (first | simp only [seval, evx, beq_self_eq_true, dq24, *] | simp (disch := omega) only [if_pos, if_neg])
  refine LCR.text rfl ?_
  repeat' (first | simp only [seval, evx, beq_self_eq_true, dq24, *] | simp (disch := omega) only [if_pos, if_neg])
  refine Weak.at hcl ?_
  simp only [seval, evw, fm, dq24, *]
theorem roundB0 {H : List AObj} (hcl : Clean H.length H) (f g : List Ins) (t fu : Int) (k : Nat) (c : Cs) (hR : c.R.length = 8) (hf : fnOk f = true) (hg : fnOk g = true) (hc : csRight c = true) (h0 : tellF f g c = 0) : LCR Tryd.prog 42 rfB (fun e σ' => e = .normal ∧ Weak (H.length + 9) 42 σ' ⟨mkT [], H ++ fH9 f g t fu fz13 false 0⟩)
    ⟨mkT (fS H.length ++ [(9, .int .i64 (k : Int)), (10, .ptr (H.length + 9) 1 0 0)]), H ++ (fH9 f g t fu fz13 false 0 ++ [.vec 11 [ic c.R ++ [.list (c.heap.map encI), .list (c.ans.map encI), .int .i64 c.fuel]]])⟩ := by
  have hil : (ic c.R).length = 8 := by rw [ic_len, hR]
  obtain ⟨k1, k2, k3, k4⟩ := fnOk_iff.1 hf
  obtain ⟨l1, l2, l3, l4⟩ := fnOk_iff.1 hg
  have h1 := differ_Tell_ok f g c hR (by omega) (by omega)
  rw [tellA_at hf hg hc, h0] at h1
  clear k1 k2 k3 k4 l1 l2 l3 l4 hf hg hc h0
  rw [csA_eq] at h1
  unfold fS fH9 fz13 rfB
  unfold encFn at *
  replace hR := Hold.mk hR
  replace h1 := Hold.mk h1
  refine LCR.block (LCR.seq ?_)
  unfold rfB1
  refine LCR.text rfl ?_
  repeat' (first | simp only [seval, evx, beq_self_eq_true, dq24, *] | simp (disch := omega) only [if_pos, if_neg])
  first | refine zT (h1.of) ?_ | refine zV (h1.of) rfl ?_ | refine zU (h1.of) ?_
  repeat' (first | simp only [seval, evx, beq_self_eq_true, dq24, *] | simp (disch := omega) only [if_pos, if_neg])
  unfold rfB2
  refine LCR.seq (LCR.text rfl ?_)
  repeat' (first | simp only [seval, evx, beq_self_eq_true, dq24, *] | simp (disch := omega) only [if_pos, if_neg])
  refine LCR.cond (t := false) rfl (fun h => by cases h) (fun _ => LCR.skip ⟨rfl, Weak.at hcl ?_⟩)
  simp only [seval, evw, fm, dq24, *]
theorem roundB1 {H : List AObj} (hcl : Clean H.length H) (f g : List Ins) (t fu : Int) (k : Nat) (c : Cs) (hR : c.R.length = 8) (hf : fnOk f = true) (hg : fnOk g = true) (hc : csRight c = true) (h0 : ¬ tellF f g c = 0) : LCR Tryd.prog 42 rfB (fun e σ' => e = .ret ∧ Weak (H.length + 9) 42 σ' ⟨mkT [], H ++ fH9 f g t fu (fdC (k : Int) (tellF f g c) c) true 0⟩)
    ⟨mkT (fS H.length ++ [(9, .int .i64 (k : Int)), (10, .ptr (H.length + 9) 1 0 0)]), H ++ (fH9 f g t fu fz13 false 0 ++ [.vec 11 [ic c.R ++ [.list (c.heap.map encI), .list (c.ans.map encI), .int .i64 c.fuel]]])⟩ := by
  have hil : (ic c.R).length = 8 := by rw [ic_len, hR]
  obtain ⟨k1, k2, k3, k4⟩ := fnOk_iff.1 hf
  obtain ⟨l1, l2, l3, l4⟩ := fnOk_iff.1 hg
  have h1 := differ_Tell_ok f g c hR (by omega) (by omega)
  rw [tellA_at hf hg hc] at h1
  clear k1 k2 k3 k4 l1 l2 l3 l4 hf hg hc
  rw [csA_eq] at h1
  rw [fdC_eq]
  generalize tellF f g c = kind at *
  unfold fS fH9 fz13 rfB
  unfold encFn at *
  replace hR := Hold.mk hR
  replace h1 := Hold.mk h1
  refine LCR.block (LCR.seq ?_)
  unfold rfB1
  refine LCR.text rfl ?_
  repeat' (first | simp only [seval, evx, beq_self_eq_true, dq24, *] | simp (disch := omega) only [if_pos, if_neg])
  first | refine zT (h1.of) ?_ | refine zV (h1.of) rfl ?_ | refine zU (h1.of) ?_
  repeat' (first | simp only [seval, evx, beq_self_eq_true, dq24, *] | simp (disch := omega) only [if_pos, if_neg])
  unfold rfB2
  refine LCR.seq (LCR.text rfl ?_)
  repeat' (first | simp only [seval, evx, beq_self_eq_true, dq24, *] | simp (disch := omega) only [if_pos, if_neg])
  refine LCR.cond (t := true) rfl (fun _ => ?_) (fun h => by cases h)
  unfold rfB3
  refine LCR.seq (LCR.text rfl ?_)
  repeat' (first | simp only [seval, evx, beq_self_eq_true, dq24, *] | simp (disch := omega) only [if_pos, if_neg])
  refine LCR.ret ⟨rfl, Weak.at hcl ?_⟩
  simp only [seval, evw, fm, dq24, *]
theorem findK6 {H : List AObj} (hcl : Clean H.length H) (f g : List Ins) (t fu : Int) : LCR Tryd.prog 42 find_Find.k6 (fun e σ' => e = .normal ∧ RetOk H.length fRes (fun r H' => r = .tup [.agg (fdC 0 0 fz), .bool false, .int .i64 0] ∧ H' = H) σ') ⟨mkT (fS H.length), H ++ fH9 f g t fu fz13 false 0⟩ := by
  rw [fz_eq]
  unfold fS fH9 fz13 fRes find_Find.k6
  refine LCR.text rfl ?_
  repeat' (first | simp only [seval, evx, beq_self_eq_true, dq24, *] | simp (disch := omega) only [if_pos, if_neg])
  refine RetOk.val hcl ?_
  simp only [seval, evw, fm, dq24, *]
theorem findRet {H : List AObj} (hcl : Clean H.length H) (f g : List Ins) (t fu : Int) (k kind : Int) (c : Cs) (hR : c.R.length = 8) : RetOk H.length fRes (fun r H' => r = .tup [.agg (fdC k kind c), .bool true, .int .i64 0] ∧ H' = H) ⟨mkT (fS H.length), H ++ fH9 f g t fu (fdC k kind c) true 0⟩ := by
  have hil : (ic c.R).length = 8 := by rw [ic_len, hR]
  rw [fdC_eq]
  unfold fS fH9 fRes
  replace hR := Hold.mk hR
  refine RetOk.val hcl ?_
  simp only [seval, evw, fm, dq24, *]
theorem findK5 {H : List AObj} (hcl : Clean H.length H) (f g : List Ins) (t fu : Int) : LCB Tryd.prog 42 H.length find_Find.k5 (fun e σ' => e = .normal ∧ Weak H.length 42 σ' ⟨mkT (fS H.length ++ [(25, .fn (.func 35) [] [.ptr (H.length + 8) 1 0 0, .ptr (H.length + 6) 1 0 0, .ptr (H.length + 7) 1 0 0])]), H ++ fH9 f g t fu fz13 false 0⟩) ⟨mkT (fS H.length), H ++ fH f g t fu fz13 false 0⟩ := by
  have h1 := find_cases_ok f g t fu (H ++ fH f g t fu fz13 false 0)
  unfold fS fH9 fH fz13 caH find_Find.k5 at *
  unfold encFn at *
  replace h1 := Hold.mk h1
  refine LCB.text ?_
  repeat' (first | simp only [seval, evx, beq_self_eq_true, dq24, *] | simp (disch := omega) only [if_pos, if_neg])
  refine h1.of.mono ?_
  rintro r H' ⟨rfl, rfl⟩
  repeat' (first | simp only [seval, evx, beq_self_eq_true, dq24, *] | simp (disch := omega) only [if_pos, if_neg])
  refine Weak.at hcl ?_
  simp only [seval, evw, fm, dq24, *]
theorem low_seq {P : Program} {N : Nat} {code : Code} {x y : LCode} (h : lowCode P N code = .seq x y) : ∃ a b, code = .seq a b ∧ lowCode P N a = x ∧ lowCode P N b = y := by
  cases code with
  | seq a b =>
    simp only [lowCode, LCode.seq.injEq] at h
    exact ⟨a, b, rfl, h.1, h.2⟩
  | region id ops d => cases d <;> simp [lowCode] at h; split at h <;> simp at h
  | _ => simp [lowCode] at h
theorem low_block {P : Program} {N : Nat} {code : Code} {id : Nat} {x : LCode} (h : lowCode P N code = .block id x) : ∃ a, code = .block id a ∧ lowCode P N a = x := by
  cases code with
  | block i a =>
    simp only [lowCode, LCode.block.injEq] at h
    obtain ⟨rfl, h⟩ := h
    exact ⟨a, rfl, h⟩
  | region id ops d => cases d <;> simp [lowCode] at h; split at h <;> simp at h
  | _ => simp [lowCode] at h
theorem low_loop {P : Program} {N : Nat} {code : Code} {x : LCode} (h : lowCode P N code = .loop x) : ∃ a, code = .loop a ∧ lowCode P N a = x := by
  cases code with
  | loop a =>
    simp only [lowCode, LCode.loop.injEq] at h
    exact ⟨a, rfl, h⟩
  | region id ops d => cases d <;> simp [lowCode] at h; split at h <;> simp at h
  | _ => simp [lowCode] at h
theorem low_text {P : Program} {N : Nat} {code : Code} {l : List LOper} (h : lowCode P N code = .text l) : ∃ id ops, code = .region id ops false ∧ ops.toList.map (lowOperN P N ops) = l := by
  cases code with
  | region id ops d =>
    cases d with
    | false =>
      simp only [lowCode, LCode.text.injEq] at h
      exact ⟨id, ops, rfl, h⟩
    | true => simp [lowCode] at h; split at h <;> simp at h
  | _ => simp [lowCode] at h
theorem start_S {c : Cx} {N : Nat} {args : List AV} {vals : Array Value} (hH : RepH c) (hv : RepVs c args vals) (hN : args.length ≤ N) : RepS N c.ι ⟨argsT args, c.H⟩ { tmps := vals ++ Array.replicate (N - vals.size) undef, defers := [] } c.w := by
  have hsize : vals.size = args.length := hv.1
  refine ⟨hH, ⟨by simp; omega, fun n => ?_, rfl⟩⟩
  by_cases hn : n < args.length
  · have := hv.2 n (args[n]) (List.getElem?_eq_getElem hn)
    have e1 : argsT args n = args[n] := by simp [argsT, hn]
    have e2 : (vals ++ Array.replicate (N - vals.size) undef).getD n undef = vals.getD n undef := by
      simp only [Array.getD_eq_getD_getElem?]
      rw [Array.getElem?_append_left (by omega)]
    show RepV _ (argsT args n) ((vals ++ Array.replicate (N - vals.size) undef).getD n undef)
    rw [e1, e2]
    exact this
  · have e1 : argsT args n = .dead := by simp [argsT, List.getElem?_eq_none (Nat.le_of_not_lt hn)]
    show RepV _ (argsT args n) _
    rw [e1]
    exact .dead _
theorem noD_self {a : Act} (h : a.defers = []) : noD a = a := by
  obtain ⟨t, d⟩ := a
  simp only at h
  subst h
  rfl
theorem findG_none {f g : List Ins} {fu : Int} : ∀ {n k : Nat}, (∀ j, k ≤ j → j < k + n → tellF f g (atOf f g (j : Int) fu) = 0) → findG f g fu n k = none
  | 0, k, h => rfl
  | n + 1, k, h => by
    rw [findG, if_pos (h k (Nat.le_refl _) (by omega))]
    exact findG_none fun j h1 h2 => h j (by omega) (by omega)
theorem findG_at {f g : List Ins} {fu : Int} : ∀ {n k i : Nat}, k ≤ i → i < k + n → (∀ j, k ≤ j → j < i → tellF f g (atOf f g (j : Int) fu) = 0) → tellF f g (atOf f g (i : Int) fu) ≠ 0 → findG f g fu n k = some i
  | 0, k, i, h1, h2, h3, h4 => by omega
  | n + 1, k, i, h1, h2, h3, h4 => by
    rw [findG]
    by_cases e : k = i
    · subst e; rw [if_neg h4]
    · rw [if_pos (h3 k (Nat.le_refl _) (by omega))]
      exact findG_at (by omega) (by omega) (fun j g1 g2 => h3 j (by omega) g2) h4
def StopAt (c0 : Cx) (tO : Tm) (aO : Act) (HS : List AObj) (l D : Nat) (r : Loop) (w : World) : Prop := ∃ ι, RepS 42 ι ⟨tO, HS⟩ aO w ∧ Fr c0 ⟨ι, HS, w⟩ ∧ w.heap[l]? = some (.loop r) ∧ w.heap[D]? = some (.deferred (some [])) ∧ ¬ Cx.wr ⟨ι, HS, w⟩ l ∧ ¬ Cx.wr ⟨ι, HS, w⟩ D
theorem heap_lt {w : World} {l : Nat} {o : Obj} (h : w.heap[l]? = some o) : l < w.heap.size := (Array.getElem?_eq_some_iff.1 h).1
theorem StopAt.step {c0 : Cx} {tO : Tm} {aO : Act} {HS : List AObj} {l D : Nat} {r : Loop} {w w' : World} {ι ι' : Nat → Option Nat} (h1 : RepS 42 ι ⟨tO, HS⟩ aO w) (h2 : Fr c0 ⟨ι, HS, w⟩) (h3 : w.heap[l]? = some (.loop r)) (h4 : w.heap[D]? = some (.deferred (some []))) (h5 : ¬ Cx.wr ⟨ι, HS, w⟩ l) (h6 : ¬ Cx.wr ⟨ι, HS, w⟩ D)
    (g1 : RepH ⟨ι', HS, w'⟩) (g2 : Fr ⟨ι, HS, w⟩ ⟨ι', HS, w'⟩) : StopAt c0 tO aO HS l D r w' := by
  obtain ⟨e1, w1⟩ := g2.keep l (heap_lt h3) h5
  obtain ⟨e2, w2⟩ := g2.keep D (heap_lt h4) h6
  exact ⟨ι', ⟨g1, h1.t.mono g2⟩, h2.trans g2, e1.trans h3, e2.trans h4, w1, w2⟩
theorem wpListIn_step {F : Fence} {n : Nat} {P : Program} {ops : Array Oper} {Q : Exit → Act → World → Prop} {a : Act} {w : World} {o : Oper} {rest : List Oper} (h : Region.wanted o (yielded ops a.tmps) = true ∧ o.wpIn F n P a w (wpListIn F n P ops Q rest) Q) : wpListIn F n P ops Q (o :: rest) a w := by
  unfold wpListIn
  rw [if_pos h.1]
  exact h.2
theorem casesB {HC : List AObj} {l D jb jf jg : Nat} {f g : List Ins} {t fu : Int} (hb : HC[jb]? = some (.vec 2 [[.int .i64 t, .int .i64 fu]])) (hf : HC[jf]? = some (.vec 1 [[.list (f.map encIns)]])) (hg : HC[jg]? = some (.vec 1 [[.list (g.map encIns)]]))
    {r : Loop} (hpar : r.params.size = 2) {c0 : Cx} {tO : Tm} {aO : Act} {HS : Nat → List AObj} {rS : Loop} {ι1 : Nat → Option Nat} {w1 : World} (hH : RepH ⟨ι1, HC, w1⟩) (hl : w1.heap[l]? = some (.loop r)) (hwl : ¬ Cx.wr ⟨ι1, HC, w1⟩ l) (i : Nat) (hlt : i < triesN t)
    (hround : ∀ (ι : Nat → Option Nat) (w : World) (vals : Array Value), RepH ⟨ι, HC, w⟩ → Fr ⟨ι1, HC, w1⟩ ⟨ι, HC, w⟩ → RepVs ⟨ι, HC, w⟩ [.int .i64 (i : Int), csA (atOf f g (i : Int) fu)] vals →
      RoundIn Fence.wide 9 Tryd.prog l r.fn ((r.params.zip vals).foldl (fun tmps (t, a) => tmps.setIfInBounds t a) r.tmps) r.assign r.body w fun e w' =>
        (tellF f g (atOf f g (i : Int) fu) = 0 ∧ e = .returned (.bool true) ∧ ∃ ι', RepH ⟨ι', HC, w'⟩ ∧ Fr ⟨ι, HC, w⟩ ⟨ι', HC, w'⟩) ∨ (tellF f g (atOf f g (i : Int) fu) ≠ 0 ∧ e = .returned (.bool false) ∧ StopAt c0 tO aO (HS i) l D rS w'))
    {id : Nat} {ops : Array Oper} {l8 : List Oper} {o8 o9 : Oper} {xD : Code} (hops : ops.toList = l8 ++ [o8, o9]) (m8 : l8.map (lowOperN Tryd.prog 27 ops) = (opsL find_cases_1.k2).take 8) (m25 : lowOperN Tryd.prog 27 ops o8 = ⟨some 25, .call (.tmp 17) [.tmp 18, .tmp 24], none⟩) (m26 : lowOperN Tryd.prog 27 ops o9 = ⟨some 26, .not (.tmp 25), none⟩) (lD : lowCode Tryd.prog 27 xD = .cond (.tmp 26) .ret .skip)
    {a : Act} (hs2 : RepS 27 ι1 ⟨mkT (clS l jb jf jg i), HC⟩ a w1) {Q : Exit → Act → World → Prop}
    (hgo : ∀ a w ι, tellF f g (atOf f g (i : Int) fu) = 0 → RepS 27 ι ⟨mkT (clS l jb jf jg i), HC⟩ a w → Fr ⟨ι1, HC, w1⟩ ⟨ι, HC, w⟩ → Q .normal a w)
    (hstop : ∀ a w ι t, tellF f g (atOf f g (i : Int) fu) ≠ 0 → RepS 27 ι ⟨t, HS i⟩ a w → StopAt c0 tO aO (HS i) l D rS w → Q .ret a w) :
    (Code.block 1 (.seq (.region id ops false) xD)).wp Tryd.prog Q a w1 := by
  have hcl := hH.clean
  have hjf : jf < HC.length := (List.getElem?_eq_some_iff.1 hf).1
  have hjg : jg < HC.length := (List.getElem?_eq_some_iff.1 hg).1
  have hjb : jb < HC.length := (List.getElem?_eq_some_iff.1 hb).1
  have hW := casesW (l := l) hcl hb hf hg i (fu := fu)
  simp only [List.append_nil] at hW
  refine (wpIn_wide (n := 10)).1 (wpIn_block (wpIn_seq (wpIn_region_list ?_)))
  rw [hops]
  have hg8 : ∀ o ∈ l8, (lowOperN Tryd.prog 27 ops o).guard = none := fun o ho => by
    have h1 := List.mem_map_of_mem (f := lowOperN Tryd.prog 27 ops) ho
    rw [m8] at h1
    have hall : ((opsL find_cases_1.k2).take 8).all (fun o => o.guard.isNone) = true := rfl
    rw [List.all_eq_true] at hall
    simpa using hall _ h1
  have hg9 : ∀ o ∈ [o9], (lowOperN Tryd.prog 27 ops o).guard = none := fun o ho => by
    simp only [List.mem_singleton] at ho
    subst ho
    rw [m26]
  refine listIn (c0 := ⟨ι1, HC, w1⟩) (.inl rfl) l8 _ ι1 a w1 hg8 (by rw [m8]; exact hW) (by rw [noD_self hs2.t.defers]; exact hs2) (Fr.refl _) ?_
  rintro a2 w2 ⟨σ3, ι3, hs3, hd3, hfr3, hwk3⟩
  rw [hs2.t.defers] at hd3
  obtain ⟨ι4, hs4, hfr4⟩ := hwk3 ι3 _ w2 hs3
  replace hfr4 := hfr4 _ (Nat.le_refl _) hfr3
  rw [noD_self hd3] at hs4
  obtain ⟨el, wl4⟩ := hfr4.keep l (heap_lt hl) hwl
  have eargs : [Opd.tmp 18, .tmp 24].map (ev (mkT (clS2 l jb jf jg i (csA (atOf f g (i : Int) fu))))) = [.int .i64 (i : Int), csA (atOf f g (i : Int) fu)] := by
    unfold clS2; simp [ev, mkT]
  refine wpListIn_step (yieldIn (n := 10) m25 hs4 (l := l) (by unfold clS2; simp [ev, mkT]) (el.trans hl) (by simp [hpar]) (fun vs hvs => (hround ι4 w2 vs hs4.h hfr4 (by rw [← eargs]; exact hvs)).mono ?_))
  rintro e w3 (⟨h0, rfl, ι5, hH5, hfr5⟩ | ⟨h0, rfl, hst⟩)
  · refine ⟨.bool true, rfl, ?_⟩
    have hs5 : RepS 27 ι5 ⟨(mkT (clS2 l jb jf jg i (csA (atOf f g (i : Int) fu)))).put (some 25) (.bool true), HC⟩ (a2.put (some 25) (.bool true)) w3 := ⟨hH5, (hs4.t.mono hfr5).put (d := some 25) (fun k hk => by cases hk; decide) (.bool true)⟩
    have hd5 := hs5.t.defers
    have hw9 : wpL Tryd.prog ([o9].map (lowOperN Tryd.prog 27 ops)) (fun σ' => Weak HC.length 27 σ' ⟨mkT ((26, .bool false) :: clS l jb jf jg i), HC⟩) ⟨(mkT (clS2 l jb jf jg i (csA (atOf f g (i : Int) fu)))).put (some 25) (.bool true), HC⟩ := by
      rw [List.map_singleton, m26]
      have := Weak.at (B := HC.length) (N := 27) (L := []) (L' := []) hcl (t := (((mkT (clS2 l jb jf jg i (csA (atOf f g (i : Int) fu)))).put (some 25) (.bool true)).put (some 26) (.bool false))) (sl := (26, .bool false) :: clS l jb jf jg i) (by unfold clS clS2; simp only [seval, evw, fm,  *])
      simp only [List.append_nil] at this
      exact this
    refine listIn (c0 := ⟨ι5, HC, w3⟩) (rest := []) (.inl rfl) [o9] _ ι5 _ w3 hg9 hw9 (by rw [noD_self hd5]; exact hs5) (Fr.refl _) ?_
    rintro a6 w6 ⟨σ6, ι6, hs6, hd6, hfr6, hwk6⟩
    rw [hd5] at hd6
    obtain ⟨ι7, hs7, hfr7⟩ := hwk6 ι6 _ w6 hs6
    replace hfr7 := hfr7 _ (Nat.le_refl _) hfr6
    show xD.wpIn _ _ _ _ a6 w6
    have hD := LCR.cond (P := Tryd.prog) (N := 27) (Q := fun e σ => e = .normal ∧ σ = ⟨mkT ((26, .bool false) :: clS l jb jf jg i), HC⟩) (x := .ret) (y := .skip) (c := .tmp 26) (t := false) (σ := ⟨mkT ((26, .bool false) :: clS l jb jf jg i), HC⟩) rfl (fun h => by cases h) (fun _ => LCR.skip ⟨rfl, rfl⟩)
    refine wpIn_mono (hD xD lD Fence.wide 10 ⟨ι7, HC, w6⟩ ι7 a6 w6 (.inl rfl) hs7 (Fr.refl _)) ?_
    rintro e a8 w8 ⟨_, σ8, ι8, hs8, hd8, hfr8, rfl, rfl⟩
    rw [hd6] at hd8
    rw [noD_self hd8] at hs8
    have hk := Weak.at (B := HC.length) (N := 27) (L := []) (L' := []) hcl (t := mkT ((26, .bool false) :: clS l jb jf jg i)) (sl := clS l jb jf jg i) (by unfold clS; simp only [seval, evw, fm,  *])
    simp only [List.append_nil] at hk
    obtain ⟨ι9, hs9, hfr9⟩ := hk ι8 a8 w8 hs8
    replace hfr9 := hfr9 _ (Nat.le_refl _) hfr8
    exact hgo a8 w8 ι9 h0 hs9 ((hfr4.trans hfr5).trans (hfr7.trans hfr9))
  · refine ⟨.bool false, rfl, ?_⟩
    obtain ⟨ι5, g1, g2, g3, g4, g5, g6⟩ := hst
    have hs5 : RepS 27 ι5 ⟨Tm.put (fun _ => AV.dead) (some 25) (.bool false), HS i⟩ (a2.put (some 25) (.bool false)) w3 := ⟨g1.h, RepT.put (d := some 25) (t := fun _ => AV.dead) ⟨hs4.t.size, fun n => .dead _, hs4.t.defers⟩ (fun k hk => by cases hk; decide) (.bool false)⟩
    have hd5 := hs5.t.defers
    have hw9 : wpL Tryd.prog ([o9].map (lowOperN Tryd.prog 27 ops)) (fun σ' => σ'.t 26 = .bool true ∧ σ'.H = HS i) ⟨Tm.put (fun _ => AV.dead) (some 25) (.bool false), HS i⟩ := by
      rw [List.map_singleton, m26]
      exact ⟨rfl, rfl⟩
    refine listIn (c0 := ⟨ι5, HS i, w3⟩) (rest := []) (.inl rfl) [o9] _ ι5 _ w3 hg9 hw9 (by rw [noD_self hd5]; exact hs5) (Fr.refl _) ?_
    rintro a6 w6 ⟨σ6, ι6, hs6, hd6, hfr6, e26, eH⟩
    rw [hd5] at hd6
    obtain ⟨t6, H6⟩ := σ6
    simp only at e26 eH hs6 hfr6
    subst eH
    show xD.wpIn _ _ _ _ a6 w6
    have hD := LCR.cond (P := Tryd.prog) (N := 27) (Q := fun e σ => e = .ret ∧ σ.H = HS i) (x := .ret) (y := .skip) (c := .tmp 26) (t := true) (σ := ⟨t6, HS i⟩) e26 (fun _ => LCR.ret ⟨rfl, rfl⟩) (fun h => by cases h)
    refine wpIn_mono (hD xD lD Fence.wide 10 ⟨ι6, HS i, w6⟩ ι6 a6 w6 (.inl rfl) hs6 (Fr.refl _)) ?_
    rintro e a8 w8 ⟨_, σ8, ι8, hs8, hd8, hfr8, rfl, eH8⟩
    rw [hd6] at hd8
    rw [noD_self hd8] at hs8
    obtain ⟨t8, H8⟩ := σ8
    simp only at eH8 hs8 hfr8
    subst eH8
    exact hstop a8 w8 ι8 t8 h0 hs8 (StopAt.step g1 g2 g3 g4 g5 g6 hs8.h (hfr6.trans hfr8))
theorem cases_1_ok {HC : List AObj} {l D jb jf jg : Nat} {f g : List Ins} {t fu : Int} (hb : HC[jb]? = some (.vec 2 [[.int .i64 t, .int .i64 fu]])) (hf : HC[jf]? = some (.vec 1 [[.list (f.map encIns)]])) (hg : HC[jg]? = some (.vec 1 [[.list (g.map encIns)]]))
    {r : Loop} (hpar : r.params.size = 2) {c0 : Cx} {tO : Tm} {aO : Act} {HS : Nat → List AObj} {rS : Loop} {ι1 : Nat → Option Nat} {w1 : World} (hH : RepH ⟨ι1, HC, w1⟩) (hl : w1.heap[l]? = some (.loop r)) (hD : w1.heap[D]? = some (.deferred (some []))) (hwl : ¬ Cx.wr ⟨ι1, HC, w1⟩ l) (hwD : ¬ Cx.wr ⟨ι1, HC, w1⟩ D)
    (hround : ∀ (i : Nat) (ι : Nat → Option Nat) (w : World) (vals : Array Value), i < triesN t → RepH ⟨ι, HC, w⟩ → Fr ⟨ι1, HC, w1⟩ ⟨ι, HC, w⟩ → RepVs ⟨ι, HC, w⟩ [.int .i64 (i : Int), csA (atOf f g (i : Int) fu)] vals →
      RoundIn Fence.wide 9 Tryd.prog l r.fn ((r.params.zip vals).foldl (fun tmps (t, a) => tmps.setIfInBounds t a) r.tmps) r.assign r.body w fun e w' =>
        (tellF f g (atOf f g (i : Int) fu) = 0 ∧ e = .returned (.bool true) ∧ ∃ ι', RepH ⟨ι', HC, w'⟩ ∧ Fr ⟨ι, HC, w⟩ ⟨ι', HC, w'⟩) ∨ (tellF f g (atOf f g (i : Int) fu) ≠ 0 ∧ e = .returned (.bool false) ∧ StopAt c0 tO aO (HS i) l D rS w'))
    (vals : Array Value) (hv : RepVs ⟨ι1, HC, w1⟩ [.imm (.func (.yield l) #[] #[]), .ptr jb 1 0 0, .ptr jf 1 0 0, .ptr jg 1 0 0] vals) :
    Calls Tryd.prog 35 vals w1 fun e w' => (∃ v, e = .returned v) ∧ ((findG f g fu (triesN t) 0 = none ∧ ∃ ι', RepH ⟨ι', HC, w'⟩ ∧ Fr ⟨ι1, HC, w1⟩ ⟨ι', HC, w'⟩) ∨ (∃ i, findG f g fu (triesN t) 0 = some i ∧ StopAt c0 tO aO (HS i) l D rS w')) := by
  have hcl := hH.clean
  have hjf : jf < HC.length := (List.getElem?_eq_some_iff.1 hf).1
  have hjg : jg < HC.length := (List.getElem?_eq_some_iff.1 hg).1
  have hjb : jb < HC.length := (List.getElem?_eq_some_iff.1 hb).1
  have hlow := find_cases_1.low
  unfold lowFn at hlow
  split at hlow
  case h_2 => simp at hlow
  rename_i fn hfn
  split at hlow
  case h_2 => simp at hlow
  rename_i c rs' hbody hres
  split at hlow
  · simp at hlow
  simp only [Option.some.injEq, Prod.mk.injEq] at hlow
  obtain ⟨hN, hcode, rfl⟩ := hlow
  rw [hN] at hcode
  unfold find_cases_1.lc find_cases_1.k5 find_cases_1.k3 at hcode
  obtain ⟨x0, x1, ec, l0, hc1⟩ := low_seq hcode
  obtain ⟨x2, e1, hc2⟩ := low_block hc1
  obtain ⟨x3, e2, hc3⟩ := low_loop hc2
  obtain ⟨xA, x4, e3, lA, hc4⟩ := low_seq hc3
  obtain ⟨xB, xC, e4, lB, lC⟩ := low_seq hc4
  obtain ⟨x5, e5, lB1⟩ := low_block lB
  obtain ⟨xR, xD, e6, lR, lD⟩ := low_seq lB1
  unfold find_cases_1.k2 at lR
  obtain ⟨id, ops, e7, lR1⟩ := low_text lR
  subst ec e1 e2 e3 e4 e5 e6 e7
  clear hcode hc1 hc2 hc3 hc4 lB lB1 lR
  obtain ⟨l8, l2, hops, m8, m2⟩ : ∃ l8 l2, ops.toList = l8 ++ l2 ∧ l8.map (lowOperN Tryd.prog 27 ops) = (opsL find_cases_1.k2).take 8 ∧ l2.map (lowOperN Tryd.prog 27 ops) = [⟨some 25, .call (.tmp 17) [.tmp 18, .tmp 24], none⟩, ⟨some 26, .not (.tmp 25), none⟩] := by
    have : ops.toList.map (lowOperN Tryd.prog 27 ops) = (opsL find_cases_1.k2).take 8 ++ [⟨some 25, .call (.tmp 17) [.tmp 18, .tmp 24], none⟩, ⟨some 26, .not (.tmp 25), none⟩] := lR1
    obtain ⟨l8, l2, h1, h2, h3⟩ := List.map_eq_append_iff.1 this
    exact ⟨l8, l2, h1, h2, h3⟩
  obtain ⟨o8, l3, rfl, m25, m3⟩ := List.map_eq_cons_iff.1 m2
  obtain ⟨o9, l4, rfl, m26, m4⟩ := List.map_eq_cons_iff.1 m3
  obtain rfl := List.map_eq_nil_iff.1 m4
  clear m2 m3 m4
  refine calls_of_wp hfn hbody ?_
  rw [hN]
  have hs0 := start_S (N := 27) hH hv (by simp)
  -- what stands ahead of the loop
  have h0 : LCB Tryd.prog 27 HC.length (.text [⟨some 5, .mv (.cst (.int .i64 0)), none⟩]) (fun e σ' => e = .normal ∧ Weak HC.length 27 σ' ⟨mkT (clS l jb jf jg 0), HC⟩) ⟨argsT [.imm (.func (.yield l) #[] #[]), .ptr jb 1 0 0, .ptr jf 1 0 0, .ptr jg 1 0 0], HC⟩ := by
    refine LCB.text ?_
    have := Weak.at (B := HC.length) (N := 27) (L := []) (L' := []) hcl (t := (argsT [.imm (.func (.yield l) #[] #[]), .ptr jb 1 0 0, .ptr jf 1 0 0, .ptr jg 1 0 0]).put (some 5) (.int .i64 0)) (sl := clS l jb jf jg 0) (by unfold clS; simp only [seval, evw, fm,  *])
    simp only [List.append_nil] at this
    exact ⟨rfl, this⟩
  have hA := fun i => casesA (l := l) hcl hb hjf hjg i
  have h4 := fun i hi => cases4 (l := l) hcl hjb hjf hjg i hi
  have hW := fun i => casesW (l := l) hcl hb hf hg i
  simp only [List.append_nil] at hA h4 hW
  refine wp_seq (wp_mono (h0 x0 l0 ⟨ι1, HC, w1⟩ ι1 _ w1 (Nat.le_refl _) hs0 (Fr.refl _)) ?_)
  rintro e a w ⟨hcalm, σ, ι, hs, hfr, rfl, hwk⟩
  obtain ⟨ι2, hs2, hfr2⟩ := hwk ι a w hs
  replace hfr2 := hfr2 _ (Nat.le_refl _) hfr
  clear hs hfr hwk hcalm hs0
  refine wp_block (wp_loop_ghost (fun n a w => ∃ i ι, n = triesN t - i ∧ i ≤ triesN t ∧ RepS 27 ι ⟨mkT (clS l jb jf jg i), HC⟩ a w ∧ Fr ⟨ι1, HC, w1⟩ ⟨ι, HC, w⟩ ∧ ∀ j, j < i → tellF f g (atOf f g (j : Int) fu) = 0) (triesN t) ⟨0, ι2, rfl, Nat.zero_le _, hs2, hfr2, fun j hj => absurd hj (Nat.not_lt_zero _)⟩ ?_)
  clear hs2 hfr2
  rintro n a w ⟨i, ι, rfl, hi, hs, hfr, htell⟩
  have ht1 := triesN_le t
  refine wp_seq (wp_mono (hA i xA lA ⟨ι, HC, w⟩ ι a w (Nat.le_refl _) hs (Fr.refl _)) ?_)
  rintro e a w' ⟨hcalm, σ', ι', hs', hfr', q1, q2⟩
  by_cases hlt : i < triesN t
  case neg =>
    obtain ⟨rfl, hwk⟩ := q2 hlt
    obtain ⟨ι3, hs3, hfr3⟩ := hwk ι' a w' hs'
    replace hfr3 := hfr3 _ (Nat.le_refl _) hfr'
    have hie : i = triesN t := by omega
    obtain ⟨v, hv1, _⟩ := results_sound hs3 hres (l := []) rfl
    have fin : bodyPost Tryd.prog fn (fun e w' => (∃ v, e = .returned v) ∧ ((findG f g fu (triesN t) 0 = none ∧ ∃ ι', RepH ⟨ι', HC, w'⟩ ∧ Fr ⟨ι1, HC, w1⟩ ⟨ι', HC, w'⟩) ∨ (∃ i, findG f g fu (triesN t) 0 = some i ∧ StopAt c0 tO aO (HS i) l D rS w'))) .normal a w' :=
      ⟨hs3.t.defers, v, hv1, ⟨_, rfl⟩, .inl ⟨findG_none fun j _ hj => htell j (by omega), ι3, hs3.h, hfr.trans hfr3⟩⟩
    exact fin
  obtain ⟨rfl, hwk⟩ := q1 hlt
  obtain ⟨ι2, hs2, hfr2⟩ := hwk ι' a w' hs'
  replace hfr2 := hfr2 _ (Nat.le_refl _) hfr'
  clear hs' hfr' hwk q1 q2 hs hcalm
  have tot := hfr.trans hfr2
  refine wp_seq (casesB hb hf hg hpar (hH := hs2.h) (tot.keep l (heap_lt hl) hwl |>.1.trans hl) (tot.keep l (heap_lt hl) hwl).2 i hlt (fun ι w vals h1 h2 h3 => hround i ι w vals hlt h1 (tot.trans h2) h3) hops m8 m25 m26 lD hs2 ?_ ?_)
  · intro a3 w3 ι3 h0 hs3 hfr3
    show xC.wp _ _ a3 w3
    refine wp_mono (h4 i (by omega) xC lC ⟨ι3, HC, w3⟩ ι3 a3 w3 (Nat.le_refl _) hs3 (Fr.refl _)) ?_
    rintro e a4 w4 ⟨hcalm, σ4, ι4, hs4, hfr4, rfl, hwk4⟩
    obtain ⟨ι5, hs5, hfr5⟩ := hwk4 ι4 a4 w4 hs4
    replace hfr5 := hfr5 _ (Nat.le_refl _) hfr4
    refine ⟨triesN t - (i + 1), by omega, i + 1, ι5, rfl, by omega, hs5, (tot.trans hfr3).trans hfr5, fun j hj => ?_⟩
    by_cases e : j = i
    · subst e; exact h0
    · exact htell j (by omega)
  · intro a3 w3 ι3 t3 h0 hs3 hst
    obtain ⟨v, hv1, _⟩ := results_sound hs3 hres (l := []) rfl
    have fin : bodyPost Tryd.prog fn (fun e w' => (∃ v, e = .returned v) ∧ ((findG f g fu (triesN t) 0 = none ∧ ∃ ι', RepH ⟨ι', HC, w'⟩ ∧ Fr ⟨ι1, HC, w1⟩ ⟨ι', HC, w'⟩) ∨ (∃ i, findG f g fu (triesN t) 0 = some i ∧ StopAt c0 tO aO (HS i) l D rS w'))) .ret a3 w3 :=
      ⟨hs3.t.defers, v, hv1, ⟨_, rfl⟩, .inr ⟨i, findG_at (Nat.zero_le _) (by omega) (fun j _ hj => htell j hj) h0, hst⟩⟩
    exact fin
theorem Fr.put2 {c c' : Cx} {l : Nat} {o o1 o2 : Obj} (hl : c.w.heap[l]? = some o1) (hl' : c'.w.heap[l]? = some o2) (ho : sideO o) (ho1 : sideO o1) (ho2 : sideO o2) (h : Fr c c') : Fr (c.putS l o) (c'.putS l o) where
  os := h.os
  tape := h.tape
  output := h.output
  size := by show (c.w.putObj l o).heap.size ≤ (c'.w.putObj l o).heap.size; rw [World.putObj_size, World.putObj_size]; exact h.size
  keep := fun b hb hw => by
    have hb' : b < c.w.heap.size := by have : b < (c.w.putObj l o).heap.size := hb; rwa [World.putObj_size] at this
    have hk := h.keep b hb' hw
    refine ⟨?_, hk.2⟩
    by_cases e : b = l
    · subst e
      exact (World.putObj_heap_same (heap_lt hl')).trans (World.putObj_heap_same (heap_lt hl)).symm
    · exact (World.putObj_heap_other e).trans (hk.1.trans (World.putObj_heap_other e).symm)
  len := h.len
  vec := fun k sz xs hk hx => by
    obtain ⟨ys, h1, h2, h3⟩ := h.vec k sz xs hk hx
    exact ⟨ys, h1, h2, fun e => ⟨(h3 e).1, fun b hb => (putS_cellsIn hl' ho2 ho).trans (((h3 e).2 b hb).trans (putS_cellsIn hl ho1 ho).symm)⟩⟩
  map := h.map
  iter := h.iter
theorem Fr.back {c c' : Cx} {l : Nat} {o o1 o2 : Obj} (hl : c.w.heap[l]? = some o) (hl' : c'.w.heap[l]? = some o2) (ho : sideO o) (ho1 : sideO o1) (ho2 : sideO o2) (h : Fr (c.putS l o1) c') : Fr c (c'.putS l o) where
  os := h.os
  tape := h.tape
  output := h.output
  size := by
    have : (c.w.putObj l o1).heap.size ≤ c'.w.heap.size := h.size
    rw [World.putObj_size] at this
    show c.w.heap.size ≤ (c'.w.putObj l o).heap.size
    rwa [World.putObj_size]
  keep := fun b hb hw => by
    have hk := h.keep b (by show b < (c.w.putObj l o1).heap.size; rwa [World.putObj_size]) hw
    refine ⟨?_, hk.2⟩
    by_cases e : b = l
    · subst e
      exact (World.putObj_heap_same (heap_lt hl')).trans hl.symm
    · exact (World.putObj_heap_other e).trans (hk.1.trans (World.putObj_heap_other e))
  len := h.len
  vec := fun k sz xs hk hx => by
    obtain ⟨ys, h1, h2, h3⟩ := h.vec k sz xs hk hx
    exact ⟨ys, h1, h2, fun e => ⟨(h3 e).1, fun b hb => (putS_cellsIn hl' ho2 ho).trans (((h3 e).2 b hb).trans (putS_cellsIn hl ho ho1))⟩⟩
  map := h.map
  iter := h.iter
theorem RepT.putS {c : Cx} {N l : Nat} {o o' : Obj} {t : Tm} {a : Act} (hl : c.w.heap[l]? = some o) (ho : sideO o) (ho' : sideO o') (h : RepT c N t a) : RepT (c.putS l o') N t a := ⟨h.size, fun n => (h.val n).putS hl ho ho', h.defers⟩
theorem side_loop (r : Loop) : sideO (.loop r) := fun x y z e => by cases e
theorem side_def (d : Option (List Deferred)) : sideO (.deferred d) := fun x y z e => by cases e
theorem leave_ok {P : Program} {N : Nat} {fn : Func} {rs : List LRes} (hres : lowRes P fn.results.toList = some rs) {H : List AObj} {ι0 : Nat → Option Nat} {w0 : World} {QF : AV → List AObj → Prop} {ι : Nat → Option Nat} {σ : AS} {a : Act} {w : World} (hs : RepS N ι σ (noD a) w) (hf : Fr ⟨ι0, H, w0⟩ ⟨ι, σ.H, w⟩) (hr : RetOk H.length rs QF σ) :
    ∃ v, (results fn a.tmps).run P w = .ok v w ∧ ∃ r v' ι' H', Ending.returned v = .returned v' ∧ QF r H' ∧ RepH ⟨ι', H', w⟩ ∧ RepV ⟨ι', H', w⟩ r v' ∧ Fr ⟨ι0, H, w0⟩ ⟨ι', H', w⟩ := by
  obtain ⟨l, m, r, g3, g4, g5, g6, g7⟩ := hr
  obtain ⟨v, hv, hrep⟩ := results_sound hs hres g3
  exact ⟨v, hv, r, v, ι, σ.H.take m, rfl, g7, hs.h.take g5, view_sound hs.h g6 hrep, hf.take g4⟩
def shapeRF : Code → Option (Code × Code × Code × Operand × Array Tmp × Code × Code × Code)
  | .seq a (.seq b (.seq (.seq c (.block 0 (.rangeFunc g ps x y))) (.seq d .ret))) => some (a, b, c, g, ps, x, y, d)
  | _ => none
theorem shape_spec {code a b c x y d : Code} {g : Operand} {ps : Array Tmp} (h : shapeRF code = some (a, b, c, g, ps, x, y, d)) : code = .seq a (.seq b (.seq (.seq c (.block 0 (.rangeFunc g ps x y))) (.seq d .ret))) := by
  unfold shapeRF at h
  split at h
  · simp only [Option.some.injEq, Prod.mk.injEq] at h
    obtain ⟨rfl, rfl, rfl, rfl, rfl, rfl, rfl, rfl⟩ := h
    rfl
  · simp at h
theorem shape_use {P : Program} {f : FuncId} {N : Nat} {b : Bool} {rs : Option (List LRes)} {k1 k4 k5 kA kB k6 : LCode} {gx : Opd} {pl : List Nat} (h : ((P.funcs[f]?).bind fun fn => fn.body.bind fun c => (shapeRF c).map fun p => (fn.ntmps, fn.name == "runtime.NumGoroutine", lowRes P fn.results.toList, lowCode P 42 p.1, lowCode P 42 p.2.1, lowCode P 42 p.2.2.1, lowX p.2.2.2.1, p.2.2.2.2.1.toList, lowCode P 42 p.2.2.2.2.2.1, lowCode P 42 p.2.2.2.2.2.2.1, lowCode P 42 p.2.2.2.2.2.2.2)) = some (N, b, rs, k1, k4, k5, gx, pl, kA, kB, k6)) :
    ∃ (fn : Func) (xa xb xc : Code) (gO : Operand) (ps : Array Tmp) (x y xd : Code), P.funcs[f]? = some fn ∧ fn.body = some (.seq xa (.seq xb (.seq (.seq xc (.block 0 (.rangeFunc gO ps x y))) (.seq xd .ret)))) ∧ fn.ntmps = N ∧ (fn.name == "runtime.NumGoroutine") = b ∧ lowRes P fn.results.toList = rs ∧ lowCode P 42 xa = k1 ∧ lowCode P 42 xb = k4 ∧ lowCode P 42 xc = k5 ∧ lowX gO = gx ∧ ps.toList = pl ∧ lowCode P 42 x = kA ∧ lowCode P 42 y = kB ∧ lowCode P 42 xd = k6 := by
  simp only [Option.bind_eq_some_iff, Option.map_eq_some_iff, Prod.mk.injEq] at h
  obtain ⟨fn, hfn, c, hbody, ⟨xa, xb, xc, gO, ps, x, y, xd⟩, hshape, h⟩ := h
  have hc := shape_spec hshape
  subst hc
  exact ⟨fn, xa, xb, xc, gO, ps, x, y, xd, hfn, hbody, h⟩
theorem find_shape : ((Tryd.prog.funcs[9]?).bind fun fn => fn.body.bind fun c => (shapeRF c).map fun p => (fn.ntmps, fn.name == "runtime.NumGoroutine", lowRes Tryd.prog fn.results.toList, lowCode Tryd.prog 42 p.1, lowCode Tryd.prog 42 p.2.1, lowCode Tryd.prog 42 p.2.2.1, lowX p.2.2.2.1, p.2.2.2.2.1.toList, lowCode Tryd.prog 42 p.2.2.2.2.2.1, lowCode Tryd.prog 42 p.2.2.2.2.2.2.1, lowCode Tryd.prog 42 p.2.2.2.2.2.2.2)) = some (42, false, some fRes, find_Find.k1, find_Find.k4, find_Find.k5, .tmp 25, [26, 27], rfA, rfB, find_Find.k6) := by kernel_rfl
theorem enters_cases (args : Array Value) (w : World) : (callFunc 35 args).run Tryd.prog w = .ok (.enter 35 args) w := by
  have hlow := find_cases_1.low
  unfold lowFn at hlow
  split at hlow
  case h_2 => simp at hlow
  rename_i fn hfn
  split at hlow
  case h_2 => simp at hlow
  rename_i c rs' hbody hres
  split at hlow
  · simp at hlow
  rename_i hne
  have hne' : ¬ fn.name = "runtime.NumGoroutine" := by simpa using hne
  simp [callFunc, run_program, hfn, hbody, hne']
def fT (h : Nat) : List (Nat × AV) := fS h ++ [(25, .fn (.func 35) [] [.ptr (h + 8) 1 0 0, .ptr (h + 6) 1 0 0, .ptr (h + 7) 1 0 0])]
theorem round_in {H : List AObj} (hcl : Clean H.length H) (f g : List Ins) (t fu : Int) (i : Nat) (c : Cs) (hR : c.R.length = 8) : Weak (H.length + 9) 42 ⟨((mkT (fT H.length)).put (some 26) (.int .i64 (i : Int))).put (some 27) (csA c), H ++ fH9 f g t fu fz13 false 0⟩ ⟨mkT (fS H.length ++ [(26, .int .i64 (i : Int)), (27, csA c)]), H ++ fH9 f g t fu fz13 false 0⟩ := by
  have hil : (ic c.R).length = 8 := by rw [ic_len, hR]
  rw [csA_eq]
  unfold fT fS fH9 fz13
  replace hR := Hold.mk hR
  refine Weak.at hcl ?_
  simp only [seval, evw, fm, dq24, *]
theorem round_ok {H : List AObj} {f g : List Ins} {t fu : Int} (hfo : fnOk f = true) (hgo : fnOk g = true) {c0 : Cx} {ι1 : Nat → Option Nat} {w1 : World} {a3 : Act} {fid l D : Nat} {ps : Array Tmp} {x y : Code} (hps : ps = #[26, 27]) (lx : lowCode Tryd.prog 42 x = rfA) (ly : lowCode Tryd.prog 42 y = rfB)
    (hO : RepT ⟨ι1, H ++ fH9 f g t fu fz13 false 0, w1⟩ 42 (mkT (fT H.length)) a3) (h01 : Fr c0 ⟨ι1, H ++ fH9 f g t fu fz13 false 0, w1⟩) (hc0 : c0.w.heap.size ≤ l) (hcl : Clean H.length H) (hlD : l ≠ D)
    {r : Loop} (hr : r = { state := .ready, pending := none, fn := fid, tmps := a3.tmps, params := ps, assign := x, body := y, defers := D }) (hl : w1.heap[l]? = some (.loop r)) (hD : w1.heap[D]? = some (.deferred (some []))) (hwl : ¬ Cx.wr ⟨ι1, H ++ fH9 f g t fu fz13 false 0, w1⟩ l) (hwD : ¬ Cx.wr ⟨ι1, H ++ fH9 f g t fu fz13 false 0, w1⟩ D)
    (i : Nat) (ι : Nat → Option Nat) (w : World) (vals : Array Value) (hH : RepH ⟨ι, H ++ fH9 f g t fu fz13 false 0, w⟩) (hfr : Fr ⟨ι1, H ++ fH9 f g t fu fz13 false 0, w1⟩ ⟨ι, H ++ fH9 f g t fu fz13 false 0, w⟩) (hvs : RepVs ⟨ι, H ++ fH9 f g t fu fz13 false 0, w⟩ [.int .i64 (i : Int), csA (atOf f g (i : Int) fu)] vals) :
    RoundIn Fence.wide 9 Tryd.prog l r.fn ((r.params.zip vals).foldl (fun tmps (t, a) => tmps.setIfInBounds t a) r.tmps) r.assign r.body w fun e w' =>
      (tellF f g (atOf f g (i : Int) fu) = 0 ∧ e = .returned (.bool true) ∧ ∃ ι', RepH ⟨ι', H ++ fH9 f g t fu fz13 false 0, w'⟩ ∧ Fr ⟨ι, H ++ fH9 f g t fu fz13 false 0, w⟩ ⟨ι', H ++ fH9 f g t fu fz13 false 0, w'⟩) ∨
      (tellF f g (atOf f g (i : Int) fu) ≠ 0 ∧ e = .returned (.bool false) ∧ StopAt c0 (mkT (fT H.length)) a3 (H ++ fH9 f g t fu (fdC (i : Int) (tellF f g (atOf f g (i : Int) fu)) (atOf f g (i : Int) fu)) true 0) l D { r with state := .done, pending := some .ret } w') := by
  obtain ⟨el, wl⟩ := hfr.keep l (heap_lt hl) hwl
  obtain ⟨eD, wD⟩ := hfr.keep D (heap_lt hD) hwD
  replace el : w.heap[l]? = some (.loop r) := el.trans hl
  replace eD : w.heap[D]? = some (.deferred (some [])) := eD.trans hD
  obtain ⟨hR, hcs1, hcs2, hcs3, hcs4⟩ := at_fits f g (i : Int) fu
  have hcr := at_right f g (i : Int) fu
  generalize hcc : atOf f g (i : Int) fu = c at *
  have hHl : (H ++ fH9 f g t fu fz13 false 0).length = H.length + 9 := by rw [List.length_append]; rfl
  obtain ⟨v0, v1, rfl⟩ : ∃ v0 v1, vals = #[v0, v1] := by
    obtain ⟨vl⟩ := vals
    have h1 : vl.length = 2 := hvs.1
    match vl, h1 with
    | [v0, v1], _ => exact ⟨v0, v1, rfl⟩
  have hv0 : RepV ⟨ι, H ++ fH9 f g t fu fz13 false 0, w⟩ (.int .i64 (i : Int)) v0 := hvs.2 0 _ rfl
  have hv1 : RepV ⟨ι, H ++ fH9 f g t fu fz13 false 0, w⟩ (csA c) v1 := hvs.2 1 _ rfl
  have et : ((r.params.zip #[v0, v1]).foldl (fun tmps (t, a) => tmps.setIfInBounds t a) r.tmps) = ((a3.put (some 26) v0).put (some 27) v1).tmps := by
    subst hr; subst hps; simp [Act.put]
  rw [et]
  have hs0 : RepS 42 ι ⟨((mkT (fT H.length)).put (some 26) (.int .i64 (i : Int))).put (some 27) (csA c), H ++ fH9 f g t fu fz13 false 0⟩ (noD { tmps := ((a3.put (some 26) v0).put (some 27) v1).tmps, defers := [] }) w :=
    ⟨hH, by
      have := ((hO.mono hfr).put (d := some 26) (fun k hk => by cases hk; decide) hv0).put (d := some 27) (fun k hk => by cases hk; decide) hv1
      exact ⟨this.size, this.val, rfl⟩⟩
  have hwk := round_in hcl f g t fu i c hR
  obtain ⟨ι2, hs2, hfr2⟩ := hwk ι _ w hs0
  replace hfr2 := hfr2 ⟨ι, H ++ fH9 f g t fu fz13 false 0, w⟩ (by rw [hHl]; exact Nat.le_refl _) (Fr.refl _)
  have hrf : r.fn = fid ∧ r.assign = x ∧ r.body = y := by subst hr; exact ⟨rfl, rfl, rfl⟩
  rw [hrf.1, hrf.2.1, hrf.2.2]
  refine roundIn_of_wpIn trivial (wpIn_mono ((roundA hcl f g t fu i c hR fz13) x lx (Fence.wide.inRound l) 9 ⟨ι, H ++ fH9 f g t fu fz13 false 0, w⟩ ι2 _ w (.inr ⟨l, rfl⟩) hs2 hfr2) ?_)
  rintro e a4 w4 ⟨_, σ4, ι4, hs4, hd4, hfr4, rfl, hwk4⟩
  obtain ⟨ι5, hs5, hfr5⟩ := hwk4 ι4 _ w4 hs4
  replace hfr5 := hfr5 _ (by rw [hHl]; exact Nat.le_refl _) hfr4
  obtain ⟨el4, wl4⟩ := hfr5.keep l (heap_lt el) wl
  replace el4 : w4.heap[l]? = some (.loop r) := el4.trans el
  have hrdy : r.state = .ready := by subst hr; rfl
  refine ⟨_, run_beginRound el4 hrdy, ?_⟩
  have hs6 := RepS.putS (o' := .loop { r with state := .busy }) el4 (side_loop _) (side_loop _) wl4 hs5
  have hfr6 : Fr (Cx.putS ⟨ι, H ++ fH9 f g t fu fz13 false 0, w⟩ l (.loop { r with state := .busy })) ⟨ι5, H ++ (fH9 f g t fu fz13 false 0 ++ [.vec 11 [ic c.R ++ [.list (c.heap.map encI), .list (c.ans.map encI), .int .i64 c.fuel]]]), w4.putObj l (.loop { r with state := .busy })⟩ :=
    Fr.put2 (c' := ⟨ι5, _, w4⟩) el el4 (side_loop _) (side_loop _) (side_loop _) hfr5
  have elb : (Cx.putS ⟨ι, H ++ fH9 f g t fu fz13 false 0, w⟩ l (.loop { r with state := .busy })).w.heap[l]? = some (.loop { r with state := .busy }) := World.putObj_heap_same (heap_lt el)
  by_cases h0 : tellF f g c = 0
  · refine wpIn_mono ((roundB0 hcl f g t fu i c hR hfo hgo hcr h0) y ly (Fence.wide.inRound l) 9 _ ι5 a4 _ (.inr ⟨l, rfl⟩) hs6 hfr6) ?_
    rintro e a7 w7 ⟨_, σ7, ι7, hs7, hd7, hfr7, rfl, hwk7⟩
    obtain ⟨ι8, hs8, hfr8⟩ := hwk7 ι7 _ w7 hs7
    replace hfr8 := hfr8 _ (by show (H ++ fH9 f g t fu fz13 false 0).length ≤ _; rw [hHl]; exact Nat.le_refl _) hfr7
    obtain ⟨el8, wl8⟩ := hfr8.keep l (heap_lt elb) wl
    replace el8 := el8.trans elb
    refine ⟨_, _, run_endRound none el8, .inl ⟨h0, rfl, ι8, ?_, ?_⟩⟩
    · exact RepH.putS (c := ⟨ι8, _, w7⟩) el8 (side_loop _) (side_loop _) wl8 hs8.h
    · have := Fr.back (c' := ⟨ι8, _, w7⟩) el el8 (side_loop _) (side_loop _) (side_loop _) hfr8
      have e9 : ({ { r with state := LoopState.busy } with state := if (none : Option Code).isNone then .ready else .done, pending := none } : Loop) = r := by subst hr; rfl
      rw [e9]
      exact this
  · refine wpIn_mono ((roundB1 hcl f g t fu i c hR hfo hgo hcr h0) y ly (Fence.wide.inRound l) 9 _ ι5 a4 _ (.inr ⟨l, rfl⟩) hs6 hfr6) ?_
    rintro e a7 w7 ⟨_, σ7, ι7, hs7, hd7, hfr7, rfl, hwk7⟩
    obtain ⟨ι8, hs8, hfr8⟩ := hwk7 ι7 _ w7 hs7
    replace hfr8 := hfr8 _ (by show (H ++ fH9 f g t fu fz13 false 0).length ≤ _; rw [hHl]; exact Nat.le_refl _) hfr7
    obtain ⟨el8, wl8⟩ := hfr8.keep l (heap_lt elb) wl
    replace el8 := el8.trans elb
    have eDb : (Cx.putS ⟨ι, H ++ fH9 f g t fu fz13 false 0, w⟩ l (.loop { r with state := .busy })).w.heap[D]? = some (.deferred (some [])) := (World.putObj_heap_other (Ne.symm hlD)).trans eD
    obtain ⟨eD8, wD8⟩ := hfr8.keep D (heap_lt eDb) wD
    replace eD8 := eD8.trans eDb
    refine ⟨_, _, run_endRound (some .ret) el8, .inr ⟨h0, rfl, ι8, ⟨?_, ?_⟩, ?_, ?_, ?_, wl8, wD8⟩⟩
    · exact RepH.putS (c := ⟨ι8, _, w7⟩) el8 (side_loop _) (side_loop _) wl8 hs8.h
    · exact RepT.putS (c := ⟨ι8, _, w7⟩) el8 (side_loop _) (side_loop _) (((hO.mono hfr).putS (o' := .loop { r with state := .busy }) el (side_loop _) (side_loop _)).mono hfr8)
    · exact Fr.putS (c := ⟨ι8, _, w7⟩) el8 (side_loop _) (side_loop _) hc0 ((Fr.putS (o' := .loop { r with state := .busy }) el (side_loop _) (side_loop _) hc0 (h01.trans hfr)).trans hfr8)
    · refine (World.putObj_heap_same (heap_lt el8)).trans ?_
      subst hr
      obtain ⟨h1, h2, h3⟩ := hrf
      rfl
    · exact (World.putObj_heap_other (Ne.symm hlD)).trans eD8
theorem rep_one {c : Cx} {a : AV} {v : Value} {l : List AV} {vs : Array Value} (h : RepV c a v) (hl : RepVs c l vs) : RepVs c (a :: l) (#[v] ++ vs) := by
  have := RepVs.append (show RepVs c [a] #[v] from ⟨rfl, fun i x hx => by
    match i, hx with
    | 0, hx => simp only [List.getElem?_cons_zero, Option.some.injEq] at hx; subst hx; exact h
    | i + 1, hx => simp at hx⟩) hl
  exact this
theorem fT_weak {H : List AObj} (hcl : Clean H.length H) (f g : List Ins) (t fu : Int) (k kind : Int) (c : Cs) (hR : c.R.length = 8) (ok : Bool) : Weak (H.length + 9) 42 ⟨mkT (fT H.length), H ++ fH9 f g t fu (fdC k kind c) ok 0⟩ ⟨mkT (fS H.length), H ++ fH9 f g t fu (fdC k kind c) ok 0⟩ := by
  have hil : (ic c.R).length = 8 := by rw [ic_len, hR]
  rw [fdC_eq]
  unfold fT fS fH9
  replace hR := Hold.mk hR
  refine Weak.at hcl ?_
  simp only [seval, evw, fm, dq24, *]
theorem fT_weak0 {H : List AObj} (hcl : Clean H.length H) (f g : List Ins) (t fu : Int) : Weak (H.length + 9) 42 ⟨mkT (fT H.length), H ++ fH9 f g t fu fz13 false 0⟩ ⟨mkT (fS H.length), H ++ fH9 f g t fu fz13 false 0⟩ := by
  unfold fT fS fH9 fz13
  refine Weak.at hcl ?_
  simp only [seval, evw, fm, dq24, *]
set_option maxHeartbeats 4000000 in
theorem find_Find_ok (f g : List Ins) (t fu : Int) (hfl : f.length ≤ 9223372036854775807) (hgl : g.length ≤ 9223372036854775807) : Pure Tryd.prog 9 [encFn f, encFn g, .agg [.int .i64 t, .int .i64 fu]] (findA f g t fu) := by
  intro H
  obtain ⟨fn, xa, xb, xc, gO, ps, x, y, xd, hfn, hbody, hN, hname, hres, la, lb, lc, lg, lps, lx, ly, ld⟩ := shape_use find_shape
  have hps : ps = #[26, 27] := by rw [← Array.toArray_toList (xs := ps), lps]
  refine ⟨⟨fn, hfn, by simp [hbody], hname⟩, fun ι0 w0 vals hH hv => ?_⟩
  have hcl : Clean H.length H := hH.clean
  refine (callsIn_wide (n := 20)).1 (callsIn_of_wp_marks hfn hbody trivial ?_ rfl)
  rw [hN]
  have hs0 := start_S (N := 42) hH hv (by simp)
  unfold encFn at hs0
  have h1 := findK1 hcl f g t fu
  simp only [List.append_nil] at h1
  refine wpIn_seq (wpIn_mono (wpIn_wide.2 (h1 xa la ⟨ι0, H, w0⟩ ι0 _ w0 (Nat.le_refl _) hs0 (Fr.refl _))) ?_)
  rintro e a1 w1 ⟨_, σ1, ι1, hs1, hf1, rfl, hw1⟩
  obtain ⟨ι2, hs2, hf2⟩ := hw1 ι1 a1 w1 hs1
  replace hf2 := hf2 _ (Nat.le_refl _) hf1
  clear hs0 hs1 hf1 hw1 h1
  by_cases hfair : (fnOk f && fnOk g) = true
  case neg =>
    have h4 := findK4n hcl f g t fu (by simpa using hfair)
    refine wpIn_seq (wpIn_mono (wpIn_wide.2 (h4 xb lb ⟨ι0, H, w0⟩ ι2 a1 w1 (Nat.le_refl _) hs2 hf2)) ?_)
    rintro e a3 w3 ⟨_, σ3, ι3, hs3, hf3, rfl, hret⟩
    obtain ⟨v, hv1, hv2⟩ := leave_ok hres (a := a3) (by rw [noD_self hs3.t.defers]; exact hs3) hf3 hret
    show LeavesInM _ _ _ _ _ _ a3.defers _ _
    rw [hs3.t.defers]
    exact ⟨v, hv1, hv2⟩
  have hfair' := hfair
  simp only [Bool.and_eq_true] at hfair'
  obtain ⟨r1, r2⟩ := hfair'
  have h4 := findK4 hcl f g t fu r1 r2
  refine wpIn_seq (wpIn_mono (wpIn_wide.2 (h4 xb lb ⟨ι0, H, w0⟩ ι2 a1 w1 (Nat.le_refl _) hs2 hf2)) ?_)
  rintro e a2 w2 ⟨_, σ3, ι3, hs3, hf3, rfl, hw3⟩
  obtain ⟨ι4, hs4, hf4⟩ := hw3 ι3 a2 w2 hs3
  replace hf4 := hf4 _ (Nat.le_refl _) hf3
  clear hs2 hf2 hs3 hf3 hw3 h4
  have h5 := findK5 hcl f g t fu
  refine wpIn_seq (wpIn_seq (wpIn_mono (wpIn_wide.2 (h5 xc lc ⟨ι0, H, w0⟩ ι4 a2 w2 (Nat.le_refl _) hs4 hf4)) ?_))
  rintro e a3 w3 ⟨_, σ5, ι5, hs5, hf5, rfl, hw5⟩
  obtain ⟨ι6, hs6, hf6⟩ := hw5 ι5 a3 w3 hs5
  replace hf6 := hf6 _ (Nat.le_refl _) hf5
  clear hs4 hf4 hs5 hf5 hw5 h5
  have hHl : (H ++ fH9 f g t fu fz13 false 0).length = H.length + 9 := by rw [List.length_append]; rfl
  -- the iterator's value
  have hgv := hs6.t.eval hs6.h.glob gO
  rw [lg] at hgv
  have hgv' : RepV ⟨ι6, H ++ fH9 f g t fu fz13 false 0, w3⟩ (.fn (.func 35) [] [.ptr (H.length + 8) 1 0 0, .ptr (H.length + 6) 1 0 0, .ptr (H.length + 7) 1 0 0]) (a3.eval gO) := hgv
  obtain ⟨us, vs, hg3, hus, hvs⟩ := hgv'.fn_inv
  have hus0 : us = #[] := Array.eq_empty_of_size_eq_zero hus.1
  subst hus0
  refine wpIn_block (wpIn_rangeFunc ?_)
  intro fid _
  obtain ⟨r, hr⟩ : ∃ r : Loop, r = { state := .ready, pending := none, fn := fid, tmps := a3.tmps, params := ps, assign := x, body := y, defers := w3.heap.size } := ⟨_, rfl⟩
  obtain ⟨wL, hwL⟩ : ∃ wL, (w3.alloc (.deferred (some []))).alloc (.loop r) = wL := ⟨_, rfl⟩
  have hlL : wL.heap[w3.heap.size + 1]? = some (.loop r) := by
    rw [← hwL]; have := World.alloc_heap_new (w3.alloc (.deferred (some []))) (.loop r); rwa [World.size_alloc] at this
  have hDL : wL.heap[w3.heap.size]? = some (.deferred (some [])) := by
    rw [← hwL]; exact (Below.heap_alloc _ _ _ (by simp)).trans (World.alloc_heap_new w3 _)
  have hHL : RepH ⟨ι6, H ++ fH9 f g t fu fz13 false 0, wL⟩ := by
    rw [← hwL]; exact RepH.alloc (c := ⟨ι6, _, w3.alloc _⟩) _ (RepH.alloc (c := ⟨ι6, _, w3⟩) _ hs6.h)
  have hfL : Fr ⟨ι6, H ++ fH9 f g t fu fz13 false 0, w3⟩ ⟨ι6, H ++ fH9 f g t fu fz13 false 0, wL⟩ := by
    rw [← hwL]; exact (Fr.alloc (c := ⟨ι6, _, w3⟩) _ hs6.h).trans (Fr.alloc (c := ⟨ι6, _, w3.alloc _⟩) _ (RepH.alloc (c := ⟨ι6, _, w3⟩) _ hs6.h))
  have hwl : ¬ Cx.wr ⟨ι6, H ++ fH9 f g t fu fz13 false 0, wL⟩ (w3.heap.size + 1) := wr_lt (c := ⟨ι6, _, w3⟩) hs6.h (Nat.le_succ _)
  have hwD : ¬ Cx.wr ⟨ι6, H ++ fH9 f g t fu fz13 false 0, wL⟩ w3.heap.size := wr_lt (c := ⟨ι6, _, w3⟩) hs6.h (Nat.le_refl _)
  have hc0 : w0.heap.size ≤ w3.heap.size := hf6.size
  have hd3 : a3.defers = [] := hs6.t.defers
  refine ⟨w3.heap.size + 1, [{ target := .collected w3.heap.size, args := #[] }], wL, { target := .fn (.func 35) vs, args := #[.func (.yield (w3.heap.size + 1)) #[] #[]] }, wL, 35,
    #[.func (.yield (w3.heap.size + 1)) #[] #[]] ++ vs, wL, ?_, ?_, fun _ _ => trivial, ?_, fun h => by simp [Fence.wide] at h, ?_⟩
  · have := run_enterLoop_outer (P := Tryd.prog) (w := w3) fid a3.tmps ps x y
    rw [← hr, hwL] at this
    exact this
  · simp only [resolve, hg3]
    simp [go_sem]
  · simp [invoke, go_sem, enters_cases]
  have hjb : (H ++ fH9 f g t fu fz13 false 0)[H.length + 8]? = some (.vec 2 [[.int .i64 t, .int .i64 fu]]) := by rw [hp_get]; rfl
  have hjf : (H ++ fH9 f g t fu fz13 false 0)[H.length + 6]? = some (.vec 1 [[.list (f.map encIns)]]) := by rw [hp_get]; rfl
  have hjg : (H ++ fH9 f g t fu fz13 false 0)[H.length + 7]? = some (.vec 1 [[.list (g.map encIns)]]) := by rw [hp_get]; rfl
  have hpar : r.params.size = 2 := by rw [hr, hps]; rfl
  have hO : RepT ⟨ι6, H ++ fH9 f g t fu fz13 false 0, wL⟩ 42 (mkT (fT H.length)) a3 := hs6.t.mono hfL
  have hF0 : Fr ⟨ι0, H, w0⟩ ⟨ι6, H ++ fH9 f g t fu fz13 false 0, wL⟩ := hf6.trans hfL
  have hle : (Cx.mk ι0 H w0).w.heap.size ≤ w3.heap.size + 1 := Nat.le_succ_of_le hc0
  have hne : w3.heap.size + 1 ≠ w3.heap.size := by omega
  have hround := round_ok r1 r2 hps lx ly hO hF0 hle hcl hne hr hlL hDL hwl hwD
  have hvals : RepVs ⟨ι6, H ++ fH9 f g t fu fz13 false 0, wL⟩ [.imm (.func (.yield (w3.heap.size + 1)) #[] #[]), .ptr (H.length + 8) 1 0 0, .ptr (H.length + 6) 1 0 0, .ptr (H.length + 7) 1 0 0] (#[.func (.yield (w3.heap.size + 1)) #[] #[]] ++ vs) := rep_one (.imm _) ⟨hvs.1, fun i a ha => (hvs.2 i a ha).mono hfL⟩
  have hcall := cases_1_ok hjb hjf hjg hpar (HS := fun i => H ++ fH9 f g t fu (fdC (i : Int) (tellF f g (atOf f g (i : Int) fu)) (atOf f g (i : Int) fu)) true 0) hHL hlL hDL hwl hwD (fun i ι w vals _ hH hfr hvs => hround i ι w vals hH hfr hvs) _ hvals
  refine callsIn_wide.2 (hcall.mono ?_)
  have hlen : ∀ (res : List AV) (ok : Bool), (H ++ fH9 f g t fu res ok 0).length = H.length + 9 := fun res ok => by rw [List.length_append]; rfl
  have hneD : w3.heap.size ≠ w3.heap.size + 1 := by omega
  rintro e w4 ⟨⟨v, rfl⟩, (⟨hnone, ι7, hH7, hf7⟩ | ⟨i, hsome, hst⟩)⟩
  · obtain ⟨el, wl7⟩ := hf7.keep _ (heap_lt hlL) hwl
    obtain ⟨eD, wD7⟩ := hf7.keep _ (heap_lt hDL) hwD
    replace el := el.trans hlL
    replace eD := eD.trans hDL
    have hst : r.state ≠ .busy := by rw [hr]; simp
    have hend := run_endLoop (P := Tryd.prog) el hst
    have hpend : r.pending = none := by rw [hr]
    rw [hpend] at hend
    refine ⟨none, _, hend, ?_⟩
    obtain ⟨ι8, hs8, hf8⟩ := fT_weak0 hcl f g t fu ι7 a3 w4 ⟨hH7, hO.mono hf7⟩
    replace hf8 := hf8 ⟨ι7, H ++ fH9 f g t fu fz13 false 0, w4⟩ (by rw [hlen]; exact Nat.le_refl _) (Fr.refl _)
    obtain ⟨_, wl8⟩ := hf8.keep _ (heap_lt el) wl7
    obtain ⟨_, wD8⟩ := hf8.keep _ (heap_lt eD) wD7
    have hs9 := RepS.putS (o' := .loop { r with state := .exhausted, pending := none }) el (side_loop _) (side_loop _) wl8 hs8
    have hf9 := Fr.putS (c := ⟨ι8, H ++ fH9 f g t fu fz13 false 0, w4⟩) (o' := .loop { r with state := .exhausted, pending := none }) el (side_loop _) (side_loop _) hle ((hF0.trans hf7).trans hf8)
    have eD9 : (w4.putObj (w3.heap.size + 1) (.loop { r with state := .exhausted, pending := none })).heap[w3.heap.size]? = some (.deferred (some [])) := (World.putObj_heap_other hneD).trans eD
    have hrr : ({ r with state := LoopState.exhausted } : Loop) = { r with state := .exhausted, pending := none } := by rw [hr]
    have h6 := findK6 hcl f g t fu
    show (Code.seq xd .ret).wpIn _ _ _ _ _ _
    have hs9' : RepS 42 ι8 ⟨mkT (fS H.length), H ++ fH9 f g t fu fz13 false 0⟩ (noD { a3 with defers := [{ target := .collected w3.heap.size, args := #[] }] ++ a3.defers }) (w4.putObj (w3.heap.size + 1) (.loop { r with state := .exhausted, pending := none })) := by
      show RepS _ _ _ (noD a3) _
      rw [noD_self hd3]
      exact hs9
    refine wpIn_seq (wpIn_mono (h6 xd ld Fence.wide 20 ⟨ι8, H ++ fH9 f g t fu fz13 false 0, w4.putObj (w3.heap.size + 1) (.loop { r with state := .exhausted, pending := none })⟩ ι8 _ _ (.inl rfl) hs9' (Fr.refl _)) ?_)
    rintro e a6 w6 ⟨_, σ6, ι9, hs10, hd10, hf10, rfl, hret⟩
    rw [← findA_none r1 r2 hnone] at hret
    obtain ⟨e6, wD6⟩ := hf10.keep _ (heap_lt eD9) wD8
    replace e6 := e6.trans eD9
    refine wpIn_ret ?_
    have hdd : a6.defers = [{ target := .collected w3.heap.size, args := #[] }] := by rw [hd10]; show _ ++ a3.defers = _; rw [hd3]; rfl
    show LeavesInM _ _ _ _ _ _ a6.defers _ _
    rw [hdd]
    obtain ⟨v, hv1, hv2⟩ := leave_ok hres (a := a6) (RepS.putS (o' := .deferred none) e6 (side_def _) (side_def _) wD6 hs10) (Fr.putS (c := ⟨ι9, σ6.H, w6⟩) (o' := .deferred none) e6 (side_def _) (side_def _) hc0 (hf9.trans hf10)) hret
    exact ⟨by simp, .inl ⟨w3.heap.size, _, rfl, run_takeDeferred e6, v, hv1, hv2⟩⟩
  · obtain ⟨ι7, g1, g2, g3, g4, g5, g6⟩ := hst
    have hend := run_endLoop (P := Tryd.prog) g3 (by simp)
    refine ⟨some .ret, _, hend, wpIn_ret ?_⟩
    have hR := (at_fits f g (i : Int) fu).1
    have hA := findA_some r1 r2 hsome
    obtain ⟨ι8, hs8, hf8⟩ := fT_weak hcl f g t fu (i : Int) (tellF f g (atOf f g (i : Int) fu)) (atOf f g (i : Int) fu) hR true ι7 a3 w4 g1
    replace hf8 := hf8 ⟨ι7, _, w4⟩ (by rw [hlen]; exact Nat.le_refl _) (Fr.refl _)
    obtain ⟨_, wl8⟩ := hf8.keep _ (heap_lt g3) g5
    obtain ⟨_, wD8⟩ := hf8.keep _ (heap_lt g4) g6
    have hret := findRet hcl f g t fu (i : Int) (tellF f g (atOf f g (i : Int) fu)) (atOf f g (i : Int) fu) hR
    rw [← hA] at hret
    have hs9 := RepS.putS (o' := .loop { { r with state := LoopState.done, pending := some .ret } with state := .exhausted }) g3 (side_loop _) (side_loop _) wl8 hs8
    have hf9 := Fr.putS (c := ⟨ι8, _, w4⟩) (o' := .loop { { r with state := LoopState.done, pending := some .ret } with state := .exhausted }) g3 (side_loop _) (side_loop _) hle (g2.trans hf8)
    have eD9 : (w4.putObj (w3.heap.size + 1) (.loop { { r with state := LoopState.done, pending := some .ret } with state := .exhausted })).heap[w3.heap.size]? = some (.deferred (some [])) := (World.putObj_heap_other hneD).trans g4
    have hdd : ({ a3 with defers := [{ target := .collected w3.heap.size, args := #[] }] ++ a3.defers } : Act).defers = [{ target := .collected w3.heap.size, args := #[] }] := by show _ ++ a3.defers = _; rw [hd3]; rfl
    obtain ⟨v, hv1, hv2⟩ := leave_ok hres (a := a3) (by rw [noD_self hd3]; exact RepS.putS (o' := .deferred none) eD9 (side_def _) (side_def _) wD8 hs9) (Fr.putS (c := ⟨ι8, _, _⟩) (o' := .deferred none) eD9 (side_def _) (side_def _) hc0 hf9) hret
    show LeavesInM _ _ _ _ _ _ ({ a3 with defers := [{ target := .collected w3.heap.size, args := #[] }] ++ a3.defers } : Act).defers _ _
    rw [hdd]
    exact ⟨by simp, .inl ⟨w3.heap.size, _, rfl, run_takeDeferred eD9, v, hv1, hv2⟩⟩
def fdGreat (f g : List Ins) (t fu : Int) : Bool := decide (300 < f.length) || (decide (300 < g.length) || (decide (30 < t) || decide (300 < fu)))
theorem fdGreat_not {f g : List Ins} {t fu : Int} (h : ¬ fdGreat f g t fu = true) : f.length ≤ 300 ∧ g.length ≤ 300 ∧ t ≤ 30 ∧ fu ≤ 300 := by
  unfold fdGreat at h
  simp only [Bool.or_eq_true, decide_eq_true_eq, not_or] at h
  obtain ⟨h1, h2, h3, h4⟩ := h
  exact ⟨by omega, by omega, by omega, by omega⟩
set_option linter.defProp false in
def dq25 := And.intro @sb (And.intro @ew (And.intro @ec (And.intro @List.map_nil.{0,0} (And.intro @List.length_nil.{0} (@Nat.mul_one)))))
theorem law19_great_ok (f g : List Ins) (t fu : Int) : Pure Tryd.prog 7 [encFn f, encFn g, .agg [.int .i64 t, .int .i64 fu]] (.bool (fdGreat f g t fu)) := by
  intro H
  refine ACalls.go joinerylaw19_great.low (by simp) fun hcl => ?_
  have hr : fdGreat f g t fu = (decide ((300 : Int) < (f.length : Int)) || (decide ((300 : Int) < (g.length : Int)) || (decide (30 < t) || decide (300 < fu)))) := by
    unfold fdGreat
    rw [show decide (300 < f.length) = decide ((300 : Int) < (f.length : Int)) from decide_eq_decide.2 (by omega), show decide (300 < g.length) = decide ((300 : Int) < (g.length : Int)) from decide_eq_decide.2 (by omega)]
  rw [hr]
  unfold encFn at *
  replace hr := Hold.mk hr
  by_cases k1 : (300 : Int) < (f.length : Int)
  case pos => repeat' (first | simp only [seval, evx, beq_self_eq_true, dq25, *] | simp (disch := omega) only [if_pos, if_neg] | refine zG ?_ | refine zH ?_ | refine zI rfl ?_ | refine zK ?_ | refine zL ?_ | refine zM ?_ | refine zN ?_ | refine zO ?_ | ((first | refine zP hcl ?_ | refine zQ hcl ?_); simp only [seval, evw, fm, dq25, *]) | ((first | refine zB ?_ ?_ | refine zD ?_ ?_ | refine zF ?_ ?_) <;> (intro hc; try simp only [seval, nf] at hc)) | refine zR ?_ | refine CallX.inst ?_ | (with_reducible refine And.intro ?_ ?_) | exact True.intro | refine zT h1.of ?_ | refine zU h1.of ?_ | refine zT h2.of ?_ | refine zU h2.of ?_ | refine zT h3.of ?_ | refine zU h3.of ?_ | refine zT h4.of ?_ | refine zU h4.of ?_)
  by_cases k2 : (300 : Int) < (g.length : Int)
  case pos => repeat' (first | simp only [seval, evx, beq_self_eq_true, dq25, *] | simp (disch := omega) only [if_pos, if_neg] | refine zG ?_ | refine zH ?_ | refine zI rfl ?_ | refine zK ?_ | refine zL ?_ | refine zM ?_ | refine zN ?_ | refine zO ?_ | ((first | refine zP hcl ?_ | refine zQ hcl ?_); simp only [seval, evw, fm, dq25, *]) | ((first | refine zB ?_ ?_ | refine zD ?_ ?_ | refine zF ?_ ?_) <;> (intro hc; try simp only [seval, nf] at hc)) | refine zR ?_ | refine CallX.inst ?_ | (with_reducible refine And.intro ?_ ?_) | exact True.intro | refine zT h1.of ?_ | refine zU h1.of ?_ | refine zT h2.of ?_ | refine zU h2.of ?_ | refine zT h3.of ?_ | refine zU h3.of ?_ | refine zT h4.of ?_ | refine zU h4.of ?_)
  by_cases k3 : 30 < t
  case pos => repeat' (first | simp only [seval, evx, beq_self_eq_true, dq25, *] | simp (disch := omega) only [if_pos, if_neg] | refine zG ?_ | refine zH ?_ | refine zI rfl ?_ | refine zK ?_ | refine zL ?_ | refine zM ?_ | refine zN ?_ | refine zO ?_ | ((first | refine zP hcl ?_ | refine zQ hcl ?_); simp only [seval, evw, fm, dq25, *]) | ((first | refine zB ?_ ?_ | refine zD ?_ ?_ | refine zF ?_ ?_) <;> (intro hc; try simp only [seval, nf] at hc)) | refine zR ?_ | refine CallX.inst ?_ | (with_reducible refine And.intro ?_ ?_) | exact True.intro | refine zT h1.of ?_ | refine zU h1.of ?_ | refine zT h2.of ?_ | refine zU h2.of ?_ | refine zT h3.of ?_ | refine zU h3.of ?_ | refine zT h4.of ?_ | refine zU h4.of ?_)
  repeat' (first | simp only [seval, evx, beq_self_eq_true, dq25, *] | simp (disch := omega) only [if_pos, if_neg] | refine zG ?_ | refine zH ?_ | refine zI rfl ?_ | refine zK ?_ | refine zL ?_ | refine zM ?_ | refine zN ?_ | refine zO ?_ | ((first | refine zP hcl ?_ | refine zQ hcl ?_); simp only [seval, evw, fm, dq25, *]) | ((first | refine zB ?_ ?_ | refine zD ?_ ?_ | refine zF ?_ ?_) <;> (intro hc; try simp only [seval, nf] at hc)) | refine zR ?_ | refine CallX.inst ?_ | (with_reducible refine And.intro ?_ ?_) | exact True.intro | refine zT h1.of ?_ | refine zU h1.of ?_ | refine zT h2.of ?_ | refine zU h2.of ?_ | refine zT h3.of ?_ | refine zU h3.of ?_ | refine zT h4.of ?_ | refine zU h4.of ?_)
def w3x : List UInt8 := [114, 101, 116, 32, 114, 48, 10]
def w3y : List UInt8 := [114, 101, 116, 32, 114, 49, 10]
def w3f : List Ins := [⟨18, 0, 0, 0, 0, 0⟩]
def w3g : List Ins := [⟨18, 0, 1, 0, 0, 0⟩]
theorem w3x_ok : fnParse w3x = (w3f, 0, 0) := by decide +kernel
theorem w3y_ok : fnParse w3y = (w3g, 0, 0) := by decide +kernel
theorem w3f_ok : fnOk w3f = true := by decide +kernel
theorem w3g_ok : fnOk w3g = true := by decide +kernel
theorem w3_first : firstOf w3f w3g = { R := [1000003, 1000004, 1000005, 1000006, 1000007, 1000008, 1000009, 1000010], heap := [], ans := [1000011, 1000012, 1000013, 1000014], fuel := 4 } := rfl
theorem w3_tell : tellF w3f w3g ⟨[1000003, 1000004, 1000005, 1000006, 1000007, 1000008, 1000009, 1000010], [], [1000011, 1000012, 1000013, 1000014], 4⟩ = 3 := by decide +kernel
theorem w3_tell' : tellF w3f w3g (firstOf w3f w3g) = 3 := by rw [w3_first]; exact w3_tell
theorem w3_find : findA w3f w3g 0 0 = .tup [.agg [.int .i64 0, .int .i64 3, .int .i64 1000003, .int .i64 1000004, .int .i64 1000005, .int .i64 1000006, .int .i64 1000007, .int .i64 1000008, .int .i64 1000009, .int .i64 1000010, .list [], .list [[.int .i64 1000011], [.int .i64 1000012], [.int .i64 1000013], [.int .i64 1000014]], .int .i64 4], .bool true, .int .i64 0] := by
  rw [findA_some w3f_ok w3g_ok (findF_first (by rw [w3_tell']; decide))]
  rw [show (((0 : Nat) : Nat) : Int) = 0 from rfl, at_first _ _ _ (Int.le_refl _), w3_tell', w3_first]
  rfl
set_option maxHeartbeats 4000000 in
theorem law19_knows_ok : Pure Tryd.prog 8 [] (.bool true) := by
  intro H
  refine ACalls.go joinerylaw19_knows.low (by simp) fun hcl => ?_
  have h1 := asm_Parse_ok w3x (by decide)
  rw [w3x_ok] at h1
  have h3 := asm_Parse_ok w3y (by decide)
  rw [w3y_ok] at h3
  have h2 := find_Find_ok w3f w3g 0 0 (by decide) (by decide)
  rw [w3_find] at h2
  have h4 := find_Find_ok w3f w3f 3 9 (by decide) (by decide)
  rw [findA_none w3f_ok w3f_ok (findF_self w3f 3 9), fz_eq] at h4
  unfold fnR encFn at *
  simp only at h1 h3
  generalize List.map encIns w3f = F at *
  generalize List.map encIns w3g = G at *
  unfold w3x w3y at *
  replace h1 := Hold.mk h1
  replace h3 := Hold.mk h3
  replace h2 := Hold.mk h2
  replace h4 := Hold.mk h4
  repeat' (first | simp only [seval, evx, beq_self_eq_true, dq25, *] | simp (disch := omega) only [if_pos, if_neg] | refine zG ?_ | refine zH ?_ | refine zI rfl ?_ | refine zK ?_ | refine zL ?_ | refine zM ?_ | refine zN ?_ | refine zO ?_ | ((first | refine zP hcl ?_ | refine zQ hcl ?_); simp only [seval, evw, fm, dq25, *]) | ((first | refine zB ?_ ?_ | refine zD ?_ ?_ | refine zF ?_ ?_) <;> (intro hc; try simp only [seval, nf] at hc)) | refine zR ?_ | refine CallX.inst ?_ | (with_reducible refine And.intro ?_ ?_) | exact True.intro | refine zT h1.of ?_ | refine zU h1.of ?_ | refine zT h2.of ?_ | refine zU h2.of ?_ | refine zT h3.of ?_ | refine zU h3.of ?_ | refine zT h4.of ?_ | refine zU h4.of ?_)
instance pc_law19_knows : PureC Tryd.prog 8 [] (.bool true) := ⟨law19_knows_ok⟩
end Go.Proofs.YtnbdpjhmepgoaaaDoor
