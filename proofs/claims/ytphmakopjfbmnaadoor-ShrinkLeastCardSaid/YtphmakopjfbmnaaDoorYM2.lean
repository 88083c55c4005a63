/-
  ShrinkLeast, of every two functions, every case and every two small numbers: with less fuel, or with fewer answers, the case tells nothing.
-/
import Derived.Test.YtphmakopjfbmnaaDoorZ14
namespace Go.Proofs.YtphmakopjfbmnaaDoor
set_option maxRecDepth 100000
def joinerylaw20_ShrinkLeast.k1 : LCode := .text [⟨some 7, .box (.tmp 2), none⟩,⟨some 10, .mv (.cst (.bool false)), none⟩]
def joinerylaw20_ShrinkLeast.k2 : LCode := .text [⟨some 20, .mv (.tmp 0), none⟩,⟨some 21, .mv (.tmp 1), none⟩,⟨some 22, .load true 11 (.tmp 7), none⟩,⟨some 23, .call (.cst (.fn (.func 7) [] [])) [.tmp 20, .tmp 21, .tmp 22], none⟩]
def joinerylaw20_ShrinkLeast.k3 : LCode := .text [⟨some 24, .call (.cst (.fn (.func 8) [] [])) [], none⟩,⟨some 10, .mv (.tmp 24), none⟩]
def joinerylaw20_ShrinkLeast.k4 : LCode := .cond (.tmp 23) (.seq joinerylaw20_ShrinkLeast.k3 .ret) .skip
def joinerylaw20_ShrinkLeast.k5 : LCode := .seq joinerylaw20_ShrinkLeast.k2 joinerylaw20_ShrinkLeast.k4
def joinerylaw20_ShrinkLeast.k6 : LCode := .text [⟨some 26, .mv (.tmp 0), none⟩,⟨some 27, .mv (.tmp 1), none⟩,⟨some 28, .load true 11 (.tmp 7), none⟩,⟨some 29, .call (.cst (.fn (.func 9) [] [])) [.tmp 26, .tmp 27, .tmp 28], none⟩,⟨some 25, .mv (.tmp 29), none⟩,⟨some 30, .extract (.tmp 25) 0, none⟩,⟨some 31, .extract (.tmp 25) 1, none⟩,⟨some 32, .extract (.tmp 25) 2, none⟩,⟨some 11, .alloc [.int .i64 0, .int .i64 0, .int .i64 0, .int .i64 0, .int .i64 0, .int .i64 0, .int .i64 0, .int .i64 0, .imm (.slice none 0 0), .imm (.slice none 0 0), .int .i64 0], none⟩,⟨none, .store 11 (.tmp 11) (.tmp 30), none⟩,⟨some 12, .mv (.tmp 31), none⟩,⟨some 13, .mv (.tmp 32), none⟩]
def joinerylaw20_ShrinkLeast.k7 : LCode := .text [⟨some 33, .mv (.tmp 13), none⟩,⟨some 34, .bin .neq .other (.tmp 33) (.cst (.int .i64 0)), none⟩,⟨some 35, .mv (.tmp 34), none⟩,⟨some 36, .mv (.tmp 12), some (35, false)⟩,⟨some 37, .bin .eql .other (.tmp 36) (.cst (.int .i64 0)), some (35, false)⟩,⟨some 38, .pick (.tmp 35) (.cst (.bool true)) (.tmp 37), none⟩]
def joinerylaw20_ShrinkLeast.k8 : LCode := .text [⟨some 39, .call (.cst (.fn (.func 8) [] [])) [], none⟩,⟨some 10, .mv (.tmp 39), none⟩]
def joinerylaw20_ShrinkLeast.k9 : LCode := .cond (.tmp 38) (.seq joinerylaw20_ShrinkLeast.k8 .ret) .skip
def joinerylaw20_ShrinkLeast.k10 : LCode := .seq joinerylaw20_ShrinkLeast.k7 joinerylaw20_ShrinkLeast.k9
def joinerylaw20_ShrinkLeast.k11 : LCode := .text [⟨some 40, .load true 11 (.tmp 7), none⟩,⟨some 14, .alloc [.int .i64 0, .int .i64 0, .int .i64 0, .int .i64 0, .int .i64 0, .int .i64 0, .int .i64 0, .int .i64 0, .imm (.slice none 0 0), .imm (.slice none 0 0), .int .i64 0], none⟩,⟨none, .store 11 (.tmp 14) (.tmp 40), none⟩]
def joinerylaw20_ShrinkLeast.k12 : LCode := .text [⟨some 41, .mv (.tmp 3), none⟩,⟨some 42, .toInt .i64 (.tmp 41), none⟩,⟨some 43, .faddr 10 (.tmp 14), none⟩,⟨none, .store 1 (.tmp 43) (.tmp 42), none⟩]
def joinerylaw20_ShrinkLeast.k13 : LCode := .text [⟨some 44, .load true 11 (.tmp 7), none⟩,⟨some 15, .alloc [.int .i64 0, .int .i64 0, .int .i64 0, .int .i64 0, .int .i64 0, .int .i64 0, .int .i64 0, .int .i64 0, .imm (.slice none 0 0), .imm (.slice none 0 0), .int .i64 0], none⟩,⟨none, .store 11 (.tmp 15) (.tmp 44), none⟩]
def joinerylaw20_ShrinkLeast.k14 : LCode := .text [⟨some 45, .faddr 10 (.tmp 11), none⟩,⟨some 46, .load false 1 (.tmp 45), none⟩,⟨some 47, .faddr 10 (.tmp 15), none⟩,⟨none, .store 1 (.tmp 47) (.tmp 46), none⟩]
def joinerylaw20_ShrinkLeast.k15 : LCode := .text [⟨some 48, .mv (.tmp 4), none⟩,⟨some 49, .toInt .i64 (.tmp 48), none⟩,⟨some 50, .faddr 9 (.tmp 11), none⟩,⟨some 51, .load false 1 (.tmp 50), none⟩,⟨some 52, .len .slice (.tmp 51), none⟩,⟨some 53, .bin .lss .other (.tmp 49) (.tmp 52), none⟩]
def joinerylaw20_ShrinkLeast.k16 : LCode := .text [⟨some 54, .faddr 9 (.tmp 7), none⟩,⟨some 55, .load false 1 (.tmp 54), none⟩,⟨some 56, .mv (.tmp 4), none⟩,⟨some 57, .toInt .i64 (.tmp 56), none⟩,⟨some 58, .slice 1 (.tmp 55) none (some (.tmp 57)) none, none⟩,⟨some 59, .faddr 9 (.tmp 15), none⟩,⟨none, .store 1 (.tmp 59) (.tmp 58), none⟩]
def joinerylaw20_ShrinkLeast.k17 : LCode := .text [⟨some 61, .mv (.tmp 0), none⟩,⟨some 62, .mv (.tmp 1), none⟩,⟨some 63, .load true 11 (.tmp 15), none⟩,⟨some 64, .call (.cst (.fn (.func 10) [] [])) [.tmp 61, .tmp 62, .tmp 63], none⟩,⟨some 60, .mv (.tmp 64), none⟩,⟨some 65, .extract (.tmp 60) 0, none⟩,⟨some 66, .extract (.tmp 60) 1, none⟩,⟨some 16, .mv (.tmp 65), none⟩,⟨some 17, .mv (.tmp 66), none⟩]
def joinerylaw20_ShrinkLeast.k18 : LCode := .text [⟨some 67, .mv (.tmp 16), none⟩,⟨some 68, .bin .neq .other (.tmp 67) (.cst (.int .i64 0)), none⟩,⟨some 69, .mv (.tmp 68), none⟩,⟨some 70, .mv (.tmp 17), some (69, false)⟩,⟨some 71, .bin .neq .other (.tmp 70) (.cst (.int .i64 0)), some (69, false)⟩,⟨some 72, .pick (.tmp 69) (.cst (.bool true)) (.tmp 71), none⟩]
def joinerylaw20_ShrinkLeast.k19 : LCode := .seq (.text [⟨some 10, .mv (.cst (.bool false)), none⟩]) .ret
def joinerylaw20_ShrinkLeast.k20 : LCode := .seq joinerylaw20_ShrinkLeast.k18 (.cond (.tmp 72) joinerylaw20_ShrinkLeast.k19 .skip)
def joinerylaw20_ShrinkLeast.k21 : LCode := .seq joinerylaw20_ShrinkLeast.k17 joinerylaw20_ShrinkLeast.k20
def joinerylaw20_ShrinkLeast.k22 : LCode := .seq joinerylaw20_ShrinkLeast.k16 joinerylaw20_ShrinkLeast.k21
def joinerylaw20_ShrinkLeast.k23 : LCode := .seq joinerylaw20_ShrinkLeast.k15 (.cond (.tmp 53) joinerylaw20_ShrinkLeast.k22 .skip)
def joinerylaw20_ShrinkLeast.k24 : LCode := .text [⟨some 73, .faddr 10 (.tmp 14), none⟩,⟨some 74, .load false 1 (.tmp 73), none⟩,⟨some 75, .faddr 10 (.tmp 11), none⟩,⟨some 76, .load false 1 (.tmp 75), none⟩,⟨some 77, .bin .geq .other (.tmp 74) (.tmp 76), none⟩]
def joinerylaw20_ShrinkLeast.k25 : LCode := .text [⟨some 78, .call (.cst (.fn (.func 8) [] [])) [], none⟩,⟨some 10, .mv (.tmp 78), none⟩]
def joinerylaw20_ShrinkLeast.k26 : LCode := .cond (.tmp 77) (.seq joinerylaw20_ShrinkLeast.k25 .ret) .skip
def joinerylaw20_ShrinkLeast.k27 : LCode := .seq joinerylaw20_ShrinkLeast.k24 joinerylaw20_ShrinkLeast.k26
def joinerylaw20_ShrinkLeast.k28 : LCode := .text [⟨some 80, .mv (.tmp 0), none⟩,⟨some 81, .mv (.tmp 1), none⟩,⟨some 82, .load true 11 (.tmp 14), none⟩,⟨some 83, .call (.cst (.fn (.func 10) [] [])) [.tmp 80, .tmp 81, .tmp 82], none⟩,⟨some 79, .mv (.tmp 83), none⟩,⟨some 84, .extract (.tmp 79) 0, none⟩,⟨some 85, .extract (.tmp 79) 1, none⟩,⟨some 18, .mv (.tmp 84), none⟩,⟨some 19, .mv (.tmp 85), none⟩]
def joinerylaw20_ShrinkLeast.k29 : LCode := .text [⟨some 86, .mv (.tmp 18), none⟩,⟨some 87, .bin .eql .other (.tmp 86) (.cst (.int .i64 0)), none⟩,⟨some 88, .mv (.tmp 87), none⟩,⟨some 89, .mv (.tmp 19), some (88, true)⟩,⟨some 90, .bin .eql .other (.tmp 89) (.cst (.int .i64 0)), some (88, true)⟩,⟨some 91, .pick (.tmp 88) (.tmp 90) (.cst (.bool false)), none⟩,⟨some 92, .mv (.tmp 91), none⟩,⟨some 93, .call (.cst (.fn (.func 8) [] [])) [], some (92, true)⟩,⟨some 94, .pick (.tmp 92) (.tmp 93) (.cst (.bool false)), none⟩,⟨some 10, .mv (.tmp 94), none⟩]
def joinerylaw20_ShrinkLeast.k30 : LCode := .seq joinerylaw20_ShrinkLeast.k28 (.seq joinerylaw20_ShrinkLeast.k29 .ret)
def joinerylaw20_ShrinkLeast.k31 : LCode := .seq joinerylaw20_ShrinkLeast.k27 joinerylaw20_ShrinkLeast.k30
def joinerylaw20_ShrinkLeast.k32 : LCode := .seq joinerylaw20_ShrinkLeast.k23 joinerylaw20_ShrinkLeast.k31
def joinerylaw20_ShrinkLeast.k33 : LCode := .seq joinerylaw20_ShrinkLeast.k14 joinerylaw20_ShrinkLeast.k32
def joinerylaw20_ShrinkLeast.k34 : LCode := .seq joinerylaw20_ShrinkLeast.k13 joinerylaw20_ShrinkLeast.k33
def joinerylaw20_ShrinkLeast.k35 : LCode := .seq joinerylaw20_ShrinkLeast.k12 joinerylaw20_ShrinkLeast.k34
def joinerylaw20_ShrinkLeast.k36 : LCode := .seq joinerylaw20_ShrinkLeast.k11 joinerylaw20_ShrinkLeast.k35
def joinerylaw20_ShrinkLeast.k37 : LCode := .seq joinerylaw20_ShrinkLeast.k10 joinerylaw20_ShrinkLeast.k36
def joinerylaw20_ShrinkLeast.k38 : LCode := .seq joinerylaw20_ShrinkLeast.k6 joinerylaw20_ShrinkLeast.k37
def joinerylaw20_ShrinkLeast.k39 : LCode := .seq joinerylaw20_ShrinkLeast.k5 joinerylaw20_ShrinkLeast.k38
def joinerylaw20_ShrinkLeast.lc : LCode :=
 .seq joinerylaw20_ShrinkLeast.k1 joinerylaw20_ShrinkLeast.k39
theorem joinerylaw20_ShrinkLeast.low : lowFn Tryd.prog 4 = some (95, joinerylaw20_ShrinkLeast.lc, [.tmp 10]) := by kernel_rfl
end Go.Proofs.YtphmakopjfbmnaaDoor
namespace Go.Proofs.YtphmakopjfbmnaaDoor
open Go.ChangeShapes Go.WideShapes Go.ChangeAt Go.RowKit
set_option linter.unusedVariables false
set_option linter.unusedSimpArgs false
set_option maxHeartbeats 8000000 in
theorem ShrinkLeast_ok (f g : List Ins) (c : Cs) (less fewer : Nat) (hle : less < 256) (hfe : fewer < 256) (hR : c.R.length = 8) : Pure Tryd.prog 4 [encFn f, encFn g, csA c, .int .u8 (less : Int), .int .u8 (fewer : Int)] (.bool true) := by
  intro H
  refine ACalls.go joinerylaw20_ShrinkLeast.low (by simp) fun hcl => ?_
  have hil : (ic c.R).length = 8 := by rw [ic_len, hR]
  have hgr := law20_great_ok f g c hR
  by_cases hg : csGreat20 f g c = true
  · rw [hg] at hgr
    rw [csA_eq] at *
    unfold encFn at *
    clear hg
    replace hgr := Hold.mk hgr
    replace hR := Hold.mk hR
    repeat' (first | simp only [seval, evx, beq_self_eq_true, sb, ew, ec, List.map_nil, List.length_nil, beq_self_eq_true, *] | simp (disch := omega) only [if_pos, if_neg] | refine R.seq ?_ | refine LCB.text ?_ | refine LCB.quiet rfl ?_ | refine R.anyX ?_ | refine R.block ?_ | refine LCB.skip ?_ | refine LCB.exit ?_ | refine LCB.ret ?_ | ((first | refine RetOk.val hcl ?_ | refine Weak.at hcl ?_); simp only [seval, evw, fm, sb, ew, ec, List.map_nil, List.length_nil, beq_self_eq_true, *]) | ((first | refine LCB.cond (by simp only [seval, evx] <;> rfl) ?_ ?_ | refine wpG_split (by simp only [seval, evx] <;> rfl) ?_ ?_ | refine wxG_split (by simp only [seval, evx] <;> rfl) ?_ ?_) <;> (intro hc; try simp only [seval, nf] at hc)) | refine ACalls.inst ?_ | refine CallX.inst ?_ | (with_reducible refine And.intro ?_ ?_) | exact True.intro | refine ACalls.pure hgr.of ?_ | refine CallX.pure hgr.of ?_ | refine ACalls.pure hcase.of ?_ | refine CallX.pure hcase.of ?_ | refine ACalls.pure hz.of ?_ | refine CallX.pure hz.of ?_ | refine ACalls.pure hy.of ?_ | refine CallX.pure hy.of ?_)
  obtain ⟨q1, q2, q3, q4, q5⟩ := great20_not hg
  have hg2 : csGreat20 f g c = false := by simpa using hg
  rw [hg2] at hgr
  clear hg hg2
  have hcase := shrink_Case_ok f g c hR (by omega) (by omega)
  by_cases hfair : (fnOk f && (fnOk g && csRight c)) = true
  case neg =>
    rw [caseA_not (by simpa using hfair), cs0_eq] at hcase
    clear hfair q1 q2 q3 q4 q5
    rw [csA_eq] at *
    unfold encFn at *
    replace hgr := Hold.mk hgr
    replace hcase := Hold.mk hcase
    replace hR := Hold.mk hR
    repeat' (first | simp only [seval, evx, beq_self_eq_true, sb, ew, ec, List.map_nil, List.length_nil, beq_self_eq_true, *] | simp (disch := omega) only [if_pos, if_neg] | refine R.seq ?_ | refine LCB.text ?_ | refine LCB.quiet rfl ?_ | refine R.anyX ?_ | refine R.block ?_ | refine LCB.skip ?_ | refine LCB.exit ?_ | refine LCB.ret ?_ | ((first | refine RetOk.val hcl ?_ | refine Weak.at hcl ?_); simp only [seval, evw, fm, sb, ew, ec, List.map_nil, List.length_nil, beq_self_eq_true, *]) | ((first | refine LCB.cond (by simp only [seval, evx] <;> rfl) ?_ ?_ | refine wpG_split (by simp only [seval, evx] <;> rfl) ?_ ?_ | refine wxG_split (by simp only [seval, evx] <;> rfl) ?_ ?_) <;> (intro hc; try simp only [seval, nf] at hc)) | refine ACalls.inst ?_ | refine CallX.inst ?_ | (with_reducible refine And.intro ?_ ?_) | exact True.intro | refine ACalls.pure hgr.of ?_ | refine CallX.pure hgr.of ?_ | refine ACalls.pure hcase.of ?_ | refine CallX.pure hcase.of ?_ | refine ACalls.pure hz.of ?_ | refine CallX.pure hz.of ?_ | refine ACalls.pure hy.of ?_ | refine CallX.pure hy.of ?_)
  simp only [Bool.and_eq_true] at hfair
  obtain ⟨r1, r2, r3⟩ := hfair
  obtain ⟨p1, p2, p3, p4⟩ := csRight_iff.1 r3
  obtain ⟨x, x0, x1, x2, x3, x4, ⟨na, x5⟩, ⟨nh, x6⟩, x7, x8, x9⟩ := caseA_fair r1 r2 r3
  rw [x0] at hcase
  have hl := differ_Tell_ok f g x (by rw [x2, hR]) (by omega) (by omega)
  rw [tellA_yes r1 r2 x1] at hl
  obtain ⟨u1, u2, u3, u4⟩ := csRight_iff.1 x1
  clear x0 x1
  by_cases k0 : tellF f g x = 0
  · rw [k0] at hcase
    have hil2 : (ic x.R).length = 8 := by rw [ic_len, x2, hR]
    clear x2 x3 x4 x5 x6 x7 x8 x9 q1 q2 q3 q4 q5 p1 p2 p3 p4 u1 u2 u3 u4 hl k0
    rw [csA_eq] at *
    rw [csA_eq] at *
    unfold encFn at *
    replace hgr := Hold.mk hgr
    replace hcase := Hold.mk hcase
    replace hR := Hold.mk hR
    repeat' (first | simp only [seval, evx, beq_self_eq_true, sb, ew, ec, List.map_nil, List.length_nil, beq_self_eq_true, *] | simp (disch := omega) only [if_pos, if_neg] | refine R.seq ?_ | refine LCB.text ?_ | refine LCB.quiet rfl ?_ | refine R.anyX ?_ | refine R.block ?_ | refine LCB.skip ?_ | refine LCB.exit ?_ | refine LCB.ret ?_ | ((first | refine RetOk.val hcl ?_ | refine Weak.at hcl ?_); simp only [seval, evw, fm, sb, ew, ec, List.map_nil, List.length_nil, beq_self_eq_true, *]) | ((first | refine LCB.cond (by simp only [seval, evx] <;> rfl) ?_ ?_ | refine wpG_split (by simp only [seval, evx] <;> rfl) ?_ ?_ | refine wxG_split (by simp only [seval, evx] <;> rfl) ?_ ?_) <;> (intro hc; try simp only [seval, nf] at hc)) | refine ACalls.inst ?_ | refine CallX.inst ?_ | (with_reducible refine And.intro ?_ ?_) | exact True.intro | refine ACalls.pure hgr.of ?_ | refine CallX.pure hgr.of ?_ | refine ACalls.pure hcase.of ?_ | refine CallX.pure hcase.of ?_ | refine ACalls.pure hz.of ?_ | refine CallX.pure hz.of ?_ | refine ACalls.pure hy.of ?_ | refine CallX.pure hy.of ?_)
  have x8' := x8 k0
  have x9' := x9 k0
  clear x8 x9 hl
  obtain ⟨Rg, hp, an, fu⟩ := c
  obtain ⟨Rx, hx, ax, fx⟩ := x
  simp only at *
  have hlx : Rx.length = 8 := by rw [x2, hR]
  have hil2 : (ic Rx).length = 8 := by rw [ic_len, hlx]
  have hla : ax.length ≤ an.length := by rw [x5, List.length_take]; omega
  have a1 : an.map encI = [] ∨ ((an.map encI).headD []).length = 1 := by cases an; exact .inl rfl; exact .inr rfl
  have y0 : IntKind.i64.wrap (less : Int) = (less : Int) := by rw [IntKind.wrap_i64]; omega
  have y1 : IntKind.i64.wrap (fewer : Int) = (fewer : Int) := by rw [IntKind.wrap_i64]; omega
  have cz : ∀ m : Nat, csRight ⟨Rg, hp, an.take m, fx⟩ = true := fun m => csRight_iff.2 ⟨p1, by show (an.take m).length ≤ 5000; rw [List.length_take]; omega, u3, u4⟩
  have cy : ∀ m : Nat, (m : Int) < fx → csRight ⟨Rg, hp, an, (m : Int)⟩ = true := fun m hm => csRight_iff.2 ⟨p1, p2, by show (0 : Int) ≤ (m : Int); omega, by show (m : Int) ≤ 5000; omega⟩
  have hz := differ_Tell_ok f g ⟨Rg, hp, an.take fewer, fx⟩ hR (by omega) (by omega)
  have hy := differ_Tell_ok f g ⟨Rg, hp, an, (less : Int)⟩ hR (by omega) (by omega)
  rw [tellA_yes r1 r2 (cz fewer)] at hz
  generalize hk : tellF f g ⟨Rx, hx, ax, fx⟩ = k at *
  rw [csA_eq] at *
  rw [csA_eq] at *
  simp only [List.map_take] at *
  unfold encFn at *
  clear q1 q2 q3 q4 q5 p1 p2 p3 p4 u1 u2 u3 u4 hk x2 x3 x4 x5 x6 x7 cz
  by_cases l1 : fewer < ax.length
  · rw [x9' fewer l1] at hz
    have l1' : (fewer : Int) < (ax.length : Int) := by omega
    have l3 : fewer ≤ an.length := by omega
    have l4 : (fewer : Int) ≤ (an.length : Int) := by omega
    by_cases l2 : (less : Int) < fx
    · rw [tellA_yes r1 r2 (cy less l2), x8' less l2] at hy
      have l2' : ¬ fx ≤ (less : Int) := by omega
      clear x8' x9' r1 r2 r3 cy
      replace hgr := Hold.mk hgr
      replace hcase := Hold.mk hcase
      replace hz := Hold.mk hz
      replace hy := Hold.mk hy
      replace hR := Hold.mk hR
      replace hlx := Hold.mk hlx
      repeat' (first | simp only [seval, evx, beq_self_eq_true, sb, ew, ec, List.map_nil, List.length_nil, beq_self_eq_true, *] | simp (disch := omega) only [if_pos, if_neg] | refine R.seq ?_ | refine LCB.text ?_ | refine LCB.quiet rfl ?_ | refine R.anyX ?_ | refine R.block ?_ | refine LCB.skip ?_ | refine LCB.exit ?_ | refine LCB.ret ?_ | ((first | refine RetOk.val hcl ?_ | refine Weak.at hcl ?_); simp only [seval, evw, fm, sb, ew, ec, List.map_nil, List.length_nil, beq_self_eq_true, *]) | ((first | refine LCB.cond (by simp only [seval, evx] <;> rfl) ?_ ?_ | refine wpG_split (by simp only [seval, evx] <;> rfl) ?_ ?_ | refine wxG_split (by simp only [seval, evx] <;> rfl) ?_ ?_) <;> (intro hc; try simp only [seval, nf] at hc)) | refine ACalls.inst ?_ | refine CallX.inst ?_ | (with_reducible refine And.intro ?_ ?_) | exact True.intro | refine ACalls.pure hgr.of ?_ | refine CallX.pure hgr.of ?_ | refine ACalls.pure hcase.of ?_ | refine CallX.pure hcase.of ?_ | refine ACalls.pure hz.of ?_ | refine CallX.pure hz.of ?_ | refine ACalls.pure hy.of ?_ | refine CallX.pure hy.of ?_)
    · have l2' : fx ≤ (less : Int) := by omega
      clear x8' x9' r1 r2 r3 cy hy
      replace hgr := Hold.mk hgr
      replace hcase := Hold.mk hcase
      replace hz := Hold.mk hz
      replace hR := Hold.mk hR
      replace hlx := Hold.mk hlx
      repeat' (first | simp only [seval, evx, beq_self_eq_true, sb, ew, ec, List.map_nil, List.length_nil, beq_self_eq_true, *] | simp (disch := omega) only [if_pos, if_neg] | refine R.seq ?_ | refine LCB.text ?_ | refine LCB.quiet rfl ?_ | refine R.anyX ?_ | refine R.block ?_ | refine LCB.skip ?_ | refine LCB.exit ?_ | refine LCB.ret ?_ | ((first | refine RetOk.val hcl ?_ | refine Weak.at hcl ?_); simp only [seval, evw, fm, sb, ew, ec, List.map_nil, List.length_nil, beq_self_eq_true, *]) | ((first | refine LCB.cond (by simp only [seval, evx] <;> rfl) ?_ ?_ | refine wpG_split (by simp only [seval, evx] <;> rfl) ?_ ?_ | refine wxG_split (by simp only [seval, evx] <;> rfl) ?_ ?_) <;> (intro hc; try simp only [seval, nf] at hc)) | refine ACalls.inst ?_ | refine CallX.inst ?_ | (with_reducible refine And.intro ?_ ?_) | exact True.intro | refine ACalls.pure hgr.of ?_ | refine CallX.pure hgr.of ?_ | refine ACalls.pure hcase.of ?_ | refine CallX.pure hcase.of ?_ | refine ACalls.pure hz.of ?_ | refine CallX.pure hz.of ?_ | refine ACalls.pure hy.of ?_ | refine CallX.pure hy.of ?_)
  · have l1' : ¬ (fewer : Int) < (ax.length : Int) := by omega
    by_cases l2 : (less : Int) < fx
    · rw [tellA_yes r1 r2 (cy less l2), x8' less l2] at hy
      have l2' : ¬ fx ≤ (less : Int) := by omega
      clear x8' x9' r1 r2 r3 cy hz
      replace hgr := Hold.mk hgr
      replace hcase := Hold.mk hcase
      replace hy := Hold.mk hy
      replace hR := Hold.mk hR
      replace hlx := Hold.mk hlx
      repeat' (first | simp only [seval, evx, beq_self_eq_true, sb, ew, ec, List.map_nil, List.length_nil, beq_self_eq_true, *] | simp (disch := omega) only [if_pos, if_neg] | refine R.seq ?_ | refine LCB.text ?_ | refine LCB.quiet rfl ?_ | refine R.anyX ?_ | refine R.block ?_ | refine LCB.skip ?_ | refine LCB.exit ?_ | refine LCB.ret ?_ | ((first | refine RetOk.val hcl ?_ | refine Weak.at hcl ?_); simp only [seval, evw, fm, sb, ew, ec, List.map_nil, List.length_nil, beq_self_eq_true, *]) | ((first | refine LCB.cond (by simp only [seval, evx] <;> rfl) ?_ ?_ | refine wpG_split (by simp only [seval, evx] <;> rfl) ?_ ?_ | refine wxG_split (by simp only [seval, evx] <;> rfl) ?_ ?_) <;> (intro hc; try simp only [seval, nf] at hc)) | refine ACalls.inst ?_ | refine CallX.inst ?_ | (with_reducible refine And.intro ?_ ?_) | exact True.intro | refine ACalls.pure hgr.of ?_ | refine CallX.pure hgr.of ?_ | refine ACalls.pure hcase.of ?_ | refine CallX.pure hcase.of ?_ | refine ACalls.pure hz.of ?_ | refine CallX.pure hz.of ?_ | refine ACalls.pure hy.of ?_ | refine CallX.pure hy.of ?_)
    · have l2' : fx ≤ (less : Int) := by omega
      clear x8' x9' r1 r2 r3 cy hy hz
      replace hgr := Hold.mk hgr
      replace hcase := Hold.mk hcase
      replace hR := Hold.mk hR
      replace hlx := Hold.mk hlx
      repeat' (first | simp only [seval, evx, beq_self_eq_true, sb, ew, ec, List.map_nil, List.length_nil, beq_self_eq_true, *] | simp (disch := omega) only [if_pos, if_neg] | refine R.seq ?_ | refine LCB.text ?_ | refine LCB.quiet rfl ?_ | refine R.anyX ?_ | refine R.block ?_ | refine LCB.skip ?_ | refine LCB.exit ?_ | refine LCB.ret ?_ | ((first | refine RetOk.val hcl ?_ | refine Weak.at hcl ?_); simp only [seval, evw, fm, sb, ew, ec, List.map_nil, List.length_nil, beq_self_eq_true, *]) | ((first | refine LCB.cond (by simp only [seval, evx] <;> rfl) ?_ ?_ | refine wpG_split (by simp only [seval, evx] <;> rfl) ?_ ?_ | refine wxG_split (by simp only [seval, evx] <;> rfl) ?_ ?_) <;> (intro hc; try simp only [seval, nf] at hc)) | refine ACalls.inst ?_ | refine CallX.inst ?_ | (with_reducible refine And.intro ?_ ?_) | exact True.intro | refine ACalls.pure hgr.of ?_ | refine CallX.pure hgr.of ?_ | refine ACalls.pure hcase.of ?_ | refine CallX.pure hcase.of ?_ | refine ACalls.pure hz.of ?_ | refine CallX.pure hz.of ?_ | refine ACalls.pure hy.of ?_ | refine CallX.pure hy.of ?_)
theorem shrinkLeast_law : ∀ av, FitAs [.one (.list insSh), .one (.list insSh), .agg csSh, .one (.int .u8), .one (.int .u8)] av → ACalls Tryd.prog 4 av [] fun r _ => r = .bool true := by
  rintro _ ⟨a, _, rfl, h1, b, _, rfl, h2, d, _, rfl, h3, m, _, rfl, h4, n, _, rfl, h5, rfl⟩
  obtain ⟨f, rfl, hf, _⟩ := h1.inss
  obtain ⟨g, rfl, hg, _⟩ := h2.inss
  obtain ⟨c, rfl, hc, _⟩ := h3.cs
  obtain ⟨m, rfl, hm⟩ := h4.u8
  obtain ⟨n, rfl, hn⟩ := h5.u8
  exact (ShrinkLeast_ok f g c m n hm hn hc).law
set_option maxRecDepth 100000 in
theorem shrinkLeast_lifted (os : Os) (started : os.Started) (H : Type) (enc : TypeId × Value → H) :
    ReturnsInHanded {} Tryd.checked os 4 .any (fun w args => (Rows.shrinkLeastSpec.pre enc Tryd.prog Tryd.f4 [] false w args ∧ laidMetH Tryd.prog laidL w) ∧ sizedMet enc Tryd.prog Tryd.f4 (OpenSpec.ofChange Rows.shrinkLeastSpec) false w args)
      (Rows.shrinkLeastSpec.post enc Tryd.prog Tryd.f4 false true false false) := by
  refine returnsInHanded_of_change_and (C := Tryd.checked) (X := fun w _ => laidMetH Tryd.prog laidL w) (fun _ _ _ hh h => h.of_heap hh) own_ok started (by kernel_rfl) Tryd.func4
    (ChangeSpec.witness_shaped (enc := enc) (C := Tryd.checked) (os := os) (X := fun w _ => laidMetH Tryd.prog laidL w) false (World.doorLaid Tryd.prog 400 os) #[.slice none 0 0, .slice none 0 0, (.agg #[.int .i64 0, .int .i64 0, .int .i64 0, .int .i64 0, .int .i64 0, .int .i64 0, .int .i64 0, .int .i64 0, .slice none 0 0, .slice none 0 0, .int .i64 0]), .int .u8 0, .int .u8 0] 8 rfl (World.shaped_of_RefB (by kernel_rfl) (by kernel_rfl)) (by kernel_rfl) (by kernel_rfl) (by kernel_rfl) (door_met os _)) ?_
  intro W base args ds gs before hval0 hW _ _ hL _
  exact law_contract (base := base) laid_ok rfl (by kernel_rfl) (by kernel_rfl) (by kernel_rfl)
    (fun ds hl => by
      match ds, hl with
      | [d1, d2, d3, d4, d5], _ => rfl) (glob_of_laid hL) shrinkLeast_law hval0 hW
set_option maxRecDepth 100000 in
theorem shrinkLeast_row : Rows.ShrinkLeastSaid :=
  OpenClaim.holds_of_wide 4 Tryd.f4 rfl rfl rfl rfl rfl rfl rfl ⟨rfl, rfl, rfl, rfl, rfl⟩ rfl rfl rfl rfl rfl (by kernel_rfl) Tryd.func4 (by kernel_rfl)
    (of_decide_eq_true (by kernel_rfl)) (by unfold Func.isWrapper; first | (rw [if_pos (by decide +kernel)]; kernel_rfl) | (rw [if_neg (by decide +kernel)]; exact ⟨rfl, rfl⟩))
    (fun os started H enc _ => shrinkLeast_lifted os started H enc)
set_option maxRecDepth 100000 in
theorem shrinkLeast_holds : Rows.ShrinkLeastCardSaid :=
  Claim7.holds_tied_plain_at .later [] [.data] true (true, "f854dd3417ba2f2a7343e98a86b3f6750c0905036c9cfb94aee39bbddbdf8749") true
    shrinkLeast_row (fun _ h => by cases h) (by kernel_rfl) (fun _ h => by cases h) shrinkLeast_row_tie rfl ⟨rfl, rfl⟩ (by kernel_rfl) rfl
    (fun f fn hf hfn => by
      obtain rfl : f = 4 := Option.some.inj ((show Tryd.prog.funcNamed "joinery/joinerylaw20.ShrinkLeast" = some 4 by kernel_rfl).symm.trans hf) |>.symm
      obtain rfl : fn = Tryd.f4 := (Option.some.inj (Tryd.func4.symm.trans hfn)).symm
      exact ⟨by kernel_rfl, fun j t ht => by
        have hall : (Tryd.f4.params.toList.all fun u => !Tryd.prog.wantsStandIn u) = true := by kernel_rfl
        have hm : t ∈ Tryd.f4.params.toList := by
          have := Array.mem_of_getElem? ht
          simpa using this
        exact (show Tryd.prog.wantsStandIn t = false by simpa using List.all_eq_true.1 hall t hm)⟩)
    (by kernel_rfl)
end Go.Proofs.YtphmakopjfbmnaaDoor
