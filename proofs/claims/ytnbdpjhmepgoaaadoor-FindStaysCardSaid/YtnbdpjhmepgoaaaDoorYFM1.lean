/-
  FindStays, of every two functions, every budget and every number of more tries: the same is found.
-/
import Derived.Test.YtnbdpjhmepgoaaaDoorZ15
namespace Go.Proofs.YtnbdpjhmepgoaaaDoor
set_option maxRecDepth 100000
def joinerylaw19_FindStays.k1 : LCode := .text [⟨some 6, .box (.tmp 2), none⟩,⟨some 8, .mv (.cst (.bool false)), none⟩]
def joinerylaw19_FindStays.k2 : LCode := .text [⟨some 17, .mv (.tmp 0), none⟩,⟨some 18, .mv (.tmp 1), none⟩,⟨some 19, .load true 2 (.tmp 6), none⟩,⟨some 20, .call (.cst (.fn (.func 7) [] [])) [.tmp 17, .tmp 18, .tmp 19], none⟩]
def joinerylaw19_FindStays.k3 : LCode := .text [⟨some 21, .call (.cst (.fn (.func 8) [] [])) [], none⟩,⟨some 8, .mv (.tmp 21), none⟩]
def joinerylaw19_FindStays.k4 : LCode := .seq joinerylaw19_FindStays.k2 (.cond (.tmp 20) (.seq joinerylaw19_FindStays.k3 .ret) .skip)
def joinerylaw19_FindStays.k5 : LCode := .text [⟨some 23, .mv (.tmp 0), none⟩,⟨some 24, .mv (.tmp 1), none⟩,⟨some 25, .load true 2 (.tmp 6), none⟩,⟨some 26, .call (.cst (.fn (.func 9) [] [])) [.tmp 23, .tmp 24, .tmp 25], none⟩,⟨some 22, .mv (.tmp 26), none⟩,⟨some 27, .extract (.tmp 22) 0, none⟩,⟨some 28, .extract (.tmp 22) 1, none⟩,⟨some 29, .extract (.tmp 22) 2, none⟩,⟨some 9, .alloc [.int .i64 0, .int .i64 0, .int .i64 0, .int .i64 0, .int .i64 0, .int .i64 0, .int .i64 0, .int .i64 0, .int .i64 0, .int .i64 0, .imm (.slice none 0 0), .imm (.slice none 0 0), .int .i64 0], none⟩,⟨none, .store 13 (.tmp 9) (.tmp 27), none⟩,⟨some 10, .mv (.tmp 28), none⟩,⟨some 11, .mv (.tmp 29), none⟩]
def joinerylaw19_FindStays.k6 : LCode := .text [⟨some 30, .mv (.tmp 11), none⟩,⟨some 31, .bin .neq .other (.tmp 30) (.cst (.int .i64 0)), none⟩,⟨some 32, .mv (.tmp 31), none⟩,⟨some 33, .mv (.tmp 10), some (32, false)⟩,⟨some 34, .not (.tmp 33), some (32, false)⟩,⟨some 35, .pick (.tmp 32) (.cst (.bool true)) (.tmp 34), none⟩]
def joinerylaw19_FindStays.k7 : LCode := .text [⟨some 36, .mv (.tmp 11), none⟩,⟨some 37, .bin .eql .other (.tmp 36) (.cst (.int .i64 0)), none⟩,⟨some 38, .mv (.tmp 37), none⟩,⟨some 39, .mv (.tmp 11), some (38, false)⟩,⟨some 40, .bin .eql .other (.tmp 39) (.cst (.int .i64 1)), some (38, false)⟩,⟨some 41, .pick (.tmp 38) (.cst (.bool true)) (.tmp 40), none⟩,⟨some 42, .mv (.tmp 41), none⟩,⟨some 43, .mv (.tmp 10), some (42, true)⟩,⟨some 44, .not (.tmp 43), some (42, true)⟩,⟨some 45, .pick (.tmp 42) (.tmp 44) (.cst (.bool false)), none⟩,⟨some 46, .mv (.tmp 45), none⟩,⟨some 47, .call (.cst (.fn (.func 8) [] [])) [], some (46, true)⟩,⟨some 48, .pick (.tmp 46) (.tmp 47) (.cst (.bool false)), none⟩,⟨some 8, .mv (.tmp 48), none⟩]
def joinerylaw19_FindStays.k8 : LCode := .seq joinerylaw19_FindStays.k6 (.cond (.tmp 35) (.seq joinerylaw19_FindStays.k7 .ret) .skip)
def joinerylaw19_FindStays.k9 : LCode := .text [⟨some 49, .faddr 0 (.tmp 6), none⟩,⟨some 50, .load false 1 (.tmp 49), none⟩,⟨some 51, .bin .geq .other (.tmp 50) (.cst (.int .i64 0)), none⟩]
def joinerylaw19_FindStays.k10 : LCode := .text [⟨some 52, .faddr 0 (.tmp 6), none⟩,⟨some 53, .load false 1 (.tmp 52), none⟩,⟨some 54, .mv (.tmp 3), none⟩,⟨some 55, .toInt .i64 (.tmp 54), none⟩,⟨some 56, .bin .add .other (.tmp 53) (.tmp 55), none⟩,⟨some 57, .faddr 0 (.tmp 6), none⟩,⟨none, .store 1 (.tmp 57) (.tmp 56), none⟩]
def joinerylaw19_FindStays.k11 : LCode := .seq joinerylaw19_FindStays.k9 (.cond (.tmp 51) joinerylaw19_FindStays.k10 .skip)
def joinerylaw19_FindStays.k12 : LCode := .text [⟨some 59, .mv (.tmp 0), none⟩,⟨some 60, .mv (.tmp 1), none⟩,⟨some 61, .load true 2 (.tmp 6), none⟩,⟨some 62, .call (.cst (.fn (.func 9) [] [])) [.tmp 59, .tmp 60, .tmp 61], none⟩,⟨some 58, .mv (.tmp 62), none⟩,⟨some 63, .extract (.tmp 58) 0, none⟩,⟨some 64, .extract (.tmp 58) 1, none⟩,⟨some 65, .extract (.tmp 58) 2, none⟩,⟨some 12, .alloc [.int .i64 0, .int .i64 0, .int .i64 0, .int .i64 0, .int .i64 0, .int .i64 0, .int .i64 0, .int .i64 0, .int .i64 0, .int .i64 0, .imm (.slice none 0 0), .imm (.slice none 0 0), .int .i64 0], none⟩,⟨none, .store 13 (.tmp 12) (.tmp 63), none⟩,⟨some 13, .mv (.tmp 64), none⟩,⟨some 14, .mv (.tmp 65), none⟩]
def joinerylaw19_FindStays.k13 : LCode := .text [⟨some 67, .mv (.tmp 0), none⟩,⟨some 68, .mv (.tmp 1), none⟩,⟨some 69, .faddr 2 (.tmp 9), none⟩,⟨some 70, .load true 11 (.tmp 69), none⟩,⟨some 71, .call (.cst (.fn (.func 10) [] [])) [.tmp 67, .tmp 68, .tmp 70], none⟩,⟨some 66, .mv (.tmp 71), none⟩,⟨some 72, .extract (.tmp 66) 0, none⟩,⟨some 73, .extract (.tmp 66) 1, none⟩,⟨some 15, .mv (.tmp 72), none⟩,⟨some 16, .mv (.tmp 73), none⟩]
def joinerylaw19_FindStays.k14 : LCode := .text [⟨some 74, .mv (.tmp 13), none⟩,⟨some 75, .mv (.tmp 74), none⟩,⟨some 76, .mv (.tmp 14), some (75, true)⟩,⟨some 77, .bin .eql .other (.tmp 76) (.cst (.int .i64 0)), some (75, true)⟩,⟨some 78, .pick (.tmp 75) (.tmp 77) (.cst (.bool false)), none⟩,⟨some 79, .mv (.tmp 78), none⟩,⟨some 80, .faddr 0 (.tmp 9), some (79, true)⟩,⟨some 81, .load false 1 (.tmp 80), some (79, true)⟩,⟨some 82, .faddr 0 (.tmp 12), some (79, true)⟩,⟨some 83, .load false 1 (.tmp 82), some (79, true)⟩,⟨some 84, .bin .eql .other (.tmp 81) (.tmp 83), some (79, true)⟩,⟨some 85, .pick (.tmp 79) (.tmp 84) (.cst (.bool false)), none⟩,⟨some 86, .mv (.tmp 85), none⟩,⟨some 87, .faddr 1 (.tmp 9), some (86, true)⟩,⟨some 88, .load false 1 (.tmp 87), some (86, true)⟩,⟨some 89, .faddr 1 (.tmp 12), some (86, true)⟩,⟨some 90, .load false 1 (.tmp 89), some (86, true)⟩,⟨some 91, .bin .eql .other (.tmp 88) (.tmp 90), some (86, true)⟩,⟨some 92, .pick (.tmp 86) (.tmp 91) (.cst (.bool false)), none⟩,⟨some 93, .mv (.tmp 92), none⟩,⟨some 94, .faddr 2 (.tmp 9), some (93, true)⟩,⟨some 95, .load true 11 (.tmp 94), some (93, true)⟩,⟨some 96, .faddr 2 (.tmp 12), some (93, true)⟩,⟨some 97, .load true 11 (.tmp 96), some (93, true)⟩,⟨some 98, .call (.cst (.fn (.func 11) [] [])) [.tmp 95, .tmp 97], some (93, true)⟩,⟨some 99, .pick (.tmp 93) (.tmp 98) (.cst (.bool false)), none⟩,⟨some 100, .mv (.tmp 99), none⟩,⟨some 101, .mv (.tmp 15), some (100, true)⟩,⟨some 102, .faddr 1 (.tmp 9), some (100, true)⟩,⟨some 103, .load false 1 (.tmp 102), some (100, true)⟩,⟨some 104, .bin .eql .other (.tmp 101) (.tmp 103), some (100, true)⟩,⟨some 105, .pick (.tmp 100) (.tmp 104) (.cst (.bool false)), none⟩,⟨some 106, .mv (.tmp 105), none⟩,⟨some 107, .mv (.tmp 16), some (106, true)⟩,⟨some 108, .bin .eql .other (.tmp 107) (.cst (.int .i64 0)), some (106, true)⟩,⟨some 109, .pick (.tmp 106) (.tmp 108) (.cst (.bool false)), none⟩,⟨some 110, .mv (.tmp 109), none⟩,⟨some 111, .call (.cst (.fn (.func 8) [] [])) [], some (110, true)⟩,⟨some 112, .pick (.tmp 110) (.tmp 111) (.cst (.bool false)), none⟩,⟨some 8, .mv (.tmp 112), none⟩]
def joinerylaw19_FindStays.k15 : LCode := .seq joinerylaw19_FindStays.k13 (.seq joinerylaw19_FindStays.k14 .ret)
def joinerylaw19_FindStays.k16 : LCode := .seq joinerylaw19_FindStays.k11 (.seq joinerylaw19_FindStays.k12 joinerylaw19_FindStays.k15)
def joinerylaw19_FindStays.k17 : LCode := .seq joinerylaw19_FindStays.k5 (.seq joinerylaw19_FindStays.k8 joinerylaw19_FindStays.k16)
def joinerylaw19_FindStays.lc : LCode :=
 .seq joinerylaw19_FindStays.k1 (.seq joinerylaw19_FindStays.k4 joinerylaw19_FindStays.k17)
theorem joinerylaw19_FindStays.low : lowFn Tryd.prog 3 = some (113, joinerylaw19_FindStays.lc, [.tmp 8]) := by kernel_rfl
end Go.Proofs.YtnbdpjhmepgoaaaDoor
namespace Go.Proofs.YtnbdpjhmepgoaaaDoor
open Go.ChangeShapes Go.WideShapes Go.ChangeAt Go.RowKit
set_option linter.unusedVariables false
set_option linter.unusedSimpArgs false
set_option maxHeartbeats 8000000 in
theorem FindStays_ok (f g : List Ins) (t fu : Int) (ht : in64 t) (more : Nat) (hmore : more < 256) : Pure Tryd.prog 3 [encFn f, encFn g, .agg [.int .i64 t, .int .i64 fu], .int .u8 (more : Int)] (.bool true) := by
  intro H
  refine ACalls.go joinerylaw19_FindStays.low (by simp) fun hcl => ?_
  have hgr := law19_great_ok f g t fu
  by_cases hg : fdGreat f g t fu = true
  · rw [hg] at hgr
    unfold encFn at *
    clear hg
    replace hgr := Hold.mk hgr
    repeat' (first | simp only [seval, evx, beq_self_eq_true, dq16, *] | simp (disch := omega) only [if_pos, if_neg] | refine zG ?_ | refine zH ?_ | refine zI rfl ?_ | refine zK ?_ | refine zL ?_ | refine zM ?_ | refine zN ?_ | refine zO ?_ | ((first | refine zP hcl ?_ | refine zQ hcl ?_); simp only [seval, evw, fm, dq16, *]) | ((first | refine zB ?_ ?_ | refine zD ?_ ?_ | refine zF ?_ ?_) <;> (intro hc; try simp only [seval, nf] at hc)) | refine zR ?_ | refine CallX.inst ?_ | (with_reducible refine And.intro ?_ ?_) | exact True.intro | refine zT hgr.of ?_ | refine zU hgr.of ?_ | refine zT hfind.of ?_ | refine zU hfind.of ?_ | refine zT hfind2.of ?_ | refine zU hfind2.of ?_ | refine zT hsame.of ?_ | refine zU hsame.of ?_ | refine zT htell.of ?_ | refine zU htell.of ?_)
  obtain ⟨q1, q2, q3, q4⟩ := fdGreat_not hg
  have hg2 : fdGreat f g t fu = false := by simpa using hg
  rw [hg2] at hgr
  clear hg hg2
  have hfind := find_Find_ok f g t fu (by omega) (by omega)
  by_cases hfair : (fnOk f && fnOk g) = true
  case neg =>
    rw [findA_no (by simpa using hfair), fz_eq] at hfind
    clear hfair q1 q2 q3 q4
    unfold encFn at *
    replace hgr := Hold.mk hgr
    replace hfind := Hold.mk hfind
    repeat' (first | simp only [seval, evx, beq_self_eq_true, dq16, *] | simp (disch := omega) only [if_pos, if_neg] | refine zG ?_ | refine zH ?_ | refine zI rfl ?_ | refine zK ?_ | refine zL ?_ | refine zM ?_ | refine zN ?_ | refine zO ?_ | ((first | refine zP hcl ?_ | refine zQ hcl ?_); simp only [seval, evw, fm, dq16, *]) | ((first | refine zB ?_ ?_ | refine zD ?_ ?_ | refine zF ?_ ?_) <;> (intro hc; try simp only [seval, nf] at hc)) | refine zR ?_ | refine CallX.inst ?_ | (with_reducible refine And.intro ?_ ?_) | exact True.intro | refine zT hgr.of ?_ | refine zU hgr.of ?_ | refine zT hfind.of ?_ | refine zU hfind.of ?_ | refine zT hfind2.of ?_ | refine zU hfind2.of ?_ | refine zT hsame.of ?_ | refine zU hsame.of ?_ | refine zT htell.of ?_ | refine zU htell.of ?_)
  simp only [Bool.and_eq_true] at hfair
  obtain ⟨r1, r2⟩ := hfair
  cases hF : findF f g t fu with
  | none =>
    rw [findA_none r1 r2 hF, fz_eq] at hfind
    clear hF q1 q2 q3 q4 r1 r2
    unfold encFn at *
    replace hgr := Hold.mk hgr
    replace hfind := Hold.mk hfind
    repeat' (first | simp only [seval, evx, beq_self_eq_true, dq16, *] | simp (disch := omega) only [if_pos, if_neg] | refine zG ?_ | refine zH ?_ | refine zI rfl ?_ | refine zK ?_ | refine zL ?_ | refine zM ?_ | refine zN ?_ | refine zO ?_ | ((first | refine zP hcl ?_ | refine zQ hcl ?_); simp only [seval, evw, fm, dq16, *]) | ((first | refine zB ?_ ?_ | refine zD ?_ ?_ | refine zF ?_ ?_) <;> (intro hc; try simp only [seval, nf] at hc)) | refine zR ?_ | refine CallX.inst ?_ | (with_reducible refine And.intro ?_ ?_) | exact True.intro | refine zT hgr.of ?_ | refine zU hgr.of ?_ | refine zT hfind.of ?_ | refine zU hfind.of ?_ | refine zT hfind2.of ?_ | refine zU hfind2.of ?_ | refine zT hsame.of ?_ | refine zU hsame.of ?_ | refine zT htell.of ?_ | refine zU htell.of ?_)
  | some k =>
  rw [findA_some r1 r2 hF] at hfind
  obtain ⟨s1, s2, s3⟩ := findF_some hF
  obtain ⟨a1, a2, a3, a4, a5⟩ := at_fits f g (k : Int) fu
  have hsame := ref17_Same_ok (atOf f g (k : Int) fu) (atOf f g (k : Int) fu) a1 a1 (by omega) (by omega)
  rw [decide_eq_true rfl] at hsame
  have htell := differ_Tell_ok f g (atOf f g (k : Int) fu) a1 (by omega) (by omega)
  rw [tellA_at r1 r2 (at_right f g (k : Int) fu)] at htell
  have hil : (ic (atOf f g (k : Int) fu).R).length = 8 := by rw [ic_len, a1]
  by_cases ht0 : 0 ≤ t
  · have y0 : IntKind.i64.wrap (more : Int) = (more : Int) := by rw [IntKind.wrap_i64]; omega
    have y1 : IntKind.i64.wrap (t + (more : Int)) = t + (more : Int) := by rw [IntKind.wrap_i64]; omega
    have hfind2 := find_Find_ok f g (t + (more : Int)) fu (by omega) (by omega)
    rw [findA_some r1 r2 (findF_more (by omega) hF)] at hfind2
    rw [fdC_eq] at *
    rw [csA_eq] at *
    generalize tellF f g (atOf f g (k : Int) fu) = kind at *
    generalize atOf f g (k : Int) fu = c at *
    unfold encFn at *
    clear hF q1 q2 q3 q4 r1 r2 s1 s2 s3 a1 a2 a3 a4 a5
    replace hgr := Hold.mk hgr
    replace hfind := Hold.mk hfind
    replace hfind2 := Hold.mk hfind2
    replace hsame := Hold.mk hsame
    replace htell := Hold.mk htell
    replace hmore := Hold.mk hmore
    repeat' (first | simp only [seval, evx, beq_self_eq_true, dq16, *] | simp (disch := omega) only [if_pos, if_neg] | refine zG ?_ | refine zH ?_ | refine zI rfl ?_ | refine zK ?_ | refine zL ?_ | refine zM ?_ | refine zN ?_ | refine zO ?_ | ((first | refine zP hcl ?_ | refine zQ hcl ?_); simp only [seval, evw, fm, dq16, *]) | ((first | refine zB ?_ ?_ | refine zD ?_ ?_ | refine zF ?_ ?_) <;> (intro hc; try simp only [seval, nf] at hc)) | refine zR ?_ | refine CallX.inst ?_ | (with_reducible refine And.intro ?_ ?_) | exact True.intro | refine zT hgr.of ?_ | refine zU hgr.of ?_ | refine zT hfind.of ?_ | refine zU hfind.of ?_ | refine zT hfind2.of ?_ | refine zU hfind2.of ?_ | refine zT hsame.of ?_ | refine zU hsame.of ?_ | refine zT htell.of ?_ | refine zU htell.of ?_)
  · rw [fdC_eq] at *
    rw [csA_eq] at *
    generalize tellF f g (atOf f g (k : Int) fu) = kind at *
    generalize atOf f g (k : Int) fu = c at *
    unfold encFn at *
    clear hF q1 q2 q3 q4 r1 r2 s1 s2 s3 a1 a2 a3 a4 a5
    replace hgr := Hold.mk hgr
    replace hfind := Hold.mk hfind
    replace hsame := Hold.mk hsame
    replace htell := Hold.mk htell
    replace hmore := Hold.mk hmore
    repeat' (first | simp only [seval, evx, beq_self_eq_true, dq16, *] | simp (disch := omega) only [if_pos, if_neg] | refine zG ?_ | refine zH ?_ | refine zI rfl ?_ | refine zK ?_ | refine zL ?_ | refine zM ?_ | refine zN ?_ | refine zO ?_ | ((first | refine zP hcl ?_ | refine zQ hcl ?_); simp only [seval, evw, fm, dq16, *]) | ((first | refine zB ?_ ?_ | refine zD ?_ ?_ | refine zF ?_ ?_) <;> (intro hc; try simp only [seval, nf] at hc)) | refine zR ?_ | refine CallX.inst ?_ | (with_reducible refine And.intro ?_ ?_) | exact True.intro | refine zT hgr.of ?_ | refine zU hgr.of ?_ | refine zT hfind.of ?_ | refine zU hfind.of ?_ | refine zT hfind2.of ?_ | refine zU hfind2.of ?_ | refine zT hsame.of ?_ | refine zU hsame.of ?_ | refine zT htell.of ?_ | refine zU htell.of ?_)
theorem findStays_law : ∀ av, FitAs [.one (.list insSh), .one (.list insSh), .agg [.int .i64, .int .i64], .one (.int .u8)] av → ACalls Tryd.prog 3 av [] fun r _ => r = .bool true := by
  rintro _ ⟨a, _, rfl, h1, b, _, rfl, h2, d, _, rfl, h3, m, _, rfl, hm, rfl⟩
  obtain ⟨f, rfl, hf, _⟩ := h1.inss
  obtain ⟨g, rfl, hg, _⟩ := h2.inss
  obtain ⟨r, rfl, h3⟩ := h3
  obtain ⟨a, r1, rfl, h4, h5⟩ := h3.cons_inv
  obtain ⟨b, r2, rfl, h6, h7⟩ := h5.cons_inv
  have := h7.nil_inv
  subst this
  obtain ⟨t, rfl, ht⟩ := h4.i64
  obtain ⟨fu, rfl, hfu⟩ := h6.i64
  obtain ⟨m, rfl, hm2⟩ := hm.u8
  exact (FindStays_ok f g t fu ht m hm2).law
set_option maxRecDepth 100000 in
theorem findStays_lifted (os : Os) (started : os.Started) (H : Type) (enc : TypeId × Value → H) :
    ReturnsInHanded {} Tryd.checked os 3 .any (fun w args => (Rows.findStaysSpec.pre enc Tryd.prog Tryd.f3 [] false w args ∧ laidMetH Tryd.prog laidL w) ∧ sizedMet enc Tryd.prog Tryd.f3 (OpenSpec.ofChange Rows.findStaysSpec) false w args)
      (Rows.findStaysSpec.post enc Tryd.prog Tryd.f3 false true false false) := by
  refine returnsInHanded_of_change_and (C := Tryd.checked) (X := fun w _ => laidMetH Tryd.prog laidL w) (fun _ _ _ hh h => h.of_heap hh) own_ok started (by kernel_rfl) Tryd.func3
    (ChangeSpec.witness_shaped (enc := enc) (C := Tryd.checked) (os := os) (X := fun w _ => laidMetH Tryd.prog laidL w) false (World.doorLaid Tryd.prog 400 os) #[.slice none 0 0, .slice none 0 0, (.agg #[.int .i64 0, .int .i64 0]), .int .u8 0] 8 rfl (World.shaped_of_RefB (by kernel_rfl) (by kernel_rfl)) (by kernel_rfl) (by kernel_rfl) (by kernel_rfl) (door_met os _)) ?_
  intro W base args ds gs before hval0 hW _ _ hL _
  exact law_contract (base := base) laid_ok rfl (by kernel_rfl) (by kernel_rfl) (by kernel_rfl)
    (fun ds hl => by
      match ds, hl with
      | [d1, d2, d3, d4], _ => rfl) (glob_of_laid hL) findStays_law hval0 hW
set_option maxRecDepth 100000 in
theorem findStays_row : Rows.FindStaysSaid :=
  OpenClaim.holds_of_wide 3 Tryd.f3 rfl rfl rfl rfl rfl rfl rfl ⟨rfl, rfl, rfl, rfl, rfl⟩ rfl rfl rfl rfl rfl (by kernel_rfl) Tryd.func3 (by kernel_rfl)
    (of_decide_eq_true (by kernel_rfl)) (by unfold Func.isWrapper; first | (rw [if_pos (by decide +kernel)]; kernel_rfl) | (rw [if_neg (by decide +kernel)]; exact ⟨rfl, rfl⟩))
    (fun os started H enc _ => findStays_lifted os started H enc)
set_option maxRecDepth 100000 in
theorem findStays_holds : Rows.FindStaysCardSaid :=
  Claim7.holds_tied_plain_at .later [] [.data] true (true, "98f55bc73c40f59eb587b47ea2a39a2fbba46cd45706e046767b4f2a4607ed66") true
    findStays_row (fun _ h => by cases h) (by kernel_rfl) (fun _ h => by cases h) findStays_row_tie rfl ⟨rfl, rfl⟩ (by kernel_rfl) rfl
    (fun f fn hf hfn => by
      obtain rfl : f = 3 := Option.some.inj ((show Tryd.prog.funcNamed "joinery/joinerylaw19.FindStays" = some 3 by kernel_rfl).symm.trans hf) |>.symm
      obtain rfl : fn = Tryd.f3 := (Option.some.inj (Tryd.func3.symm.trans hfn)).symm
      exact ⟨by kernel_rfl, fun j t ht => by
        have hall : (Tryd.f3.params.toList.all fun u => !Tryd.prog.wantsStandIn u) = true := by kernel_rfl
        have hm : t ∈ Tryd.f3.params.toList := by
          have := Array.mem_of_getElem? ht
          simpa using this
        exact (show Tryd.prog.wantsStandIn t = false by simpa using List.all_eq_true.1 hall t hm)⟩)
    (by kernel_rfl)
end Go.Proofs.YtnbdpjhmepgoaaaDoor
