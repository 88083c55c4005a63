/-
  FindFirst, of every two functions and every budget: the first case is tried.
-/
import Derived.Test.YtnbdpjhmepgoaaaDoorZ15
namespace Go.Proofs.YtnbdpjhmepgoaaaDoor
set_option maxRecDepth 100000
def joinerylaw19_FindFirst.k1 : LCode := .text [⟨some 5, .box (.tmp 2), none⟩,⟨some 6, .mv (.cst (.bool false)), none⟩]
def joinerylaw19_FindFirst.k2 : LCode := .text [⟨some 13, .mv (.tmp 0), none⟩,⟨some 14, .len .slice (.tmp 13), none⟩,⟨some 15, .bin .gtr .other (.tmp 14) (.cst (.int .i64 100)), none⟩,⟨some 16, .mv (.tmp 15), none⟩,⟨some 17, .mv (.tmp 1), some (16, false)⟩,⟨some 18, .len .slice (.tmp 17), some (16, false)⟩,⟨some 19, .bin .gtr .other (.tmp 18) (.cst (.int .i64 100)), some (16, false)⟩,⟨some 20, .pick (.tmp 16) (.cst (.bool true)) (.tmp 19), none⟩,⟨some 21, .mv (.tmp 20), none⟩,⟨some 22, .mv (.tmp 0), some (21, false)⟩,⟨some 23, .call (.cst (.fn (.func 12) [] [])) [.tmp 22], some (21, false)⟩,⟨some 24, .not (.tmp 23), some (21, false)⟩,⟨some 25, .pick (.tmp 21) (.cst (.bool true)) (.tmp 24), none⟩,⟨some 26, .mv (.tmp 25), none⟩,⟨some 27, .mv (.tmp 1), some (26, false)⟩,⟨some 28, .call (.cst (.fn (.func 12) [] [])) [.tmp 27], some (26, false)⟩,⟨some 29, .not (.tmp 28), some (26, false)⟩,⟨some 30, .pick (.tmp 26) (.cst (.bool true)) (.tmp 29), none⟩]
def joinerylaw19_FindFirst.k3 : LCode := .text [⟨some 31, .call (.cst (.fn (.func 8) [] [])) [], none⟩,⟨some 6, .mv (.tmp 31), none⟩]
def joinerylaw19_FindFirst.k4 : LCode := .seq joinerylaw19_FindFirst.k2 (.cond (.tmp 30) (.seq joinerylaw19_FindFirst.k3 .ret) .skip)
def joinerylaw19_FindFirst.k5 : LCode := .text [⟨some 32, .mv (.tmp 0), none⟩,⟨some 33, .mv (.tmp 1), none⟩,⟨some 34, .call (.cst (.fn (.func 13) [] [])) [.tmp 32, .tmp 33], none⟩,⟨some 7, .alloc [.int .i64 0, .int .i64 0, .int .i64 0, .int .i64 0, .int .i64 0, .int .i64 0, .int .i64 0, .int .i64 0, .imm (.slice none 0 0), .imm (.slice none 0 0), .int .i64 0], none⟩,⟨none, .store 11 (.tmp 7) (.tmp 34), none⟩]
def joinerylaw19_FindFirst.k6 : LCode := .text [⟨some 36, .mv (.tmp 0), none⟩,⟨some 37, .mv (.tmp 1), none⟩,⟨some 38, .load true 11 (.tmp 7), none⟩,⟨some 39, .call (.cst (.fn (.func 10) [] [])) [.tmp 36, .tmp 37, .tmp 38], none⟩,⟨some 35, .mv (.tmp 39), none⟩,⟨some 40, .extract (.tmp 35) 0, none⟩,⟨some 41, .extract (.tmp 35) 1, none⟩,⟨some 8, .mv (.tmp 40), none⟩,⟨some 9, .mv (.tmp 41), none⟩]
def joinerylaw19_FindFirst.k7 : LCode := .text [⟨some 42, .mv (.tmp 9), none⟩,⟨some 43, .bin .neq .other (.tmp 42) (.cst (.int .i64 0)), none⟩]
def joinerylaw19_FindFirst.k8 : LCode := .seq (.text [⟨some 6, .mv (.cst (.bool false)), none⟩]) .ret
def joinerylaw19_FindFirst.k9 : LCode := .seq joinerylaw19_FindFirst.k7 (.cond (.tmp 43) joinerylaw19_FindFirst.k8 .skip)
def joinerylaw19_FindFirst.k10 : LCode := .text [⟨some 44, .mv (.tmp 8), none⟩,⟨some 45, .bin .eql .other (.tmp 44) (.cst (.int .i64 0)), none⟩]
def joinerylaw19_FindFirst.k11 : LCode := .text [⟨some 46, .call (.cst (.fn (.func 8) [] [])) [], none⟩,⟨some 6, .mv (.tmp 46), none⟩]
def joinerylaw19_FindFirst.k12 : LCode := .cond (.tmp 45) (.seq joinerylaw19_FindFirst.k11 .ret) .skip
def joinerylaw19_FindFirst.k13 : LCode := .text [⟨some 48, .mv (.tmp 0), none⟩,⟨some 49, .mv (.tmp 1), none⟩,⟨some 50, .load true 2 (.tmp 5), none⟩,⟨some 51, .call (.cst (.fn (.func 9) [] [])) [.tmp 48, .tmp 49, .tmp 50], none⟩,⟨some 47, .mv (.tmp 51), none⟩,⟨some 52, .extract (.tmp 47) 0, none⟩,⟨some 53, .extract (.tmp 47) 1, none⟩,⟨some 54, .extract (.tmp 47) 2, none⟩,⟨some 10, .alloc [.int .i64 0, .int .i64 0, .int .i64 0, .int .i64 0, .int .i64 0, .int .i64 0, .int .i64 0, .int .i64 0, .int .i64 0, .int .i64 0, .imm (.slice none 0 0), .imm (.slice none 0 0), .int .i64 0], none⟩,⟨none, .store 13 (.tmp 10) (.tmp 52), none⟩,⟨some 11, .mv (.tmp 53), none⟩,⟨some 12, .mv (.tmp 54), none⟩]
def joinerylaw19_FindFirst.k14 : LCode := .text [⟨some 55, .mv (.tmp 11), none⟩,⟨some 56, .mv (.tmp 55), none⟩,⟨some 57, .mv (.tmp 12), some (56, true)⟩,⟨some 58, .bin .eql .other (.tmp 57) (.cst (.int .i64 0)), some (56, true)⟩,⟨some 59, .pick (.tmp 56) (.tmp 58) (.cst (.bool false)), none⟩,⟨some 60, .mv (.tmp 59), none⟩,⟨some 61, .faddr 0 (.tmp 10), some (60, true)⟩,⟨some 62, .load false 1 (.tmp 61), some (60, true)⟩,⟨some 63, .bin .eql .other (.tmp 62) (.cst (.int .i64 0)), some (60, true)⟩,⟨some 64, .pick (.tmp 60) (.tmp 63) (.cst (.bool false)), none⟩,⟨some 65, .mv (.tmp 64), none⟩,⟨some 66, .faddr 1 (.tmp 10), some (65, true)⟩,⟨some 67, .load false 1 (.tmp 66), some (65, true)⟩,⟨some 68, .mv (.tmp 8), some (65, true)⟩,⟨some 69, .bin .eql .other (.tmp 67) (.tmp 68), some (65, true)⟩,⟨some 70, .pick (.tmp 65) (.tmp 69) (.cst (.bool false)), none⟩,⟨some 71, .mv (.tmp 70), none⟩,⟨some 72, .faddr 2 (.tmp 10), some (71, true)⟩,⟨some 73, .load true 11 (.tmp 72), some (71, true)⟩,⟨some 74, .load true 11 (.tmp 7), some (71, true)⟩,⟨some 75, .call (.cst (.fn (.func 11) [] [])) [.tmp 73, .tmp 74], some (71, true)⟩,⟨some 76, .pick (.tmp 71) (.tmp 75) (.cst (.bool false)), none⟩,⟨some 77, .mv (.tmp 76), none⟩,⟨some 78, .call (.cst (.fn (.func 8) [] [])) [], some (77, true)⟩,⟨some 79, .pick (.tmp 77) (.tmp 78) (.cst (.bool false)), none⟩,⟨some 6, .mv (.tmp 79), none⟩]
def joinerylaw19_FindFirst.k15 : LCode := .seq joinerylaw19_FindFirst.k13 (.seq joinerylaw19_FindFirst.k14 .ret)
def joinerylaw19_FindFirst.k16 : LCode := .seq (.seq joinerylaw19_FindFirst.k10 joinerylaw19_FindFirst.k12) joinerylaw19_FindFirst.k15
def joinerylaw19_FindFirst.k17 : LCode := .seq joinerylaw19_FindFirst.k6 (.seq joinerylaw19_FindFirst.k9 joinerylaw19_FindFirst.k16)
def joinerylaw19_FindFirst.k18 : LCode := .seq joinerylaw19_FindFirst.k4 (.seq joinerylaw19_FindFirst.k5 joinerylaw19_FindFirst.k17)
def joinerylaw19_FindFirst.lc : LCode :=
 .seq joinerylaw19_FindFirst.k1 joinerylaw19_FindFirst.k18
theorem joinerylaw19_FindFirst.low : lowFn Tryd.prog 4 = some (80, joinerylaw19_FindFirst.lc, [.tmp 6]) := by kernel_rfl
end Go.Proofs.YtnbdpjhmepgoaaaDoor
namespace Go.Proofs.YtnbdpjhmepgoaaaDoor
open Go.ChangeShapes Go.WideShapes Go.ChangeAt Go.RowKit
set_option linter.unusedVariables false
set_option linter.unusedSimpArgs false
set_option maxHeartbeats 8000000 in
theorem FindFirst_ok (f g : List Ins) (t fu : Int) : Pure Tryd.prog 4 [encFn f, encFn g, .agg [.int .i64 t, .int .i64 fu]] (.bool true) := by
  intro H
  refine ACalls.go joinerylaw19_FindFirst.low (by simp) fun hcl => ?_
  have hr1 := ref04_Right_ok f
  have hr2 := ref04_Right_ok g
  have hfirst := cand_First_ok f g
  by_cases l1 : (100 : Int) < (f.length : Int)
  · clear hfirst
    unfold encFn at *
    replace hr1 := Hold.mk hr1
    replace hr2 := Hold.mk hr2
    repeat' (first | simp only [seval, evx, beq_self_eq_true, dq16, *] | simp (disch := omega) only [if_pos, if_neg] | refine zG ?_ | refine zH ?_ | refine zI rfl ?_ | refine zK ?_ | refine zL ?_ | refine zM ?_ | refine zN ?_ | refine zO ?_ | ((first | refine zP hcl ?_ | refine zQ hcl ?_); simp only [seval, evw, fm, dq16, *]) | ((first | refine zB ?_ ?_ | refine zD ?_ ?_ | refine zF ?_ ?_) <;> (intro hc; try simp only [seval, nf] at hc)) | refine zR ?_ | refine CallX.inst ?_ | (with_reducible refine And.intro ?_ ?_) | exact True.intro | refine zT hr1.of ?_ | refine zU hr1.of ?_ | refine zT hr2.of ?_ | refine zU hr2.of ?_ | refine zT hfirst.of ?_ | refine zU hfirst.of ?_ | refine zT htell.of ?_ | refine zU htell.of ?_ | refine zT hfind.of ?_ | refine zU hfind.of ?_ | refine zT hsame.of ?_ | refine zU hsame.of ?_)
  by_cases l2 : (100 : Int) < (g.length : Int)
  · clear hfirst
    unfold encFn at *
    replace hr1 := Hold.mk hr1
    replace hr2 := Hold.mk hr2
    repeat' (first | simp only [seval, evx, beq_self_eq_true, dq16, *] | simp (disch := omega) only [if_pos, if_neg] | refine zG ?_ | refine zH ?_ | refine zI rfl ?_ | refine zK ?_ | refine zL ?_ | refine zM ?_ | refine zN ?_ | refine zO ?_ | ((first | refine zP hcl ?_ | refine zQ hcl ?_); simp only [seval, evw, fm, dq16, *]) | ((first | refine zB ?_ ?_ | refine zD ?_ ?_ | refine zF ?_ ?_) <;> (intro hc; try simp only [seval, nf] at hc)) | refine zR ?_ | refine CallX.inst ?_ | (with_reducible refine And.intro ?_ ?_) | exact True.intro | refine zT hr1.of ?_ | refine zU hr1.of ?_ | refine zT hr2.of ?_ | refine zU hr2.of ?_ | refine zT hfirst.of ?_ | refine zU hfirst.of ?_ | refine zT htell.of ?_ | refine zU htell.of ?_ | refine zT hfind.of ?_ | refine zU hfind.of ?_ | refine zT hsame.of ?_ | refine zU hsame.of ?_)
  by_cases r1 : fnOk f = true
  case neg =>
    replace r1 : fnOk f = false := by simpa using r1
    rw [r1] at hr1
    clear hfirst r1
    unfold encFn at *
    replace hr1 := Hold.mk hr1
    replace hr2 := Hold.mk hr2
    repeat' (first | simp only [seval, evx, beq_self_eq_true, dq16, *] | simp (disch := omega) only [if_pos, if_neg] | refine zG ?_ | refine zH ?_ | refine zI rfl ?_ | refine zK ?_ | refine zL ?_ | refine zM ?_ | refine zN ?_ | refine zO ?_ | ((first | refine zP hcl ?_ | refine zQ hcl ?_); simp only [seval, evw, fm, dq16, *]) | ((first | refine zB ?_ ?_ | refine zD ?_ ?_ | refine zF ?_ ?_) <;> (intro hc; try simp only [seval, nf] at hc)) | refine zR ?_ | refine CallX.inst ?_ | (with_reducible refine And.intro ?_ ?_) | exact True.intro | refine zT hr1.of ?_ | refine zU hr1.of ?_ | refine zT hr2.of ?_ | refine zU hr2.of ?_ | refine zT hfirst.of ?_ | refine zU hfirst.of ?_ | refine zT htell.of ?_ | refine zU htell.of ?_ | refine zT hfind.of ?_ | refine zU hfind.of ?_ | refine zT hsame.of ?_ | refine zU hsame.of ?_)
  by_cases r2 : fnOk g = true
  case neg =>
    replace r2 : fnOk g = false := by simpa using r2
    rw [r1] at hr1
    rw [r2] at hr2
    clear hfirst r1 r2
    unfold encFn at *
    replace hr1 := Hold.mk hr1
    replace hr2 := Hold.mk hr2
    repeat' (first | simp only [seval, evx, beq_self_eq_true, dq16, *] | simp (disch := omega) only [if_pos, if_neg] | refine zG ?_ | refine zH ?_ | refine zI rfl ?_ | refine zK ?_ | refine zL ?_ | refine zM ?_ | refine zN ?_ | refine zO ?_ | ((first | refine zP hcl ?_ | refine zQ hcl ?_); simp only [seval, evw, fm, dq16, *]) | ((first | refine zB ?_ ?_ | refine zD ?_ ?_ | refine zF ?_ ?_) <;> (intro hc; try simp only [seval, nf] at hc)) | refine zR ?_ | refine CallX.inst ?_ | (with_reducible refine And.intro ?_ ?_) | exact True.intro | refine zT hr1.of ?_ | refine zU hr1.of ?_ | refine zT hr2.of ?_ | refine zU hr2.of ?_ | refine zT hfirst.of ?_ | refine zU hfirst.of ?_ | refine zT htell.of ?_ | refine zU htell.of ?_ | refine zT hfind.of ?_ | refine zU hfind.of ?_ | refine zT hsame.of ?_ | refine zU hsame.of ?_)
  have hfind := find_Find_ok f g t fu (by omega) (by omega)
  obtain ⟨a1, a2, a3, a4, a5⟩ := first_fits f g
  have hfr : csRight (firstOf f g) = true := by
    have := at_right f g 0 fu
    rwa [at_first _ _ _ (Int.le_refl _)] at this
  have htell := differ_Tell_ok f g (firstOf f g) a1 (by omega) (by omega)
  rw [tellA_at r1 r2 hfr] at htell
  have hil : (ic (firstOf f g).R).length = 8 := by rw [ic_len, a1]
  by_cases k0 : tellF f g (firstOf f g) = 0
  · rw [k0] at htell
    rw [csA_eq] at *
    rw [r1] at hr1
    rw [r2] at hr2
    generalize firstOf f g = c at *
    unfold encFn at *
    clear hfind r1 r2 a1 a2 a3 a4 a5 k0 hfr
    replace hr1 := Hold.mk hr1
    replace hr2 := Hold.mk hr2
    replace hfirst := Hold.mk hfirst
    replace htell := Hold.mk htell
    repeat' (first | simp only [seval, evx, beq_self_eq_true, dq16, *] | simp (disch := omega) only [if_pos, if_neg] | refine zG ?_ | refine zH ?_ | refine zI rfl ?_ | refine zK ?_ | refine zL ?_ | refine zM ?_ | refine zN ?_ | refine zO ?_ | ((first | refine zP hcl ?_ | refine zQ hcl ?_); simp only [seval, evw, fm, dq16, *]) | ((first | refine zB ?_ ?_ | refine zD ?_ ?_ | refine zF ?_ ?_) <;> (intro hc; try simp only [seval, nf] at hc)) | refine zR ?_ | refine CallX.inst ?_ | (with_reducible refine And.intro ?_ ?_) | exact True.intro | refine zT hr1.of ?_ | refine zU hr1.of ?_ | refine zT hr2.of ?_ | refine zU hr2.of ?_ | refine zT hfirst.of ?_ | refine zU hfirst.of ?_ | refine zT htell.of ?_ | refine zU htell.of ?_ | refine zT hfind.of ?_ | refine zU hfind.of ?_ | refine zT hsame.of ?_ | refine zU hsame.of ?_)
  · have hsame := ref17_Same_ok (firstOf f g) (firstOf f g) a1 a1 (by omega) (by omega)
    rw [decide_eq_true rfl] at hsame
    rw [findA_some r1 r2 (findF_first k0)] at hfind
    rw [show (((0 : Nat) : Nat) : Int) = 0 from rfl, at_first _ _ _ (Int.le_refl _), fdC_eq] at hfind
    rw [csA_eq] at *
    rw [r1] at hr1
    rw [r2] at hr2
    generalize tellF f g (firstOf f g) = kind at *
    generalize firstOf f g = c at *
    unfold encFn at *
    clear r1 r2 a1 a2 a3 a4 a5 hfr
    replace hr1 := Hold.mk hr1
    replace hr2 := Hold.mk hr2
    replace hfirst := Hold.mk hfirst
    replace htell := Hold.mk htell
    replace hfind := Hold.mk hfind
    replace hsame := Hold.mk hsame
    repeat' (first | simp only [seval, evx, beq_self_eq_true, dq16, *] | simp (disch := omega) only [if_pos, if_neg] | refine zG ?_ | refine zH ?_ | refine zI rfl ?_ | refine zK ?_ | refine zL ?_ | refine zM ?_ | refine zN ?_ | refine zO ?_ | ((first | refine zP hcl ?_ | refine zQ hcl ?_); simp only [seval, evw, fm, dq16, *]) | ((first | refine zB ?_ ?_ | refine zD ?_ ?_ | refine zF ?_ ?_) <;> (intro hc; try simp only [seval, nf] at hc)) | refine zR ?_ | refine CallX.inst ?_ | (with_reducible refine And.intro ?_ ?_) | exact True.intro | refine zT hr1.of ?_ | refine zU hr1.of ?_ | refine zT hr2.of ?_ | refine zU hr2.of ?_ | refine zT hfirst.of ?_ | refine zU hfirst.of ?_ | refine zT htell.of ?_ | refine zU htell.of ?_ | refine zT hfind.of ?_ | refine zU hfind.of ?_ | refine zT hsame.of ?_ | refine zU hsame.of ?_)
theorem findFirst_law : ∀ av, FitAs [.one (.list insSh), .one (.list insSh), .agg [.int .i64, .int .i64]] av → ACalls Tryd.prog 4 av [] fun r _ => r = .bool true := by
  rintro _ ⟨a, _, rfl, h1, b, _, rfl, h2, d, _, rfl, h3, rfl⟩
  obtain ⟨f, rfl, hf, _⟩ := h1.inss
  obtain ⟨g, rfl, hg, _⟩ := h2.inss
  obtain ⟨r, rfl, h3⟩ := h3
  obtain ⟨a, r1, rfl, h4, h5⟩ := h3.cons_inv
  obtain ⟨b, r2, rfl, h6, h7⟩ := h5.cons_inv
  have := h7.nil_inv
  subst this
  obtain ⟨t, rfl, ht⟩ := h4.i64
  obtain ⟨fu, rfl, hfu⟩ := h6.i64
  exact (FindFirst_ok f g t fu).law
set_option maxRecDepth 100000 in
theorem findFirst_lifted (os : Os) (started : os.Started) (H : Type) (enc : TypeId × Value → H) :
    ReturnsInHanded {} Tryd.checked os 4 .any (fun w args => (Rows.findFirstSpec.pre enc Tryd.prog Tryd.f4 [] false w args ∧ laidMetH Tryd.prog laidL w) ∧ sizedMet enc Tryd.prog Tryd.f4 (OpenSpec.ofChange Rows.findFirstSpec) false w args)
      (Rows.findFirstSpec.post enc Tryd.prog Tryd.f4 false true false false) := by
  refine returnsInHanded_of_change_and (C := Tryd.checked) (X := fun w _ => laidMetH Tryd.prog laidL w) (fun _ _ _ hh h => h.of_heap hh) own_ok started (by kernel_rfl) Tryd.func4
    (ChangeSpec.witness_shaped (enc := enc) (C := Tryd.checked) (os := os) (X := fun w _ => laidMetH Tryd.prog laidL w) false (World.doorLaid Tryd.prog 400 os) #[.slice none 0 0, .slice none 0 0, (.agg #[.int .i64 0, .int .i64 0])] 8 rfl (World.shaped_of_RefB (by kernel_rfl) (by kernel_rfl)) (by kernel_rfl) (by kernel_rfl) (by kernel_rfl) (door_met os _)) ?_
  intro W base args ds gs before hval0 hW _ _ hL _
  exact law_contract (base := base) laid_ok rfl (by kernel_rfl) (by kernel_rfl) (by kernel_rfl)
    (fun ds hl => by
      match ds, hl with
      | [d1, d2, d3], _ => rfl) (glob_of_laid hL) findFirst_law hval0 hW
set_option maxRecDepth 100000 in
theorem findFirst_row : Rows.FindFirstSaid :=
  OpenClaim.holds_of_wide 4 Tryd.f4 rfl rfl rfl rfl rfl rfl rfl ⟨rfl, rfl, rfl, rfl, rfl⟩ rfl rfl rfl rfl rfl (by kernel_rfl) Tryd.func4 (by kernel_rfl)
    (of_decide_eq_true (by kernel_rfl)) (by unfold Func.isWrapper; first | (rw [if_pos (by decide +kernel)]; kernel_rfl) | (rw [if_neg (by decide +kernel)]; exact ⟨rfl, rfl⟩))
    (fun os started H enc _ => findFirst_lifted os started H enc)
set_option maxRecDepth 100000 in
theorem findFirst_holds : Rows.FindFirstCardSaid :=
  Claim7.holds_tied_plain_at .later [] [.data] true (true, "98f55bc73c40f59eb587b47ea2a39a2fbba46cd45706e046767b4f2a4607ed66") true
    findFirst_row (fun _ h => by cases h) (by kernel_rfl) (fun _ h => by cases h) findFirst_row_tie rfl ⟨rfl, rfl⟩ (by kernel_rfl) rfl
    (fun f fn hf hfn => by
      obtain rfl : f = 4 := Option.some.inj ((show Tryd.prog.funcNamed "joinery/joinerylaw19.FindFirst" = some 4 by kernel_rfl).symm.trans hf) |>.symm
      obtain rfl : fn = Tryd.f4 := (Option.some.inj (Tryd.func4.symm.trans hfn)).symm
      exact ⟨by kernel_rfl, fun j t ht => by
        have hall : (Tryd.f4.params.toList.all fun u => !Tryd.prog.wantsStandIn u) = true := by kernel_rfl
        have hm : t ∈ Tryd.f4.params.toList := by
          have := Array.mem_of_getElem? ht
          simpa using this
        exact (show Tryd.prog.wantsStandIn t = false by simpa using List.all_eq_true.1 hall t hm)⟩)
    (by kernel_rfl)
end Go.Proofs.YtnbdpjhmepgoaaaDoor
