/-
  FindSelf, of every function and every budget: of one function and itself none is found.
-/
import Derived.Test.YtnbdpjhmepgoaaaDoorZ15
namespace Go.Proofs.YtnbdpjhmepgoaaaDoor
set_option maxRecDepth 100000
def joinerylaw19_FindSelf.k1 : LCode := .text [⟨some 3, .box (.tmp 1), none⟩,⟨some 4, .mv (.cst (.bool false)), none⟩]
def joinerylaw19_FindSelf.k2 : LCode := .text [⟨some 8, .mv (.tmp 0), none⟩,⟨some 9, .len .slice (.tmp 8), none⟩,⟨some 10, .bin .gtr .other (.tmp 9) (.cst (.int .i64 100)), none⟩,⟨some 11, .mv (.tmp 10), none⟩,⟨some 12, .faddr 0 (.tmp 3), some (11, false)⟩,⟨some 13, .load false 1 (.tmp 12), some (11, false)⟩,⟨some 14, .bin .gtr .other (.tmp 13) (.cst (.int .i64 30)), some (11, false)⟩,⟨some 15, .pick (.tmp 11) (.cst (.bool true)) (.tmp 14), none⟩,⟨some 16, .mv (.tmp 15), none⟩,⟨some 17, .faddr 1 (.tmp 3), some (16, false)⟩,⟨some 18, .load false 1 (.tmp 17), some (16, false)⟩,⟨some 19, .bin .gtr .other (.tmp 18) (.cst (.int .i64 300)), some (16, false)⟩,⟨some 20, .pick (.tmp 16) (.cst (.bool true)) (.tmp 19), none⟩,⟨some 21, .mv (.tmp 20), none⟩,⟨some 22, .mv (.tmp 0), some (21, false)⟩,⟨some 23, .call (.cst (.fn (.func 12) [] [])) [.tmp 22], some (21, false)⟩,⟨some 24, .not (.tmp 23), some (21, false)⟩,⟨some 25, .pick (.tmp 21) (.cst (.bool true)) (.tmp 24), none⟩]
def joinerylaw19_FindSelf.k3 : LCode := .text [⟨some 26, .call (.cst (.fn (.func 8) [] [])) [], none⟩,⟨some 4, .mv (.tmp 26), none⟩]
def joinerylaw19_FindSelf.k4 : LCode := .seq joinerylaw19_FindSelf.k2 (.cond (.tmp 25) (.seq joinerylaw19_FindSelf.k3 .ret) .skip)
def joinerylaw19_FindSelf.k5 : LCode := .text [⟨some 28, .mv (.tmp 0), none⟩,⟨some 29, .mv (.tmp 0), none⟩,⟨some 30, .load true 2 (.tmp 3), none⟩,⟨some 31, .call (.cst (.fn (.func 9) [] [])) [.tmp 28, .tmp 29, .tmp 30], none⟩,⟨some 27, .mv (.tmp 31), none⟩,⟨some 32, .extract (.tmp 27) 0, none⟩,⟨some 33, .extract (.tmp 27) 1, none⟩,⟨some 34, .extract (.tmp 27) 2, none⟩,⟨some 5, .alloc [.int .i64 0, .int .i64 0, .int .i64 0, .int .i64 0, .int .i64 0, .int .i64 0, .int .i64 0, .int .i64 0, .int .i64 0, .int .i64 0, .imm (.slice none 0 0), .imm (.slice none 0 0), .int .i64 0], none⟩,⟨none, .store 13 (.tmp 5) (.tmp 32), none⟩,⟨some 6, .mv (.tmp 33), none⟩,⟨some 7, .mv (.tmp 34), none⟩]
def joinerylaw19_FindSelf.k6 : LCode := .text [⟨some 35, .mv (.tmp 6), none⟩,⟨some 36, .not (.tmp 35), none⟩,⟨some 37, .mv (.tmp 36), none⟩,⟨some 38, .mv (.tmp 7), some (37, true)⟩,⟨some 39, .bin .eql .other (.tmp 38) (.cst (.int .i64 0)), some (37, true)⟩,⟨some 40, .pick (.tmp 37) (.tmp 39) (.cst (.bool false)), none⟩,⟨some 41, .mv (.tmp 40), none⟩,⟨some 42, .call (.cst (.fn (.func 8) [] [])) [], some (41, true)⟩,⟨some 43, .pick (.tmp 41) (.tmp 42) (.cst (.bool false)), none⟩,⟨some 4, .mv (.tmp 43), none⟩]
def joinerylaw19_FindSelf.k7 : LCode := .seq joinerylaw19_FindSelf.k5 (.seq joinerylaw19_FindSelf.k6 .ret)
def joinerylaw19_FindSelf.lc : LCode :=
 .seq joinerylaw19_FindSelf.k1 (.seq joinerylaw19_FindSelf.k4 joinerylaw19_FindSelf.k7)
theorem joinerylaw19_FindSelf.low : lowFn Tryd.prog 5 = some (44, joinerylaw19_FindSelf.lc, [.tmp 4]) := by kernel_rfl
end Go.Proofs.YtnbdpjhmepgoaaaDoor
namespace Go.Proofs.YtnbdpjhmepgoaaaDoor
open Go.ChangeShapes Go.WideShapes Go.ChangeAt Go.RowKit
set_option linter.unusedVariables false
set_option linter.unusedSimpArgs false
set_option maxHeartbeats 8000000 in
theorem FindSelf_ok (f : List Ins) (t fu : Int) : Pure Tryd.prog 5 [encFn f, .agg [.int .i64 t, .int .i64 fu]] (.bool true) := by
  intro H
  refine ACalls.go joinerylaw19_FindSelf.low (by simp) fun hcl => ?_
  have hr1 := ref04_Right_ok f
  by_cases l1 : (100 : Int) < (f.length : Int)
  · unfold encFn at *
    replace hr1 := Hold.mk hr1
    repeat' (first | simp only [seval, evx, beq_self_eq_true, dq16, *] | simp (disch := omega) only [if_pos, if_neg] | refine zG ?_ | refine zH ?_ | refine zI rfl ?_ | refine zK ?_ | refine zL ?_ | refine zM ?_ | refine zN ?_ | refine zO ?_ | ((first | refine zP hcl ?_ | refine zQ hcl ?_); simp only [seval, evw, fm, dq16, *]) | ((first | refine zB ?_ ?_ | refine zD ?_ ?_ | refine zF ?_ ?_) <;> (intro hc; try simp only [seval, nf] at hc)) | refine zR ?_ | refine CallX.inst ?_ | (with_reducible refine And.intro ?_ ?_) | exact True.intro | refine zT hr1.of ?_ | refine zU hr1.of ?_ | refine zT hfind.of ?_ | refine zU hfind.of ?_)
  by_cases l2 : 30 < t
  · unfold encFn at *
    replace hr1 := Hold.mk hr1
    repeat' (first | simp only [seval, evx, beq_self_eq_true, dq16, *] | simp (disch := omega) only [if_pos, if_neg] | refine zG ?_ | refine zH ?_ | refine zI rfl ?_ | refine zK ?_ | refine zL ?_ | refine zM ?_ | refine zN ?_ | refine zO ?_ | ((first | refine zP hcl ?_ | refine zQ hcl ?_); simp only [seval, evw, fm, dq16, *]) | ((first | refine zB ?_ ?_ | refine zD ?_ ?_ | refine zF ?_ ?_) <;> (intro hc; try simp only [seval, nf] at hc)) | refine zR ?_ | refine CallX.inst ?_ | (with_reducible refine And.intro ?_ ?_) | exact True.intro | refine zT hr1.of ?_ | refine zU hr1.of ?_ | refine zT hfind.of ?_ | refine zU hfind.of ?_)
  by_cases l3 : 300 < fu
  · unfold encFn at *
    replace hr1 := Hold.mk hr1
    repeat' (first | simp only [seval, evx, beq_self_eq_true, dq16, *] | simp (disch := omega) only [if_pos, if_neg] | refine zG ?_ | refine zH ?_ | refine zI rfl ?_ | refine zK ?_ | refine zL ?_ | refine zM ?_ | refine zN ?_ | refine zO ?_ | ((first | refine zP hcl ?_ | refine zQ hcl ?_); simp only [seval, evw, fm, dq16, *]) | ((first | refine zB ?_ ?_ | refine zD ?_ ?_ | refine zF ?_ ?_) <;> (intro hc; try simp only [seval, nf] at hc)) | refine zR ?_ | refine CallX.inst ?_ | (with_reducible refine And.intro ?_ ?_) | exact True.intro | refine zT hr1.of ?_ | refine zU hr1.of ?_ | refine zT hfind.of ?_ | refine zU hfind.of ?_)
  by_cases r1 : fnOk f = true
  case neg =>
    replace r1 : fnOk f = false := by simpa using r1
    rw [r1] at hr1
    clear r1
    unfold encFn at *
    replace hr1 := Hold.mk hr1
    repeat' (first | simp only [seval, evx, beq_self_eq_true, dq16, *] | simp (disch := omega) only [if_pos, if_neg] | refine zG ?_ | refine zH ?_ | refine zI rfl ?_ | refine zK ?_ | refine zL ?_ | refine zM ?_ | refine zN ?_ | refine zO ?_ | ((first | refine zP hcl ?_ | refine zQ hcl ?_); simp only [seval, evw, fm, dq16, *]) | ((first | refine zB ?_ ?_ | refine zD ?_ ?_ | refine zF ?_ ?_) <;> (intro hc; try simp only [seval, nf] at hc)) | refine zR ?_ | refine CallX.inst ?_ | (with_reducible refine And.intro ?_ ?_) | exact True.intro | refine zT hr1.of ?_ | refine zU hr1.of ?_ | refine zT hfind.of ?_ | refine zU hfind.of ?_)
  have hfind := find_Find_ok f f t fu (by omega) (by omega)
  rw [findA_none r1 r1 (findF_self f t fu), fz_eq] at hfind
  rw [r1] at hr1
  clear r1
  unfold encFn at *
  replace hr1 := Hold.mk hr1
  replace hfind := Hold.mk hfind
  repeat' (first | simp only [seval, evx, beq_self_eq_true, dq16, *] | simp (disch := omega) only [if_pos, if_neg] | refine zG ?_ | refine zH ?_ | refine zI rfl ?_ | refine zK ?_ | refine zL ?_ | refine zM ?_ | refine zN ?_ | refine zO ?_ | ((first | refine zP hcl ?_ | refine zQ hcl ?_); simp only [seval, evw, fm, dq16, *]) | ((first | refine zB ?_ ?_ | refine zD ?_ ?_ | refine zF ?_ ?_) <;> (intro hc; try simp only [seval, nf] at hc)) | refine zR ?_ | refine CallX.inst ?_ | (with_reducible refine And.intro ?_ ?_) | exact True.intro | refine zT hr1.of ?_ | refine zU hr1.of ?_ | refine zT hfind.of ?_ | refine zU hfind.of ?_)
theorem findSelf_law : ∀ av, FitAs [.one (.list insSh), .agg [.int .i64, .int .i64]] av → ACalls Tryd.prog 5 av [] fun r _ => r = .bool true := by
  rintro _ ⟨a, _, rfl, h1, d, _, rfl, h3, rfl⟩
  obtain ⟨f, rfl, hf, _⟩ := h1.inss
  obtain ⟨r, rfl, h3⟩ := h3
  obtain ⟨a, r1, rfl, h4, h5⟩ := h3.cons_inv
  obtain ⟨b, r2, rfl, h6, h7⟩ := h5.cons_inv
  have := h7.nil_inv
  subst this
  obtain ⟨t, rfl, ht⟩ := h4.i64
  obtain ⟨fu, rfl, hfu⟩ := h6.i64
  exact (FindSelf_ok f t fu).law
set_option maxRecDepth 100000 in
theorem findSelf_lifted (os : Os) (started : os.Started) (H : Type) (enc : TypeId × Value → H) :
    ReturnsInHanded {} Tryd.checked os 5 .any (fun w args => (Rows.findSelfSpec.pre enc Tryd.prog Tryd.f5 [] false w args ∧ laidMetH Tryd.prog laidL w) ∧ sizedMet enc Tryd.prog Tryd.f5 (OpenSpec.ofChange Rows.findSelfSpec) false w args)
      (Rows.findSelfSpec.post enc Tryd.prog Tryd.f5 false true false false) := by
  refine returnsInHanded_of_change_and (C := Tryd.checked) (X := fun w _ => laidMetH Tryd.prog laidL w) (fun _ _ _ hh h => h.of_heap hh) own_ok started (by kernel_rfl) Tryd.func5
    (ChangeSpec.witness_shaped (enc := enc) (C := Tryd.checked) (os := os) (X := fun w _ => laidMetH Tryd.prog laidL w) false (World.doorLaid Tryd.prog 400 os) #[.slice none 0 0, (.agg #[.int .i64 0, .int .i64 0])] 8 rfl (World.shaped_of_RefB (by kernel_rfl) (by kernel_rfl)) (by kernel_rfl) (by kernel_rfl) (by kernel_rfl) (door_met os _)) ?_
  intro W base args ds gs before hval0 hW _ _ hL _
  exact law_contract (base := base) laid_ok rfl (by kernel_rfl) (by kernel_rfl) (by kernel_rfl)
    (fun ds hl => by
      match ds, hl with
      | [d1, d2], _ => rfl) (glob_of_laid hL) findSelf_law hval0 hW
set_option maxRecDepth 100000 in
theorem findSelf_row : Rows.FindSelfSaid :=
  OpenClaim.holds_of_wide 5 Tryd.f5 rfl rfl rfl rfl rfl rfl rfl ⟨rfl, rfl, rfl, rfl, rfl⟩ rfl rfl rfl rfl rfl (by kernel_rfl) Tryd.func5 (by kernel_rfl)
    (of_decide_eq_true (by kernel_rfl)) (by unfold Func.isWrapper; first | (rw [if_pos (by decide +kernel)]; kernel_rfl) | (rw [if_neg (by decide +kernel)]; exact ⟨rfl, rfl⟩))
    (fun os started H enc _ => findSelf_lifted os started H enc)
set_option maxRecDepth 100000 in
theorem findSelf_holds : Rows.FindSelfCardSaid :=
  Claim7.holds_tied_plain_at .later [] [.data] true (true, "98f55bc73c40f59eb587b47ea2a39a2fbba46cd45706e046767b4f2a4607ed66") true
    findSelf_row (fun _ h => by cases h) (by kernel_rfl) (fun _ h => by cases h) findSelf_row_tie rfl ⟨rfl, rfl⟩ (by kernel_rfl) rfl
    (fun f fn hf hfn => by
      obtain rfl : f = 5 := Option.some.inj ((show Tryd.prog.funcNamed "joinery/joinerylaw19.FindSelf" = some 5 by kernel_rfl).symm.trans hf) |>.symm
      obtain rfl : fn = Tryd.f5 := (Option.some.inj (Tryd.func5.symm.trans hfn)).symm
      exact ⟨by kernel_rfl, fun j t ht => by
        have hall : (Tryd.f5.params.toList.all fun u => !Tryd.prog.wantsStandIn u) = true := by kernel_rfl
        have hm : t ∈ Tryd.f5.params.toList := by
          have := Array.mem_of_getElem? ht
          simpa using this
        exact (show Tryd.prog.wantsStandIn t = false by simpa using List.all_eq_true.1 hall t hm)⟩)
    (by kernel_rfl)
end Go.Proofs.YtnbdpjhmepgoaaaDoor
