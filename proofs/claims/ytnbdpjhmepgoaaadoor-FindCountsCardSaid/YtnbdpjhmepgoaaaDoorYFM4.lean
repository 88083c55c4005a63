/-
  FindCounts, of every two functions and every budget: what is found has a number that was tried, and is the case of that number.
-/
import Derived.Test.YtnbdpjhmepgoaaaDoorZ15
namespace Go.Proofs.YtnbdpjhmepgoaaaDoor
set_option maxRecDepth 100000
def joinerylaw19_FindCounts.k1 : LCode := .text [⟨some 5, .box (.tmp 2), none⟩,⟨some 6, .mv (.cst (.bool false)), none⟩]
def joinerylaw19_FindCounts.k2 : LCode := .text [⟨some 10, .mv (.tmp 0), none⟩,⟨some 11, .mv (.tmp 1), none⟩,⟨some 12, .load true 2 (.tmp 5), none⟩,⟨some 13, .call (.cst (.fn (.func 7) [] [])) [.tmp 10, .tmp 11, .tmp 12], none⟩]
def joinerylaw19_FindCounts.k3 : LCode := .text [⟨some 14, .call (.cst (.fn (.func 8) [] [])) [], none⟩,⟨some 6, .mv (.tmp 14), none⟩]
def joinerylaw19_FindCounts.k4 : LCode := .cond (.tmp 13) (.seq joinerylaw19_FindCounts.k3 .ret) .skip
def joinerylaw19_FindCounts.k5 : LCode := .text [⟨some 16, .mv (.tmp 0), none⟩,⟨some 17, .mv (.tmp 1), none⟩,⟨some 18, .load true 2 (.tmp 5), none⟩,⟨some 19, .call (.cst (.fn (.func 9) [] [])) [.tmp 16, .tmp 17, .tmp 18], none⟩,⟨some 15, .mv (.tmp 19), none⟩,⟨some 20, .extract (.tmp 15) 0, none⟩,⟨some 21, .extract (.tmp 15) 1, none⟩,⟨some 22, .extract (.tmp 15) 2, none⟩,⟨some 7, .alloc [.int .i64 0, .int .i64 0, .int .i64 0, .int .i64 0, .int .i64 0, .int .i64 0, .int .i64 0, .int .i64 0, .int .i64 0, .int .i64 0, .imm (.slice none 0 0), .imm (.slice none 0 0), .int .i64 0], none⟩,⟨none, .store 13 (.tmp 7) (.tmp 20), none⟩,⟨some 8, .mv (.tmp 21), none⟩,⟨some 9, .mv (.tmp 22), none⟩]
def joinerylaw19_FindCounts.k6 : LCode := .text [⟨some 23, .mv (.tmp 9), none⟩,⟨some 24, .bin .neq .other (.tmp 23) (.cst (.int .i64 0)), none⟩,⟨some 25, .mv (.tmp 24), none⟩,⟨some 26, .mv (.tmp 8), some (25, false)⟩,⟨some 27, .not (.tmp 26), some (25, false)⟩,⟨some 28, .pick (.tmp 25) (.cst (.bool true)) (.tmp 27), none⟩]
def joinerylaw19_FindCounts.k7 : LCode := .text [⟨some 29, .faddr 1 (.tmp 7), none⟩,⟨some 30, .load false 1 (.tmp 29), none⟩,⟨some 31, .bin .eql .other (.tmp 30) (.cst (.int .i64 0)), none⟩,⟨some 32, .mv (.tmp 31), none⟩,⟨some 33, .faddr 0 (.tmp 7), some (32, true)⟩,⟨some 34, .load false 1 (.tmp 33), some (32, true)⟩,⟨some 35, .bin .eql .other (.tmp 34) (.cst (.int .i64 0)), some (32, true)⟩,⟨some 36, .pick (.tmp 32) (.tmp 35) (.cst (.bool false)), none⟩,⟨some 37, .mv (.tmp 36), none⟩,⟨some 38, .call (.cst (.fn (.func 8) [] [])) [], some (37, true)⟩,⟨some 39, .pick (.tmp 37) (.tmp 38) (.cst (.bool false)), none⟩,⟨some 6, .mv (.tmp 39), none⟩]
def joinerylaw19_FindCounts.k8 : LCode := .cond (.tmp 28) (.seq joinerylaw19_FindCounts.k7 .ret) .skip
def joinerylaw19_FindCounts.k9 : LCode := .any true [⟨some 40, .faddr 0 (.tmp 7), none⟩,⟨some 41, .load false 1 (.tmp 40), none⟩,⟨some 42, .bin .geq .other (.tmp 41) (.cst (.int .i64 0)), none⟩,⟨some 43, .mv (.tmp 42), none⟩,⟨some 44, .faddr 0 (.tmp 7), some (43, true)⟩,⟨some 45, .load false 1 (.tmp 44), some (43, true)⟩,⟨some 46, .bin .eql .other (.tmp 45) (.cst (.int .i64 0)), some (43, true)⟩,⟨some 47, .mv (.tmp 46), some (43, true)⟩,⟨some 48, .faddr 0 (.tmp 7), some (47, false)⟩,⟨some 49, .load false 1 (.tmp 48), some (47, false)⟩,⟨some 50, .faddr 0 (.tmp 5), some (47, false)⟩,⟨some 51, .load false 1 (.tmp 50), some (47, false)⟩,⟨some 52, .bin .leq .other (.tmp 49) (.tmp 51), some (47, false)⟩,⟨some 53, .pick (.tmp 47) (.cst (.bool true)) (.tmp 52), some (43, true)⟩,⟨some 54, .pick (.tmp 43) (.tmp 53) (.cst (.bool false)), none⟩,⟨some 55, .mv (.tmp 54), none⟩,⟨some 56, .faddr 2 (.tmp 7), some (55, true)⟩,⟨some 57, .load true 11 (.tmp 56), some (55, true)⟩,⟨some 58, .mv (.tmp 0), some (55, true)⟩,⟨some 59, .mv (.tmp 1), some (55, true)⟩,⟨some 60, .faddr 0 (.tmp 7), some (55, true)⟩,⟨some 61, .load false 1 (.tmp 60), some (55, true)⟩,⟨some 62, .faddr 1 (.tmp 5), some (55, true)⟩,⟨some 63, .load false 1 (.tmp 62), some (55, true)⟩,⟨some 64, .call (.cst (.fn (.func 14) [] [])) [.tmp 58, .tmp 59, .tmp 61, .tmp 63], some (55, true)⟩,⟨some 65, .call (.cst (.fn (.func 11) [] [])) [.tmp 57, .tmp 64], some (55, true)⟩,⟨some 66, .pick (.tmp 55) (.tmp 65) (.cst (.bool false)), none⟩,⟨some 67, .mv (.tmp 66), none⟩,⟨some 68, .faddr 1 (.tmp 7), some (67, true)⟩,⟨some 69, .load false 1 (.tmp 68), some (67, true)⟩,⟨some 70, .bin .neq .other (.tmp 69) (.cst (.int .i64 0)), some (67, true)⟩,⟨some 71, .pick (.tmp 67) (.tmp 70) (.cst (.bool false)), none⟩,⟨some 72, .mv (.tmp 71), none⟩,⟨some 73, .call (.cst (.fn (.func 8) [] [])) [], some (72, true)⟩,⟨some 74, .pick (.tmp 72) (.tmp 73) (.cst (.bool false)), none⟩,⟨some 6, .mv (.tmp 74), none⟩] (.both .no (.front 0 (.front 1 (.front 2 (.front 3 (.front 4 (.front 5 (.front 6 (.front 7 (.front 8 (.front 9 (.front 10 (.front 11 (.front 12 (.front 13 (.front 14 (.front 15 (.front 16 (.front 17 (.front 18 (.front 19 (.front 20 (.front 21 (.front 22 (.front 23 (.front 24 (.front 25 (.front 26 (.front 27 (.front 28 (.front 29 (.front 30 (.front 31 (.front 32 (.front 33 (.front 34 (.front 35 .done)))))))))))))))))))))))))))))))))))))
def joinerylaw19_FindCounts.k10 : LCode := .seq (.seq joinerylaw19_FindCounts.k6 joinerylaw19_FindCounts.k8) (.seq joinerylaw19_FindCounts.k9 .ret)
def joinerylaw19_FindCounts.k11 : LCode := .seq (.seq joinerylaw19_FindCounts.k2 joinerylaw19_FindCounts.k4) (.seq joinerylaw19_FindCounts.k5 joinerylaw19_FindCounts.k10)
def joinerylaw19_FindCounts.lc : LCode :=
 .seq joinerylaw19_FindCounts.k1 joinerylaw19_FindCounts.k11
theorem joinerylaw19_FindCounts.low : lowFn Tryd.prog 6 = some (75, joinerylaw19_FindCounts.lc, [.tmp 6]) := by kernel_rfl
end Go.Proofs.YtnbdpjhmepgoaaaDoor
namespace Go.Proofs.YtnbdpjhmepgoaaaDoor
open Go.ChangeShapes Go.WideShapes Go.ChangeAt Go.RowKit
set_option linter.unusedVariables false
set_option linter.unusedSimpArgs false
set_option maxHeartbeats 8000000 in
theorem FindCounts_ok (f g : List Ins) (t fu : Int) : Pure Tryd.prog 6 [encFn f, encFn g, .agg [.int .i64 t, .int .i64 fu]] (.bool true) := by
  intro H
  refine ACalls.go joinerylaw19_FindCounts.low (by simp) fun hcl => ?_
  have hgr := law19_great_ok f g t fu
  by_cases hg : fdGreat f g t fu = true
  · rw [hg] at hgr
    unfold encFn at *
    clear hg
    replace hgr := Hold.mk hgr
    repeat' (first | simp only [seval, evx, beq_self_eq_true, dq16, *] | simp (disch := omega) only [if_pos, if_neg] | refine zG ?_ | refine zH ?_ | refine zI rfl ?_ | refine zK ?_ | refine zL ?_ | refine zM ?_ | refine zN ?_ | refine zO ?_ | ((first | refine zP hcl ?_ | refine zQ hcl ?_); simp only [seval, evw, fm, dq16, *]) | ((first | refine zB ?_ ?_ | refine zD ?_ ?_ | refine zF ?_ ?_) <;> (intro hc; try simp only [seval, nf] at hc)) | refine zR ?_ | refine CallX.inst ?_ | (with_reducible refine And.intro ?_ ?_) | exact True.intro | refine zT hgr.of ?_ | refine zU hgr.of ?_ | refine zT hfind.of ?_ | refine zU hfind.of ?_ | refine zT hsame.of ?_ | refine zU hsame.of ?_ | refine zT hat.of ?_ | refine zU hat.of ?_)
  obtain ⟨q1, q2, q3, q4⟩ := fdGreat_not hg
  have hg2 : fdGreat f g t fu = false := by simpa using hg
  rw [hg2] at hgr
  clear hg hg2
  have hfind := find_Find_ok f g t fu (by omega) (by omega)
  by_cases hfair : (fnOk f && fnOk g) = true
  case neg =>
    rw [findA_no (by simpa using hfair), fz_eq] at hfind
    clear hfair q1 q2 q3 q4
    unfold encFn at *
    replace hgr := Hold.mk hgr
    replace hfind := Hold.mk hfind
    repeat' (first | simp only [seval, evx, beq_self_eq_true, dq16, *] | simp (disch := omega) only [if_pos, if_neg] | refine zG ?_ | refine zH ?_ | refine zI rfl ?_ | refine zK ?_ | refine zL ?_ | refine zM ?_ | refine zN ?_ | refine zO ?_ | ((first | refine zP hcl ?_ | refine zQ hcl ?_); simp only [seval, evw, fm, dq16, *]) | ((first | refine zB ?_ ?_ | refine zD ?_ ?_ | refine zF ?_ ?_) <;> (intro hc; try simp only [seval, nf] at hc)) | refine zR ?_ | refine CallX.inst ?_ | (with_reducible refine And.intro ?_ ?_) | exact True.intro | refine zT hgr.of ?_ | refine zU hgr.of ?_ | refine zT hfind.of ?_ | refine zU hfind.of ?_ | refine zT hsame.of ?_ | refine zU hsame.of ?_ | refine zT hat.of ?_ | refine zU hat.of ?_)
  simp only [Bool.and_eq_true] at hfair
  obtain ⟨r1, r2⟩ := hfair
  cases hF : findF f g t fu with
  | none =>
    rw [findA_none r1 r2 hF, fz_eq] at hfind
    clear hF q1 q2 q3 q4 r1 r2
    unfold encFn at *
    replace hgr := Hold.mk hgr
    replace hfind := Hold.mk hfind
    repeat' (first | simp only [seval, evx, beq_self_eq_true, dq16, *] | simp (disch := omega) only [if_pos, if_neg] | refine zG ?_ | refine zH ?_ | refine zI rfl ?_ | refine zK ?_ | refine zL ?_ | refine zM ?_ | refine zN ?_ | refine zO ?_ | ((first | refine zP hcl ?_ | refine zQ hcl ?_); simp only [seval, evw, fm, dq16, *]) | ((first | refine zB ?_ ?_ | refine zD ?_ ?_ | refine zF ?_ ?_) <;> (intro hc; try simp only [seval, nf] at hc)) | refine zR ?_ | refine CallX.inst ?_ | (with_reducible refine And.intro ?_ ?_) | exact True.intro | refine zT hgr.of ?_ | refine zU hgr.of ?_ | refine zT hfind.of ?_ | refine zU hfind.of ?_ | refine zT hsame.of ?_ | refine zU hsame.of ?_ | refine zT hat.of ?_ | refine zU hat.of ?_)
  | some k =>
  rw [findA_some r1 r2 hF] at hfind
  obtain ⟨s1, s2, s3⟩ := findF_some hF
  obtain ⟨a1, a2, a3, a4, a5⟩ := at_fits f g (k : Int) fu
  have hsame := ref17_Same_ok (atOf f g (k : Int) fu) (atOf f g (k : Int) fu) a1 a1 (by omega) (by omega)
  rw [decide_eq_true rfl] at hsame
  have hat := cand_At_ok f g (k : Int) fu
  have hil : (ic (atOf f g (k : Int) fu).R).length = 8 := by rw [ic_len, a1]
  have z1 : (0 : Int) ≤ (k : Int) := by omega
  rw [fdC_eq] at *
  rw [csA_eq] at *
  generalize tellF f g (atOf f g (k : Int) fu) = kind at *
  generalize atOf f g (k : Int) fu = c at *
  unfold encFn at *
  clear hF q1 q2 q3 q4 r1 r2 s1 a1 a2 a3 a4 a5
  by_cases z2 : (k : Int) = 0
  · clear s2
    rw [z2] at hfind hat
    clear z1 z2
    replace hgr := Hold.mk hgr
    replace hfind := Hold.mk hfind
    replace hsame := Hold.mk hsame
    replace hat := Hold.mk hat
    repeat' (first | simp only [seval, evx, beq_self_eq_true, dq16, *] | simp (disch := omega) only [if_pos, if_neg] | refine zG ?_ | refine zH ?_ | refine zI rfl ?_ | refine zK ?_ | refine zL ?_ | refine zM ?_ | refine zN ?_ | refine zO ?_ | ((first | refine zP hcl ?_ | refine zQ hcl ?_); simp only [seval, evw, fm, dq16, *]) | ((first | refine zB ?_ ?_ | refine zD ?_ ?_ | refine zF ?_ ?_) <;> (intro hc; try simp only [seval, nf] at hc)) | refine zR ?_ | refine CallX.inst ?_ | (with_reducible refine And.intro ?_ ?_) | exact True.intro | refine zT hgr.of ?_ | refine zU hgr.of ?_ | refine zT hfind.of ?_ | refine zU hfind.of ?_ | refine zT hsame.of ?_ | refine zU hsame.of ?_ | refine zT hat.of ?_ | refine zU hat.of ?_)
  · have z3 : (k : Int) ≤ t := s2.resolve_left (by omega)
    clear s2
    replace hgr := Hold.mk hgr
    replace hfind := Hold.mk hfind
    replace hsame := Hold.mk hsame
    replace hat := Hold.mk hat
    repeat' (first | simp only [seval, evx, beq_self_eq_true, dq16, *] | simp (disch := omega) only [if_pos, if_neg] | refine zG ?_ | refine zH ?_ | refine zI rfl ?_ | refine zK ?_ | refine zL ?_ | refine zM ?_ | refine zN ?_ | refine zO ?_ | ((first | refine zP hcl ?_ | refine zQ hcl ?_); simp only [seval, evw, fm, dq16, *]) | ((first | refine zB ?_ ?_ | refine zD ?_ ?_ | refine zF ?_ ?_) <;> (intro hc; try simp only [seval, nf] at hc)) | refine zR ?_ | refine CallX.inst ?_ | (with_reducible refine And.intro ?_ ?_) | exact True.intro | refine zT hgr.of ?_ | refine zU hgr.of ?_ | refine zT hfind.of ?_ | refine zU hfind.of ?_ | refine zT hsame.of ?_ | refine zU hsame.of ?_ | refine zT hat.of ?_ | refine zU hat.of ?_)
theorem findCounts_law : ∀ av, FitAs [.one (.list insSh), .one (.list insSh), .agg [.int .i64, .int .i64]] av → ACalls Tryd.prog 6 av [] fun r _ => r = .bool true := by
  rintro _ ⟨a, _, rfl, h1, b, _, rfl, h2, d, _, rfl, h3, rfl⟩
  obtain ⟨f, rfl, hf, _⟩ := h1.inss
  obtain ⟨g, rfl, hg, _⟩ := h2.inss
  obtain ⟨r, rfl, h3⟩ := h3
  obtain ⟨a, r1, rfl, h4, h5⟩ := h3.cons_inv
  obtain ⟨b, r2, rfl, h6, h7⟩ := h5.cons_inv
  have := h7.nil_inv
  subst this
  obtain ⟨t, rfl, ht⟩ := h4.i64
  obtain ⟨fu, rfl, hfu⟩ := h6.i64
  exact (FindCounts_ok f g t fu).law
set_option maxRecDepth 100000 in
theorem findCounts_lifted (os : Os) (started : os.Started) (H : Type) (enc : TypeId × Value → H) :
    ReturnsInHanded {} Tryd.checked os 6 .any (fun w args => (Rows.findCountsSpec.pre enc Tryd.prog Tryd.f6 [] false w args ∧ laidMetH Tryd.prog laidL w) ∧ sizedMet enc Tryd.prog Tryd.f6 (OpenSpec.ofChange Rows.findCountsSpec) false w args)
      (Rows.findCountsSpec.post enc Tryd.prog Tryd.f6 false true false false) := by
  refine returnsInHanded_of_change_and (C := Tryd.checked) (X := fun w _ => laidMetH Tryd.prog laidL w) (fun _ _ _ hh h => h.of_heap hh) own_ok started (by kernel_rfl) Tryd.func6
    (ChangeSpec.witness_shaped (enc := enc) (C := Tryd.checked) (os := os) (X := fun w _ => laidMetH Tryd.prog laidL w) false (World.doorLaid Tryd.prog 400 os) #[.slice none 0 0, .slice none 0 0, (.agg #[.int .i64 0, .int .i64 0])] 8 rfl (World.shaped_of_RefB (by kernel_rfl) (by kernel_rfl)) (by kernel_rfl) (by kernel_rfl) (by kernel_rfl) (door_met os _)) ?_
  intro W base args ds gs before hval0 hW _ _ hL _
  exact law_contract (base := base) laid_ok rfl (by kernel_rfl) (by kernel_rfl) (by kernel_rfl)
    (fun ds hl => by
      match ds, hl with
      | [d1, d2, d3], _ => rfl) (glob_of_laid hL) findCounts_law hval0 hW
set_option maxRecDepth 100000 in
theorem findCounts_row : Rows.FindCountsSaid :=
  OpenClaim.holds_of_wide 6 Tryd.f6 rfl rfl rfl rfl rfl rfl rfl ⟨rfl, rfl, rfl, rfl, rfl⟩ rfl rfl rfl rfl rfl (by kernel_rfl) Tryd.func6 (by kernel_rfl)
    (of_decide_eq_true (by kernel_rfl)) (by unfold Func.isWrapper; first | (rw [if_pos (by decide +kernel)]; kernel_rfl) | (rw [if_neg (by decide +kernel)]; exact ⟨rfl, rfl⟩))
    (fun os started H enc _ => findCounts_lifted os started H enc)
set_option maxRecDepth 100000 in
theorem findCounts_holds : Rows.FindCountsCardSaid :=
  Claim7.holds_tied_plain_at .later [] [.data] true (true, "98f55bc73c40f59eb587b47ea2a39a2fbba46cd45706e046767b4f2a4607ed66") true
    findCounts_row (fun _ h => by cases h) (by kernel_rfl) (fun _ h => by cases h) findCounts_row_tie rfl ⟨rfl, rfl⟩ (by kernel_rfl) rfl
    (fun f fn hf hfn => by
      obtain rfl : f = 6 := Option.some.inj ((show Tryd.prog.funcNamed "joinery/joinerylaw19.FindCounts" = some 6 by kernel_rfl).symm.trans hf) |>.symm
      obtain rfl : fn = Tryd.f6 := (Option.some.inj (Tryd.func6.symm.trans hfn)).symm
      exact ⟨by kernel_rfl, fun j t ht => by
        have hall : (Tryd.f6.params.toList.all fun u => !Tryd.prog.wantsStandIn u) = true := by kernel_rfl
        have hm : t ∈ Tryd.f6.params.toList := by
          have := Array.mem_of_getElem? ht
          simpa using this
        exact (show Tryd.prog.wantsStandIn t = false by simpa using List.all_eq_true.1 hall t hm)⟩)
    (by kernel_rfl)
end Go.Proofs.YtnbdpjhmepgoaaaDoor
