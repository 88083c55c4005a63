/-
  ShrinkSame, of every function and every case: of one function and itself nothing is left out.
-/
import Derived.Test.YtphmakopjfbmnaaDoorZ14
namespace Go.Proofs.YtphmakopjfbmnaaDoor
set_option maxRecDepth 100000
def joinerylaw20_ShrinkSame.k1 : LCode := .text [⟨some 3, .box (.tmp 1), none⟩,⟨some 4, .mv (.cst (.bool false)), none⟩]
def joinerylaw20_ShrinkSame.k2 : LCode := .text [⟨some 8, .mv (.tmp 0), none⟩,⟨some 9, .mv (.tmp 0), none⟩,⟨some 10, .load true 11 (.tmp 3), none⟩,⟨some 11, .call (.cst (.fn (.func 7) [] [])) [.tmp 8, .tmp 9, .tmp 10], none⟩]
def joinerylaw20_ShrinkSame.k3 : LCode := .text [⟨some 12, .call (.cst (.fn (.func 8) [] [])) [], none⟩,⟨some 4, .mv (.tmp 12), none⟩]
def joinerylaw20_ShrinkSame.k4 : LCode := .cond (.tmp 11) (.seq joinerylaw20_ShrinkSame.k3 .ret) .skip
def joinerylaw20_ShrinkSame.k5 : LCode := .text [⟨some 14, .mv (.tmp 0), none⟩,⟨some 15, .mv (.tmp 0), none⟩,⟨some 16, .load true 11 (.tmp 3), none⟩,⟨some 17, .call (.cst (.fn (.func 9) [] [])) [.tmp 14, .tmp 15, .tmp 16], none⟩,⟨some 13, .mv (.tmp 17), none⟩,⟨some 18, .extract (.tmp 13) 0, none⟩,⟨some 19, .extract (.tmp 13) 1, none⟩,⟨some 20, .extract (.tmp 13) 2, none⟩,⟨some 5, .alloc [.int .i64 0, .int .i64 0, .int .i64 0, .int .i64 0, .int .i64 0, .int .i64 0, .int .i64 0, .int .i64 0, .imm (.slice none 0 0), .imm (.slice none 0 0), .int .i64 0], none⟩,⟨none, .store 11 (.tmp 5) (.tmp 18), none⟩,⟨some 6, .mv (.tmp 19), none⟩,⟨some 7, .mv (.tmp 20), none⟩]
def joinerylaw20_ShrinkSame.k6 : LCode := .text [⟨some 21, .mv (.tmp 7), none⟩,⟨some 22, .bin .neq .other (.tmp 21) (.cst (.int .i64 0)), none⟩]
def joinerylaw20_ShrinkSame.k7 : LCode := .text [⟨some 23, .mv (.tmp 6), none⟩,⟨some 24, .bin .eql .other (.tmp 23) (.cst (.int .i64 0)), none⟩,⟨some 25, .mv (.tmp 24), none⟩,⟨some 26, .load true 11 (.tmp 5), some (25, true)⟩,⟨some 27, .build [.int .i64 0, .int .i64 0, .int .i64 0, .int .i64 0, .int .i64 0, .int .i64 0, .int .i64 0, .int .i64 0, .imm (.slice none 0 0), .imm (.slice none 0 0), .int .i64 0] [], some (25, true)⟩,⟨some 28, .call (.cst (.fn (.func 12) [] [])) [.tmp 26, .tmp 27], some (25, true)⟩,⟨some 29, .pick (.tmp 25) (.tmp 28) (.cst (.bool false)), none⟩,⟨some 30, .mv (.tmp 29), none⟩,⟨some 31, .call (.cst (.fn (.func 8) [] [])) [], some (30, true)⟩,⟨some 32, .pick (.tmp 30) (.tmp 31) (.cst (.bool false)), none⟩,⟨some 4, .mv (.tmp 32), none⟩]
def joinerylaw20_ShrinkSame.k8 : LCode := .cond (.tmp 22) (.seq joinerylaw20_ShrinkSame.k7 .ret) .skip
def joinerylaw20_ShrinkSame.k9 : LCode := .text [⟨some 33, .load true 11 (.tmp 5), none⟩,⟨some 34, .load true 11 (.tmp 3), none⟩,⟨some 35, .call (.cst (.fn (.func 12) [] [])) [.tmp 33, .tmp 34], none⟩,⟨some 36, .mv (.tmp 35), none⟩,⟨some 37, .mv (.tmp 6), some (36, true)⟩,⟨some 38, .bin .eql .other (.tmp 37) (.cst (.int .i64 0)), some (36, true)⟩,⟨some 39, .pick (.tmp 36) (.tmp 38) (.cst (.bool false)), none⟩,⟨some 40, .mv (.tmp 39), none⟩,⟨some 41, .call (.cst (.fn (.func 8) [] [])) [], some (40, true)⟩,⟨some 42, .pick (.tmp 40) (.tmp 41) (.cst (.bool false)), none⟩,⟨some 4, .mv (.tmp 42), none⟩]
def joinerylaw20_ShrinkSame.k10 : LCode := .seq (.seq joinerylaw20_ShrinkSame.k6 joinerylaw20_ShrinkSame.k8) (.seq joinerylaw20_ShrinkSame.k9 .ret)
def joinerylaw20_ShrinkSame.k11 : LCode := .seq (.seq joinerylaw20_ShrinkSame.k2 joinerylaw20_ShrinkSame.k4) (.seq joinerylaw20_ShrinkSame.k5 joinerylaw20_ShrinkSame.k10)
def joinerylaw20_ShrinkSame.lc : LCode :=
 .seq joinerylaw20_ShrinkSame.k1 joinerylaw20_ShrinkSame.k11
theorem joinerylaw20_ShrinkSame.low : lowFn Tryd.prog 6 = some (43, joinerylaw20_ShrinkSame.lc, [.tmp 4]) := by kernel_rfl
end Go.Proofs.YtphmakopjfbmnaaDoor
namespace Go.Proofs.YtphmakopjfbmnaaDoor
open Go.ChangeShapes Go.WideShapes Go.ChangeAt Go.RowKit
set_option linter.unusedVariables false
set_option linter.unusedSimpArgs false
set_option maxHeartbeats 8000000 in
theorem ShrinkSame_ok (f : List Ins) (c : Cs) (hR : c.R.length = 8) : Pure Tryd.prog 6 [encFn f, csA c] (.bool true) := by
  intro H
  refine ACalls.go joinerylaw20_ShrinkSame.low (by simp) fun hcl => ?_
  have hil : (ic c.R).length = 8 := by rw [ic_len, hR]
  have hgr := law20_great_ok f f c hR
  by_cases hg : csGreat20 f f c = true
  · rw [hg] at hgr
    rw [csA_eq] at *
    unfold encFn at *
    clear hg
    replace hgr := Hold.mk hgr
    replace hR := Hold.mk hR
    repeat' (first | simp only [seval, evx, beq_self_eq_true, sb, ew, ec, List.map_nil, List.length_nil, beq_self_eq_true, *] | simp (disch := omega) only [if_pos, if_neg] | refine R.seq ?_ | refine LCB.text ?_ | refine LCB.quiet rfl ?_ | refine R.anyX ?_ | refine R.block ?_ | refine LCB.skip ?_ | refine LCB.exit ?_ | refine LCB.ret ?_ | ((first | refine RetOk.val hcl ?_ | refine Weak.at hcl ?_); simp only [seval, evw, fm, sb, ew, ec, List.map_nil, List.length_nil, beq_self_eq_true, *]) | ((first | refine LCB.cond (by simp only [seval, evx] <;> rfl) ?_ ?_ | refine wpG_split (by simp only [seval, evx] <;> rfl) ?_ ?_ | refine wxG_split (by simp only [seval, evx] <;> rfl) ?_ ?_) <;> (intro hc; try simp only [seval, nf] at hc)) | refine ACalls.inst ?_ | refine CallX.inst ?_ | (with_reducible refine And.intro ?_ ?_) | exact True.intro | refine ACalls.pure hgr.of ?_ | refine CallX.pure hgr.of ?_ | refine ACalls.pure hcase.of ?_ | refine CallX.pure hcase.of ?_ | refine ACalls.pure hs.of ?_ | refine CallX.pure hs.of ?_)
  obtain ⟨q1, q2, q3, q4, q5⟩ := great20_not hg
  have hg2 : csGreat20 f f c = false := by simpa using hg
  rw [hg2] at hgr
  clear hg hg2
  have hcase := shrink_Case_ok f f c hR (by omega) (by omega)
  rw [caseA_self] at hcase
  by_cases hfair : (fnOk f && csRight c) = true
  · rw [if_pos hfair] at hcase
    have hs := ref17_Same_ok c c hR hR (by omega) (by omega)
    rw [decide_eq_true rfl] at hs
    clear hfair q1 q2 q3 q4 q5
    rw [csA_eq] at *
    unfold encFn at *
    replace hgr := Hold.mk hgr
    replace hcase := Hold.mk hcase
    replace hs := Hold.mk hs
    replace hR := Hold.mk hR
    repeat' (first | simp only [seval, evx, beq_self_eq_true, sb, ew, ec, List.map_nil, List.length_nil, beq_self_eq_true, *] | simp (disch := omega) only [if_pos, if_neg] | refine R.seq ?_ | refine LCB.text ?_ | refine LCB.quiet rfl ?_ | refine R.anyX ?_ | refine R.block ?_ | refine LCB.skip ?_ | refine LCB.exit ?_ | refine LCB.ret ?_ | ((first | refine RetOk.val hcl ?_ | refine Weak.at hcl ?_); simp only [seval, evw, fm, sb, ew, ec, List.map_nil, List.length_nil, beq_self_eq_true, *]) | ((first | refine LCB.cond (by simp only [seval, evx] <;> rfl) ?_ ?_ | refine wpG_split (by simp only [seval, evx] <;> rfl) ?_ ?_ | refine wxG_split (by simp only [seval, evx] <;> rfl) ?_ ?_) <;> (intro hc; try simp only [seval, nf] at hc)) | refine ACalls.inst ?_ | refine CallX.inst ?_ | (with_reducible refine And.intro ?_ ?_) | exact True.intro | refine ACalls.pure hgr.of ?_ | refine CallX.pure hgr.of ?_ | refine ACalls.pure hcase.of ?_ | refine CallX.pure hcase.of ?_ | refine ACalls.pure hs.of ?_ | refine CallX.pure hs.of ?_)
  · rw [if_neg hfair] at hcase
    have hs := ref17_Same_ok cs0 cs0 rfl rfl (by decide) (by decide)
    rw [decide_eq_true rfl] at hs
    rw [cs0_eq] at *
    replace hs := Hold.mk (Pure.views (args := [.agg [.int .i64 0, .int .i64 0, .int .i64 0, .int .i64 0, .int .i64 0, .int .i64 0, .int .i64 0, .int .i64 0, .list [], .list [], .int .i64 0], .agg [.int .i64 0, .int .i64 0, .int .i64 0, .int .i64 0, .int .i64 0, .int .i64 0, .int .i64 0, .int .i64 0, .imm (.slice none 0 0), .imm (.slice none 0 0), .int .i64 0]]) (fun H => by simp only [seval, evw, lk, fm, sb, ew, ec, List.map_nil, List.length_nil, beq_self_eq_true, *]) hs)
    clear hfair q1 q2 q3 q4 q5
    rw [csA_eq] at *
    unfold encFn at *
    replace hgr := Hold.mk hgr
    replace hcase := Hold.mk hcase
    replace hR := Hold.mk hR
    repeat' (first | simp only [seval, evx, beq_self_eq_true, sb, ew, ec, List.map_nil, List.length_nil, beq_self_eq_true, *] | simp (disch := omega) only [if_pos, if_neg] | refine R.seq ?_ | refine LCB.text ?_ | refine LCB.quiet rfl ?_ | refine R.anyX ?_ | refine R.block ?_ | refine LCB.skip ?_ | refine LCB.exit ?_ | refine LCB.ret ?_ | ((first | refine RetOk.val hcl ?_ | refine Weak.at hcl ?_); simp only [seval, evw, fm, sb, ew, ec, List.map_nil, List.length_nil, beq_self_eq_true, *]) | ((first | refine LCB.cond (by simp only [seval, evx] <;> rfl) ?_ ?_ | refine wpG_split (by simp only [seval, evx] <;> rfl) ?_ ?_ | refine wxG_split (by simp only [seval, evx] <;> rfl) ?_ ?_) <;> (intro hc; try simp only [seval, nf] at hc)) | refine ACalls.inst ?_ | refine CallX.inst ?_ | (with_reducible refine And.intro ?_ ?_) | exact True.intro | refine ACalls.pure hgr.of ?_ | refine CallX.pure hgr.of ?_ | refine ACalls.pure hcase.of ?_ | refine CallX.pure hcase.of ?_ | refine ACalls.pure hs.of ?_ | refine CallX.pure hs.of ?_)
theorem shrinkSame_law : ∀ av, FitAs [.one (.list insSh), .agg csSh] av → ACalls Tryd.prog 6 av [] fun r _ => r = .bool true := by
  rintro _ ⟨a, _, rfl, h1, d, _, rfl, h3, rfl⟩
  obtain ⟨f, rfl, hf, _⟩ := h1.inss
  obtain ⟨c, rfl, hc, _⟩ := h3.cs
  exact (ShrinkSame_ok f c hc).law
set_option maxRecDepth 100000 in
theorem shrinkSame_lifted (os : Os) (started : os.Started) (H : Type) (enc : TypeId × Value → H) :
    ReturnsInHanded {} Tryd.checked os 6 .any (fun w args => (Rows.shrinkSameSpec.pre enc Tryd.prog Tryd.f6 [] false w args ∧ laidMetH Tryd.prog laidL w) ∧ sizedMet enc Tryd.prog Tryd.f6 (OpenSpec.ofChange Rows.shrinkSameSpec) false w args)
      (Rows.shrinkSameSpec.post enc Tryd.prog Tryd.f6 false true false false) := by
  refine returnsInHanded_of_change_and (C := Tryd.checked) (X := fun w _ => laidMetH Tryd.prog laidL w) (fun _ _ _ hh h => h.of_heap hh) own_ok started (by kernel_rfl) Tryd.func6
    (ChangeSpec.witness_shaped (enc := enc) (C := Tryd.checked) (os := os) (X := fun w _ => laidMetH Tryd.prog laidL w) false (World.doorLaid Tryd.prog 400 os) #[.slice none 0 0, (.agg #[.int .i64 0, .int .i64 0, .int .i64 0, .int .i64 0, .int .i64 0, .int .i64 0, .int .i64 0, .int .i64 0, .slice none 0 0, .slice none 0 0, .int .i64 0])] 8 rfl (World.shaped_of_RefB (by kernel_rfl) (by kernel_rfl)) (by kernel_rfl) (by kernel_rfl) (by kernel_rfl) (door_met os _)) ?_
  intro W base args ds gs before hval0 hW _ _ hL _
  exact law_contract (base := base) laid_ok rfl (by kernel_rfl) (by kernel_rfl) (by kernel_rfl)
    (fun ds hl => by
      match ds, hl with
      | [d1, d2], _ => rfl) (glob_of_laid hL) shrinkSame_law hval0 hW
set_option maxRecDepth 100000 in
theorem shrinkSame_row : Rows.ShrinkSameSaid :=
  OpenClaim.holds_of_wide 6 Tryd.f6 rfl rfl rfl rfl rfl rfl rfl ⟨rfl, rfl, rfl, rfl, rfl⟩ rfl rfl rfl rfl rfl (by kernel_rfl) Tryd.func6 (by kernel_rfl)
    (of_decide_eq_true (by kernel_rfl)) (by unfold Func.isWrapper; first | (rw [if_pos (by decide +kernel)]; kernel_rfl) | (rw [if_neg (by decide +kernel)]; exact ⟨rfl, rfl⟩))
    (fun os started H enc _ => shrinkSame_lifted os started H enc)
set_option maxRecDepth 100000 in
theorem shrinkSame_holds : Rows.ShrinkSameCardSaid :=
  Claim7.holds_tied_plain_at .later [] [.data] true (true, "f854dd3417ba2f2a7343e98a86b3f6750c0905036c9cfb94aee39bbddbdf8749") true
    shrinkSame_row (fun _ h => by cases h) (by kernel_rfl) (fun _ h => by cases h) shrinkSame_row_tie rfl ⟨rfl, rfl⟩ (by kernel_rfl) rfl
    (fun f fn hf hfn => by
      obtain rfl : f = 6 := Option.some.inj ((show Tryd.prog.funcNamed "joinery/joinerylaw20.ShrinkSame" = some 6 by kernel_rfl).symm.trans hf) |>.symm
      obtain rfl : fn = Tryd.f6 := (Option.some.inj (Tryd.func6.symm.trans hfn)).symm
      exact ⟨by kernel_rfl, fun j t ht => by
        have hall : (Tryd.f6.params.toList.all fun u => !Tryd.prog.wantsStandIn u) = true := by kernel_rfl
        have hm : t ∈ Tryd.f6.params.toList := by
          have := Array.mem_of_getElem? ht
          simpa using this
        exact (show Tryd.prog.wantsStandIn t = false by simpa using List.all_eq_true.1 hall t hm)⟩)
    (by kernel_rfl)
end Go.Proofs.YtphmakopjfbmnaaDoor
