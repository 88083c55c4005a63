/-
  ShrinkSwaps, of every two functions and every case: in both orders the same is left.
-/
import Derived.Test.YtphmakopjfbmnaaDoorZ14
namespace Go.Proofs.YtphmakopjfbmnaaDoor
set_option maxRecDepth 100000
def joinerylaw20_ShrinkSwaps.k1 : LCode := .text [⟨some 5, .box (.tmp 2), none⟩,⟨some 6, .mv (.cst (.bool false)), none⟩]
def joinerylaw20_ShrinkSwaps.k2 : LCode := .text [⟨some 13, .mv (.tmp 0), none⟩,⟨some 14, .mv (.tmp 1), none⟩,⟨some 15, .load true 11 (.tmp 5), none⟩,⟨some 16, .call (.cst (.fn (.func 7) [] [])) [.tmp 13, .tmp 14, .tmp 15], none⟩]
def joinerylaw20_ShrinkSwaps.k3 : LCode := .text [⟨some 17, .call (.cst (.fn (.func 8) [] [])) [], none⟩,⟨some 6, .mv (.tmp 17), none⟩]
def joinerylaw20_ShrinkSwaps.k4 : LCode := .cond (.tmp 16) (.seq joinerylaw20_ShrinkSwaps.k3 .ret) .skip
def joinerylaw20_ShrinkSwaps.k5 : LCode := .seq joinerylaw20_ShrinkSwaps.k2 joinerylaw20_ShrinkSwaps.k4
def joinerylaw20_ShrinkSwaps.k6 : LCode := .text [⟨some 19, .mv (.tmp 0), none⟩,⟨some 20, .mv (.tmp 1), none⟩,⟨some 21, .load true 11 (.tmp 5), none⟩,⟨some 22, .call (.cst (.fn (.func 9) [] [])) [.tmp 19, .tmp 20, .tmp 21], none⟩,⟨some 18, .mv (.tmp 22), none⟩,⟨some 23, .extract (.tmp 18) 0, none⟩,⟨some 24, .extract (.tmp 18) 1, none⟩,⟨some 25, .extract (.tmp 18) 2, none⟩,⟨some 7, .alloc [.int .i64 0, .int .i64 0, .int .i64 0, .int .i64 0, .int .i64 0, .int .i64 0, .int .i64 0, .int .i64 0, .imm (.slice none 0 0), .imm (.slice none 0 0), .int .i64 0], none⟩,⟨none, .store 11 (.tmp 7) (.tmp 23), none⟩,⟨some 8, .mv (.tmp 24), none⟩,⟨some 9, .mv (.tmp 25), none⟩]
def joinerylaw20_ShrinkSwaps.k7 : LCode := .text [⟨some 27, .mv (.tmp 1), none⟩,⟨some 28, .mv (.tmp 0), none⟩,⟨some 29, .load true 11 (.tmp 5), none⟩,⟨some 30, .call (.cst (.fn (.func 9) [] [])) [.tmp 27, .tmp 28, .tmp 29], none⟩,⟨some 26, .mv (.tmp 30), none⟩,⟨some 31, .extract (.tmp 26) 0, none⟩,⟨some 32, .extract (.tmp 26) 1, none⟩,⟨some 33, .extract (.tmp 26) 2, none⟩,⟨some 10, .alloc [.int .i64 0, .int .i64 0, .int .i64 0, .int .i64 0, .int .i64 0, .int .i64 0, .int .i64 0, .int .i64 0, .imm (.slice none 0 0), .imm (.slice none 0 0), .int .i64 0], none⟩,⟨none, .store 11 (.tmp 10) (.tmp 31), none⟩,⟨some 11, .mv (.tmp 32), none⟩,⟨some 12, .mv (.tmp 33), none⟩]
def joinerylaw20_ShrinkSwaps.k8 : LCode := .text [⟨some 34, .load true 11 (.tmp 7), none⟩,⟨some 35, .load true 11 (.tmp 10), none⟩,⟨some 36, .call (.cst (.fn (.func 12) [] [])) [.tmp 34, .tmp 35], none⟩,⟨some 37, .mv (.tmp 36), none⟩,⟨some 38, .mv (.tmp 8), some (37, true)⟩,⟨some 39, .mv (.tmp 11), some (37, true)⟩,⟨some 40, .bin .eql .other (.tmp 38) (.tmp 39), some (37, true)⟩,⟨some 41, .pick (.tmp 37) (.tmp 40) (.cst (.bool false)), none⟩,⟨some 42, .mv (.tmp 41), none⟩,⟨some 43, .mv (.tmp 9), some (42, true)⟩,⟨some 44, .mv (.tmp 12), some (42, true)⟩,⟨some 45, .bin .eql .other (.tmp 43) (.tmp 44), some (42, true)⟩,⟨some 46, .pick (.tmp 42) (.tmp 45) (.cst (.bool false)), none⟩,⟨some 47, .mv (.tmp 46), none⟩,⟨some 48, .call (.cst (.fn (.func 8) [] [])) [], some (47, true)⟩,⟨some 49, .pick (.tmp 47) (.tmp 48) (.cst (.bool false)), none⟩,⟨some 6, .mv (.tmp 49), none⟩]
def joinerylaw20_ShrinkSwaps.k9 : LCode := .seq joinerylaw20_ShrinkSwaps.k7 (.seq joinerylaw20_ShrinkSwaps.k8 .ret)
def joinerylaw20_ShrinkSwaps.k10 : LCode := .seq joinerylaw20_ShrinkSwaps.k6 joinerylaw20_ShrinkSwaps.k9
def joinerylaw20_ShrinkSwaps.k11 : LCode := .seq joinerylaw20_ShrinkSwaps.k5 joinerylaw20_ShrinkSwaps.k10
def joinerylaw20_ShrinkSwaps.lc : LCode :=
 .seq joinerylaw20_ShrinkSwaps.k1 joinerylaw20_ShrinkSwaps.k11
theorem joinerylaw20_ShrinkSwaps.low : lowFn Tryd.prog 5 = some (50, joinerylaw20_ShrinkSwaps.lc, [.tmp 6]) := by kernel_rfl
end Go.Proofs.YtphmakopjfbmnaaDoor
namespace Go.Proofs.YtphmakopjfbmnaaDoor
open Go.ChangeShapes Go.WideShapes Go.ChangeAt Go.RowKit
set_option linter.unusedVariables false
set_option linter.unusedSimpArgs false
set_option maxHeartbeats 8000000 in
theorem ShrinkSwaps_ok (f g : List Ins) (c : Cs) (hR : c.R.length = 8) : Pure Tryd.prog 5 [encFn f, encFn g, csA c] (.bool true) := by
  intro H
  refine ACalls.go joinerylaw20_ShrinkSwaps.low (by simp) fun hcl => ?_
  have hil : (ic c.R).length = 8 := by rw [ic_len, hR]
  have hgr := law20_great_ok f g c hR
  by_cases hg : csGreat20 f g c = true
  · rw [hg] at hgr
    rw [csA_eq] at *
    unfold encFn at *
    clear hg
    replace hgr := Hold.mk hgr
    replace hR := Hold.mk hR
    repeat' (first | simp only [seval, evx, beq_self_eq_true, sb, ew, ec, List.map_nil, List.length_nil, beq_self_eq_true, *] | simp (disch := omega) only [if_pos, if_neg] | refine R.seq ?_ | refine LCB.text ?_ | refine LCB.quiet rfl ?_ | refine R.anyX ?_ | refine R.block ?_ | refine LCB.skip ?_ | refine LCB.exit ?_ | refine LCB.ret ?_ | ((first | refine RetOk.val hcl ?_ | refine Weak.at hcl ?_); simp only [seval, evw, fm, sb, ew, ec, List.map_nil, List.length_nil, beq_self_eq_true, *]) | ((first | refine LCB.cond (by simp only [seval, evx] <;> rfl) ?_ ?_ | refine wpG_split (by simp only [seval, evx] <;> rfl) ?_ ?_ | refine wxG_split (by simp only [seval, evx] <;> rfl) ?_ ?_) <;> (intro hc; try simp only [seval, nf] at hc)) | refine ACalls.inst ?_ | refine CallX.inst ?_ | (with_reducible refine And.intro ?_ ?_) | exact True.intro | refine ACalls.pure hgr.of ?_ | refine CallX.pure hgr.of ?_ | refine ACalls.pure hcase.of ?_ | refine CallX.pure hcase.of ?_ | refine ACalls.pure hcase2.of ?_ | refine CallX.pure hcase2.of ?_ | refine ACalls.pure hs.of ?_ | refine CallX.pure hs.of ?_)
  obtain ⟨q1, q2, q3, q4, q5⟩ := great20_not hg
  have hg2 : csGreat20 f g c = false := by simpa using hg
  rw [hg2] at hgr
  clear hg hg2
  have hcase := shrink_Case_ok f g c hR (by omega) (by omega)
  have hcase2 := shrink_Case_ok g f c hR (by omega) (by omega)
  rw [caseA_comm g f c] at hcase2
  obtain ⟨x, k, e, he, hxR, hxh, hxa⟩ : ∃ (x : Cs) (k e : Int), caseA f g c = .tup [csA x, .int .i64 k, .int .i64 e] ∧ x.R.length = 8 ∧ x.heap.length ≤ 16 ∧ x.ans.length ≤ 5000 := by
    by_cases hfair : (fnOk f && (fnOk g && csRight c)) = true
    · simp only [Bool.and_eq_true] at hfair
      obtain ⟨r1, r2, r3⟩ := hfair
      obtain ⟨x, x0, x1, x2, _⟩ := caseA_fair r1 r2 r3
      obtain ⟨u1, u2, u3, u4⟩ := csRight_iff.1 x1
      exact ⟨x, _, _, x0, by rw [x2, hR], u1, u2⟩
    · exact ⟨cs0, 0, 1, caseA_not (by simpa using hfair), rfl, by decide, by decide⟩
  rw [he] at hcase hcase2
  have hs := ref17_Same_ok x x hxR hxR (by omega) (by omega)
  rw [decide_eq_true rfl] at hs
  have hil2 : (ic x.R).length = 8 := by rw [ic_len, hxR]
  clear q1 q2 q3 q4 q5 hxh hxa he
  rw [csA_eq] at *
  rw [csA_eq] at *
  unfold encFn at *
  replace hgr := Hold.mk hgr
  replace hcase := Hold.mk hcase
  replace hcase2 := Hold.mk hcase2
  replace hs := Hold.mk hs
  replace hR := Hold.mk hR
  replace hxR := Hold.mk hxR
  repeat' (first | simp only [seval, evx, beq_self_eq_true, sb, ew, ec, List.map_nil, List.length_nil, beq_self_eq_true, *] | simp (disch := omega) only [if_pos, if_neg] | refine R.seq ?_ | refine LCB.text ?_ | refine LCB.quiet rfl ?_ | refine R.anyX ?_ | refine R.block ?_ | refine LCB.skip ?_ | refine LCB.exit ?_ | refine LCB.ret ?_ | ((first | refine RetOk.val hcl ?_ | refine Weak.at hcl ?_); simp only [seval, evw, fm, sb, ew, ec, List.map_nil, List.length_nil, beq_self_eq_true, *]) | ((first | refine LCB.cond (by simp only [seval, evx] <;> rfl) ?_ ?_ | refine wpG_split (by simp only [seval, evx] <;> rfl) ?_ ?_ | refine wxG_split (by simp only [seval, evx] <;> rfl) ?_ ?_) <;> (intro hc; try simp only [seval, nf] at hc)) | refine ACalls.inst ?_ | refine CallX.inst ?_ | (with_reducible refine And.intro ?_ ?_) | exact True.intro | refine ACalls.pure hgr.of ?_ | refine CallX.pure hgr.of ?_ | refine ACalls.pure hcase.of ?_ | refine CallX.pure hcase.of ?_ | refine ACalls.pure hcase2.of ?_ | refine CallX.pure hcase2.of ?_ | refine ACalls.pure hs.of ?_ | refine CallX.pure hs.of ?_)
theorem shrinkSwaps_law : ∀ av, FitAs [.one (.list insSh), .one (.list insSh), .agg csSh] av → ACalls Tryd.prog 5 av [] fun r _ => r = .bool true := by
  rintro _ ⟨a, _, rfl, h1, b, _, rfl, h2, d, _, rfl, h3, rfl⟩
  obtain ⟨f, rfl, hf, _⟩ := h1.inss
  obtain ⟨g, rfl, hg, _⟩ := h2.inss
  obtain ⟨c, rfl, hc, _⟩ := h3.cs
  exact (ShrinkSwaps_ok f g c hc).law
set_option maxRecDepth 100000 in
theorem shrinkSwaps_lifted (os : Os) (started : os.Started) (H : Type) (enc : TypeId × Value → H) :
    ReturnsInHanded {} Tryd.checked os 5 .any (fun w args => (Rows.shrinkSwapsSpec.pre enc Tryd.prog Tryd.f5 [] false w args ∧ laidMetH Tryd.prog laidL w) ∧ sizedMet enc Tryd.prog Tryd.f5 (OpenSpec.ofChange Rows.shrinkSwapsSpec) false w args)
      (Rows.shrinkSwapsSpec.post enc Tryd.prog Tryd.f5 false true false false) := by
  refine returnsInHanded_of_change_and (C := Tryd.checked) (X := fun w _ => laidMetH Tryd.prog laidL w) (fun _ _ _ hh h => h.of_heap hh) own_ok started (by kernel_rfl) Tryd.func5
    (ChangeSpec.witness_shaped (enc := enc) (C := Tryd.checked) (os := os) (X := fun w _ => laidMetH Tryd.prog laidL w) false (World.doorLaid Tryd.prog 400 os) #[.slice none 0 0, .slice none 0 0, (.agg #[.int .i64 0, .int .i64 0, .int .i64 0, .int .i64 0, .int .i64 0, .int .i64 0, .int .i64 0, .int .i64 0, .slice none 0 0, .slice none 0 0, .int .i64 0])] 8 rfl (World.shaped_of_RefB (by kernel_rfl) (by kernel_rfl)) (by kernel_rfl) (by kernel_rfl) (by kernel_rfl) (door_met os _)) ?_
  intro W base args ds gs before hval0 hW _ _ hL _
  exact law_contract (base := base) laid_ok rfl (by kernel_rfl) (by kernel_rfl) (by kernel_rfl)
    (fun ds hl => by
      match ds, hl with
      | [d1, d2, d3], _ => rfl) (glob_of_laid hL) shrinkSwaps_law hval0 hW
set_option maxRecDepth 100000 in
theorem shrinkSwaps_row : Rows.ShrinkSwapsSaid :=
  OpenClaim.holds_of_wide 5 Tryd.f5 rfl rfl rfl rfl rfl rfl rfl ⟨rfl, rfl, rfl, rfl, rfl⟩ rfl rfl rfl rfl rfl (by kernel_rfl) Tryd.func5 (by kernel_rfl)
    (of_decide_eq_true (by kernel_rfl)) (by unfold Func.isWrapper; first | (rw [if_pos (by decide +kernel)]; kernel_rfl) | (rw [if_neg (by decide +kernel)]; exact ⟨rfl, rfl⟩))
    (fun os started H enc _ => shrinkSwaps_lifted os started H enc)
set_option maxRecDepth 100000 in
theorem shrinkSwaps_holds : Rows.ShrinkSwapsCardSaid :=
  Claim7.holds_tied_plain_at .later [] [.data] true (true, "f854dd3417ba2f2a7343e98a86b3f6750c0905036c9cfb94aee39bbddbdf8749") true
    shrinkSwaps_row (fun _ h => by cases h) (by kernel_rfl) (fun _ h => by cases h) shrinkSwaps_row_tie rfl ⟨rfl, rfl⟩ (by kernel_rfl) rfl
    (fun f fn hf hfn => by
      obtain rfl : f = 5 := Option.some.inj ((show Tryd.prog.funcNamed "joinery/joinerylaw20.ShrinkSwaps" = some 5 by kernel_rfl).symm.trans hf) |>.symm
      obtain rfl : fn = Tryd.f5 := (Option.some.inj (Tryd.func5.symm.trans hfn)).symm
      exact ⟨by kernel_rfl, fun j t ht => by
        have hall : (Tryd.f5.params.toList.all fun u => !Tryd.prog.wantsStandIn u) = true := by kernel_rfl
        have hm : t ∈ Tryd.f5.params.toList := by
          have := Array.mem_of_getElem? ht
          simpa using this
        exact (show Tryd.prog.wantsStandIn t = false by simpa using List.all_eq_true.1 hall t hm)⟩)
    (by kernel_rfl)
end Go.Proofs.YtphmakopjfbmnaaDoor
