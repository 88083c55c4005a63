/-
  ShrinkKeeps, of every two functions and every case: what is left tells the same, and is no greater.
-/
import Derived.Test.YtphmakopjfbmnaaDoorZ14
namespace Go.Proofs.YtphmakopjfbmnaaDoor
set_option maxRecDepth 100000
def joinerylaw20_ShrinkKeeps.k1 : LCode := .text [⟨some 5, .box (.tmp 2), none⟩,⟨some 6, .mv (.cst (.bool false)), none⟩]
def joinerylaw20_ShrinkKeeps.k2 : LCode := .text [⟨some 15, .mv (.tmp 0), none⟩,⟨some 16, .mv (.tmp 1), none⟩,⟨some 17, .load true 11 (.tmp 5), none⟩,⟨some 18, .call (.cst (.fn (.func 7) [] [])) [.tmp 15, .tmp 16, .tmp 17], none⟩]
def joinerylaw20_ShrinkKeeps.k3 : LCode := .text [⟨some 19, .call (.cst (.fn (.func 8) [] [])) [], none⟩,⟨some 6, .mv (.tmp 19), none⟩]
def joinerylaw20_ShrinkKeeps.k4 : LCode := .cond (.tmp 18) (.seq joinerylaw20_ShrinkKeeps.k3 .ret) .skip
def joinerylaw20_ShrinkKeeps.k5 : LCode := .seq joinerylaw20_ShrinkKeeps.k2 joinerylaw20_ShrinkKeeps.k4
def joinerylaw20_ShrinkKeeps.k6 : LCode := .text [⟨some 21, .mv (.tmp 0), none⟩,⟨some 22, .mv (.tmp 1), none⟩,⟨some 23, .load true 11 (.tmp 5), none⟩,⟨some 24, .call (.cst (.fn (.func 9) [] [])) [.tmp 21, .tmp 22, .tmp 23], none⟩,⟨some 20, .mv (.tmp 24), none⟩,⟨some 25, .extract (.tmp 20) 0, none⟩,⟨some 26, .extract (.tmp 20) 1, none⟩,⟨some 27, .extract (.tmp 20) 2, none⟩,⟨some 7, .alloc [.int .i64 0, .int .i64 0, .int .i64 0, .int .i64 0, .int .i64 0, .int .i64 0, .int .i64 0, .int .i64 0, .imm (.slice none 0 0), .imm (.slice none 0 0), .int .i64 0], none⟩,⟨none, .store 11 (.tmp 7) (.tmp 25), none⟩,⟨some 8, .mv (.tmp 26), none⟩,⟨some 9, .mv (.tmp 27), none⟩]
def joinerylaw20_ShrinkKeeps.k7 : LCode := .text [⟨some 28, .mv (.tmp 9), none⟩,⟨some 29, .bin .neq .other (.tmp 28) (.cst (.int .i64 0)), none⟩]
def joinerylaw20_ShrinkKeeps.k8 : LCode := .text [⟨some 30, .mv (.tmp 8), none⟩,⟨some 31, .bin .eql .other (.tmp 30) (.cst (.int .i64 0)), none⟩,⟨some 32, .mv (.tmp 31), none⟩,⟨some 33, .call (.cst (.fn (.func 8) [] [])) [], some (32, true)⟩,⟨some 34, .pick (.tmp 32) (.tmp 33) (.cst (.bool false)), none⟩,⟨some 6, .mv (.tmp 34), none⟩]
def joinerylaw20_ShrinkKeeps.k9 : LCode := .cond (.tmp 29) (.seq joinerylaw20_ShrinkKeeps.k8 .ret) .skip
def joinerylaw20_ShrinkKeeps.k10 : LCode := .seq joinerylaw20_ShrinkKeeps.k7 joinerylaw20_ShrinkKeeps.k9
def joinerylaw20_ShrinkKeeps.k11 : LCode := .text [⟨some 36, .mv (.tmp 0), none⟩,⟨some 37, .mv (.tmp 1), none⟩,⟨some 38, .load true 11 (.tmp 7), none⟩,⟨some 39, .call (.cst (.fn (.func 10) [] [])) [.tmp 36, .tmp 37, .tmp 38], none⟩,⟨some 35, .mv (.tmp 39), none⟩,⟨some 40, .extract (.tmp 35) 0, none⟩,⟨some 41, .extract (.tmp 35) 1, none⟩,⟨some 10, .mv (.tmp 40), none⟩,⟨some 11, .mv (.tmp 41), none⟩]
def joinerylaw20_ShrinkKeeps.k12 : LCode := .text [⟨some 43, .mv (.tmp 0), none⟩,⟨some 44, .mv (.tmp 1), none⟩,⟨some 45, .load true 11 (.tmp 5), none⟩,⟨some 46, .call (.cst (.fn (.func 10) [] [])) [.tmp 43, .tmp 44, .tmp 45], none⟩,⟨some 42, .mv (.tmp 46), none⟩,⟨some 47, .extract (.tmp 42) 0, none⟩,⟨some 48, .extract (.tmp 42) 1, none⟩,⟨some 12, .mv (.tmp 47), none⟩,⟨some 13, .mv (.tmp 48), none⟩]
def joinerylaw20_ShrinkKeeps.k13 : LCode := .text [⟨some 49, .mv (.tmp 11), none⟩,⟨some 50, .bin .neq .other (.tmp 49) (.cst (.int .i64 0)), none⟩,⟨some 51, .mv (.tmp 50), none⟩,⟨some 52, .mv (.tmp 10), some (51, false)⟩,⟨some 53, .mv (.tmp 8), some (51, false)⟩,⟨some 54, .bin .neq .other (.tmp 52) (.tmp 53), some (51, false)⟩,⟨some 55, .pick (.tmp 51) (.cst (.bool true)) (.tmp 54), none⟩,⟨some 56, .mv (.tmp 55), none⟩,⟨some 57, .mv (.tmp 8), some (56, false)⟩,⟨some 58, .bin .eql .other (.tmp 57) (.cst (.int .i64 0)), some (56, false)⟩,⟨some 59, .mv (.tmp 12), some (56, false)⟩,⟨some 60, .bin .eql .other (.tmp 59) (.cst (.int .i64 0)), some (56, false)⟩,⟨some 61, .bin .neq .bool (.tmp 58) (.tmp 60), some (56, false)⟩,⟨some 62, .pick (.tmp 56) (.cst (.bool true)) (.tmp 61), none⟩,⟨some 63, .mv (.tmp 62), none⟩,⟨some 64, .faddr 10 (.tmp 7), some (63, false)⟩,⟨some 65, .load false 1 (.tmp 64), some (63, false)⟩,⟨some 66, .faddr 10 (.tmp 5), some (63, false)⟩,⟨some 67, .load false 1 (.tmp 66), some (63, false)⟩,⟨some 68, .bin .gtr .other (.tmp 65) (.tmp 67), some (63, false)⟩,⟨some 69, .pick (.tmp 63) (.cst (.bool true)) (.tmp 68), none⟩,⟨some 70, .mv (.tmp 69), none⟩,⟨some 71, .faddr 9 (.tmp 7), some (70, false)⟩,⟨some 72, .load false 1 (.tmp 71), some (70, false)⟩,⟨some 73, .len .slice (.tmp 72), some (70, false)⟩,⟨some 74, .faddr 9 (.tmp 5), some (70, false)⟩,⟨some 75, .load false 1 (.tmp 74), some (70, false)⟩,⟨some 76, .len .slice (.tmp 75), some (70, false)⟩,⟨some 77, .bin .gtr .other (.tmp 73) (.tmp 76), some (70, false)⟩,⟨some 78, .pick (.tmp 70) (.cst (.bool true)) (.tmp 77), none⟩,⟨some 79, .mv (.tmp 78), none⟩,⟨some 80, .faddr 8 (.tmp 7), some (79, false)⟩,⟨some 81, .load false 1 (.tmp 80), some (79, false)⟩,⟨some 82, .len .slice (.tmp 81), some (79, false)⟩,⟨some 83, .faddr 8 (.tmp 5), some (79, false)⟩,⟨some 84, .load false 1 (.tmp 83), some (79, false)⟩,⟨some 85, .len .slice (.tmp 84), some (79, false)⟩,⟨some 86, .bin .gtr .other (.tmp 82) (.tmp 85), some (79, false)⟩,⟨some 87, .pick (.tmp 79) (.cst (.bool true)) (.tmp 86), none⟩]
def joinerylaw20_ShrinkKeeps.k14 : LCode := .seq (.text [⟨some 6, .mv (.cst (.bool false)), none⟩]) .ret
def joinerylaw20_ShrinkKeeps.k15 : LCode := .seq joinerylaw20_ShrinkKeeps.k13 (.cond (.tmp 87) joinerylaw20_ShrinkKeeps.k14 .skip)
def joinerylaw20_ShrinkKeeps.k16 : LCode := .text [⟨some 88, .mv (.tmp 14), none⟩,⟨some 89, .bin .lss .other (.tmp 88) (.cst (.int .i64 8)), none⟩]
def joinerylaw20_ShrinkKeeps.k17 : LCode := .seq joinerylaw20_ShrinkKeeps.k16 (.cond (.tmp 89) .skip (.exit 0))
def joinerylaw20_ShrinkKeeps.k18 : LCode := .any true [⟨some 92, .mv (.tmp 14), none⟩,⟨some 93, .faddr 0 (.tmp 7), none⟩,⟨some 94, .iaddrA 8 1 (.tmp 93) (.tmp 92), none⟩,⟨some 95, .load false 1 (.tmp 94), none⟩,⟨some 96, .mv (.tmp 14), none⟩,⟨some 97, .faddr 0 (.tmp 5), none⟩,⟨some 98, .iaddrA 8 1 (.tmp 97) (.tmp 96), none⟩,⟨some 99, .load false 1 (.tmp 98), none⟩,⟨some 100, .bin .neq .other (.tmp 95) (.tmp 99), none⟩,⟨some 101, .mv (.tmp 100), none⟩,⟨some 102, .mv (.tmp 14), some (101, true)⟩,⟨some 103, .faddr 0 (.tmp 7), some (101, true)⟩,⟨some 104, .iaddrA 8 1 (.tmp 103) (.tmp 102), some (101, true)⟩,⟨some 105, .load false 1 (.tmp 104), some (101, true)⟩,⟨some 106, .bin .neq .other (.tmp 105) (.cst (.int .i64 0)), some (101, true)⟩,⟨some 107, .pick (.tmp 101) (.tmp 106) (.cst (.bool false)), none⟩] (.both .no .no)
def joinerylaw20_ShrinkKeeps.k19 : LCode := .seq (.text [⟨some 6, .mv (.cst (.bool false)), none⟩]) .ret
def joinerylaw20_ShrinkKeeps.k20 : LCode := .seq joinerylaw20_ShrinkKeeps.k18 (.cond (.tmp 107) joinerylaw20_ShrinkKeeps.k19 .skip)
def joinerylaw20_ShrinkKeeps.k21 : LCode := .text [⟨some 90, .mv (.tmp 14), none⟩,⟨some 91, .bin .add .other (.tmp 90) (.cst (.int .i64 1)), none⟩,⟨some 14, .mv (.tmp 91), none⟩]
def joinerylaw20_ShrinkKeeps.k22 : LCode := .seq (.block 1 joinerylaw20_ShrinkKeeps.k20) joinerylaw20_ShrinkKeeps.k21
def joinerylaw20_ShrinkKeeps.k23 : LCode := .seq joinerylaw20_ShrinkKeeps.k17 joinerylaw20_ShrinkKeeps.k22
def joinerylaw20_ShrinkKeeps.k24 : LCode := .seq (.text [⟨some 14, .mv (.cst (.int .i64 0)), none⟩]) (.block 0 (.loop joinerylaw20_ShrinkKeeps.k23))
def joinerylaw20_ShrinkKeeps.k25 : LCode := .any true [⟨some 108, .faddr 9 (.tmp 7), none⟩,⟨some 109, .load false 1 (.tmp 108), none⟩,⟨some 110, .faddr 9 (.tmp 5), none⟩,⟨some 111, .load false 1 (.tmp 110), none⟩,⟨some 112, .faddr 9 (.tmp 7), none⟩,⟨some 113, .load false 1 (.tmp 112), none⟩,⟨some 114, .len .slice (.tmp 113), none⟩,⟨some 115, .slice 1 (.tmp 111) none (some (.tmp 114)) none, none⟩,⟨some 116, .call (.cst (.fn (.func 11) [] [])) [.tmp 109, .tmp 115], none⟩,⟨some 117, .mv (.tmp 116), none⟩,⟨some 118, .faddr 8 (.tmp 7), some (117, true)⟩,⟨some 119, .load false 1 (.tmp 118), some (117, true)⟩,⟨some 120, .faddr 8 (.tmp 5), some (117, true)⟩,⟨some 121, .load false 1 (.tmp 120), some (117, true)⟩,⟨some 122, .faddr 8 (.tmp 7), some (117, true)⟩,⟨some 123, .load false 1 (.tmp 122), some (117, true)⟩,⟨some 124, .len .slice (.tmp 123), some (117, true)⟩,⟨some 125, .slice 1 (.tmp 121) none (some (.tmp 124)) none, some (117, true)⟩,⟨some 126, .call (.cst (.fn (.func 11) [] [])) [.tmp 119, .tmp 125], some (117, true)⟩,⟨some 127, .pick (.tmp 117) (.tmp 126) (.cst (.bool false)), none⟩,⟨some 128, .mv (.tmp 127), none⟩,⟨some 129, .call (.cst (.fn (.func 8) [] [])) [], some (128, true)⟩,⟨some 130, .pick (.tmp 128) (.tmp 129) (.cst (.bool false)), none⟩,⟨some 6, .mv (.tmp 130), none⟩] (.both (.take 0 (.take 2 (.take 4 (.all [(1, .all [(3, .all [(5, .take 6 (.take 7 (.all [(8, .take 9 (.take 10 (.take 12 (.take 14 (.all [(11, .all [(13, .all [(15, .take 16 (.take 17 (.all [(18, .take 19 (.take 20 (.all [(21, .take 22 (.take 23 .done))])))])))]), (15, .take 16 (.all [(13, .take 17 (.all [(18, .take 19 (.take 20 (.all [(21, .take 22 (.take 23 .done))])))]))]))]), (13, .all [(11, .all [(15, .take 16 (.take 17 (.all [(18, .take 19 (.take 20 (.all [(21, .take 22 (.take 23 .done))])))])))]), (15, .take 16 (.take 17 (.all [(11, .all [(18, .take 19 (.take 20 (.all [(21, .take 22 (.take 23 .done))])))])])))]), (15, .take 16 (.all [(11, .all [(13, .take 17 (.all [(18, .take 19 (.take 20 (.all [(21, .take 22 (.take 23 .done))])))]))]), (13, .take 17 (.all [(11, .all [(18, .take 19 (.take 20 (.all [(21, .take 22 (.take 23 .done))])))])]))]))])))))])))]), (5, .take 6 (.all [(3, .take 7 (.all [(8, .take 9 (.take 10 (.take 12 (.take 14 (.all [(11, .all [(13, .all [(15, .take 16 (.take 17 (.all [(18, .take 19 (.take 20 (.all [(21, .take 22 (.take 23 .done))])))])))]), (15, .take 16 (.all [(13, .take 17 (.all [(18, .take 19 (.take 20 (.all [(21, .take 22 (.take 23 .done))])))]))]))]), (13, .all [(11, .all [(15, .take 16 (.take 17 (.all [(18, .take 19 (.take 20 (.all [(21, .take 22 (.take 23 .done))])))])))]), (15, .take 16 (.take 17 (.all [(11, .all [(18, .take 19 (.take 20 (.all [(21, .take 22 (.take 23 .done))])))])])))]), (15, .take 16 (.all [(11, .all [(13, .take 17 (.all [(18, .take 19 (.take 20 (.all [(21, .take 22 (.take 23 .done))])))]))]), (13, .take 17 (.all [(11, .all [(18, .take 19 (.take 20 (.all [(21, .take 22 (.take 23 .done))])))])]))]))])))))]))]))]), (3, .all [(1, .all [(5, .take 6 (.take 7 (.all [(8, .take 9 (.take 10 (.take 12 (.take 14 (.all [(11, .all [(13, .all [(15, .take 16 (.take 17 (.all [(18, .take 19 (.take 20 (.all [(21, .take 22 (.take 23 .done))])))])))]), (15, .take 16 (.all [(13, .take 17 (.all [(18, .take 19 (.take 20 (.all [(21, .take 22 (.take 23 .done))])))]))]))]), (13, .all [(11, .all [(15, .take 16 (.take 17 (.all [(18, .take 19 (.take 20 (.all [(21, .take 22 (.take 23 .done))])))])))]), (15, .take 16 (.take 17 (.all [(11, .all [(18, .take 19 (.take 20 (.all [(21, .take 22 (.take 23 .done))])))])])))]), (15, .take 16 (.all [(11, .all [(13, .take 17 (.all [(18, .take 19 (.take 20 (.all [(21, .take 22 (.take 23 .done))])))]))]), (13, .take 17 (.all [(11, .all [(18, .take 19 (.take 20 (.all [(21, .take 22 (.take 23 .done))])))])]))]))])))))])))]), (5, .take 6 (.take 7 (.all [(1, .all [(8, .take 9 (.take 10 (.take 12 (.take 14 (.all [(11, .all [(13, .all [(15, .take 16 (.take 17 (.all [(18, .take 19 (.take 20 (.all [(21, .take 22 (.take 23 .done))])))])))]), (15, .take 16 (.all [(13, .take 17 (.all [(18, .take 19 (.take 20 (.all [(21, .take 22 (.take 23 .done))])))]))]))]), (13, .all [(11, .all [(15, .take 16 (.take 17 (.all [(18, .take 19 (.take 20 (.all [(21, .take 22 (.take 23 .done))])))])))]), (15, .take 16 (.take 17 (.all [(11, .all [(18, .take 19 (.take 20 (.all [(21, .take 22 (.take 23 .done))])))])])))]), (15, .take 16 (.all [(11, .all [(13, .take 17 (.all [(18, .take 19 (.take 20 (.all [(21, .take 22 (.take 23 .done))])))]))]), (13, .take 17 (.all [(11, .all [(18, .take 19 (.take 20 (.all [(21, .take 22 (.take 23 .done))])))])]))]))])))))])])))]), (5, .take 6 (.all [(1, .all [(3, .take 7 (.all [(8, .take 9 (.take 10 (.take 12 (.take 14 (.all [(11, .all [(13, .all [(15, .take 16 (.take 17 (.all [(18, .take 19 (.take 20 (.all [(21, .take 22 (.take 23 .done))])))])))]), (15, .take 16 (.all [(13, .take 17 (.all [(18, .take 19 (.take 20 (.all [(21, .take 22 (.take 23 .done))])))]))]))]), (13, .all [(11, .all [(15, .take 16 (.take 17 (.all [(18, .take 19 (.take 20 (.all [(21, .take 22 (.take 23 .done))])))])))]), (15, .take 16 (.take 17 (.all [(11, .all [(18, .take 19 (.take 20 (.all [(21, .take 22 (.take 23 .done))])))])])))]), (15, .take 16 (.all [(11, .all [(13, .take 17 (.all [(18, .take 19 (.take 20 (.all [(21, .take 22 (.take 23 .done))])))]))]), (13, .take 17 (.all [(11, .all [(18, .take 19 (.take 20 (.all [(21, .take 22 (.take 23 .done))])))])]))]))])))))]))]), (3, .take 7 (.all [(1, .all [(8, .take 9 (.take 10 (.take 12 (.take 14 (.all [(11, .all [(13, .all [(15, .take 16 (.take 17 (.all [(18, .take 19 (.take 20 (.all [(21, .take 22 (.take 23 .done))])))])))]), (15, .take 16 (.all [(13, .take 17 (.all [(18, .take 19 (.take 20 (.all [(21, .take 22 (.take 23 .done))])))]))]))]), (13, .all [(11, .all [(15, .take 16 (.take 17 (.all [(18, .take 19 (.take 20 (.all [(21, .take 22 (.take 23 .done))])))])))]), (15, .take 16 (.take 17 (.all [(11, .all [(18, .take 19 (.take 20 (.all [(21, .take 22 (.take 23 .done))])))])])))]), (15, .take 16 (.all [(11, .all [(13, .take 17 (.all [(18, .take 19 (.take 20 (.all [(21, .take 22 (.take 23 .done))])))]))]), (13, .take 17 (.all [(11, .all [(18, .take 19 (.take 20 (.all [(21, .take 22 (.take 23 .done))])))])]))]))])))))])]))]))])))) (.front 0 (.front 1 (.front 2 (.front 3 (.front 4 (.front 5 (.front 6 (.front 7 (.front 8 (.front 9 (.front 10 (.front 11 (.front 12 (.front 13 (.front 14 (.front 15 (.front 16 (.front 17 (.front 18 (.front 19 (.front 20 (.front 21 (.front 22 (.front 23 .done)))))))))))))))))))))))))
def joinerylaw20_ShrinkKeeps.k26 : LCode := .seq joinerylaw20_ShrinkKeeps.k24 (.seq joinerylaw20_ShrinkKeeps.k25 .ret)
def joinerylaw20_ShrinkKeeps.k27 : LCode := .seq joinerylaw20_ShrinkKeeps.k15 joinerylaw20_ShrinkKeeps.k26
def joinerylaw20_ShrinkKeeps.k28 : LCode := .seq joinerylaw20_ShrinkKeeps.k12 joinerylaw20_ShrinkKeeps.k27
def joinerylaw20_ShrinkKeeps.k29 : LCode := .seq joinerylaw20_ShrinkKeeps.k11 joinerylaw20_ShrinkKeeps.k28
def joinerylaw20_ShrinkKeeps.k30 : LCode := .seq joinerylaw20_ShrinkKeeps.k10 joinerylaw20_ShrinkKeeps.k29
def joinerylaw20_ShrinkKeeps.k31 : LCode := .seq joinerylaw20_ShrinkKeeps.k6 joinerylaw20_ShrinkKeeps.k30
def joinerylaw20_ShrinkKeeps.k32 : LCode := .seq joinerylaw20_ShrinkKeeps.k5 joinerylaw20_ShrinkKeeps.k31
def joinerylaw20_ShrinkKeeps.lc : LCode :=
 .seq joinerylaw20_ShrinkKeeps.k1 joinerylaw20_ShrinkKeeps.k32
theorem joinerylaw20_ShrinkKeeps.low : lowFn Tryd.prog 3 = some (131, joinerylaw20_ShrinkKeeps.lc, [.tmp 6]) := by kernel_rfl
end Go.Proofs.YtphmakopjfbmnaaDoor
namespace Go.Proofs.YtphmakopjfbmnaaDoor
open Go.ChangeShapes Go.WideShapes Go.ChangeAt Go.RowKit
set_option linter.unusedVariables false
set_option linter.unusedSimpArgs false
theorem take_len2 (n : Nat) (l : List Int) : l.take n = l.take (l.take n).length := by
  rw [List.length_take]
  by_cases h : n ≤ l.length
  · rw [Nat.min_eq_left h]
  · rw [Nat.min_eq_right (by omega), List.take_length, List.take_of_length_le (by omega)]
set_option maxHeartbeats 8000000 in
theorem ShrinkKeeps_ok (f g : List Ins) (c : Cs) (hR : c.R.length = 8) : Pure Tryd.prog 3 [encFn f, encFn g, csA c] (.bool true) := by
  intro H
  refine ACalls.go joinerylaw20_ShrinkKeeps.low (by simp) fun hcl => ?_
  have hil : (ic c.R).length = 8 := by rw [ic_len, hR]
  have hgr := law20_great_ok f g c hR
  by_cases hg : csGreat20 f g c = true
  · rw [hg] at hgr
    rw [csA_eq] at *
    unfold encFn at *
    clear hg
    replace hgr := Hold.mk hgr
    replace hR := Hold.mk hR
    repeat' (first | simp only [seval, evx, beq_self_eq_true, sb, ew, ec, List.map_nil, List.length_nil, beq_self_eq_true, *] | simp (disch := omega) only [if_pos, if_neg] | refine R.seq ?_ | refine LCB.text ?_ | refine LCB.quiet rfl ?_ | refine R.anyX ?_ | refine R.block ?_ | refine LCB.skip ?_ | refine LCB.exit ?_ | refine LCB.ret ?_ | ((first | refine RetOk.val hcl ?_ | refine Weak.at hcl ?_); simp only [seval, evw, fm, sb, ew, ec, List.map_nil, List.length_nil, beq_self_eq_true, *]) | ((first | refine LCB.cond (by simp only [seval, evx] <;> rfl) ?_ ?_ | refine wpG_split (by simp only [seval, evx] <;> rfl) ?_ ?_ | refine wxG_split (by simp only [seval, evx] <;> rfl) ?_ ?_) <;> (intro hc; try simp only [seval, nf] at hc)) | refine ACalls.inst ?_ | refine CallX.inst ?_ | (with_reducible refine And.intro ?_ ?_) | exact True.intro | refine ACalls.pure hgr.of ?_ | refine CallX.pure hgr.of ?_ | refine ACalls.pure hcase.of ?_ | refine CallX.pure hcase.of ?_ | refine ACalls.pure hl.of ?_ | refine CallX.pure hl.of ?_ | refine ACalls.pure hw.of ?_ | refine CallX.pure hw.of ?_ | refine ACalls.pure hs1.of ?_ | refine CallX.pure hs1.of ?_ | refine ACalls.pure hs2.of ?_ | refine CallX.pure hs2.of ?_)
  obtain ⟨q1, q2, q3, q4, q5⟩ := great20_not hg
  have hg2 : csGreat20 f g c = false := by simpa using hg
  rw [hg2] at hgr
  clear hg hg2
  have hcase := shrink_Case_ok f g c hR (by omega) (by omega)
  by_cases hfair : (fnOk f && (fnOk g && csRight c)) = true
  case neg =>
    rw [caseA_not (by simpa using hfair), cs0_eq] at hcase
    clear hfair q1 q2 q3 q4 q5
    rw [csA_eq] at *
    unfold encFn at *
    replace hgr := Hold.mk hgr
    replace hcase := Hold.mk hcase
    replace hR := Hold.mk hR
    repeat' (first | simp only [seval, evx, beq_self_eq_true, sb, ew, ec, List.map_nil, List.length_nil, beq_self_eq_true, *] | simp (disch := omega) only [if_pos, if_neg] | refine R.seq ?_ | refine LCB.text ?_ | refine LCB.quiet rfl ?_ | refine R.anyX ?_ | refine R.block ?_ | refine LCB.skip ?_ | refine LCB.exit ?_ | refine LCB.ret ?_ | ((first | refine RetOk.val hcl ?_ | refine Weak.at hcl ?_); simp only [seval, evw, fm, sb, ew, ec, List.map_nil, List.length_nil, beq_self_eq_true, *]) | ((first | refine LCB.cond (by simp only [seval, evx] <;> rfl) ?_ ?_ | refine wpG_split (by simp only [seval, evx] <;> rfl) ?_ ?_ | refine wxG_split (by simp only [seval, evx] <;> rfl) ?_ ?_) <;> (intro hc; try simp only [seval, nf] at hc)) | refine ACalls.inst ?_ | refine CallX.inst ?_ | (with_reducible refine And.intro ?_ ?_) | exact True.intro | refine ACalls.pure hgr.of ?_ | refine CallX.pure hgr.of ?_ | refine ACalls.pure hcase.of ?_ | refine CallX.pure hcase.of ?_ | refine ACalls.pure hl.of ?_ | refine CallX.pure hl.of ?_ | refine ACalls.pure hw.of ?_ | refine CallX.pure hw.of ?_ | refine ACalls.pure hs1.of ?_ | refine CallX.pure hs1.of ?_ | refine ACalls.pure hs2.of ?_ | refine CallX.pure hs2.of ?_)
  simp only [Bool.and_eq_true] at hfair
  obtain ⟨r1, r2, r3⟩ := hfair
  obtain ⟨p1, p2, p3, p4⟩ := csRight_iff.1 r3
  obtain ⟨x, x0, x1, x2, x3, x4, ⟨na, x5⟩, ⟨nh, x6⟩, x7, x8, x9⟩ := caseA_fair r1 r2 r3
  rw [x0] at hcase
  have hl := differ_Tell_ok f g x (by rw [x2, hR]) (by omega) (by omega)
  rw [tellA_yes r1 r2 x1] at hl
  obtain ⟨u1, u2, u3, u4⟩ := csRight_iff.1 x1
  clear x0 x1
  have hw := differ_Tell_ok f g c hR (by omega) (by omega)
  rw [tellA_yes r1 r2 r3] at hw
  obtain ⟨Rg, hp, an, fu⟩ := c
  obtain ⟨Rx, hx, ax, fx⟩ := x
  simp only at *
  have hlx : Rx.length = 8 := by rw [x2, hR]
  have hil2 : (ic Rx).length = 8 := by rw [ic_len, hlx]
  have hla : ax.length ≤ an.length := by rw [x5, List.length_take]; omega
  have hlh : hx.length ≤ hp.length := by rw [x6, List.length_take]; omega
  have hs1 := ref06_Same_ok ax (an.take ax.length) (by omega)
  rw [decide_eq_true (show ax = an.take ax.length by rw [x5]; exact take_len2 _ _)] at hs1
  have hs2 := ref06_Same_ok hx (hp.take hx.length) (by omega)
  rw [decide_eq_true (show hx = hp.take hx.length by rw [x6]; exact take_len2 _ _)] at hs2
  unfold ints at hs1 hs2
  rw [List.map_take] at hs1 hs2
  have a1 : an.map encI = [] ∨ ((an.map encI).headD []).length = 1 := by cases an; exact .inl rfl; exact .inr rfl
  have a2 : hp.map encI = [] ∨ ((hp.map encI).headD []).length = 1 := by cases hp; exact .inl rfl; exact .inr rfl
  have n1 : ¬ fx > fu := by omega
  have n1' : ¬ fu < fx := by omega
  have n2 : ¬ (ax.length : Int) > (an.length : Int) := by omega
  have n2' : ¬ (an.length : Int) < (ax.length : Int) := by omega
  have n3 : ¬ (hx.length : Int) > (hp.length : Int) := by omega
  have n3' : ¬ (hp.length : Int) < (hx.length : Int) := by omega
  generalize tellF f g ⟨Rx, hx, ax, fx⟩ = k at *
  generalize tellF f g ⟨Rg, hp, an, fu⟩ = w at *
  clear q1 q2 q3 q4 q5 p1 p2 p3 p4 u1 u2 u3 u4 r1 r2 r3 x2 x4 x5 x6 x8 x9
  rw [csA_eq] at *
  rw [csA_eq] at *
  simp only at *
  unfold encFn at *
  replace hgr := Hold.mk hgr
  replace hcase := Hold.mk hcase
  replace hl := Hold.mk hl
  replace hw := Hold.mk hw
  replace hs1 := Hold.mk hs1
  replace hs2 := Hold.mk hs2
  replace hR := Hold.mk hR
  replace x7 := Hold.mk x7
  replace hlx := Hold.mk hlx
  have hkw : (k = 0 ∧ w = 0) ∨ (¬ k = 0 ∧ ¬ w = 0) := by
    by_cases k0 : k = 0
    · exact .inl ⟨k0, x3.1 k0⟩
    · exact .inr ⟨k0, fun h => k0 (x3.2 h)⟩
  clear x3
  rcases hkw with ⟨k0, w0⟩ | ⟨k0, w0⟩
  all_goals
    repeat' (first | simp only [seval, evx, beq_self_eq_true, sb, ew, ec, List.map_nil, List.length_nil, beq_self_eq_true, *] | simp (disch := omega) only [if_pos, if_neg] | refine R.seq ?_ | refine LCB.text ?_ | refine LCB.quiet rfl ?_ | refine R.anyX ?_ | refine R.block ?_ | refine LCB.skip ?_ | refine LCB.exit ?_ | refine LCB.ret ?_ | ((first | refine RetOk.val hcl ?_ | refine Weak.at hcl ?_); simp only [seval, evw, fm, sb, ew, ec, List.map_nil, List.length_nil, beq_self_eq_true, *]) | ((first | refine LCB.cond (by simp only [seval, evx] <;> rfl) ?_ ?_ | refine wpG_split (by simp only [seval, evx] <;> rfl) ?_ ?_ | refine wxG_split (by simp only [seval, evx] <;> rfl) ?_ ?_) <;> (intro hc; try simp only [seval, nf] at hc)) | refine ACalls.inst ?_ | refine CallX.inst ?_ | (with_reducible refine And.intro ?_ ?_) | exact True.intro | refine ACalls.pure hgr.of ?_ | refine CallX.pure hgr.of ?_ | refine ACalls.pure hcase.of ?_ | refine CallX.pure hcase.of ?_ | refine ACalls.pure hl.of ?_ | refine CallX.pure hl.of ?_ | refine ACalls.pure hw.of ?_ | refine CallX.pure hw.of ?_ | refine ACalls.pure hs1.of ?_ | refine CallX.pure hs1.of ?_ | refine ACalls.pure hs2.of ?_ | refine CallX.pure hs2.of ?_)
    refine R.loop (S := Nat) ⟨fun i => [(5, .ptr H.length 1 0 0), (7, .ptr (H.length + 1) 1 0 0), (14, .int .i64 (i : Int))], fun i => H ++ [.vec 11 [ic Rg ++ [.list (hp.map encI), .list (an.map encI), .int .i64 fu]], .vec 11 [ic Rx ++ [.list (hx.map encI), .list (ax.map encI), .int .i64 fx]]], fun i => i ≤ 8, fun i => 8 - i⟩ 0 (Nat.zero_le _) (Weak.at hcl ?_) ?_
    · simp only [seval, evw, fm, sb, ew, ec, List.map_nil, List.length_nil, beq_self_eq_true, *]
    intro i hi
    simp only at hi ⊢
    by_cases hlt : i < 8
    · have e2 : (i : Int) < 8 := by omega
      have hg := ic_get (R := Rg) (r := [.list (hp.map encI), .list (an.map encI), .int .i64 fu]) (i := i) (by rw [hR.of]; exact hlt)
      have hg2 := ic_get (R := Rx) (r := [.list (hx.map encI), .list (ax.map encI), .int .i64 fx]) (i := i) (by rw [hlx.of]; exact hlt)
      have e4 : IntKind.i64.wrap ((i : Int) + 1) = ((i + 1 : Nat) : Int) := by rw [IntKind.wrap_i64]; omega
      have e5 : i < 11 := by omega
      have e6 : i + 1 ≤ 11 := by omega
      have hx7 := x7.of i
      generalize Rg.getD i 0 = y at *
      generalize Rx.getD i 0 = z at *
      by_cases hzy : z = y
      · subst hzy
        clear hx7
        repeat' (first | simp only [seval, evx, beq_self_eq_true, sb, ew, ec, List.map_nil, List.length_nil, beq_self_eq_true, *] | simp (disch := omega) only [if_pos, if_neg] | refine R.seq ?_ | refine LCB.text ?_ | refine LCB.quiet rfl ?_ | refine R.anyX ?_ | refine R.block ?_ | refine LCB.skip ?_ | refine LCB.exit ?_ | refine LCB.ret ?_ | ((first | refine RetOk.val hcl ?_ | refine Weak.at hcl ?_); simp only [seval, evw, fm, sb, ew, ec, List.map_nil, List.length_nil, beq_self_eq_true, *]) | ((first | refine LCB.cond (by simp only [seval, evx] <;> rfl) ?_ ?_ | refine wpG_split (by simp only [seval, evx] <;> rfl) ?_ ?_ | refine wxG_split (by simp only [seval, evx] <;> rfl) ?_ ?_) <;> (intro hc; try simp only [seval, nf] at hc)) | refine ACalls.inst ?_ | refine CallX.inst ?_ | (with_reducible refine And.intro ?_ ?_) | exact True.intro | refine ACalls.pure hgr.of ?_ | refine CallX.pure hgr.of ?_ | refine ACalls.pure hcase.of ?_ | refine CallX.pure hcase.of ?_ | refine ACalls.pure hl.of ?_ | refine CallX.pure hl.of ?_ | refine ACalls.pure hw.of ?_ | refine CallX.pure hw.of ?_ | refine ACalls.pure hs1.of ?_ | refine CallX.pure hs1.of ?_ | refine ACalls.pure hs2.of ?_ | refine CallX.pure hs2.of ?_)
        refine ⟨i + 1, hlt, by simp only; omega, Weak.at hcl ?_⟩
        simp only [seval, evw, fm, sb, ew, ec, List.map_nil, List.length_nil, beq_self_eq_true, *]
      · have hz0 : z = 0 := hx7.resolve_left hzy
        subst hz0
        clear hx7
        repeat' (first | simp only [seval, evx, beq_self_eq_true, sb, ew, ec, List.map_nil, List.length_nil, beq_self_eq_true, *] | simp (disch := omega) only [if_pos, if_neg] | refine R.seq ?_ | refine LCB.text ?_ | refine LCB.quiet rfl ?_ | refine R.anyX ?_ | refine R.block ?_ | refine LCB.skip ?_ | refine LCB.exit ?_ | refine LCB.ret ?_ | ((first | refine RetOk.val hcl ?_ | refine Weak.at hcl ?_); simp only [seval, evw, fm, sb, ew, ec, List.map_nil, List.length_nil, beq_self_eq_true, *]) | ((first | refine LCB.cond (by simp only [seval, evx] <;> rfl) ?_ ?_ | refine wpG_split (by simp only [seval, evx] <;> rfl) ?_ ?_ | refine wxG_split (by simp only [seval, evx] <;> rfl) ?_ ?_) <;> (intro hc; try simp only [seval, nf] at hc)) | refine ACalls.inst ?_ | refine CallX.inst ?_ | (with_reducible refine And.intro ?_ ?_) | exact True.intro | refine ACalls.pure hgr.of ?_ | refine CallX.pure hgr.of ?_ | refine ACalls.pure hcase.of ?_ | refine CallX.pure hcase.of ?_ | refine ACalls.pure hl.of ?_ | refine CallX.pure hl.of ?_ | refine ACalls.pure hw.of ?_ | refine CallX.pure hw.of ?_ | refine ACalls.pure hs1.of ?_ | refine CallX.pure hs1.of ?_ | refine ACalls.pure hs2.of ?_ | refine CallX.pure hs2.of ?_)
        refine ⟨i + 1, hlt, by simp only; omega, Weak.at hcl ?_⟩
        simp only [seval, evw, fm, sb, ew, ec, List.map_nil, List.length_nil, beq_self_eq_true, *]
    · have hie : i = 8 := by omega
      subst hie
      have e5 : (((8 : Nat) : Int)) = 8 := rfl
      repeat' (first | simp only [seval, evx, beq_self_eq_true, sb, ew, ec, List.map_nil, List.length_nil, beq_self_eq_true, *] | simp (disch := omega) only [if_pos, if_neg] | refine R.seq ?_ | refine LCB.text ?_ | refine LCB.quiet rfl ?_ | refine R.anyX ?_ | refine R.block ?_ | refine LCB.skip ?_ | refine LCB.exit ?_ | refine LCB.ret ?_ | ((first | refine RetOk.val hcl ?_ | refine Weak.at hcl ?_); simp only [seval, evw, fm, sb, ew, ec, List.map_nil, List.length_nil, beq_self_eq_true, *]) | ((first | refine LCB.cond (by simp only [seval, evx] <;> rfl) ?_ ?_ | refine wpG_split (by simp only [seval, evx] <;> rfl) ?_ ?_ | refine wxG_split (by simp only [seval, evx] <;> rfl) ?_ ?_) <;> (intro hc; try simp only [seval, nf] at hc)) | refine ACalls.inst ?_ | refine CallX.inst ?_ | (with_reducible refine And.intro ?_ ?_) | exact True.intro | refine ACalls.pure hgr.of ?_ | refine CallX.pure hgr.of ?_ | refine ACalls.pure hcase.of ?_ | refine CallX.pure hcase.of ?_ | refine ACalls.pure hl.of ?_ | refine CallX.pure hl.of ?_ | refine ACalls.pure hw.of ?_ | refine CallX.pure hw.of ?_ | refine ACalls.pure hs1.of ?_ | refine CallX.pure hs1.of ?_ | refine ACalls.pure hs2.of ?_ | refine CallX.pure hs2.of ?_)
theorem shrinkKeeps_law : ∀ av, FitAs [.one (.list insSh), .one (.list insSh), .agg csSh] av → ACalls Tryd.prog 3 av [] fun r _ => r = .bool true := by
  rintro _ ⟨a, _, rfl, h1, b, _, rfl, h2, d, _, rfl, h3, rfl⟩
  obtain ⟨f, rfl, hf, _⟩ := h1.inss
  obtain ⟨g, rfl, hg, _⟩ := h2.inss
  obtain ⟨c, rfl, hc, _⟩ := h3.cs
  exact (ShrinkKeeps_ok f g c hc).law
set_option maxRecDepth 100000 in
theorem shrinkKeeps_lifted (os : Os) (started : os.Started) (H : Type) (enc : TypeId × Value → H) :
    ReturnsInHanded {} Tryd.checked os 3 .any (fun w args => (Rows.shrinkKeepsSpec.pre enc Tryd.prog Tryd.f3 [] false w args ∧ laidMetH Tryd.prog laidL w) ∧ sizedMet enc Tryd.prog Tryd.f3 (OpenSpec.ofChange Rows.shrinkKeepsSpec) false w args)
      (Rows.shrinkKeepsSpec.post enc Tryd.prog Tryd.f3 false true false false) := by
  refine returnsInHanded_of_change_and (C := Tryd.checked) (X := fun w _ => laidMetH Tryd.prog laidL w) (fun _ _ _ hh h => h.of_heap hh) own_ok started (by kernel_rfl) Tryd.func3
    (ChangeSpec.witness_shaped (enc := enc) (C := Tryd.checked) (os := os) (X := fun w _ => laidMetH Tryd.prog laidL w) false (World.doorLaid Tryd.prog 400 os) #[.slice none 0 0, .slice none 0 0, (.agg #[.int .i64 0, .int .i64 0, .int .i64 0, .int .i64 0, .int .i64 0, .int .i64 0, .int .i64 0, .int .i64 0, .slice none 0 0, .slice none 0 0, .int .i64 0])] 8 rfl (World.shaped_of_RefB (by kernel_rfl) (by kernel_rfl)) (by kernel_rfl) (by kernel_rfl) (by kernel_rfl) (door_met os _)) ?_
  intro W base args ds gs before hval0 hW _ _ hL _
  exact law_contract (base := base) laid_ok rfl (by kernel_rfl) (by kernel_rfl) (by kernel_rfl)
    (fun ds hl => by
      match ds, hl with
      | [d1, d2, d3], _ => rfl) (glob_of_laid hL) shrinkKeeps_law hval0 hW
set_option maxRecDepth 100000 in
theorem shrinkKeeps_row : Rows.ShrinkKeepsSaid :=
  OpenClaim.holds_of_wide 3 Tryd.f3 rfl rfl rfl rfl rfl rfl rfl ⟨rfl, rfl, rfl, rfl, rfl⟩ rfl rfl rfl rfl rfl (by kernel_rfl) Tryd.func3 (by kernel_rfl)
    (of_decide_eq_true (by kernel_rfl)) (by unfold Func.isWrapper; first | (rw [if_pos (by decide +kernel)]; kernel_rfl) | (rw [if_neg (by decide +kernel)]; exact ⟨rfl, rfl⟩))
    (fun os started H enc _ => shrinkKeeps_lifted os started H enc)
set_option maxRecDepth 100000 in
theorem shrinkKeeps_holds : Rows.ShrinkKeepsCardSaid :=
  Claim7.holds_tied_plain_at .later [] [.data] true (true, "f854dd3417ba2f2a7343e98a86b3f6750c0905036c9cfb94aee39bbddbdf8749") true
    shrinkKeeps_row (fun _ h => by cases h) (by kernel_rfl) (fun _ h => by cases h) shrinkKeeps_row_tie rfl ⟨rfl, rfl⟩ (by kernel_rfl) rfl
    (fun f fn hf hfn => by
      obtain rfl : f = 3 := Option.some.inj ((show Tryd.prog.funcNamed "joinery/joinerylaw20.ShrinkKeeps" = some 3 by kernel_rfl).symm.trans hf) |>.symm
      obtain rfl : fn = Tryd.f3 := (Option.some.inj (Tryd.func3.symm.trans hfn)).symm
      exact ⟨by kernel_rfl, fun j t ht => by
        have hall : (Tryd.f3.params.toList.all fun u => !Tryd.prog.wantsStandIn u) = true := by kernel_rfl
        have hm : t ∈ Tryd.f3.params.toList := by
          have := Array.mem_of_getElem? ht
          simpa using this
        exact (show Tryd.prog.wantsStandIn t = false by simpa using List.all_eq_true.1 hall t hm)⟩)
    (by kernel_rfl)
end Go.Proofs.YtphmakopjfbmnaaDoor
