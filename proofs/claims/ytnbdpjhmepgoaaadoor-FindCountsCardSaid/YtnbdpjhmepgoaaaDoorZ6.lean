/-
  Texts of this claim, put together.
-/
import Derived.Test.YtnbdpjhmepgoaaaDoorProg
import Derived.KernelRfl
import Derived.Test.YtnbdpjhmepgoaaaDoorZ5
namespace Go.Proofs.YtnbdpjhmepgoaaaDoor
set_option maxRecDepth 100000
def heap_Same.k1 : LCode := .text [⟨some 6, .mv (.tmp 0), none⟩,⟨some 7, .len .slice (.tmp 6), none⟩,⟨some 8, .mv (.tmp 1), none⟩,⟨some 9, .len .slice (.tmp 8), none⟩,⟨some 10, .bin .neq .other (.tmp 7) (.tmp 9), none⟩]
def heap_Same.k2 : LCode := .seq (.text [⟨some 4, .mv (.cst (.bool false)), none⟩]) .ret
def heap_Same.k3 : LCode := .text [⟨some 11, .mv (.tmp 0), none⟩,⟨some 12, .len .slice (.tmp 11), none⟩,⟨some 13, .mv (.cst (.int .i64 0)), none⟩]
def heap_Same.k4 : LCode := .text [⟨some 14, .bin .lss .other (.tmp 13) (.tmp 12), none⟩]
def heap_Same.k5 : LCode := .text [⟨some 15, .mv (.tmp 13), none⟩,⟨some 5, .mv (.tmp 15), none⟩]
def heap_Same.k6 : LCode := .any true [⟨some 16, .mv (.tmp 0), none⟩,⟨some 17, .mv (.tmp 5), none⟩,⟨some 18, .iaddrS 1 (.tmp 16) (.tmp 17), none⟩,⟨some 19, .load false 1 (.tmp 18), none⟩,⟨some 20, .mv (.tmp 1), none⟩,⟨some 21, .mv (.tmp 5), none⟩,⟨some 22, .iaddrS 1 (.tmp 20) (.tmp 21), none⟩,⟨some 23, .load false 1 (.tmp 22), none⟩,⟨some 24, .bin .neq .other (.tmp 19) (.tmp 23), none⟩] (.both .no .no)
def heap_Same.k7 : LCode := .seq (.text [⟨some 4, .mv (.cst (.bool false)), none⟩]) .ret
def heap_Same.k8 : LCode := .seq heap_Same.k5 (.seq heap_Same.k6 (.cond (.tmp 24) heap_Same.k7 .skip))
def heap_Same.k9 : LCode := .text [⟨some 25, .bin .add .other (.tmp 13) (.cst (.int .i64 1)), none⟩,⟨some 13, .mv (.tmp 25), none⟩]
def heap_Same.k10 : LCode := .seq (.cond (.tmp 14) .skip (.exit 0)) (.seq (.block 1 heap_Same.k8) heap_Same.k9)
def heap_Same.k11 : LCode := .seq heap_Same.k3 (.block 0 (.loop (.seq heap_Same.k4 heap_Same.k10)))
def heap_Same.k12 : LCode := .seq heap_Same.k11 (.seq (.text [⟨some 4, .mv (.cst (.bool true)), none⟩]) .ret)
def heap_Same.k13 : LCode := .seq (.seq heap_Same.k1 (.cond (.tmp 10) heap_Same.k2 .skip)) heap_Same.k12
def heap_Same.lc : LCode :=
 .seq (.text [⟨some 4, .mv (.cst (.bool false)), none⟩]) heap_Same.k13
theorem heap_Same.low : lowFn Tryd.prog 24 = some (26, heap_Same.lc, [.tmp 4]) := by kernel_rfl
def ins_words.k1 : LCode := .text [⟨some 7, .mv (.tmp 0), none⟩,⟨some 8, .range (.tmp 7), none⟩]
def ins_words.k2 : LCode := .text [⟨some 9, .next (.tmp 8), none⟩,⟨some 10, .extract (.tmp 9) 0, none⟩]
def ins_words.k3 : LCode := .text [⟨some 11, .extract (.tmp 9) 1, none⟩,⟨some 12, .extract (.tmp 9) 2, none⟩,⟨some 5, .mv (.tmp 11), none⟩,⟨some 6, .mv (.tmp 12), none⟩]
def ins_words.k4 : LCode := .text [⟨some 13, .mv (.tmp 6), none⟩,⟨some 14, .bin .eql .other (.tmp 13) (.cst (.int .i32 32)), none⟩]
def ins_words.k5 : LCode := .text [⟨some 15, .mv (.tmp 3), none⟩,⟨some 16, .mv (.tmp 0), none⟩,⟨some 17, .mv (.tmp 4), none⟩,⟨some 18, .mv (.tmp 5), none⟩,⟨some 19, .sliceS (.tmp 16) (some (.tmp 17)) (some (.tmp 18)), none⟩,⟨some 20, .bslice 1 [.str ⟨#[]⟩] 1 [(0, .tmp 19)], none⟩,⟨some 21, .append 1 16 (.tmp 15) (.tmp 20), none⟩,⟨some 3, .mv (.tmp 21), none⟩]
def ins_words.k6 : LCode := .text [⟨some 22, .mv (.tmp 5), none⟩,⟨some 23, .bin .add .other (.tmp 22) (.cst (.int .i64 1)), none⟩,⟨some 4, .mv (.tmp 23), none⟩]
def ins_words.k7 : LCode := .seq ins_words.k4 (.cond (.tmp 14) (.seq ins_words.k5 ins_words.k6) .skip)
def ins_words.k8 : LCode := .seq (.cond (.tmp 10) .skip (.exit 0)) (.block 1 (.seq ins_words.k3 ins_words.k7))
def ins_words.k9 : LCode := .seq ins_words.k1 (.block 0 (.loop (.seq ins_words.k2 ins_words.k8)))
def ins_words.k10 : LCode := .text [⟨some 24, .mv (.tmp 3), none⟩,⟨some 25, .mv (.tmp 0), none⟩,⟨some 26, .mv (.tmp 4), none⟩,⟨some 27, .sliceS (.tmp 25) (some (.tmp 26)) none, none⟩,⟨some 28, .bslice 1 [.str ⟨#[]⟩] 1 [(0, .tmp 27)], none⟩,⟨some 29, .append 1 16 (.tmp 24) (.tmp 28), none⟩,⟨some 2, .mv (.tmp 29), none⟩]
def ins_words.k11 : LCode := .seq (.text [⟨some 4, .mv (.cst (.int .i64 0)), none⟩]) (.seq ins_words.k9 (.seq ins_words.k10 .ret))
def ins_words.k12 : LCode := .seq (.text [⟨some 3, .mv (.cst (.imm (.slice none 0 0))), none⟩]) ins_words.k11
def ins_words.lc : LCode :=
 .seq (.text [⟨some 2, .mv (.cst (.imm (.slice none 0 0))), none⟩]) ins_words.k12
theorem ins_words.low : lowFn Tryd.prog 40 = some (30, ins_words.lc, [.tmp 2]) := by kernel_rfl
def ins_of.k1 : LCode := .text [⟨some 2, .alloc [.str ⟨#[]⟩, .str ⟨#[]⟩], none⟩,⟨some 3, .mv (.cst (.bool false)), none⟩]
def ins_of.k2 : LCode := .text [⟨some 4, .mv (.tmp 0), none⟩,⟨some 5, .bin .lss .other (.tmp 4) (.cst (.int .i64 1)), none⟩,⟨some 6, .mv (.tmp 5), none⟩,⟨some 7, .mv (.tmp 0), some (6, false)⟩,⟨some 8, .bin .gtr .other (.tmp 7) (.cst (.int .i64 18)), some (6, false)⟩,⟨some 9, .pick (.tmp 6) (.cst (.bool true)) (.tmp 8), none⟩]
def ins_of.k3 : LCode := .text [⟨some 10, .build [.str ⟨#[]⟩, .str ⟨#[]⟩] [], none⟩,⟨none, .store 2 (.tmp 2) (.tmp 10), none⟩,⟨some 3, .mv (.cst (.bool false)), none⟩]
def ins_of.k4 : LCode := .text [⟨some 11, .mv (.tmp 0), none⟩,⟨some 12, .bin .sub .other (.tmp 11) (.cst (.int .i64 1)), none⟩,⟨some 13, .iaddrA 18 2 (.cst (.lptr (shapeTbl.flatMap fun p => [.str p.1, .str p.2]) 0)) (.tmp 12), none⟩,⟨some 14, .load true 2 (.tmp 13), none⟩,⟨none, .store 2 (.tmp 2) (.tmp 14), none⟩,⟨some 3, .mv (.cst (.bool true)), none⟩]
def ins_of.k5 : LCode := .seq (.seq ins_of.k2 (.cond (.tmp 9) (.seq ins_of.k3 .ret) .skip)) (.seq ins_of.k4 .ret)
def ins_of.lc : LCode :=
 .seq ins_of.k1 ins_of.k5
theorem ins_of.low : lowFn Tryd.prog 56 = some (15, ins_of.lc, [.cell 2 true 2, .tmp 3]) := by kernel_rfl
def step_work_move.k1 : LCode := .text [⟨some 3, .mv (.tmp 0), none⟩,⟨some 4, .nilc (.tmp 3), none⟩,⟨some 5, .faddr 0 (.tmp 4), none⟩,⟨some 6, .faddr 0 (.tmp 5), none⟩,⟨some 2, .mv (.tmp 6), none⟩]
def step_work_move.k2 : LCode := .text [⟨some 7, .mv (.tmp 0), none⟩,⟨some 8, .nilc (.tmp 7), none⟩,⟨some 9, .faddr 51 (.tmp 8), none⟩,⟨some 10, .faddr 0 (.tmp 9), none⟩,⟨some 11, .load false 1 (.tmp 10), none⟩]
def step_work_move.k3 : LCode := .text [⟨some 13, .bin .eql .other (.tmp 11) (.cst (.int .i64 1)), none⟩,⟨some 12, .mv (.tmp 13), none⟩]
def step_work_move.k4 : LCode := .any false [⟨some 14, .mv (.tmp 2), none⟩,⟨some 15, .mv (.tmp 0), none⟩,⟨some 16, .nilc (.tmp 15), none⟩,⟨some 17, .faddr 51 (.tmp 16), none⟩,⟨some 18, .faddr 1 (.tmp 17), none⟩,⟨some 19, .load false 1 (.tmp 18), none⟩,⟨some 20, .mv (.tmp 0), none⟩,⟨some 21, .nilc (.tmp 20), none⟩,⟨some 22, .faddr 51 (.tmp 21), none⟩,⟨some 23, .faddr 4 (.tmp 22), none⟩,⟨some 24, .load false 1 (.tmp 23), none⟩,⟨some 25, .build [.bool false, .int .i64 0] [(0, 1, .cst (.bool true)), (1, 1, .tmp 24)], none⟩,⟨some 26, .nilc (.tmp 14), none⟩,⟨some 27, .iaddrA 24 2 (.tmp 26) (.tmp 19), none⟩,⟨none, .store 2 (.tmp 27) (.tmp 25), none⟩] (.both (.take 0 (.take 1 (.take 2 (.take 3 (.take 4 (.take 6 (.take 7 (.take 8 (.take 9 (.take 12 (.all [(5, .all [(10, .take 11 (.take 13 (.all [(14, .done)])))]), (10, .take 11 (.all [(5, .take 13 (.all [(14, .done)]))]))]))))))))))) (.front 0 (.front 1 (.front 2 (.front 3 (.front 4 (.front 5 (.front 6 (.front 7 (.front 8 (.front 9 (.front 10 (.front 11 (.front 12 (.front 13 (.front 14 .done))))))))))))))))
def step_work_move.k5 : LCode := .text [⟨some 29, .bin .eql .other (.tmp 11) (.cst (.int .i64 2)), none⟩,⟨some 28, .mv (.tmp 29), none⟩]
def step_work_move.k6 : LCode := .any false [⟨some 30, .mv (.tmp 2), none⟩,⟨some 31, .mv (.tmp 0), none⟩,⟨some 32, .nilc (.tmp 31), none⟩,⟨some 33, .faddr 51 (.tmp 32), none⟩,⟨some 34, .faddr 1 (.tmp 33), none⟩,⟨some 35, .load false 1 (.tmp 34), none⟩,⟨some 36, .mv (.tmp 2), none⟩,⟨some 37, .mv (.tmp 0), none⟩,⟨some 38, .nilc (.tmp 37), none⟩,⟨some 39, .faddr 51 (.tmp 38), none⟩,⟨some 40, .faddr 2 (.tmp 39), none⟩,⟨some 41, .load false 1 (.tmp 40), none⟩,⟨some 42, .nilc (.tmp 36), none⟩,⟨some 43, .iaddrA 24 2 (.tmp 42) (.tmp 41), none⟩,⟨some 44, .load true 2 (.tmp 43), none⟩,⟨some 45, .nilc (.tmp 30), none⟩,⟨some 46, .iaddrA 24 2 (.tmp 45) (.tmp 35), none⟩,⟨none, .store 2 (.tmp 46) (.tmp 44), none⟩] (.both (.take 0 (.take 1 (.take 2 (.take 3 (.take 4 (.take 6 (.take 7 (.take 8 (.take 9 (.take 10 (.take 12 (.take 15 (.all [(5, .all [(11, .take 13 (.all [(14, .take 16 (.all [(17, .done)]))]))]), (11, .take 13 (.all [(5, .all [(14, .take 16 (.all [(17, .done)]))]), (14, .all [(5, .take 16 (.all [(17, .done)]))])]))]))))))))))))) (.front 0 (.front 1 (.front 2 (.front 3 (.front 4 (.front 5 (.front 6 (.front 7 (.front 8 (.front 9 (.front 10 (.front 11 (.front 12 (.front 13 (.front 14 (.front 15 (.front 16 (.front 17 .done)))))))))))))))))))
def step_work_move.k7 : LCode := .text [⟨some 48, .bin .eql .other (.tmp 11) (.cst (.int .i64 3)), none⟩,⟨some 47, .mv (.tmp 48), none⟩]
def step_work_move.k8 : LCode := .any false [⟨some 49, .mv (.tmp 2), none⟩,⟨some 50, .mv (.tmp 0), none⟩,⟨some 51, .nilc (.tmp 50), none⟩,⟨some 52, .faddr 51 (.tmp 51), none⟩,⟨some 53, .faddr 1 (.tmp 52), none⟩,⟨some 54, .load false 1 (.tmp 53), none⟩,⟨some 55, .mv (.tmp 2), none⟩,⟨some 56, .mv (.tmp 0), none⟩,⟨some 57, .nilc (.tmp 56), none⟩,⟨some 58, .faddr 51 (.tmp 57), none⟩,⟨some 59, .faddr 2 (.tmp 58), none⟩,⟨some 60, .load false 1 (.tmp 59), none⟩,⟨some 61, .mv (.tmp 2), none⟩,⟨some 62, .mv (.tmp 0), none⟩,⟨some 63, .nilc (.tmp 62), none⟩,⟨some 64, .faddr 51 (.tmp 63), none⟩,⟨some 65, .faddr 2 (.tmp 64), none⟩,⟨some 66, .load false 1 (.tmp 65), none⟩,⟨some 67, .nilc (.tmp 61), none⟩,⟨some 68, .iaddrA 24 2 (.tmp 67) (.tmp 66), none⟩,⟨some 69, .load true 2 (.tmp 68), none⟩,⟨some 70, .mv (.tmp 2), none⟩,⟨some 71, .mv (.tmp 0), none⟩,⟨some 72, .nilc (.tmp 71), none⟩,⟨some 73, .faddr 51 (.tmp 72), none⟩,⟨some 74, .faddr 1 (.tmp 73), none⟩,⟨some 75, .load false 1 (.tmp 74), none⟩,⟨some 76, .nilc (.tmp 70), none⟩,⟨some 77, .iaddrA 24 2 (.tmp 76) (.tmp 75), none⟩,⟨some 78, .load true 2 (.tmp 77), none⟩,⟨some 79, .nilc (.tmp 49), none⟩,⟨some 80, .iaddrA 24 2 (.tmp 79) (.tmp 54), none⟩,⟨none, .store 2 (.tmp 80) (.tmp 69), none⟩,⟨some 81, .nilc (.tmp 55), none⟩,⟨some 82, .iaddrA 24 2 (.tmp 81) (.tmp 60), none⟩,⟨none, .store 2 (.tmp 82) (.tmp 78), none⟩] (.both .no (.front 0 (.front 1 (.front 2 (.front 3 (.front 4 (.front 5 (.front 6 (.front 7 (.front 8 (.front 9 (.front 10 (.front 11 (.front 12 (.front 13 (.front 14 (.front 15 (.front 16 (.front 17 (.front 18 (.front 19 (.front 20 (.front 21 (.front 22 (.front 23 (.front 24 (.front 25 (.front 26 (.front 27 (.front 28 (.front 29 (.front 30 (.front 31 (.front 32 (.front 33 (.front 34 (.front 35 .done)))))))))))))))))))))))))))))))))))))
def step_work_move.k9 : LCode := .seq step_work_move.k7 (.cond (.tmp 47) step_work_move.k8 .skip)
def step_work_move.k10 : LCode := .seq step_work_move.k5 (.cond (.tmp 28) step_work_move.k6 step_work_move.k9)
def step_work_move.k11 : LCode := .seq step_work_move.k3 (.cond (.tmp 12) step_work_move.k4 step_work_move.k10)
def step_work_move.lc : LCode :=
 .seq step_work_move.k1 (.seq step_work_move.k2 (.block 0 step_work_move.k11))
theorem step_work_move.low : lowFn Tryd.prog 72 = some (83, step_work_move.lc, []) := by kernel_rfl
def find_Find.k1 : LCode := .text [⟨some 3, .box (.tmp 0), none⟩,⟨some 4, .box (.tmp 1), none⟩,⟨some 5, .box (.tmp 2), none⟩,⟨some 6, .alloc [.int .i64 0, .int .i64 0, .int .i64 0, .int .i64 0, .int .i64 0, .int .i64 0, .int .i64 0, .int .i64 0, .int .i64 0, .int .i64 0, .imm (.slice none 0 0), .imm (.slice none 0 0), .int .i64 0], none⟩,⟨some 7, .alloc [.bool false], none⟩,⟨some 8, .alloc [.int .i64 0], none⟩]
def find_Find.k2 : LCode := .text [⟨some 13, .load false 1 (.tmp 3), none⟩,⟨some 14, .call (.cst (.fn (.func 16) [] [])) [.tmp 13], none⟩,⟨some 15, .not (.tmp 14), none⟩,⟨some 16, .mv (.tmp 15), none⟩,⟨some 17, .load false 1 (.tmp 4), some (16, false)⟩,⟨some 18, .call (.cst (.fn (.func 16) [] [])) [.tmp 17], some (16, false)⟩,⟨some 19, .not (.tmp 18), some (16, false)⟩,⟨some 20, .pick (.tmp 16) (.cst (.bool true)) (.tmp 19), none⟩]
def find_Find.k3 : LCode := .text [⟨some 21, .build [.int .i64 0, .int .i64 0, .int .i64 0, .int .i64 0, .int .i64 0, .int .i64 0, .int .i64 0, .int .i64 0, .int .i64 0, .int .i64 0, .imm (.slice none 0 0), .imm (.slice none 0 0), .int .i64 0] [], none⟩,⟨none, .store 13 (.tmp 6) (.tmp 21), none⟩,⟨none, .store 1 (.tmp 7) (.cst (.bool false)), none⟩,⟨none, .store 1 (.tmp 8) (.cst (.int .i64 1)), none⟩]
def find_Find.k4 : LCode := .seq find_Find.k2 (.cond (.tmp 20) (.seq find_Find.k3 .ret) .skip)
def find_Find.k5 : LCode := .text [⟨some 22, .load false 1 (.tmp 3), none⟩,⟨some 23, .load false 1 (.tmp 4), none⟩,⟨some 24, .load true 2 (.tmp 5), none⟩,⟨some 25, .call (.cst (.fn (.func 17) [] [])) [.tmp 22, .tmp 23, .tmp 24], none⟩]
def find_Find.k6 : LCode := .text [⟨some 41, .build [.int .i64 0, .int .i64 0, .int .i64 0, .int .i64 0, .int .i64 0, .int .i64 0, .int .i64 0, .int .i64 0, .int .i64 0, .int .i64 0, .imm (.slice none 0 0), .imm (.slice none 0 0), .int .i64 0] [], none⟩,⟨none, .store 13 (.tmp 6) (.tmp 41), none⟩,⟨none, .store 1 (.tmp 7) (.cst (.bool false)), none⟩,⟨none, .store 1 (.tmp 8) (.cst (.int .i64 0)), none⟩]
def find_Find.k7 : LCode := .seq (.seq find_Find.k5 (.block 0 .bad)) (.seq find_Find.k6 .ret)
def find_Find.lc : LCode :=
 .seq find_Find.k1 (.seq find_Find.k4 find_Find.k7)
theorem find_Find.low : lowFn Tryd.prog 9 = some (42, find_Find.lc, [.cell 6 true 13, .cell 7 false 1, .cell 8 false 1]) := by kernel_rfl
def differ_Tell_3.k1 : LCode := .text [⟨some 2, .box (.tmp 0), none⟩,⟨some 3, .box (.tmp 1), none⟩,⟨some 4, .mv (.cst (.bool false)), none⟩]
def differ_Tell_3.k2 : LCode := .text [⟨some 5, .faddr 0 (.tmp 2), none⟩,⟨some 6, .load true 6 (.tmp 5), none⟩,⟨some 7, .call (.cst (.fn (.func 23) [] [])) [.tmp 6], none⟩,⟨some 8, .mv (.tmp 7), none⟩,⟨some 9, .faddr 6 (.tmp 3), some (8, true)⟩,⟨some 10, .load false 1 (.tmp 9), some (8, true)⟩,⟨some 11, .pick (.tmp 8) (.tmp 10) (.cst (.bool false)), none⟩,⟨some 4, .mv (.tmp 11), none⟩]
def differ_Tell_3.lc : LCode :=
 .seq differ_Tell_3.k1 (.seq differ_Tell_3.k2 .ret)
theorem differ_Tell_3.low : lowFn Tryd.prog 25 = some (12, differ_Tell_3.lc, [.tmp 4]) := by kernel_rfl
def ins_fill.k1 : LCode := .text [⟨some 13, .bin .eql .other (.tmp 11) (.cst (.int .i32 78)), none⟩,⟨some 12, .mv (.tmp 13), none⟩]
def ins_fill.k2 : LCode := .text [⟨some 14, .bin .eql .other (.tmp 11) (.cst (.int .i32 84)), none⟩,⟨some 12, .mv (.tmp 14), none⟩]
def ins_fill.k3 : LCode := .text [⟨some 16, .mv (.tmp 2), none⟩,⟨some 17, .call (.cst (.fn (.func 53) [] [])) [.tmp 16], none⟩,⟨some 15, .mv (.tmp 17), none⟩,⟨some 18, .extract (.tmp 15) 0, none⟩,⟨some 19, .extract (.tmp 15) 1, none⟩,⟨some 7, .mv (.tmp 18), none⟩,⟨some 8, .mv (.tmp 19), none⟩]
def ins_fill.k4 : LCode := .text [⟨some 20, .mv (.tmp 1), none⟩,⟨some 21, .bin .eql .other (.tmp 20) (.cst (.int .i32 78)), none⟩]
def ins_fill.k5 : LCode := .text [⟨some 22, .mv (.tmp 0), none⟩,⟨some 23, .mv (.tmp 7), none⟩,⟨some 24, .nilc (.tmp 22), none⟩,⟨some 25, .faddr 4 (.tmp 24), none⟩,⟨none, .store 1 (.tmp 25) (.tmp 23), none⟩]
def ins_fill.k6 : LCode := .text [⟨some 26, .mv (.tmp 0), none⟩,⟨some 27, .mv (.tmp 7), none⟩,⟨some 28, .nilc (.tmp 26), none⟩,⟨some 29, .faddr 5 (.tmp 28), none⟩,⟨none, .store 1 (.tmp 29) (.tmp 27), none⟩]
def ins_fill.k7 : LCode := .text [⟨some 30, .mv (.tmp 8), none⟩,⟨some 6, .mv (.tmp 30), none⟩]
def ins_fill.k8 : LCode := .seq (.seq ins_fill.k4 (.cond (.tmp 21) ins_fill.k5 ins_fill.k6)) (.seq ins_fill.k7 .ret)
def ins_fill.k9 : LCode := .seq (.seq ins_fill.k1 (.cond (.tmp 12) .skip ins_fill.k2)) (.cond (.tmp 12) (.seq ins_fill.k3 ins_fill.k8) .skip)
def ins_fill.k10 : LCode := .seq (.text [⟨some 11, .mv (.tmp 1), none⟩]) (.block 0 ins_fill.k9)
def ins_fill.k11 : LCode := .text [⟨some 32, .mv (.tmp 2), none⟩,⟨some 33, .call (.cst (.fn (.func 54) [] [])) [.tmp 32], none⟩,⟨some 31, .mv (.tmp 33), none⟩,⟨some 34, .extract (.tmp 31) 0, none⟩,⟨some 35, .extract (.tmp 31) 1, none⟩,⟨some 9, .mv (.tmp 34), none⟩,⟨some 10, .mv (.tmp 35), none⟩]
def ins_fill.k12 : LCode := .text [⟨some 36, .mv (.tmp 0), none⟩,⟨some 37, .mv (.tmp 1), none⟩,⟨some 38, .call (.cst (.fn (.func 55) [] [])) [.tmp 36, .tmp 37], none⟩,⟨some 39, .mv (.tmp 9), none⟩,⟨some 40, .nilc (.tmp 38), none⟩,⟨none, .store 1 (.tmp 40) (.tmp 39), none⟩]
def ins_fill.k13 : LCode := .text [⟨some 41, .mv (.tmp 10), none⟩,⟨some 6, .mv (.tmp 41), none⟩]
def ins_fill.k14 : LCode := .seq ins_fill.k11 (.seq ins_fill.k12 (.seq ins_fill.k13 .ret))
def ins_fill.lc : LCode :=
 .seq (.text [⟨some 6, .mv (.cst (.int .i64 0)), none⟩]) (.seq ins_fill.k10 ins_fill.k14)
theorem ins_fill.low : lowFn Tryd.prog 41 = some (42, ins_fill.lc, [.tmp 6]) := by kernel_rfl
def ins_rest.k1 : LCode := .text [⟨some 2, .box (.tmp 0), none⟩,⟨some 3, .box (.tmp 1), none⟩,⟨some 4, .alloc [.int .i64 0, .int .i64 0, .int .i64 0, .int .i64 0, .int .i64 0, .int .i64 0], none⟩]
def ins_rest.k2 : LCode := .text [⟨some 7, .faddr 0 (.tmp 2), none⟩,⟨none, .store 1 (.tmp 7) (.cst (.int .i64 0)), none⟩]
def ins_rest.k3 : LCode := .text [⟨some 8, .faddr 1 (.tmp 3), none⟩,⟨some 9, .load false 1 (.tmp 8), none⟩,⟨some 10, .range (.tmp 9), none⟩]
def ins_rest.k4 : LCode := .text [⟨some 11, .next (.tmp 10), none⟩,⟨some 12, .extract (.tmp 11) 0, none⟩]
def ins_rest.k5 : LCode := .text [⟨some 13, .extract (.tmp 11) 2, none⟩,⟨some 6, .mv (.tmp 13), none⟩]
def ins_rest.k6 : LCode := .text [⟨some 19, .bin .eql .other (.tmp 14) (.cst (.int .i32 78)), none⟩,⟨some 18, .mv (.tmp 19), none⟩]
def ins_rest.k7 : LCode := .text [⟨some 20, .faddr 4 (.tmp 2), none⟩,⟨none, .store 1 (.tmp 20) (.cst (.int .i64 0)), none⟩]
def ins_rest.k8 : LCode := .text [⟨some 22, .bin .eql .other (.tmp 14) (.cst (.int .i32 84)), none⟩,⟨some 21, .mv (.tmp 22), none⟩]
def ins_rest.k9 : LCode := .text [⟨some 23, .faddr 5 (.tmp 2), none⟩,⟨none, .store 1 (.tmp 23) (.cst (.int .i64 0)), none⟩]
def ins_rest.k10 : LCode := .text [⟨some 15, .mv (.tmp 6), none⟩,⟨some 16, .call (.cst (.fn (.func 55) [] [])) [.tmp 2, .tmp 15], none⟩,⟨some 17, .nilc (.tmp 16), none⟩,⟨none, .store 1 (.tmp 17) (.cst (.int .i64 0)), none⟩]
def ins_rest.k11 : LCode := .cond (.tmp 18) ins_rest.k7 (.seq ins_rest.k8 (.cond (.tmp 21) ins_rest.k9 ins_rest.k10))
def ins_rest.k12 : LCode := .seq (.text [⟨some 14, .mv (.tmp 6), none⟩]) (.block 2 (.seq ins_rest.k6 ins_rest.k11))
def ins_rest.k13 : LCode := .seq (.cond (.tmp 12) .skip (.exit 0)) (.block 1 (.seq ins_rest.k5 ins_rest.k12))
def ins_rest.k14 : LCode := .seq ins_rest.k3 (.block 0 (.loop (.seq ins_rest.k4 ins_rest.k13)))
def ins_rest.k15 : LCode := .text [⟨some 24, .load true 6 (.tmp 2), none⟩,⟨none, .store 6 (.tmp 4) (.tmp 24), none⟩]
def ins_rest.k16 : LCode := .seq ins_rest.k2 (.seq ins_rest.k14 (.seq ins_rest.k15 .ret))
def ins_rest.lc : LCode :=
 .seq ins_rest.k1 ins_rest.k16
theorem ins_rest.low : lowFn Tryd.prog 57 = some (25, ins_rest.lc, [.cell 4 true 6]) := by kernel_rfl
def env_Good.k1 : LCode := .text [⟨some 1, .box (.tmp 0), none⟩,⟨some 2, .mv (.cst (.bool false)), none⟩]
def env_Good.k2 : LCode := .text [⟨some 5, .load true 24 (.tmp 1), none⟩,⟨some 6, .mv (.cst (.int .i64 0)), none⟩]
def env_Good.k3 : LCode := .text [⟨some 7, .bin .lss .other (.tmp 6) (.cst (.int .i64 24)), none⟩]
def env_Good.k4 : LCode := .text [⟨some 8, .idxA 24 false 1 (.tmp 5) (.tmp 6), none⟩,⟨some 4, .mv (.tmp 8), none⟩]
def env_Good.k5 : LCode := .text [⟨some 9, .mv (.tmp 4), none⟩,⟨some 10, .call (.cst (.fn (.func 76) [] [])) [.tmp 9], none⟩,⟨some 11, .not (.tmp 10), none⟩]
def env_Good.k6 : LCode := .seq (.text [⟨some 2, .mv (.cst (.bool false)), none⟩]) .ret
def env_Good.k7 : LCode := .seq env_Good.k4 (.seq env_Good.k5 (.cond (.tmp 11) env_Good.k6 .skip))
def env_Good.k8 : LCode := .text [⟨some 12, .bin .add .other (.tmp 6) (.cst (.int .i64 1)), none⟩,⟨some 6, .mv (.tmp 12), none⟩]
def env_Good.k9 : LCode := .seq (.cond (.tmp 7) .skip (.exit 0)) (.seq (.block 1 env_Good.k7) env_Good.k8)
def env_Good.k10 : LCode := .seq env_Good.k2 (.block 0 (.loop (.seq env_Good.k3 env_Good.k9)))
def env_Good.k11 : LCode := .seq env_Good.k10 (.seq (.text [⟨some 2, .mv (.cst (.bool true)), none⟩]) .ret)
def env_Good.lc : LCode :=
 .seq env_Good.k1 env_Good.k11
theorem env_Good.low : lowFn Tryd.prog 73 = some (13, env_Good.lc, [.tmp 2]) := by kernel_rfl
def differ_Tell.k1 : LCode := .text [⟨some 5, .box (.tmp 2), none⟩,⟨some 6, .mv (.cst (.int .i64 0)), none⟩,⟨some 7, .mv (.cst (.int .i64 0)), none⟩]
def differ_Tell.k2 : LCode := .text [⟨some 16, .mv (.tmp 0), none⟩,⟨some 17, .load true 11 (.tmp 5), none⟩,⟨some 18, .call (.cst (.fn (.func 18) [] [])) [.tmp 16, .tmp 17], none⟩,⟨some 15, .mv (.tmp 18), none⟩,⟨some 19, .extract (.tmp 15) 0, none⟩,⟨some 20, .extract (.tmp 15) 1, none⟩,⟨some 8, .alloc [.imm (.slice none 0 0), .int .i64 0, .int .i64 0, .imm (.slice none 0 0), .int .i64 0, .int .i64 0, .bool false], none⟩,⟨none, .store 7 (.tmp 8) (.tmp 19), none⟩,⟨some 9, .mv (.tmp 20), none⟩]
def differ_Tell.k3 : LCode := .text [⟨some 22, .mv (.tmp 1), none⟩,⟨some 23, .load true 11 (.tmp 5), none⟩,⟨some 24, .call (.cst (.fn (.func 18) [] [])) [.tmp 22, .tmp 23], none⟩,⟨some 21, .mv (.tmp 24), none⟩,⟨some 25, .extract (.tmp 21) 0, none⟩,⟨some 26, .extract (.tmp 21) 1, none⟩,⟨some 10, .alloc [.imm (.slice none 0 0), .int .i64 0, .int .i64 0, .imm (.slice none 0 0), .int .i64 0, .int .i64 0, .bool false], none⟩,⟨none, .store 7 (.tmp 10) (.tmp 25), none⟩,⟨some 11, .mv (.tmp 26), none⟩]
def differ_Tell.k4 : LCode := .text [⟨some 27, .mv (.tmp 9), none⟩,⟨some 28, .bin .neq .other (.tmp 27) (.cst (.int .i64 0)), none⟩,⟨some 29, .mv (.tmp 28), none⟩,⟨some 30, .mv (.tmp 11), some (29, false)⟩,⟨some 31, .bin .neq .other (.tmp 30) (.cst (.int .i64 0)), some (29, false)⟩,⟨some 32, .pick (.tmp 29) (.cst (.bool true)) (.tmp 31), none⟩]
def differ_Tell.k5 : LCode := .text [⟨some 6, .mv (.cst (.int .i64 0)), none⟩,⟨some 7, .mv (.cst (.int .i64 1)), none⟩]
def differ_Tell.k6 : LCode := .seq differ_Tell.k4 (.cond (.tmp 32) (.seq differ_Tell.k5 .ret) .skip)
def differ_Tell.k7 : LCode := .any false [⟨some 33, .load true 7 (.tmp 8), none⟩,⟨some 34, .load true 7 (.tmp 10), none⟩,⟨some 35, .call (.cst (.fn (.func 19) [] [])) [.tmp 33, .tmp 34, .cst (.fn (.func 20) [] [])], none⟩,⟨some 36, .not (.tmp 35), none⟩,⟨some 37, .load true 7 (.tmp 8), none⟩,⟨some 38, .load true 7 (.tmp 10), none⟩,⟨some 39, .call (.cst (.fn (.func 19) [] [])) [.tmp 37, .tmp 38, .cst (.fn (.func 22) [] [])], none⟩,⟨some 40, .faddr 0 (.tmp 8), none⟩,⟨some 41, .load true 6 (.tmp 40), none⟩,⟨some 42, .call (.cst (.fn (.func 23) [] [])) [.tmp 41], none⟩,⟨some 43, .mv (.tmp 42), none⟩,⟨some 44, .faddr 0 (.tmp 10), some (43, true)⟩,⟨some 45, .load true 6 (.tmp 44), some (43, true)⟩,⟨some 46, .call (.cst (.fn (.func 23) [] [])) [.tmp 45], some (43, true)⟩,⟨some 47, .pick (.tmp 43) (.tmp 46) (.cst (.bool false)), none⟩,⟨some 48, .mv (.tmp 47), none⟩,⟨some 49, .faddr 0 (.tmp 8), some (48, true)⟩,⟨some 50, .faddr 1 (.tmp 49), some (48, true)⟩,⟨some 51, .faddr 0 (.tmp 50), some (48, true)⟩,⟨some 52, .load false 1 (.tmp 51), some (48, true)⟩,⟨some 53, .faddr 0 (.tmp 10), some (48, true)⟩,⟨some 54, .faddr 1 (.tmp 53), some (48, true)⟩,⟨some 55, .faddr 0 (.tmp 54), some (48, true)⟩,⟨some 56, .load false 1 (.tmp 55), some (48, true)⟩,⟨some 57, .bin .neq .other (.tmp 52) (.tmp 56), some (48, true)⟩,⟨some 58, .mv (.tmp 57), some (48, true)⟩,⟨some 59, .faddr 0 (.tmp 8), some (58, false)⟩,⟨some 60, .faddr 1 (.tmp 59), some (58, false)⟩,⟨some 61, .faddr 1 (.tmp 60), some (58, false)⟩,⟨some 62, .load false 1 (.tmp 61), some (58, false)⟩,⟨some 63, .faddr 0 (.tmp 10), some (58, false)⟩,⟨some 64, .faddr 1 (.tmp 63), some (58, false)⟩,⟨some 65, .faddr 1 (.tmp 64), some (58, false)⟩,⟨some 66, .load false 1 (.tmp 65), some (58, false)⟩,⟨some 67, .bin .neq .other (.tmp 62) (.tmp 66), some (58, false)⟩,⟨some 68, .pick (.tmp 58) (.cst (.bool true)) (.tmp 67), some (48, true)⟩,⟨some 69, .mv (.tmp 68), some (48, true)⟩,⟨some 70, .faddr 0 (.tmp 8), some (69, false)⟩,⟨some 71, .faddr 1 (.tmp 70), some (69, false)⟩,⟨some 72, .faddr 2 (.tmp 71), some (69, false)⟩,⟨some 73, .load false 1 (.tmp 72), some (69, false)⟩,⟨some 74, .faddr 0 (.tmp 10), some (69, false)⟩,⟨some 75, .faddr 1 (.tmp 74), some (69, false)⟩,⟨some 76, .faddr 2 (.tmp 75), some (69, false)⟩,⟨some 77, .load false 1 (.tmp 76), some (69, false)⟩,⟨some 78, .call (.cst (.fn (.func 24) [] [])) [.tmp 73, .tmp 77], some (69, false)⟩,⟨some 79, .not (.tmp 78), some (69, false)⟩,⟨some 80, .pick (.tmp 69) (.cst (.bool true)) (.tmp 79), some (48, true)⟩,⟨some 81, .pick (.tmp 48) (.tmp 80) (.cst (.bool false)), none⟩,⟨some 82, .load true 7 (.tmp 8), none⟩,⟨some 83, .load true 7 (.tmp 10), none⟩,⟨some 84, .call (.cst (.fn (.func 19) [] [])) [.tmp 82, .tmp 83, .cst (.fn (.func 25) [] [])], none⟩,⟨some 85, .bslice 1 [.bool false] 5 [(1, .tmp 36), (2, .tmp 39), (3, .tmp 81), (4, .tmp 84)], none⟩,⟨some 12, .mv (.tmp 85), none⟩] (.both .no (.front 0 (.front 1 (.front 2 (.front 3 (.front 4 (.front 5 (.front 6 (.front 7 (.front 8 (.front 9 (.front 10 (.front 11 (.front 12 (.front 13 (.front 14 (.front 15 (.front 16 (.front 17 (.front 18 (.front 19 (.front 20 (.front 21 (.front 22 (.front 23 (.front 24 (.front 25 (.front 26 (.front 27 (.front 28 (.front 29 (.front 30 (.front 31 (.front 32 (.front 33 (.front 34 (.front 35 (.front 36 (.front 37 (.front 38 (.front 39 (.front 40 (.front 41 (.front 42 (.front 43 (.front 44 (.front 45 (.front 46 (.front 47 (.front 48 (.front 49 (.front 50 (.front 51 (.front 52 (.front 53 .done)))))))))))))))))))))))))))))))))))))))))))))))))))))))
def differ_Tell.k8 : LCode := .text [⟨some 86, .mv (.tmp 12), none⟩,⟨some 87, .len .slice (.tmp 86), none⟩,⟨some 88, .mv (.cst (.int .i64 0)), none⟩]
def differ_Tell.k9 : LCode := .text [⟨some 89, .bin .lss .other (.tmp 88) (.tmp 87), none⟩]
def differ_Tell.k10 : LCode := .text [⟨some 90, .mv (.tmp 88), none⟩,⟨some 91, .iaddrS 1 (.tmp 86) (.tmp 88), none⟩,⟨some 92, .load false 1 (.tmp 91), none⟩,⟨some 13, .mv (.tmp 90), none⟩,⟨some 14, .mv (.tmp 92), none⟩]
def differ_Tell.k11 : LCode := .text [⟨some 94, .mv (.tmp 13), none⟩,⟨some 6, .mv (.tmp 94), none⟩,⟨some 7, .mv (.cst (.int .i64 0)), none⟩]
def differ_Tell.k12 : LCode := .seq (.text [⟨some 93, .mv (.tmp 14), none⟩]) (.cond (.tmp 93) (.seq differ_Tell.k11 .ret) .skip)
def differ_Tell.k13 : LCode := .text [⟨some 95, .bin .add .other (.tmp 88) (.cst (.int .i64 1)), none⟩,⟨some 88, .mv (.tmp 95), none⟩]
def differ_Tell.k14 : LCode := .seq (.block 1 (.seq differ_Tell.k10 differ_Tell.k12)) differ_Tell.k13
def differ_Tell.k15 : LCode := .seq differ_Tell.k9 (.seq (.cond (.tmp 89) .skip (.exit 0)) differ_Tell.k14)
def differ_Tell.k16 : LCode := .text [⟨some 6, .mv (.cst (.int .i64 0)), none⟩,⟨some 7, .mv (.cst (.int .i64 0)), none⟩]
def differ_Tell.k17 : LCode := .seq (.seq differ_Tell.k8 (.block 0 (.loop differ_Tell.k15))) (.seq differ_Tell.k16 .ret)
def differ_Tell.k18 : LCode := .seq differ_Tell.k3 (.seq differ_Tell.k6 (.seq differ_Tell.k7 differ_Tell.k17))
def differ_Tell.lc : LCode :=
 .seq differ_Tell.k1 (.seq differ_Tell.k2 differ_Tell.k18)
theorem differ_Tell.low : lowFn Tryd.prog 10 = some (96, differ_Tell.lc, [.tmp 6, .tmp 7]) := by kernel_rfl
def joineryref06_Same.k1 : LCode := .text [⟨some 6, .mv (.tmp 5), none⟩,⟨some 7, .mv (.tmp 0), none⟩,⟨some 8, .len .slice (.tmp 7), none⟩,⟨some 9, .bin .lss .other (.tmp 6) (.tmp 8), none⟩,⟨some 10, .mv (.tmp 9), none⟩,⟨some 11, .mv (.tmp 5), some (10, true)⟩,⟨some 12, .mv (.tmp 1), some (10, true)⟩,⟨some 13, .len .slice (.tmp 12), some (10, true)⟩,⟨some 14, .bin .lss .other (.tmp 11) (.tmp 13), some (10, true)⟩,⟨some 15, .pick (.tmp 10) (.tmp 14) (.cst (.bool false)), none⟩]
def joineryref06_Same.k2 : LCode := .any true [⟨some 18, .mv (.tmp 0), none⟩,⟨some 19, .mv (.tmp 5), none⟩,⟨some 20, .iaddrS 1 (.tmp 18) (.tmp 19), none⟩,⟨some 21, .load false 1 (.tmp 20), none⟩,⟨some 22, .mv (.tmp 1), none⟩,⟨some 23, .mv (.tmp 5), none⟩,⟨some 24, .iaddrS 1 (.tmp 22) (.tmp 23), none⟩,⟨some 25, .load false 1 (.tmp 24), none⟩,⟨some 26, .bin .neq .other (.tmp 21) (.tmp 25), none⟩] (.both .no .no)
def joineryref06_Same.k3 : LCode := .seq (.text [⟨some 4, .mv (.cst (.bool false)), none⟩]) .ret
def joineryref06_Same.k4 : LCode := .seq joineryref06_Same.k2 (.cond (.tmp 26) joineryref06_Same.k3 .skip)
def joineryref06_Same.k5 : LCode := .text [⟨some 16, .mv (.tmp 5), none⟩,⟨some 17, .bin .add .other (.tmp 16) (.cst (.int .i64 1)), none⟩,⟨some 5, .mv (.tmp 17), none⟩]
def joineryref06_Same.k6 : LCode := .seq (.seq joineryref06_Same.k1 (.cond (.tmp 15) .skip (.exit 0))) (.seq (.block 1 joineryref06_Same.k4) joineryref06_Same.k5)
def joineryref06_Same.k7 : LCode := .seq (.text [⟨some 5, .mv (.cst (.int .i64 0)), none⟩]) (.block 0 (.loop joineryref06_Same.k6))
def joineryref06_Same.k8 : LCode := .text [⟨some 27, .mv (.tmp 0), none⟩,⟨some 28, .len .slice (.tmp 27), none⟩,⟨some 29, .mv (.tmp 1), none⟩,⟨some 30, .len .slice (.tmp 29), none⟩,⟨some 31, .bin .eql .other (.tmp 28) (.tmp 30), none⟩,⟨some 4, .mv (.tmp 31), none⟩]
def joineryref06_Same.lc : LCode :=
 .seq (.text [⟨some 4, .mv (.cst (.bool false)), none⟩]) (.seq joineryref06_Same.k7 (.seq joineryref06_Same.k8 .ret))
theorem joineryref06_Same.low : lowFn Tryd.prog 26 = some (32, joineryref06_Same.lc, [.tmp 4]) := by kernel_rfl
def ins_Check.k1 : LCode := .text [⟨some 2, .box (.tmp 0), none⟩,⟨some 4, .mv (.cst (.int .i64 0)), none⟩]
def ins_Check.k2 : LCode := .text [⟨some 11, .faddr 0 (.tmp 2), none⟩,⟨some 12, .load false 1 (.tmp 11), none⟩,⟨some 13, .call (.cst (.fn (.func 56) [] [])) [.tmp 12], none⟩,⟨some 10, .mv (.tmp 13), none⟩,⟨some 14, .extract (.tmp 10) 0, none⟩,⟨some 15, .extract (.tmp 10) 1, none⟩,⟨some 5, .alloc [.str ⟨#[]⟩, .str ⟨#[]⟩], none⟩,⟨none, .store 2 (.tmp 5) (.tmp 14), none⟩,⟨some 6, .mv (.tmp 15), none⟩]
def ins_Check.k3 : LCode := .text [⟨some 16, .mv (.tmp 6), none⟩,⟨some 17, .not (.tmp 16), none⟩,⟨some 18, .mv (.tmp 17), none⟩,⟨some 19, .load true 6 (.tmp 2), some (18, false)⟩,⟨some 20, .load true 2 (.tmp 5), some (18, false)⟩,⟨some 21, .call (.cst (.fn (.func 57) [] [])) [.tmp 19, .tmp 20], some (18, false)⟩,⟨some 22, .build [.int .i64 0, .int .i64 0, .int .i64 0, .int .i64 0, .int .i64 0, .int .i64 0] [], some (18, false)⟩,⟨some 23, .bin .neq (.cells [.i, .i, .i, .i, .i, .i]) (.tmp 21) (.tmp 22), some (18, false)⟩,⟨some 24, .pick (.tmp 18) (.cst (.bool true)) (.tmp 23), none⟩,⟨some 25, .mv (.tmp 24), none⟩,⟨some 26, .faddr 0 (.tmp 2), some (25, false)⟩,⟨some 27, .load false 1 (.tmp 26), some (25, false)⟩,⟨some 28, .bin .eql .other (.tmp 27) (.cst (.int .i64 15)), some (25, false)⟩,⟨some 29, .mv (.tmp 28), some (25, false)⟩,⟨some 30, .faddr 4 (.tmp 2), some (29, true)⟩,⟨some 31, .load false 1 (.tmp 30), some (29, true)⟩,⟨some 32, .bin .lss .other (.tmp 31) (.cst (.int .i64 0)), some (29, true)⟩,⟨some 33, .mv (.tmp 32), some (29, true)⟩,⟨some 34, .faddr 4 (.tmp 2), some (33, false)⟩,⟨some 35, .load false 1 (.tmp 34), some (33, false)⟩,⟨some 36, .bin .gtr .other (.tmp 35) (.cst (.int .i64 99)), some (33, false)⟩,⟨some 37, .pick (.tmp 33) (.cst (.bool true)) (.tmp 36), some (29, true)⟩,⟨some 38, .pick (.tmp 29) (.tmp 37) (.cst (.bool false)), some (25, false)⟩,⟨some 39, .pick (.tmp 25) (.cst (.bool true)) (.tmp 38), none⟩]
def ins_Check.k4 : LCode := .seq (.text [⟨some 4, .mv (.cst (.int .i64 1)), none⟩]) .ret
def ins_Check.k5 : LCode := .text [⟨some 40, .faddr 1 (.tmp 5), none⟩,⟨some 41, .load false 1 (.tmp 40), none⟩,⟨some 42, .range (.tmp 41), none⟩]
def ins_Check.k6 : LCode := .text [⟨some 43, .next (.tmp 42), none⟩,⟨some 44, .extract (.tmp 43) 0, none⟩]
def ins_Check.k7 : LCode := .text [⟨some 45, .extract (.tmp 43) 2, none⟩,⟨some 9, .mv (.tmp 45), none⟩]
def ins_Check.k8 : LCode := .text [⟨some 47, .mv (.tmp 9), none⟩,⟨some 48, .bin .eql .other (.tmp 47) (.cst (.int .i32 78)), none⟩,⟨some 46, .mv (.tmp 48), none⟩]
def ins_Check.k9 : LCode := .text [⟨some 50, .mv (.tmp 9), none⟩,⟨some 51, .bin .eql .other (.tmp 50) (.cst (.int .i32 84)), none⟩,⟨some 49, .mv (.tmp 51), none⟩]
def ins_Check.k10 : LCode := .text [⟨some 52, .faddr 5 (.tmp 2), none⟩,⟨some 53, .load false 1 (.tmp 52), none⟩,⟨some 54, .bin .lss .other (.tmp 53) (.cst (.int .i64 0)), none⟩,⟨some 55, .mv (.tmp 54), none⟩,⟨some 56, .faddr 5 (.tmp 2), some (55, false)⟩,⟨some 57, .load false 1 (.tmp 56), some (55, false)⟩,⟨some 58, .mv (.tmp 1), some (55, false)⟩,⟨some 59, .bin .geq .other (.tmp 57) (.tmp 58), some (55, false)⟩,⟨some 60, .pick (.tmp 55) (.cst (.bool true)) (.tmp 59), none⟩,⟨some 7, .mv (.tmp 60), none⟩]
def ins_Check.k11 : LCode := .text [⟨some 62, .mv (.tmp 9), none⟩,⟨some 63, .bin .geq .other (.tmp 62) (.cst (.int .i32 97)), none⟩,⟨some 64, .mv (.tmp 63), none⟩,⟨some 65, .mv (.tmp 9), some (64, true)⟩,⟨some 66, .call (.cst (.fn (.func 55) [] [])) [.tmp 2, .tmp 65], some (64, true)⟩,⟨some 67, .nilc (.tmp 66), some (64, true)⟩,⟨some 68, .load false 1 (.tmp 67), some (64, true)⟩,⟨some 69, .call (.cst (.fn (.func 58) [] [])) [.tmp 68], some (64, true)⟩,⟨some 70, .not (.tmp 69), some (64, true)⟩,⟨some 71, .pick (.tmp 64) (.tmp 70) (.cst (.bool false)), none⟩,⟨some 61, .mv (.tmp 71), none⟩]
def ins_Check.k12 : LCode := .text [⟨some 72, .mv (.tmp 9), none⟩,⟨some 73, .bin .lss .other (.tmp 72) (.cst (.int .i32 97)), none⟩,⟨some 74, .mv (.tmp 73), none⟩,⟨some 75, .mv (.tmp 9), some (74, true)⟩,⟨some 76, .call (.cst (.fn (.func 55) [] [])) [.tmp 2, .tmp 75], some (74, true)⟩,⟨some 77, .nilc (.tmp 76), some (74, true)⟩,⟨some 78, .load false 1 (.tmp 77), some (74, true)⟩,⟨some 79, .call (.cst (.fn (.func 59) [] [])) [.tmp 78], some (74, true)⟩,⟨some 80, .not (.tmp 79), some (74, true)⟩,⟨some 81, .pick (.tmp 74) (.tmp 80) (.cst (.bool false)), none⟩,⟨some 61, .mv (.tmp 81), none⟩]
def ins_Check.k13 : LCode := .seq (.text [⟨some 4, .mv (.cst (.int .i64 6)), none⟩]) .ret
def ins_Check.k14 : LCode := .seq (.seq ins_Check.k11 (.cond (.tmp 61) .skip ins_Check.k12)) (.cond (.tmp 61) ins_Check.k13 .skip)
def ins_Check.k15 : LCode := .seq ins_Check.k9 (.cond (.tmp 49) ins_Check.k10 ins_Check.k14)
def ins_Check.k16 : LCode := .block 2 (.seq ins_Check.k8 (.cond (.tmp 46) .skip ins_Check.k15))
def ins_Check.k17 : LCode := .seq (.cond (.tmp 44) .skip (.exit 0)) (.block 1 (.seq ins_Check.k7 ins_Check.k16))
def ins_Check.k18 : LCode := .seq ins_Check.k5 (.block 0 (.loop (.seq ins_Check.k6 ins_Check.k17)))
def ins_Check.k19 : LCode := .seq (.text [⟨some 4, .mv (.cst (.int .i64 4)), none⟩]) .ret
def ins_Check.k20 : LCode := .seq (.text [⟨some 82, .mv (.tmp 7), none⟩]) (.cond (.tmp 82) ins_Check.k19 .skip)
def ins_Check.k21 : LCode := .seq (.text [⟨some 4, .mv (.cst (.int .i64 0)), none⟩]) .ret
def ins_Check.k22 : LCode := .seq (.text [⟨some 7, .mv (.cst (.bool false)), none⟩]) (.seq ins_Check.k18 (.seq ins_Check.k20 ins_Check.k21))
def ins_Check.k23 : LCode := .seq (.seq ins_Check.k3 (.cond (.tmp 39) ins_Check.k4 .skip)) ins_Check.k22
def ins_Check.lc : LCode :=
 .seq ins_Check.k1 (.seq ins_Check.k2 ins_Check.k23)
theorem ins_Check.low : lowFn Tryd.prog 42 = some (83, ins_Check.lc, [.tmp 4]) := by kernel_rfl
def loc_Right.k1 : LCode := .text [⟨some 3, .mv (.tmp 0), none⟩,⟨some 4, .bin .geq .other (.tmp 3) (.cst (.int .i64 0)), none⟩,⟨some 5, .mv (.tmp 4), none⟩,⟨some 6, .mv (.tmp 0), some (5, true)⟩,⟨some 7, .bin .lss .other (.tmp 6) (.cst (.int .i64 24)), some (5, true)⟩,⟨some 8, .pick (.tmp 5) (.tmp 7) (.cst (.bool false)), none⟩,⟨some 2, .mv (.tmp 8), none⟩]
def loc_Right.lc : LCode :=
 .seq (.text [⟨some 2, .mv (.cst (.bool false)), none⟩]) (.seq loc_Right.k1 .ret)
theorem loc_Right.low : lowFn Tryd.prog 58 = some (9, loc_Right.lc, [.tmp 2]) := by kernel_rfl
def heap_in.k1 : LCode := .text [⟨some 5, .mv (.tmp 0), none⟩,⟨some 6, .call (.cst (.fn (.func 60) [] [])) [.tmp 5], none⟩,⟨some 7, .mv (.tmp 6), none⟩,⟨some 8, .mv (.tmp 1), some (7, true)⟩,⟨some 9, .bin .geq .other (.tmp 8) (.cst (.int .i64 0)), some (7, true)⟩,⟨some 10, .pick (.tmp 7) (.tmp 9) (.cst (.bool false)), none⟩,⟨some 11, .mv (.tmp 10), none⟩,⟨some 12, .mv (.tmp 1), some (11, true)⟩,⟨some 13, .mv (.tmp 0), some (11, true)⟩,⟨some 14, .len .slice (.tmp 13), some (11, true)⟩,⟨some 15, .bin .lss .other (.tmp 12) (.tmp 14), some (11, true)⟩,⟨some 16, .pick (.tmp 11) (.tmp 15) (.cst (.bool false)), none⟩,⟨some 4, .mv (.tmp 16), none⟩]
def heap_in.lc : LCode :=
 .seq (.text [⟨some 4, .mv (.cst (.bool false)), none⟩]) (.seq heap_in.k1 .ret)
theorem heap_in.low : lowFn Tryd.prog 74 = some (17, heap_in.lc, [.tmp 4]) := by kernel_rfl
def joineryref17_Same.k1 : LCode := .text [⟨some 2, .box (.tmp 0), none⟩,⟨some 3, .box (.tmp 1), none⟩,⟨some 4, .mv (.cst (.bool false)), none⟩]
def joineryref17_Same.k2 : LCode := .text [⟨some 6, .mv (.tmp 5), none⟩,⟨some 7, .bin .lss .other (.tmp 6) (.cst (.int .i64 8)), none⟩]
def joineryref17_Same.k3 : LCode := .any true [⟨some 10, .mv (.tmp 5), none⟩,⟨some 11, .faddr 0 (.tmp 2), none⟩,⟨some 12, .iaddrA 8 1 (.tmp 11) (.tmp 10), none⟩,⟨some 13, .load false 1 (.tmp 12), none⟩,⟨some 14, .mv (.tmp 5), none⟩,⟨some 15, .faddr 0 (.tmp 3), none⟩,⟨some 16, .iaddrA 8 1 (.tmp 15) (.tmp 14), none⟩,⟨some 17, .load false 1 (.tmp 16), none⟩,⟨some 18, .bin .neq .other (.tmp 13) (.tmp 17), none⟩] (.both .no .no)
def joineryref17_Same.k4 : LCode := .seq (.text [⟨some 4, .mv (.cst (.bool false)), none⟩]) .ret
def joineryref17_Same.k5 : LCode := .seq joineryref17_Same.k3 (.cond (.tmp 18) joineryref17_Same.k4 .skip)
def joineryref17_Same.k6 : LCode := .text [⟨some 8, .mv (.tmp 5), none⟩,⟨some 9, .bin .add .other (.tmp 8) (.cst (.int .i64 1)), none⟩,⟨some 5, .mv (.tmp 9), none⟩]
def joineryref17_Same.k7 : LCode := .seq (.seq joineryref17_Same.k2 (.cond (.tmp 7) .skip (.exit 0))) (.seq (.block 1 joineryref17_Same.k5) joineryref17_Same.k6)
def joineryref17_Same.k8 : LCode := .seq (.text [⟨some 5, .mv (.cst (.int .i64 0)), none⟩]) (.block 0 (.loop joineryref17_Same.k7))
def joineryref17_Same.k9 : LCode := .text [⟨some 19, .faddr 8 (.tmp 2), none⟩,⟨some 20, .load false 1 (.tmp 19), none⟩,⟨some 21, .faddr 8 (.tmp 3), none⟩,⟨some 22, .load false 1 (.tmp 21), none⟩,⟨some 23, .call (.cst (.fn (.func 26) [] [])) [.tmp 20, .tmp 22], none⟩,⟨some 24, .mv (.tmp 23), none⟩,⟨some 25, .faddr 9 (.tmp 2), some (24, true)⟩,⟨some 26, .load false 1 (.tmp 25), some (24, true)⟩,⟨some 27, .faddr 9 (.tmp 3), some (24, true)⟩,⟨some 28, .load false 1 (.tmp 27), some (24, true)⟩,⟨some 29, .call (.cst (.fn (.func 26) [] [])) [.tmp 26, .tmp 28], some (24, true)⟩,⟨some 30, .pick (.tmp 24) (.tmp 29) (.cst (.bool false)), none⟩,⟨some 31, .mv (.tmp 30), none⟩,⟨some 32, .faddr 10 (.tmp 2), some (31, true)⟩,⟨some 33, .load false 1 (.tmp 32), some (31, true)⟩,⟨some 34, .faddr 10 (.tmp 3), some (31, true)⟩,⟨some 35, .load false 1 (.tmp 34), some (31, true)⟩,⟨some 36, .bin .eql .other (.tmp 33) (.tmp 35), some (31, true)⟩,⟨some 37, .pick (.tmp 31) (.tmp 36) (.cst (.bool false)), none⟩,⟨some 4, .mv (.tmp 37), none⟩]
def joineryref17_Same.lc : LCode :=
 .seq joineryref17_Same.k1 (.seq joineryref17_Same.k8 (.seq joineryref17_Same.k9 .ret))
theorem joineryref17_Same.low : lowFn Tryd.prog 11 = some (38, joineryref17_Same.lc, [.tmp 4]) := by kernel_rfl
def joineryref04_Check.k1 : LCode := .text [⟨some 2, .mv (.cst (.int .i64 0)), none⟩,⟨some 3, .mv (.cst (.int .i64 0)), none⟩]
def joineryref04_Check.k2 : LCode := .text [⟨some 7, .mv (.tmp 0), none⟩,⟨some 8, .len .slice (.tmp 7), none⟩,⟨some 9, .bin .gtr .other (.tmp 8) (.cst (.int .i64 200)), none⟩]
def joineryref04_Check.k3 : LCode := .text [⟨some 2, .mv (.cst (.int .i64 0)), none⟩,⟨some 3, .mv (.cst (.int .i64 3)), none⟩]
def joineryref04_Check.k4 : LCode := .seq joineryref04_Check.k2 (.cond (.tmp 9) (.seq joineryref04_Check.k3 .ret) .skip)
def joineryref04_Check.k5 : LCode := .text [⟨some 10, .mv (.tmp 0), none⟩,⟨some 11, .len .slice (.tmp 10), none⟩,⟨some 12, .bin .eql .other (.tmp 11) (.cst (.int .i64 0)), none⟩]
def joineryref04_Check.k6 : LCode := .text [⟨some 2, .mv (.cst (.int .i64 0)), none⟩,⟨some 3, .mv (.cst (.int .i64 5)), none⟩]
def joineryref04_Check.k7 : LCode := .seq joineryref04_Check.k5 (.cond (.tmp 12) (.seq joineryref04_Check.k6 .ret) .skip)
def joineryref04_Check.k8 : LCode := .text [⟨some 13, .mv (.tmp 4), none⟩,⟨some 14, .mv (.tmp 0), none⟩,⟨some 15, .len .slice (.tmp 14), none⟩,⟨some 16, .bin .lss .other (.tmp 13) (.tmp 15), none⟩]
def joineryref04_Check.k9 : LCode := .seq joineryref04_Check.k8 (.cond (.tmp 16) .skip (.exit 0))
def joineryref04_Check.k10 : LCode := .text [⟨some 19, .mv (.tmp 0), none⟩,⟨some 20, .mv (.tmp 4), none⟩,⟨some 21, .iaddrS 6 (.tmp 19) (.tmp 20), none⟩,⟨some 22, .load true 6 (.tmp 21), none⟩,⟨some 23, .mv (.tmp 0), none⟩,⟨some 24, .len .slice (.tmp 23), none⟩,⟨some 25, .call (.cst (.fn (.func 38) [] [])) [.tmp 22, .tmp 24], none⟩,⟨some 5, .mv (.tmp 25), none⟩]
def joineryref04_Check.k11 : LCode := .text [⟨some 26, .mv (.tmp 5), none⟩,⟨some 27, .bin .neq .other (.tmp 26) (.cst (.int .i64 0)), none⟩]
def joineryref04_Check.k12 : LCode := .text [⟨some 28, .mv (.tmp 4), none⟩,⟨some 29, .mv (.tmp 5), none⟩,⟨some 2, .mv (.tmp 28), none⟩,⟨some 3, .mv (.tmp 29), none⟩]
def joineryref04_Check.k13 : LCode := .seq joineryref04_Check.k11 (.cond (.tmp 27) (.seq joineryref04_Check.k12 .ret) .skip)
def joineryref04_Check.k14 : LCode := .block 1 (.seq joineryref04_Check.k10 joineryref04_Check.k13)
def joineryref04_Check.k15 : LCode := .text [⟨some 17, .mv (.tmp 4), none⟩,⟨some 18, .bin .add .other (.tmp 17) (.cst (.int .i64 1)), none⟩,⟨some 4, .mv (.tmp 18), none⟩]
def joineryref04_Check.k16 : LCode := .seq joineryref04_Check.k9 (.seq joineryref04_Check.k14 joineryref04_Check.k15)
def joineryref04_Check.k17 : LCode := .seq (.text [⟨some 4, .mv (.cst (.int .i64 0)), none⟩]) (.block 0 (.loop joineryref04_Check.k16))
def joineryref04_Check.k18 : LCode := .text [⟨some 30, .mv (.tmp 0), none⟩,⟨some 31, .mv (.tmp 0), none⟩,⟨some 32, .len .slice (.tmp 31), none⟩,⟨some 33, .bin .sub .other (.tmp 32) (.cst (.int .i64 1)), none⟩,⟨some 34, .iaddrS 6 (.tmp 30) (.tmp 33), none⟩,⟨some 35, .faddr 0 (.tmp 34), none⟩,⟨some 36, .load false 1 (.tmp 35), none⟩,⟨some 6, .mv (.tmp 36), none⟩]
def joineryref04_Check.k19 : LCode := .text [⟨some 37, .mv (.tmp 6), none⟩,⟨some 38, .bin .eql .other (.tmp 37) (.cst (.int .i64 16)), none⟩,⟨some 39, .mv (.tmp 38), none⟩,⟨some 40, .mv (.tmp 6), some (39, false)⟩,⟨some 41, .bin .eql .other (.tmp 40) (.cst (.int .i64 18)), some (39, false)⟩,⟨some 42, .pick (.tmp 39) (.cst (.bool true)) (.tmp 41), none⟩]
def joineryref04_Check.k20 : LCode := .text [⟨some 2, .mv (.cst (.int .i64 0)), none⟩,⟨some 3, .mv (.cst (.int .i64 0)), none⟩]
def joineryref04_Check.k21 : LCode := .seq joineryref04_Check.k19 (.cond (.tmp 42) (.seq joineryref04_Check.k20 .ret) .skip)
def joineryref04_Check.k22 : LCode := .text [⟨some 43, .mv (.tmp 0), none⟩,⟨some 44, .len .slice (.tmp 43), none⟩,⟨some 45, .bin .sub .other (.tmp 44) (.cst (.int .i64 1)), none⟩,⟨some 2, .mv (.tmp 45), none⟩,⟨some 3, .mv (.cst (.int .i64 5)), none⟩]
def joineryref04_Check.k23 : LCode := .seq joineryref04_Check.k21 (.seq joineryref04_Check.k22 .ret)
def joineryref04_Check.k24 : LCode := .seq joineryref04_Check.k17 (.seq joineryref04_Check.k18 joineryref04_Check.k23)
def joineryref04_Check.k25 : LCode := .seq joineryref04_Check.k4 (.seq joineryref04_Check.k7 joineryref04_Check.k24)
def joineryref04_Check.lc : LCode :=
 .seq joineryref04_Check.k1 joineryref04_Check.k25
theorem joineryref04_Check.low : lowFn Tryd.prog 27 = some (46, joineryref04_Check.lc, [.tmp 2, .tmp 3]) := by kernel_rfl
end Go.Proofs.YtnbdpjhmepgoaaaDoor
