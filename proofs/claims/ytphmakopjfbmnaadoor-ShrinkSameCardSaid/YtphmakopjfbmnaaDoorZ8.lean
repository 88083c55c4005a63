/-
  Texts of this claim, put together.
-/
import Derived.Test.YtphmakopjfbmnaaDoorProg
import Derived.KernelRfl
import Derived.Test.YtphmakopjfbmnaaDoorZ7
namespace Go.Proofs.YtphmakopjfbmnaaDoor
set_option maxRecDepth 100000
def ins_Parse.k1 : LCode := .text [⟨some 2, .alloc [.int .i64 0, .int .i64 0, .int .i64 0, .int .i64 0, .int .i64 0, .int .i64 0], none⟩,⟨some 3, .mv (.cst (.int .i64 0)), none⟩]
def ins_Parse.k2 : LCode := .text [⟨some 11, .mv (.tmp 0), none⟩,⟨some 12, .call (.cst (.fn (.func 32) [] [])) [.tmp 11], none⟩,⟨some 4, .mv (.tmp 12), none⟩]
def ins_Parse.k3 : LCode := .text [⟨some 13, .load true 36 (.cst (.lptr (shapeTbl.flatMap fun p => [.str p.1, .str p.2]) 0)), none⟩,⟨some 14, .mv (.cst (.int .i64 0)), none⟩]
def ins_Parse.k4 : LCode := .text [⟨some 15, .bin .lss .other (.tmp 14) (.cst (.int .i64 18)), none⟩]
def ins_Parse.k5 : LCode := .text [⟨some 16, .mv (.tmp 14), none⟩,⟨some 17, .idxA 18 true 2 (.tmp 13) (.tmp 14), none⟩,⟨some 6, .alloc [.str ⟨#[]⟩, .str ⟨#[]⟩], none⟩,⟨some 5, .mv (.tmp 16), none⟩,⟨none, .store 2 (.tmp 6) (.tmp 17), none⟩]
def ins_Parse.k6 : LCode := .any true [⟨some 18, .faddr 0 (.tmp 6), none⟩,⟨some 19, .load false 1 (.tmp 18), none⟩,⟨some 20, .mv (.tmp 4), none⟩,⟨some 21, .iaddrS 1 (.tmp 20) (.cst (.int .i64 0)), none⟩,⟨some 22, .load false 1 (.tmp 21), none⟩,⟨some 23, .bin .neq .other (.tmp 19) (.tmp 22), none⟩,⟨some 24, .mv (.tmp 23), none⟩,⟨some 25, .faddr 1 (.tmp 6), some (24, false)⟩,⟨some 26, .load false 1 (.tmp 25), some (24, false)⟩,⟨some 27, .len .str (.tmp 26), some (24, false)⟩,⟨some 28, .mv (.tmp 4), some (24, false)⟩,⟨some 29, .len .slice (.tmp 28), some (24, false)⟩,⟨some 30, .bin .sub .other (.tmp 29) (.cst (.int .i64 1)), some (24, false)⟩,⟨some 31, .bin .neq .other (.tmp 27) (.tmp 30), some (24, false)⟩,⟨some 32, .pick (.tmp 24) (.cst (.bool true)) (.tmp 31), none⟩] (.both .no .no)
def ins_Parse.k7 : LCode := .text [⟨some 33, .mv (.tmp 5), none⟩,⟨some 34, .bin .add .other (.cst (.int .i64 1)) (.tmp 33), none⟩,⟨some 35, .build [.int .i64 0, .int .i64 0, .int .i64 0, .int .i64 0, .int .i64 0, .int .i64 0] [(0, 1, .tmp 34)], none⟩,⟨some 7, .alloc [.int .i64 0, .int .i64 0, .int .i64 0, .int .i64 0, .int .i64 0, .int .i64 0], none⟩,⟨none, .store 6 (.tmp 7) (.tmp 35), none⟩]
def ins_Parse.k8 : LCode := .text [⟨some 36, .faddr 1 (.tmp 6), none⟩,⟨some 37, .load false 1 (.tmp 36), none⟩,⟨some 38, .range (.tmp 37), none⟩]
def ins_Parse.k9 : LCode := .text [⟨some 39, .next (.tmp 38), none⟩,⟨some 40, .extract (.tmp 39) 0, none⟩]
def ins_Parse.k10 : LCode := .text [⟨some 41, .extract (.tmp 39) 1, none⟩,⟨some 42, .extract (.tmp 39) 2, none⟩,⟨some 8, .mv (.tmp 41), none⟩,⟨some 9, .mv (.tmp 42), none⟩]
def ins_Parse.k11 : LCode := .text [⟨some 43, .mv (.tmp 9), none⟩,⟨some 44, .mv (.tmp 4), none⟩,⟨some 45, .mv (.tmp 8), none⟩,⟨some 46, .bin .add .other (.tmp 45) (.cst (.int .i64 1)), none⟩,⟨some 47, .iaddrS 1 (.tmp 44) (.tmp 46), none⟩,⟨some 48, .load false 1 (.tmp 47), none⟩,⟨some 49, .call (.cst (.fn (.func 33) [] [])) [.tmp 7, .tmp 43, .tmp 48], none⟩,⟨some 10, .mv (.tmp 49), none⟩]
def ins_Parse.k12 : LCode := .text [⟨some 50, .mv (.tmp 10), none⟩,⟨some 51, .bin .neq .other (.tmp 50) (.cst (.int .i64 0)), none⟩]
def ins_Parse.k13 : LCode := .text [⟨some 52, .build [.int .i64 0, .int .i64 0, .int .i64 0, .int .i64 0, .int .i64 0, .int .i64 0] [], none⟩,⟨none, .store 6 (.tmp 2) (.tmp 52), none⟩,⟨some 3, .mv (.cst (.int .i64 2)), none⟩]
def ins_Parse.k14 : LCode := .seq ins_Parse.k12 (.cond (.tmp 51) (.seq ins_Parse.k13 .ret) .skip)
def ins_Parse.k15 : LCode := .block 3 (.seq ins_Parse.k10 (.seq ins_Parse.k11 ins_Parse.k14))
def ins_Parse.k16 : LCode := .seq ins_Parse.k9 (.seq (.cond (.tmp 40) .skip (.exit 2)) ins_Parse.k15)
def ins_Parse.k17 : LCode := .text [⟨some 53, .load true 6 (.tmp 7), none⟩,⟨some 54, .call (.cst (.fn (.func 34) [] [])) [.tmp 53, .cst (.int .i64 200)], none⟩,⟨some 55, .bin .neq .other (.tmp 54) (.cst (.int .i64 0)), none⟩]
def ins_Parse.k18 : LCode := .text [⟨some 56, .load true 6 (.tmp 7), none⟩,⟨none, .store 6 (.tmp 2) (.tmp 56), none⟩,⟨some 3, .mv (.cst (.int .i64 0)), none⟩]
def ins_Parse.k19 : LCode := .seq (.seq ins_Parse.k17 (.cond (.tmp 55) (.exit 0) .skip)) (.seq ins_Parse.k18 .ret)
def ins_Parse.k20 : LCode := .seq (.seq ins_Parse.k8 (.block 2 (.loop ins_Parse.k16))) ins_Parse.k19
def ins_Parse.k21 : LCode := .seq (.seq ins_Parse.k6 (.cond (.tmp 32) (.exit 1) .skip)) (.seq ins_Parse.k7 ins_Parse.k20)
def ins_Parse.k22 : LCode := .text [⟨some 57, .bin .add .other (.tmp 14) (.cst (.int .i64 1)), none⟩,⟨some 14, .mv (.tmp 57), none⟩]
def ins_Parse.k23 : LCode := .seq (.block 1 (.seq ins_Parse.k5 ins_Parse.k21)) ins_Parse.k22
def ins_Parse.k24 : LCode := .seq ins_Parse.k4 (.seq (.cond (.tmp 15) .skip (.exit 0)) ins_Parse.k23)
def ins_Parse.k25 : LCode := .text [⟨some 58, .build [.int .i64 0, .int .i64 0, .int .i64 0, .int .i64 0, .int .i64 0, .int .i64 0] [], none⟩,⟨none, .store 6 (.tmp 2) (.tmp 58), none⟩,⟨some 3, .mv (.cst (.int .i64 2)), none⟩]
def ins_Parse.k26 : LCode := .seq (.seq ins_Parse.k3 (.block 0 (.loop ins_Parse.k24))) (.seq ins_Parse.k25 .ret)
def ins_Parse.lc : LCode :=
 .seq ins_Parse.k1 (.seq ins_Parse.k2 ins_Parse.k26)
theorem ins_Parse.low : lowFn Tryd.prog 28 = some (59, ins_Parse.lc, [.cell 2 true 6, .tmp 3]) := by kernel_rfl
def loc_Parse.k1 : LCode := .text [⟨some 2, .mv (.cst (.int .i64 0)), none⟩,⟨some 3, .mv (.cst (.int .i64 0)), none⟩]
def loc_Parse.k2 : LCode := .text [⟨some 4, .mv (.cst (.int .i64 0)), none⟩,⟨some 5, .mv (.cst (.int .i64 0)), none⟩,⟨some 6, .mv (.cst (.int .i64 0)), none⟩]
def loc_Parse.k3 : LCode := .text [⟨some 9, .mv (.tmp 0), none⟩,⟨some 10, .range (.tmp 9), none⟩]
def loc_Parse.k4 : LCode := .text [⟨some 11, .next (.tmp 10), none⟩,⟨some 12, .extract (.tmp 11) 0, none⟩]
def loc_Parse.k5 : LCode := .text [⟨some 13, .extract (.tmp 11) 1, none⟩,⟨some 14, .extract (.tmp 11) 2, none⟩,⟨some 7, .mv (.tmp 13), none⟩,⟨some 8, .mv (.tmp 14), none⟩]
def loc_Parse.k6 : LCode := .text [⟨some 22, .mv (.tmp 7), none⟩,⟨some 23, .bin .eql .other (.tmp 22) (.cst (.int .i64 0)), none⟩,⟨some 24, .mv (.tmp 23), none⟩,⟨some 25, .mv (.tmp 8), some (24, true)⟩,⟨some 26, .bin .eql .other (.tmp 25) (.cst (.int .i32 114)), some (24, true)⟩,⟨some 27, .pick (.tmp 24) (.tmp 26) (.cst (.bool false)), none⟩,⟨some 21, .mv (.tmp 27), none⟩]
def loc_Parse.k7 : LCode := .text [⟨some 29, .mv (.tmp 7), none⟩,⟨some 30, .bin .eql .other (.tmp 29) (.cst (.int .i64 0)), none⟩,⟨some 31, .mv (.tmp 30), none⟩,⟨some 32, .mv (.tmp 8), some (31, true)⟩,⟨some 33, .bin .eql .other (.tmp 32) (.cst (.int .i32 115)), some (31, true)⟩,⟨some 34, .pick (.tmp 31) (.tmp 33) (.cst (.bool false)), none⟩,⟨some 28, .mv (.tmp 34), none⟩]
def loc_Parse.k8 : LCode := .text [⟨some 4, .mv (.cst (.int .i64 8)), none⟩,⟨some 6, .mv (.cst (.int .i64 16)), none⟩]
def loc_Parse.k9 : LCode := .text [⟨some 36, .mv (.tmp 7), none⟩,⟨some 37, .bin .eql .other (.tmp 36) (.cst (.int .i64 0)), none⟩,⟨some 38, .mv (.tmp 37), none⟩,⟨some 39, .mv (.tmp 7), some (38, false)⟩,⟨some 40, .bin .gtr .other (.tmp 39) (.cst (.int .i64 2)), some (38, false)⟩,⟨some 41, .pick (.tmp 38) (.cst (.bool true)) (.tmp 40), none⟩,⟨some 42, .mv (.tmp 41), none⟩,⟨some 43, .mv (.tmp 8), some (42, false)⟩,⟨some 44, .bin .lss .other (.tmp 43) (.cst (.int .i32 48)), some (42, false)⟩,⟨some 45, .pick (.tmp 42) (.cst (.bool true)) (.tmp 44), none⟩,⟨some 46, .mv (.tmp 45), none⟩,⟨some 47, .mv (.tmp 8), some (46, false)⟩,⟨some 48, .bin .gtr .other (.tmp 47) (.cst (.int .i32 57)), some (46, false)⟩,⟨some 49, .pick (.tmp 46) (.cst (.bool true)) (.tmp 48), none⟩,⟨some 50, .mv (.tmp 49), none⟩,⟨some 51, .mv (.tmp 7), some (50, false)⟩,⟨some 52, .bin .eql .other (.tmp 51) (.cst (.int .i64 2)), some (50, false)⟩,⟨some 53, .mv (.tmp 52), some (50, false)⟩,⟨some 54, .mv (.tmp 5), some (53, true)⟩,⟨some 55, .bin .eql .other (.tmp 54) (.cst (.int .i64 0)), some (53, true)⟩,⟨some 56, .pick (.tmp 53) (.tmp 55) (.cst (.bool false)), some (50, false)⟩,⟨some 57, .pick (.tmp 50) (.cst (.bool true)) (.tmp 56), none⟩,⟨some 35, .mv (.tmp 57), none⟩]
def loc_Parse.k10 : LCode := .text [⟨some 2, .mv (.cst (.int .i64 0)), none⟩,⟨some 3, .mv (.cst (.int .i64 2)), none⟩]
def loc_Parse.k11 : LCode := .text [⟨some 15, .mv (.tmp 5), none⟩,⟨some 16, .bin .mul .other (.tmp 15) (.cst (.int .i64 10)), none⟩,⟨some 17, .mv (.tmp 8), none⟩,⟨some 18, .bin .sub .other (.tmp 17) (.cst (.int .i32 48)), none⟩,⟨some 19, .toInt .i64 (.tmp 18), none⟩,⟨some 20, .bin .add .other (.tmp 16) (.tmp 19), none⟩,⟨some 5, .mv (.tmp 20), none⟩]
def loc_Parse.k12 : LCode := .seq loc_Parse.k9 (.cond (.tmp 35) (.seq loc_Parse.k10 .ret) loc_Parse.k11)
def loc_Parse.k13 : LCode := .seq loc_Parse.k7 (.cond (.tmp 28) loc_Parse.k8 loc_Parse.k12)
def loc_Parse.k14 : LCode := .cond (.tmp 21) (.text [⟨some 6, .mv (.cst (.int .i64 8)), none⟩]) loc_Parse.k13
def loc_Parse.k15 : LCode := .seq loc_Parse.k5 (.block 2 (.seq loc_Parse.k6 loc_Parse.k14))
def loc_Parse.k16 : LCode := .seq (.cond (.tmp 12) .skip (.exit 0)) (.block 1 loc_Parse.k15)
def loc_Parse.k17 : LCode := .seq loc_Parse.k3 (.block 0 (.loop (.seq loc_Parse.k4 loc_Parse.k16)))
def loc_Parse.k18 : LCode := .text [⟨some 58, .mv (.tmp 0), none⟩,⟨some 59, .len .str (.tmp 58), none⟩,⟨some 60, .bin .lss .other (.tmp 59) (.cst (.int .i64 2)), none⟩,⟨some 61, .mv (.tmp 60), none⟩,⟨some 62, .mv (.tmp 5), some (61, false)⟩,⟨some 63, .mv (.tmp 6), some (61, false)⟩,⟨some 64, .bin .geq .other (.tmp 62) (.tmp 63), some (61, false)⟩,⟨some 65, .pick (.tmp 61) (.cst (.bool true)) (.tmp 64), none⟩]
def loc_Parse.k19 : LCode := .text [⟨some 2, .mv (.cst (.int .i64 0)), none⟩,⟨some 3, .mv (.cst (.int .i64 2)), none⟩]
def loc_Parse.k20 : LCode := .seq loc_Parse.k18 (.cond (.tmp 65) (.seq loc_Parse.k19 .ret) .skip)
def loc_Parse.k21 : LCode := .text [⟨some 66, .mv (.tmp 4), none⟩,⟨some 67, .mv (.tmp 5), none⟩,⟨some 68, .bin .add .other (.tmp 66) (.tmp 67), none⟩,⟨some 2, .mv (.tmp 68), none⟩,⟨some 3, .mv (.cst (.int .i64 0)), none⟩]
def loc_Parse.k22 : LCode := .seq loc_Parse.k17 (.seq loc_Parse.k20 (.seq loc_Parse.k21 .ret))
def loc_Parse.lc : LCode :=
 .seq loc_Parse.k1 (.seq loc_Parse.k2 loc_Parse.k22)
theorem loc_Parse.low : lowFn Tryd.prog 44 = some (69, loc_Parse.lc, [.tmp 2, .tmp 3]) := by kernel_rfl
def step_work_call.k1 : LCode := .any true [⟨some 5, .mv (.tmp 0), none⟩,⟨some 6, .nilc (.tmp 5), none⟩,⟨some 7, .faddr 0 (.tmp 6), none⟩,⟨some 8, .faddr 50 (.tmp 7), none⟩,⟨some 9, .load false 1 (.tmp 8), none⟩,⟨some 10, .mv (.tmp 0), none⟩,⟨some 11, .nilc (.tmp 10), none⟩,⟨some 12, .faddr 57 (.tmp 11), none⟩,⟨some 13, .load false 1 (.tmp 12), none⟩,⟨some 14, .len .slice (.tmp 13), none⟩,⟨some 15, .bin .geq .other (.tmp 9) (.tmp 14), none⟩] (.both .no .no)
def step_work_call.k2 : LCode := .text [⟨some 16, .mv (.tmp 0), none⟩,⟨some 17, .nilc (.tmp 16), none⟩,⟨some 18, .faddr 59 (.tmp 17), none⟩,⟨none, .store 1 (.tmp 18) (.cst (.int .i64 5)), none⟩]
def step_work_call.k3 : LCode := .seq step_work_call.k1 (.cond (.tmp 15) (.seq step_work_call.k2 .ret) .skip)
def step_work_call.k4 : LCode := .any true [⟨some 19, .mv (.tmp 0), none⟩,⟨some 20, .nilc (.tmp 19), none⟩,⟨some 21, .faddr 57 (.tmp 20), none⟩,⟨some 22, .load false 1 (.tmp 21), none⟩,⟨some 23, .mv (.tmp 0), none⟩,⟨some 24, .nilc (.tmp 23), none⟩,⟨some 25, .faddr 0 (.tmp 24), none⟩,⟨some 26, .faddr 50 (.tmp 25), none⟩,⟨some 27, .load false 1 (.tmp 26), none⟩,⟨some 28, .iaddrS 1 (.tmp 22) (.tmp 27), none⟩,⟨some 29, .load false 1 (.tmp 28), none⟩,⟨some 4, .mv (.tmp 29), none⟩] (.both .no .no)
def step_work_call.k5 : LCode := .text [⟨some 30, .mv (.tmp 0), none⟩,⟨some 31, .mv (.tmp 0), none⟩,⟨some 32, .nilc (.tmp 31), none⟩,⟨some 33, .faddr 51 (.tmp 32), none⟩,⟨some 34, .faddr 4 (.tmp 33), none⟩,⟨some 35, .load false 1 (.tmp 34), none⟩,⟨some 36, .mv (.tmp 1), none⟩,⟨some 37, .mv (.tmp 4), none⟩,⟨some 38, .build [.int .i64 0, .int .i64 0, .int .i64 0] [(0, 1, .tmp 35), (1, 1, .tmp 36), (2, 1, .tmp 37)], none⟩,⟨some 39, .bslice 3 [.int .i64 0, .int .i64 0, .int .i64 0] 1 [(0, .tmp 38)], none⟩,⟨some 40, .nilc (.tmp 30), none⟩,⟨some 41, .faddr 58 (.tmp 40), none⟩,⟨none, .store 1 (.tmp 41) (.tmp 39), none⟩]
def step_work_call.k6 : LCode := .text [⟨some 42, .mv (.tmp 0), none⟩,⟨some 43, .nilc (.tmp 42), none⟩,⟨some 44, .faddr 0 (.tmp 43), none⟩,⟨some 45, .faddr 50 (.tmp 44), none⟩,⟨some 46, .load false 1 (.tmp 45), none⟩,⟨some 47, .bin .add .other (.tmp 46) (.cst (.int .i64 1)), none⟩,⟨some 48, .nilc (.tmp 42), none⟩,⟨some 49, .faddr 0 (.tmp 48), none⟩,⟨some 50, .faddr 50 (.tmp 49), none⟩,⟨none, .store 1 (.tmp 50) (.tmp 47), none⟩]
def step_work_call.k7 : LCode := .text [⟨some 51, .mv (.tmp 0), none⟩,⟨some 52, .mv (.tmp 4), none⟩,⟨some 53, .call (.cst (.fn (.func 57) [] [])) [.tmp 51, .tmp 52, .cst (.int .i64 0)], none⟩]
def step_work_call.k8 : LCode := .seq step_work_call.k5 (.seq step_work_call.k6 step_work_call.k7)
def step_work_call.lc : LCode :=
 .seq step_work_call.k3 (.seq step_work_call.k4 step_work_call.k8)
theorem step_work_call.low : lowFn Tryd.prog 60 = some (54, step_work_call.lc, []) := by kernel_rfl
def num_deeds_9.k1 : LCode := .text [⟨some 5, .mv (.tmp 0), none⟩,⟨some 6, .mv (.tmp 1), none⟩,⟨some 7, .bin .eql .other (.tmp 5) (.tmp 6), none⟩,⟨some 8, .call (.cst (.fn (.func 75) [] [])) [.tmp 7], none⟩,⟨some 4, .mv (.tmp 8), none⟩]
def num_deeds_9.lc : LCode :=
 .seq (.text [⟨some 4, .mv (.cst (.int .i64 0)), none⟩]) (.seq num_deeds_9.k1 .ret)
theorem num_deeds_9.low : lowFn Tryd.prog 76 = some (9, num_deeds_9.lc, [.tmp 4]) := by kernel_rfl
def joinerylaw08_Great.k1 : LCode := .text [⟨some 3, .box (.tmp 1), none⟩,⟨some 4, .mv (.cst (.bool false)), none⟩]
def joinerylaw08_Great.k2 : LCode := .text [⟨some 5, .mv (.tmp 0), none⟩,⟨some 6, .len .slice (.tmp 5), none⟩,⟨some 7, .bin .gtr .other (.tmp 6) (.cst (.int .i64 300)), none⟩,⟨some 8, .mv (.tmp 7), none⟩,⟨some 9, .faddr 8 (.tmp 3), some (8, false)⟩,⟨some 10, .load false 1 (.tmp 9), some (8, false)⟩,⟨some 11, .len .slice (.tmp 10), some (8, false)⟩,⟨some 12, .bin .gtr .other (.tmp 11) (.cst (.int .i64 100)), some (8, false)⟩,⟨some 13, .pick (.tmp 8) (.cst (.bool true)) (.tmp 12), none⟩,⟨some 14, .mv (.tmp 13), none⟩,⟨some 15, .faddr 9 (.tmp 3), some (14, false)⟩,⟨some 16, .load false 1 (.tmp 15), some (14, false)⟩,⟨some 17, .len .slice (.tmp 16), some (14, false)⟩,⟨some 18, .bin .gtr .other (.tmp 17) (.cst (.int .i64 1000)), some (14, false)⟩,⟨some 19, .pick (.tmp 14) (.cst (.bool true)) (.tmp 18), none⟩,⟨some 20, .mv (.tmp 19), none⟩,⟨some 21, .faddr 10 (.tmp 3), some (20, false)⟩,⟨some 22, .load false 1 (.tmp 21), some (20, false)⟩,⟨some 23, .bin .gtr .other (.tmp 22) (.cst (.int .i64 1000)), some (20, false)⟩,⟨some 24, .mv (.tmp 23), some (20, false)⟩,⟨some 25, .faddr 10 (.tmp 3), some (24, true)⟩,⟨some 26, .load false 1 (.tmp 25), some (24, true)⟩,⟨some 27, .bin .leq .other (.tmp 26) (.cst (.int .i64 5000)), some (24, true)⟩,⟨some 28, .pick (.tmp 24) (.tmp 27) (.cst (.bool false)), some (20, false)⟩,⟨some 29, .pick (.tmp 20) (.cst (.bool true)) (.tmp 28), none⟩,⟨some 4, .mv (.tmp 29), none⟩]
def joinerylaw08_Great.lc : LCode :=
 .seq joinerylaw08_Great.k1 (.seq joinerylaw08_Great.k2 .ret)
theorem joinerylaw08_Great.low : lowFn Tryd.prog 13 = some (30, joinerylaw08_Great.lc, [.tmp 4]) := by kernel_rfl
def asm_Check.k1 : LCode := .text [⟨some 2, .mv (.cst (.int .i64 0)), none⟩,⟨some 3, .mv (.cst (.int .i64 0)), none⟩]
def asm_Check.k2 : LCode := .text [⟨some 9, .mv (.tmp 0), none⟩,⟨some 10, .len .slice (.tmp 9), none⟩,⟨some 11, .bin .gtr .other (.tmp 10) (.cst (.int .i64 200)), none⟩,⟨some 8, .mv (.tmp 11), none⟩]
def asm_Check.k3 : LCode := .text [⟨some 2, .mv (.cst (.int .i64 0)), none⟩,⟨some 3, .mv (.cst (.int .i64 3)), none⟩]
def asm_Check.k4 : LCode := .text [⟨some 13, .mv (.tmp 0), none⟩,⟨some 14, .len .slice (.tmp 13), none⟩,⟨some 15, .bin .eql .other (.tmp 14) (.cst (.int .i64 0)), none⟩,⟨some 12, .mv (.tmp 15), none⟩]
def asm_Check.k5 : LCode := .text [⟨some 2, .mv (.cst (.int .i64 0)), none⟩,⟨some 3, .mv (.cst (.int .i64 5)), none⟩]
def asm_Check.k6 : LCode := .seq asm_Check.k4 (.cond (.tmp 12) (.seq asm_Check.k5 .ret) .skip)
def asm_Check.k7 : LCode := .seq asm_Check.k2 (.cond (.tmp 8) (.seq asm_Check.k3 .ret) asm_Check.k6)
def asm_Check.k8 : LCode := .text [⟨some 16, .mv (.tmp 0), none⟩,⟨some 17, .len .slice (.tmp 16), none⟩,⟨some 18, .mv (.cst (.int .i64 0)), none⟩]
def asm_Check.k9 : LCode := .text [⟨some 19, .bin .lss .other (.tmp 18) (.tmp 17), none⟩]
def asm_Check.k10 : LCode := .text [⟨some 20, .mv (.tmp 18), none⟩,⟨some 21, .iaddrS 6 (.tmp 16) (.tmp 18), none⟩,⟨some 22, .load true 6 (.tmp 21), none⟩,⟨some 5, .alloc [.int .i64 0, .int .i64 0, .int .i64 0, .int .i64 0, .int .i64 0, .int .i64 0], none⟩,⟨some 4, .mv (.tmp 20), none⟩,⟨none, .store 6 (.tmp 5) (.tmp 22), none⟩]
def asm_Check.k11 : LCode := .text [⟨some 23, .load true 6 (.tmp 5), none⟩,⟨some 24, .mv (.tmp 0), none⟩,⟨some 25, .len .slice (.tmp 24), none⟩,⟨some 26, .call (.cst (.fn (.func 34) [] [])) [.tmp 23, .tmp 25], none⟩,⟨some 6, .mv (.tmp 26), none⟩]
def asm_Check.k12 : LCode := .text [⟨some 27, .mv (.tmp 6), none⟩,⟨some 28, .bin .neq .other (.tmp 27) (.cst (.int .i64 0)), none⟩]
def asm_Check.k13 : LCode := .text [⟨some 29, .mv (.tmp 4), none⟩,⟨some 30, .mv (.tmp 6), none⟩,⟨some 2, .mv (.tmp 29), none⟩,⟨some 3, .mv (.tmp 30), none⟩]
def asm_Check.k14 : LCode := .seq asm_Check.k12 (.cond (.tmp 28) (.seq asm_Check.k13 .ret) .skip)
def asm_Check.k15 : LCode := .block 2 (.seq asm_Check.k10 (.seq asm_Check.k11 asm_Check.k14))
def asm_Check.k16 : LCode := .text [⟨some 31, .bin .add .other (.tmp 18) (.cst (.int .i64 1)), none⟩,⟨some 18, .mv (.tmp 31), none⟩]
def asm_Check.k17 : LCode := .seq (.cond (.tmp 19) .skip (.exit 1)) (.seq asm_Check.k15 asm_Check.k16)
def asm_Check.k18 : LCode := .seq asm_Check.k8 (.block 1 (.loop (.seq asm_Check.k9 asm_Check.k17)))
def asm_Check.k19 : LCode := .text [⟨some 32, .mv (.tmp 0), none⟩,⟨some 33, .len .slice (.tmp 32), none⟩,⟨some 34, .bin .sub .other (.tmp 33) (.cst (.int .i64 1)), none⟩,⟨some 7, .mv (.tmp 34), none⟩]
def asm_Check.k20 : LCode := .text [⟨some 35, .mv (.tmp 0), none⟩,⟨some 36, .mv (.tmp 7), none⟩,⟨some 37, .iaddrS 6 (.tmp 35) (.tmp 36), none⟩,⟨some 38, .faddr 0 (.tmp 37), none⟩,⟨some 39, .load false 1 (.tmp 38), none⟩,⟨some 40, .bin .neq .other (.tmp 39) (.cst (.int .i64 16)), none⟩,⟨some 41, .mv (.tmp 40), none⟩,⟨some 42, .mv (.tmp 0), some (41, true)⟩,⟨some 43, .mv (.tmp 7), some (41, true)⟩,⟨some 44, .iaddrS 6 (.tmp 42) (.tmp 43), some (41, true)⟩,⟨some 45, .faddr 0 (.tmp 44), some (41, true)⟩,⟨some 46, .load false 1 (.tmp 45), some (41, true)⟩,⟨some 47, .bin .neq .other (.tmp 46) (.cst (.int .i64 18)), some (41, true)⟩,⟨some 48, .pick (.tmp 41) (.tmp 47) (.cst (.bool false)), none⟩]
def asm_Check.k21 : LCode := .text [⟨some 49, .mv (.tmp 7), none⟩,⟨some 2, .mv (.tmp 49), none⟩,⟨some 3, .mv (.cst (.int .i64 5)), none⟩]
def asm_Check.k22 : LCode := .seq asm_Check.k20 (.cond (.tmp 48) (.seq asm_Check.k21 .ret) .skip)
def asm_Check.k23 : LCode := .text [⟨some 2, .mv (.cst (.int .i64 0)), none⟩,⟨some 3, .mv (.cst (.int .i64 0)), none⟩]
def asm_Check.k24 : LCode := .seq (.seq asm_Check.k19 asm_Check.k22) (.seq asm_Check.k23 .ret)
def asm_Check.k25 : LCode := .seq (.block 0 asm_Check.k7) (.seq asm_Check.k18 asm_Check.k24)
def asm_Check.lc : LCode :=
 .seq asm_Check.k1 asm_Check.k25
theorem asm_Check.low : lowFn Tryd.prog 29 = some (50, asm_Check.lc, [.tmp 2, .tmp 3]) := by kernel_rfl
def ins_field.k1 : LCode := .text [⟨some 7, .bin .eql .other (.tmp 5) (.cst (.int .i32 68)), none⟩,⟨some 6, .mv (.tmp 7), none⟩]
def ins_field.k2 : LCode := .text [⟨some 8, .bin .eql .other (.tmp 5) (.cst (.int .i32 100)), none⟩,⟨some 6, .mv (.tmp 8), none⟩]
def ins_field.k3 : LCode := .text [⟨some 9, .mv (.tmp 0), none⟩,⟨some 10, .nilc (.tmp 9), none⟩,⟨some 11, .faddr 1 (.tmp 10), none⟩,⟨some 4, .mv (.tmp 11), none⟩]
def ins_field.k4 : LCode := .text [⟨some 13, .bin .eql .other (.tmp 5) (.cst (.int .i32 65)), none⟩,⟨some 12, .mv (.tmp 13), none⟩]
def ins_field.k5 : LCode := .text [⟨some 14, .bin .eql .other (.tmp 5) (.cst (.int .i32 97)), none⟩,⟨some 12, .mv (.tmp 14), none⟩]
def ins_field.k6 : LCode := .text [⟨some 15, .mv (.tmp 0), none⟩,⟨some 16, .nilc (.tmp 15), none⟩,⟨some 17, .faddr 2 (.tmp 16), none⟩,⟨some 4, .mv (.tmp 17), none⟩]
def ins_field.k7 : LCode := .seq (.seq ins_field.k4 (.cond (.tmp 12) .skip ins_field.k5)) (.cond (.tmp 12) (.seq ins_field.k6 .ret) .skip)
def ins_field.k8 : LCode := .seq (.seq ins_field.k1 (.cond (.tmp 6) .skip ins_field.k2)) (.cond (.tmp 6) (.seq ins_field.k3 .ret) ins_field.k7)
def ins_field.k9 : LCode := .seq (.text [⟨some 5, .mv (.tmp 1), none⟩]) (.block 0 ins_field.k8)
def ins_field.k10 : LCode := .text [⟨some 18, .mv (.tmp 0), none⟩,⟨some 19, .nilc (.tmp 18), none⟩,⟨some 20, .faddr 3 (.tmp 19), none⟩,⟨some 4, .mv (.tmp 20), none⟩]
def ins_field.lc : LCode :=
 .seq (.text [⟨some 4, .mv (.cst (.imm (.pointer none))), none⟩]) (.seq ins_field.k9 (.seq ins_field.k10 .ret))
theorem ins_field.low : lowFn Tryd.prog 45 = some (21, ins_field.lc, [.tmp 4]) := by kernel_rfl
def num_Do.k1 : LCode := .text [⟨some 6, .mv (.cst (.int .i64 0)), none⟩,⟨some 7, .mv (.cst (.int .i64 0)), none⟩]
def num_Do.k2 : LCode := .text [⟨some 9, .call (.cst (.fn (.func 65) [] [])) [], none⟩,⟨some 10, .mv (.tmp 0), none⟩,⟨some 11, .lookup (.imm .nilFunc) (.tmp 9) (.tmp 10) false, none⟩,⟨some 8, .mv (.tmp 11), none⟩]
def num_Do.k3 : LCode := .text [⟨some 13, .mv (.tmp 8), none⟩,⟨some 14, .bin .eql .func (.tmp 13) (.cst (.imm .nilFunc)), none⟩,⟨some 12, .mv (.tmp 14), none⟩]
def num_Do.k4 : LCode := .text [⟨some 6, .mv (.cst (.int .i64 0)), none⟩,⟨some 7, .mv (.cst (.int .i64 2)), none⟩]
def num_Do.k5 : LCode := .text [⟨some 16, .mv (.tmp 0), none⟩,⟨some 17, .bin .eql .other (.tmp 16) (.cst (.int .i64 7)), none⟩,⟨some 18, .mv (.tmp 17), none⟩,⟨some 19, .mv (.tmp 2), some (18, true)⟩,⟨some 20, .bin .eql .other (.tmp 19) (.cst (.int .i64 0)), some (18, true)⟩,⟨some 21, .pick (.tmp 18) (.tmp 20) (.cst (.bool false)), none⟩,⟨some 15, .mv (.tmp 21), none⟩]
def num_Do.k6 : LCode := .text [⟨some 6, .mv (.cst (.int .i64 0)), none⟩,⟨some 7, .mv (.cst (.int .i64 3)), none⟩]
def num_Do.k7 : LCode := .seq num_Do.k5 (.cond (.tmp 15) (.seq num_Do.k6 .ret) .skip)
def num_Do.k8 : LCode := .seq num_Do.k3 (.cond (.tmp 12) (.seq num_Do.k4 .ret) num_Do.k7)
def num_Do.k9 : LCode := .text [⟨some 22, .mv (.tmp 8), none⟩,⟨some 23, .mv (.tmp 1), none⟩,⟨some 24, .mv (.tmp 2), none⟩,⟨some 25, .call (.tmp 22) [.tmp 23, .tmp 24], none⟩,⟨some 6, .mv (.tmp 25), none⟩,⟨some 7, .mv (.cst (.int .i64 0)), none⟩]
def num_Do.k10 : LCode := .seq num_Do.k2 (.seq (.block 0 num_Do.k8) (.seq num_Do.k9 .ret))
def num_Do.lc : LCode :=
 .seq num_Do.k1 num_Do.k10
theorem num_Do.low : lowFn Tryd.prog 61 = some (26, num_Do.lc, [.tmp 6, .tmp 7]) := by kernel_rfl
def asm_Parse.k1 : LCode := .text [⟨some 1, .box (.tmp 0), none⟩,⟨some 2, .mv (.cst (.imm (.slice none 0 0))), none⟩,⟨some 3, .mv (.cst (.int .i64 0)), none⟩,⟨some 4, .mv (.cst (.int .i64 0)), none⟩]
def asm_Parse.k2 : LCode := .text [⟨some 13, .load false 1 (.tmp 1), none⟩,⟨some 14, .len .str (.tmp 13), none⟩,⟨some 15, .bin .gtr .other (.tmp 14) (.cst (.int .i64 20000)), none⟩]
def asm_Parse.k3 : LCode := .text [⟨some 2, .mv (.cst (.imm (.slice none 0 0))), none⟩,⟨some 3, .mv (.cst (.int .i64 0)), none⟩,⟨some 4, .mv (.cst (.int .i64 3)), none⟩]
def asm_Parse.k4 : LCode := .seq asm_Parse.k2 (.cond (.tmp 15) (.seq asm_Parse.k3 .ret) .skip)
def asm_Parse.k5 : LCode := .text [⟨some 7, .alloc [.int .i64 0], none⟩,⟨none, .store 1 (.tmp 7) (.cst (.int .i64 0)), none⟩]
def asm_Parse.k6 : LCode := .text [⟨some 16, .mkFn (.func 27) [] [.tmp 1, .tmp 7, .tmp 5, .tmp 6], none⟩,⟨some 8, .mv (.tmp 16), none⟩]
def asm_Parse.k7 : LCode := .text [⟨some 17, .load false 1 (.tmp 1), none⟩,⟨some 18, .range (.tmp 17), none⟩]
def asm_Parse.k8 : LCode := .text [⟨some 19, .next (.tmp 18), none⟩,⟨some 20, .extract (.tmp 19) 0, none⟩]
def asm_Parse.k9 : LCode := .text [⟨some 21, .extract (.tmp 19) 1, none⟩,⟨some 22, .extract (.tmp 19) 2, none⟩,⟨some 9, .mv (.tmp 21), none⟩,⟨some 10, .mv (.tmp 22), none⟩]
def asm_Parse.k10 : LCode := .text [⟨some 23, .mv (.tmp 10), none⟩,⟨some 24, .bin .neq .other (.tmp 23) (.cst (.int .i32 10)), none⟩]
def asm_Parse.k11 : LCode := .text [⟨some 25, .mv (.tmp 8), none⟩,⟨some 26, .mv (.tmp 9), none⟩,⟨some 27, .call (.tmp 25) [.tmp 26], none⟩,⟨some 28, .not (.tmp 27), none⟩]
def asm_Parse.k12 : LCode := .any true [⟨some 29, .load false 1 (.tmp 7), none⟩,⟨some 2, .mv (.cst (.imm (.slice none 0 0))), none⟩,⟨some 3, .mv (.tmp 29), none⟩,⟨some 4, .mv (.cst (.int .i64 2)), none⟩] (.both .no .no)
def asm_Parse.k13 : LCode := .seq asm_Parse.k11 (.cond (.tmp 28) (.seq asm_Parse.k12 .ret) .skip)
def asm_Parse.k14 : LCode := .text [⟨some 30, .mv (.tmp 9), none⟩,⟨some 31, .bin .add .other (.tmp 30) (.cst (.int .i64 1)), none⟩,⟨none, .store 1 (.tmp 7) (.tmp 31), none⟩]
def asm_Parse.k15 : LCode := .seq (.seq asm_Parse.k10 (.cond (.tmp 24) (.exit 1) .skip)) (.seq asm_Parse.k13 asm_Parse.k14)
def asm_Parse.k16 : LCode := .seq (.cond (.tmp 20) .skip (.exit 0)) (.block 1 (.seq asm_Parse.k9 asm_Parse.k15))
def asm_Parse.k17 : LCode := .seq asm_Parse.k7 (.block 0 (.loop (.seq asm_Parse.k8 asm_Parse.k16)))
def asm_Parse.k18 : LCode := .text [⟨some 32, .load false 1 (.tmp 7), none⟩,⟨some 33, .load false 1 (.tmp 1), none⟩,⟨some 34, .len .str (.tmp 33), none⟩,⟨some 35, .bin .lss .other (.tmp 32) (.tmp 34), none⟩]
def asm_Parse.k19 : LCode := .any true [⟨some 36, .load false 1 (.tmp 7), none⟩,⟨some 2, .mv (.cst (.imm (.slice none 0 0))), none⟩,⟨some 3, .mv (.tmp 36), none⟩,⟨some 4, .mv (.cst (.int .i64 2)), none⟩] (.both .no .no)
def asm_Parse.k20 : LCode := .seq asm_Parse.k18 (.cond (.tmp 35) (.seq asm_Parse.k19 .ret) .skip)
def asm_Parse.k21 : LCode := .text [⟨some 38, .load false 1 (.tmp 5), none⟩,⟨some 39, .call (.cst (.fn (.func 29) [] [])) [.tmp 38], none⟩,⟨some 37, .mv (.tmp 39), none⟩,⟨some 40, .extract (.tmp 37) 0, none⟩,⟨some 41, .extract (.tmp 37) 1, none⟩,⟨some 11, .mv (.tmp 40), none⟩,⟨some 12, .mv (.tmp 41), none⟩]
def asm_Parse.k22 : LCode := .text [⟨some 42, .mv (.tmp 12), none⟩,⟨some 43, .bin .eql .other (.tmp 42) (.cst (.int .i64 0)), none⟩]
def asm_Parse.k23 : LCode := .text [⟨some 44, .load false 1 (.tmp 5), none⟩,⟨some 2, .mv (.tmp 44), none⟩,⟨some 3, .mv (.cst (.int .i64 0)), none⟩,⟨some 4, .mv (.cst (.int .i64 0)), none⟩]
def asm_Parse.k24 : LCode := .seq asm_Parse.k22 (.cond (.tmp 43) (.seq asm_Parse.k23 .ret) .skip)
def asm_Parse.k25 : LCode := .text [⟨some 45, .mv (.tmp 11), none⟩,⟨some 46, .load false 1 (.tmp 6), none⟩,⟨some 47, .len .slice (.tmp 46), none⟩,⟨some 48, .bin .lss .other (.tmp 45) (.tmp 47), none⟩]
def asm_Parse.k26 : LCode := .text [⟨some 49, .load false 1 (.tmp 6), none⟩,⟨some 50, .mv (.tmp 11), none⟩,⟨some 51, .iaddrS 1 (.tmp 49) (.tmp 50), none⟩,⟨some 52, .load false 1 (.tmp 51), none⟩,⟨some 11, .mv (.tmp 52), none⟩]
def asm_Parse.k27 : LCode := .text [⟨some 53, .mv (.tmp 11), none⟩,⟨some 54, .mv (.tmp 12), none⟩,⟨some 2, .mv (.cst (.imm (.slice none 0 0))), none⟩,⟨some 3, .mv (.tmp 53), none⟩,⟨some 4, .mv (.tmp 54), none⟩]
def asm_Parse.k28 : LCode := .seq (.seq asm_Parse.k25 (.cond (.tmp 48) asm_Parse.k26 .skip)) (.seq asm_Parse.k27 .ret)
def asm_Parse.k29 : LCode := .seq asm_Parse.k20 (.seq asm_Parse.k21 (.seq asm_Parse.k24 asm_Parse.k28))
def asm_Parse.k30 : LCode := .seq asm_Parse.k5 (.seq asm_Parse.k6 (.seq asm_Parse.k17 asm_Parse.k29))
def asm_Parse.k31 : LCode := .seq (.text [⟨some 6, .alloc [.imm (.slice none 0 0)], none⟩]) asm_Parse.k30
def asm_Parse.k32 : LCode := .seq (.text [⟨some 5, .alloc [.imm (.slice none 0 0)], none⟩]) asm_Parse.k31
def asm_Parse.lc : LCode :=
 .seq asm_Parse.k1 (.seq asm_Parse.k4 asm_Parse.k32)
theorem asm_Parse.low : lowFn Tryd.prog 14 = some (55, asm_Parse.lc, [.tmp 2, .tmp 3, .tmp 4]) := by kernel_rfl
def run_Run.k1 : LCode := .text [⟨some 3, .box (.tmp 1), none⟩,⟨some 4, .alloc [.imm (.slice none 0 0), .int .i64 0, .int .i64 0, .imm (.slice none 0 0), .int .i64 0, .int .i64 0], none⟩,⟨some 5, .alloc [.bool false, .int .i64 0, .bool false, .int .i64 0, .bool false, .int .i64 0, .bool false, .int .i64 0, .bool false, .int .i64 0, .bool false, .int .i64 0, .bool false, .int .i64 0, .bool false, .int .i64 0, .bool false, .int .i64 0, .bool false, .int .i64 0, .bool false, .int .i64 0, .bool false, .int .i64 0, .bool false, .int .i64 0, .bool false, .int .i64 0, .bool false, .int .i64 0, .bool false, .int .i64 0, .bool false, .int .i64 0, .bool false, .int .i64 0, .bool false, .int .i64 0, .bool false, .int .i64 0, .bool false, .int .i64 0, .bool false, .int .i64 0, .bool false, .int .i64 0, .bool false, .int .i64 0, .imm (.slice none 0 0), .int .i64 0, .int .i64 0], none⟩,⟨some 6, .mv (.cst (.int .i64 0)), none⟩]
def run_Run.k2 : LCode := .text [⟨some 13, .mv (.tmp 0), none⟩,⟨some 14, .call (.cst (.fn (.func 35) [] [])) [.tmp 13], none⟩,⟨some 15, .not (.tmp 14), none⟩,⟨some 16, .mv (.tmp 15), none⟩,⟨some 17, .load true 11 (.tmp 3), some (16, false)⟩,⟨some 18, .call (.cst (.fn (.func 36) [] [])) [.tmp 17], some (16, false)⟩,⟨some 19, .not (.tmp 18), some (16, false)⟩,⟨some 20, .pick (.tmp 16) (.cst (.bool true)) (.tmp 19), none⟩]
def run_Run.k3 : LCode := .text [⟨some 21, .build [.imm (.slice none 0 0), .int .i64 0, .int .i64 0, .imm (.slice none 0 0), .int .i64 0, .int .i64 0] [], none⟩,⟨some 22, .build [.bool false, .int .i64 0, .bool false, .int .i64 0, .bool false, .int .i64 0, .bool false, .int .i64 0, .bool false, .int .i64 0, .bool false, .int .i64 0, .bool false, .int .i64 0, .bool false, .int .i64 0, .bool false, .int .i64 0, .bool false, .int .i64 0, .bool false, .int .i64 0, .bool false, .int .i64 0, .bool false, .int .i64 0, .bool false, .int .i64 0, .bool false, .int .i64 0, .bool false, .int .i64 0, .bool false, .int .i64 0, .bool false, .int .i64 0, .bool false, .int .i64 0, .bool false, .int .i64 0, .bool false, .int .i64 0, .bool false, .int .i64 0, .bool false, .int .i64 0, .bool false, .int .i64 0, .imm (.slice none 0 0), .int .i64 0, .int .i64 0] [], none⟩,⟨none, .store 6 (.tmp 4) (.tmp 21), none⟩,⟨none, .store 51 (.tmp 5) (.tmp 22), none⟩,⟨some 6, .mv (.cst (.int .i64 1)), none⟩]
def run_Run.k4 : LCode := .seq run_Run.k2 (.cond (.tmp 20) (.seq run_Run.k3 .ret) .skip)
def run_Run.k5 : LCode := .text [⟨some 7, .alloc [.imm (.slice none 0 0), .int .i64 0, .int .i64 0, .imm (.slice none 0 0), .int .i64 0, .int .i64 0], none⟩]
def run_Run.k6 : LCode := .text [⟨some 23, .load true 11 (.tmp 3), none⟩,⟨some 24, .call (.cst (.fn (.func 37) [] [])) [.tmp 23], none⟩,⟨some 8, .alloc [.bool false, .int .i64 0, .bool false, .int .i64 0, .bool false, .int .i64 0, .bool false, .int .i64 0, .bool false, .int .i64 0, .bool false, .int .i64 0, .bool false, .int .i64 0, .bool false, .int .i64 0, .bool false, .int .i64 0, .bool false, .int .i64 0, .bool false, .int .i64 0, .bool false, .int .i64 0, .bool false, .int .i64 0, .bool false, .int .i64 0, .bool false, .int .i64 0, .bool false, .int .i64 0, .bool false, .int .i64 0, .bool false, .int .i64 0, .bool false, .int .i64 0, .bool false, .int .i64 0, .bool false, .int .i64 0, .bool false, .int .i64 0, .bool false, .int .i64 0, .bool false, .int .i64 0, .imm (.slice none 0 0), .int .i64 0, .int .i64 0], none⟩,⟨none, .store 51 (.tmp 8) (.tmp 24), none⟩]
def run_Run.k7 : LCode := .text [⟨some 25, .faddr 10 (.tmp 3), none⟩,⟨some 26, .load false 1 (.tmp 25), none⟩,⟨some 27, .mv (.cst (.int .i64 0)), none⟩]
def run_Run.k8 : LCode := .text [⟨some 28, .bin .lss .other (.tmp 27) (.tmp 26), none⟩]
def run_Run.k9 : LCode := .text [⟨some 29, .mv (.tmp 0), none⟩,⟨some 30, .faddr 49 (.tmp 8), none⟩,⟨some 31, .load false 1 (.tmp 30), none⟩,⟨some 32, .iaddrS 6 (.tmp 29) (.tmp 31), none⟩,⟨some 33, .load true 6 (.tmp 32), none⟩,⟨some 34, .call (.cst (.fn (.func 38) [] [])) [.tmp 33], none⟩,⟨some 35, .not (.tmp 34), none⟩]
def run_Run.k10 : LCode := .text [⟨some 36, .faddr 5 (.tmp 7), none⟩,⟨some 37, .load false 1 (.tmp 36), none⟩,⟨some 38, .bin .add .other (.tmp 37) (.cst (.int .i64 1)), none⟩,⟨some 39, .faddr 5 (.tmp 7), none⟩,⟨none, .store 1 (.tmp 39) (.tmp 38), none⟩]
def run_Run.k11 : LCode := .text [⟨some 40, .faddr 4 (.tmp 7), none⟩,⟨some 41, .load false 1 (.tmp 40), none⟩,⟨some 42, .bin .add .other (.tmp 41) (.cst (.int .i64 1)), none⟩,⟨some 43, .faddr 4 (.tmp 7), none⟩,⟨none, .store 1 (.tmp 43) (.tmp 42), none⟩]
def run_Run.k12 : LCode := .text [⟨some 45, .mv (.tmp 0), none⟩,⟨some 46, .load true 51 (.tmp 8), none⟩,⟨some 47, .faddr 9 (.tmp 3), none⟩,⟨some 48, .load false 1 (.tmp 47), none⟩,⟨some 49, .call (.cst (.fn (.func 39) [] [])) [.tmp 45, .tmp 46, .tmp 48], none⟩,⟨some 44, .mv (.tmp 49), none⟩,⟨some 50, .extract (.tmp 44) 0, none⟩,⟨some 51, .extract (.tmp 44) 1, none⟩,⟨some 52, .extract (.tmp 44) 2, none⟩,⟨some 53, .extract (.tmp 44) 3, none⟩,⟨some 9, .alloc [.bool false, .int .i64 0, .bool false, .int .i64 0, .bool false, .int .i64 0, .bool false, .int .i64 0, .bool false, .int .i64 0, .bool false, .int .i64 0, .bool false, .int .i64 0, .bool false, .int .i64 0, .bool false, .int .i64 0, .bool false, .int .i64 0, .bool false, .int .i64 0, .bool false, .int .i64 0, .bool false, .int .i64 0, .bool false, .int .i64 0, .bool false, .int .i64 0, .bool false, .int .i64 0, .bool false, .int .i64 0, .bool false, .int .i64 0, .bool false, .int .i64 0, .bool false, .int .i64 0, .bool false, .int .i64 0, .bool false, .int .i64 0, .bool false, .int .i64 0, .bool false, .int .i64 0, .imm (.slice none 0 0), .int .i64 0, .int .i64 0], none⟩,⟨some 11, .alloc [.int .i64 0, .int .i64 0, .imm (.slice none 0 0)], none⟩,⟨none, .store 51 (.tmp 9) (.tmp 50), none⟩,⟨some 10, .mv (.tmp 51), none⟩,⟨none, .store 3 (.tmp 11) (.tmp 52), none⟩,⟨some 12, .mv (.tmp 53), none⟩]
def run_Run.k13 : LCode := .text [⟨some 54, .faddr 0 (.tmp 7), none⟩,⟨some 55, .load false 1 (.tmp 54), none⟩,⟨some 56, .mv (.tmp 10), none⟩,⟨some 57, .append 3 24 (.tmp 55) (.tmp 56), none⟩,⟨some 58, .faddr 0 (.tmp 7), none⟩,⟨none, .store 1 (.tmp 58) (.tmp 57), none⟩]
def run_Run.k14 : LCode := .any false [⟨some 59, .load true 51 (.tmp 9), none⟩,⟨some 60, .load true 3 (.tmp 11), none⟩,⟨none, .store 51 (.tmp 8) (.tmp 59), none⟩,⟨some 61, .faddr 1 (.tmp 7), none⟩,⟨none, .store 3 (.tmp 61) (.tmp 60), none⟩] (.both (.all [(0, .all [(1, .all [(2, .take 3 (.all [(4, .done)]))]), (2, .all [(1, .take 3 (.all [(4, .done)]))])]), (1, .all [(0, .all [(2, .take 3 (.all [(4, .done)]))])])]) (.front 0 (.all [(1, .front 2 (.front 3 (.front 4 .done))), (2, .front 1 (.front 3 (.front 4 .done)))])))
def run_Run.k15 : LCode := .text [⟨some 62, .faddr 0 (.tmp 11), none⟩,⟨some 63, .load false 1 (.tmp 62), none⟩,⟨some 64, .bin .neq .other (.tmp 63) (.cst (.int .i64 0)), none⟩]
def run_Run.k16 : LCode := .seq run_Run.k14 (.seq run_Run.k15 (.cond (.tmp 64) (.exit 0) .skip))
def run_Run.k17 : LCode := .seq run_Run.k11 (.seq run_Run.k12 (.seq run_Run.k13 run_Run.k16))
def run_Run.k18 : LCode := .seq (.seq run_Run.k9 (.cond (.tmp 35) run_Run.k10 .skip)) run_Run.k17
def run_Run.k19 : LCode := .text [⟨some 65, .bin .add .other (.tmp 27) (.cst (.int .i64 1)), none⟩,⟨some 27, .mv (.tmp 65), none⟩]
def run_Run.k20 : LCode := .seq (.cond (.tmp 28) .skip (.exit 0)) (.seq (.block 1 run_Run.k18) run_Run.k19)
def run_Run.k21 : LCode := .seq run_Run.k7 (.block 0 (.loop (.seq run_Run.k8 run_Run.k20)))
def run_Run.k22 : LCode := .any false [⟨some 66, .load true 6 (.tmp 7), none⟩,⟨some 67, .load true 51 (.tmp 8), none⟩,⟨none, .store 6 (.tmp 4) (.tmp 66), none⟩,⟨none, .store 51 (.tmp 5) (.tmp 67), none⟩,⟨some 6, .mv (.cst (.int .i64 0)), none⟩] (.both (.all [(0, .all [(1, .all [(2, .all [(3, .take 4 .done)])]), (2, .all [(1, .all [(3, .take 4 .done)])])]), (1, .all [(0, .all [(2, .all [(3, .take 4 .done)])])])]) (.front 0 (.all [(1, .front 2 (.front 3 (.front 4 .done))), (2, .front 1 (.front 3 (.front 4 .done)))])))
def run_Run.k23 : LCode := .seq run_Run.k5 (.seq run_Run.k6 (.seq run_Run.k21 (.seq run_Run.k22 .ret)))
def run_Run.lc : LCode :=
 .seq run_Run.k1 (.seq run_Run.k4 run_Run.k23)
theorem run_Run.low : lowFn Tryd.prog 30 = some (68, run_Run.lc, [.cell 4 true 6, .cell 5 true 51, .tmp 6]) := by kernel_rfl
def ins_of.k1 : LCode := .text [⟨some 2, .alloc [.str ⟨#[]⟩, .str ⟨#[]⟩], none⟩,⟨some 3, .mv (.cst (.bool false)), none⟩]
def ins_of.k2 : LCode := .text [⟨some 4, .mv (.tmp 0), none⟩,⟨some 5, .bin .lss .other (.tmp 4) (.cst (.int .i64 1)), none⟩,⟨some 6, .mv (.tmp 5), none⟩,⟨some 7, .mv (.tmp 0), some (6, false)⟩,⟨some 8, .bin .gtr .other (.tmp 7) (.cst (.int .i64 18)), some (6, false)⟩,⟨some 9, .pick (.tmp 6) (.cst (.bool true)) (.tmp 8), none⟩]
def ins_of.k3 : LCode := .text [⟨some 10, .build [.str ⟨#[]⟩, .str ⟨#[]⟩] [], none⟩,⟨none, .store 2 (.tmp 2) (.tmp 10), none⟩,⟨some 3, .mv (.cst (.bool false)), none⟩]
def ins_of.k4 : LCode := .text [⟨some 11, .mv (.tmp 0), none⟩,⟨some 12, .bin .sub .other (.tmp 11) (.cst (.int .i64 1)), none⟩,⟨some 13, .iaddrA 18 2 (.cst (.lptr (shapeTbl.flatMap fun p => [.str p.1, .str p.2]) 0)) (.tmp 12), none⟩,⟨some 14, .load true 2 (.tmp 13), none⟩,⟨none, .store 2 (.tmp 2) (.tmp 14), none⟩,⟨some 3, .mv (.cst (.bool true)), none⟩]
def ins_of.k5 : LCode := .seq (.seq ins_of.k2 (.cond (.tmp 9) (.seq ins_of.k3 .ret) .skip)) (.seq ins_of.k4 .ret)
def ins_of.lc : LCode :=
 .seq ins_of.k1 ins_of.k5
theorem ins_of.low : lowFn Tryd.prog 46 = some (15, ins_of.lc, [.cell 2 true 2, .tmp 3]) := by kernel_rfl
def step_work_move.k1 : LCode := .text [⟨some 3, .mv (.tmp 0), none⟩,⟨some 4, .nilc (.tmp 3), none⟩,⟨some 5, .faddr 0 (.tmp 4), none⟩,⟨some 6, .faddr 0 (.tmp 5), none⟩,⟨some 2, .mv (.tmp 6), none⟩]
def step_work_move.k2 : LCode := .text [⟨some 7, .mv (.tmp 0), none⟩,⟨some 8, .nilc (.tmp 7), none⟩,⟨some 9, .faddr 51 (.tmp 8), none⟩,⟨some 10, .faddr 0 (.tmp 9), none⟩,⟨some 11, .load false 1 (.tmp 10), none⟩]
def step_work_move.k3 : LCode := .text [⟨some 13, .bin .eql .other (.tmp 11) (.cst (.int .i64 1)), none⟩,⟨some 12, .mv (.tmp 13), none⟩]
def step_work_move.k4 : LCode := .any false [⟨some 14, .mv (.tmp 2), none⟩,⟨some 15, .mv (.tmp 0), none⟩,⟨some 16, .nilc (.tmp 15), none⟩,⟨some 17, .faddr 51 (.tmp 16), none⟩,⟨some 18, .faddr 1 (.tmp 17), none⟩,⟨some 19, .load false 1 (.tmp 18), none⟩,⟨some 20, .mv (.tmp 0), none⟩,⟨some 21, .nilc (.tmp 20), none⟩,⟨some 22, .faddr 51 (.tmp 21), none⟩,⟨some 23, .faddr 4 (.tmp 22), none⟩,⟨some 24, .load false 1 (.tmp 23), none⟩,⟨some 25, .build [.bool false, .int .i64 0] [(0, 1, .cst (.bool true)), (1, 1, .tmp 24)], none⟩,⟨some 26, .nilc (.tmp 14), none⟩,⟨some 27, .iaddrA 24 2 (.tmp 26) (.tmp 19), none⟩,⟨none, .store 2 (.tmp 27) (.tmp 25), none⟩] (.both (.take 0 (.take 1 (.take 2 (.take 3 (.take 4 (.take 6 (.take 7 (.take 8 (.take 9 (.take 12 (.all [(5, .all [(10, .take 11 (.take 13 (.all [(14, .done)])))]), (10, .take 11 (.all [(5, .take 13 (.all [(14, .done)]))]))]))))))))))) (.front 0 (.front 1 (.front 2 (.front 3 (.front 4 (.front 5 (.front 6 (.front 7 (.front 8 (.front 9 (.front 10 (.front 11 (.front 12 (.front 13 (.front 14 .done))))))))))))))))
def step_work_move.k5 : LCode := .text [⟨some 29, .bin .eql .other (.tmp 11) (.cst (.int .i64 2)), none⟩,⟨some 28, .mv (.tmp 29), none⟩]
def step_work_move.k6 : LCode := .any false [⟨some 30, .mv (.tmp 2), none⟩,⟨some 31, .mv (.tmp 0), none⟩,⟨some 32, .nilc (.tmp 31), none⟩,⟨some 33, .faddr 51 (.tmp 32), none⟩,⟨some 34, .faddr 1 (.tmp 33), none⟩,⟨some 35, .load false 1 (.tmp 34), none⟩,⟨some 36, .mv (.tmp 2), none⟩,⟨some 37, .mv (.tmp 0), none⟩,⟨some 38, .nilc (.tmp 37), none⟩,⟨some 39, .faddr 51 (.tmp 38), none⟩,⟨some 40, .faddr 2 (.tmp 39), none⟩,⟨some 41, .load false 1 (.tmp 40), none⟩,⟨some 42, .nilc (.tmp 36), none⟩,⟨some 43, .iaddrA 24 2 (.tmp 42) (.tmp 41), none⟩,⟨some 44, .load true 2 (.tmp 43), none⟩,⟨some 45, .nilc (.tmp 30), none⟩,⟨some 46, .iaddrA 24 2 (.tmp 45) (.tmp 35), none⟩,⟨none, .store 2 (.tmp 46) (.tmp 44), none⟩] (.both (.take 0 (.take 1 (.take 2 (.take 3 (.take 4 (.take 6 (.take 7 (.take 8 (.take 9 (.take 10 (.take 12 (.take 15 (.all [(5, .all [(11, .take 13 (.all [(14, .take 16 (.all [(17, .done)]))]))]), (11, .take 13 (.all [(5, .all [(14, .take 16 (.all [(17, .done)]))]), (14, .all [(5, .take 16 (.all [(17, .done)]))])]))]))))))))))))) (.front 0 (.front 1 (.front 2 (.front 3 (.front 4 (.front 5 (.front 6 (.front 7 (.front 8 (.front 9 (.front 10 (.front 11 (.front 12 (.front 13 (.front 14 (.front 15 (.front 16 (.front 17 .done)))))))))))))))))))
def step_work_move.k7 : LCode := .text [⟨some 48, .bin .eql .other (.tmp 11) (.cst (.int .i64 3)), none⟩,⟨some 47, .mv (.tmp 48), none⟩]
def step_work_move.k8 : LCode := .any false [⟨some 49, .mv (.tmp 2), none⟩,⟨some 50, .mv (.tmp 0), none⟩,⟨some 51, .nilc (.tmp 50), none⟩,⟨some 52, .faddr 51 (.tmp 51), none⟩,⟨some 53, .faddr 1 (.tmp 52), none⟩,⟨some 54, .load false 1 (.tmp 53), none⟩,⟨some 55, .mv (.tmp 2), none⟩,⟨some 56, .mv (.tmp 0), none⟩,⟨some 57, .nilc (.tmp 56), none⟩,⟨some 58, .faddr 51 (.tmp 57), none⟩,⟨some 59, .faddr 2 (.tmp 58), none⟩,⟨some 60, .load false 1 (.tmp 59), none⟩,⟨some 61, .mv (.tmp 2), none⟩,⟨some 62, .mv (.tmp 0), none⟩,⟨some 63, .nilc (.tmp 62), none⟩,⟨some 64, .faddr 51 (.tmp 63), none⟩,⟨some 65, .faddr 2 (.tmp 64), none⟩,⟨some 66, .load false 1 (.tmp 65), none⟩,⟨some 67, .nilc (.tmp 61), none⟩,⟨some 68, .iaddrA 24 2 (.tmp 67) (.tmp 66), none⟩,⟨some 69, .load true 2 (.tmp 68), none⟩,⟨some 70, .mv (.tmp 2), none⟩,⟨some 71, .mv (.tmp 0), none⟩,⟨some 72, .nilc (.tmp 71), none⟩,⟨some 73, .faddr 51 (.tmp 72), none⟩,⟨some 74, .faddr 1 (.tmp 73), none⟩,⟨some 75, .load false 1 (.tmp 74), none⟩,⟨some 76, .nilc (.tmp 70), none⟩,⟨some 77, .iaddrA 24 2 (.tmp 76) (.tmp 75), none⟩,⟨some 78, .load true 2 (.tmp 77), none⟩,⟨some 79, .nilc (.tmp 49), none⟩,⟨some 80, .iaddrA 24 2 (.tmp 79) (.tmp 54), none⟩,⟨none, .store 2 (.tmp 80) (.tmp 69), none⟩,⟨some 81, .nilc (.tmp 55), none⟩,⟨some 82, .iaddrA 24 2 (.tmp 81) (.tmp 60), none⟩,⟨none, .store 2 (.tmp 82) (.tmp 78), none⟩] (.both .no (.front 0 (.front 1 (.front 2 (.front 3 (.front 4 (.front 5 (.front 6 (.front 7 (.front 8 (.front 9 (.front 10 (.front 11 (.front 12 (.front 13 (.front 14 (.front 15 (.front 16 (.front 17 (.front 18 (.front 19 (.front 20 (.front 21 (.front 22 (.front 23 (.front 24 (.front 25 (.front 26 (.front 27 (.front 28 (.front 29 (.front 30 (.front 31 (.front 32 (.front 33 (.front 34 (.front 35 .done)))))))))))))))))))))))))))))))))))))
def step_work_move.k9 : LCode := .seq step_work_move.k7 (.cond (.tmp 47) step_work_move.k8 .skip)
def step_work_move.k10 : LCode := .seq step_work_move.k5 (.cond (.tmp 28) step_work_move.k6 step_work_move.k9)
def step_work_move.k11 : LCode := .seq step_work_move.k3 (.cond (.tmp 12) step_work_move.k4 step_work_move.k10)
def step_work_move.lc : LCode :=
 .seq step_work_move.k1 (.seq step_work_move.k2 (.block 0 step_work_move.k11))
theorem step_work_move.low : lowFn Tryd.prog 62 = some (83, step_work_move.lc, []) := by kernel_rfl
end Go.Proofs.YtphmakopjfbmnaaDoor
