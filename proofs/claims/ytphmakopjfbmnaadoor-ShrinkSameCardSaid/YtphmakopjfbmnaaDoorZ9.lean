/-
  Texts of this claim, put together.
-/
import Derived.Test.YtphmakopjfbmnaaDoorProg
import Derived.KernelRfl
import Derived.Test.YtphmakopjfbmnaaDoorZ8
namespace Go.Proofs.YtphmakopjfbmnaaDoor
set_option maxRecDepth 100000
def shrink_Case_1.k1 : LCode := .text [⟨some 3, .box (.tmp 0), none⟩,⟨some 4, .mv (.cst (.bool false)), none⟩]
def shrink_Case_1.k2 : LCode := .text [⟨some 8, .load false 1 (.tmp 1), none⟩,⟨some 9, .load false 1 (.tmp 2), none⟩,⟨some 10, .load true 11 (.tmp 3), none⟩,⟨some 11, .call (.cst (.fn (.func 10) [] [])) [.tmp 8, .tmp 9, .tmp 10], none⟩,⟨some 7, .mv (.tmp 11), none⟩,⟨some 12, .extract (.tmp 7) 0, none⟩,⟨some 13, .extract (.tmp 7) 1, none⟩,⟨some 5, .mv (.tmp 12), none⟩,⟨some 6, .mv (.tmp 13), none⟩]
def shrink_Case_1.k3 : LCode := .text [⟨some 14, .mv (.tmp 5), none⟩,⟨some 15, .bin .neq .other (.tmp 14) (.cst (.int .i64 0)), none⟩,⟨some 4, .mv (.tmp 15), none⟩]
def shrink_Case_1.lc : LCode :=
 .seq shrink_Case_1.k1 (.seq shrink_Case_1.k2 (.seq shrink_Case_1.k3 .ret))
theorem shrink_Case_1.low : lowFn Tryd.prog 15 = some (16, shrink_Case_1.lc, [.tmp 4]) := by kernel_rfl
def path_From.k1 : LCode := .text [⟨some 2, .box (.tmp 0), none⟩,⟨some 4, .alloc [.int .i64 0, .imm .nilIface, .imm .nilIface, .imm .nilIface, .imm .nilIface, .imm .nilIface, .imm .nilIface, .imm .nilIface, .imm .nilIface, .imm .nilIface, .imm .nilIface, .imm .nilIface, .imm .nilIface, .imm .nilIface, .imm .nilIface, .imm .nilIface, .imm .nilIface, .imm .nilIface, .imm .nilIface, .imm .nilIface, .imm .nilIface, .imm .nilIface, .imm .nilIface, .imm .nilIface, .imm .nilIface, .int .i64 0], none⟩,⟨some 5, .mv (.cst (.int .i64 0)), none⟩]
def path_From.k2 : LCode := .text [⟨some 9, .load false 1 (.tmp 2), none⟩,⟨some 10, .call (.cst (.fn (.func 35) [] [])) [.tmp 9], none⟩,⟨some 11, .not (.tmp 10), none⟩,⟨some 12, .mv (.tmp 11), none⟩,⟨some 13, .mv (.tmp 1), some (12, false)⟩,⟨some 14, .bin .lss .other (.tmp 13) (.cst (.int .i64 0)), some (12, false)⟩,⟨some 15, .pick (.tmp 12) (.cst (.bool true)) (.tmp 14), none⟩,⟨some 16, .mv (.tmp 15), none⟩,⟨some 17, .mv (.tmp 1), some (16, false)⟩,⟨some 18, .load false 1 (.tmp 2), some (16, false)⟩,⟨some 19, .len .slice (.tmp 18), some (16, false)⟩,⟨some 20, .bin .geq .other (.tmp 17) (.tmp 19), some (16, false)⟩,⟨some 21, .pick (.tmp 16) (.cst (.bool true)) (.tmp 20), none⟩]
def path_From.k3 : LCode := .text [⟨some 22, .build [.int .i64 0, .imm .nilIface, .imm .nilIface, .imm .nilIface, .imm .nilIface, .imm .nilIface, .imm .nilIface, .imm .nilIface, .imm .nilIface, .imm .nilIface, .imm .nilIface, .imm .nilIface, .imm .nilIface, .imm .nilIface, .imm .nilIface, .imm .nilIface, .imm .nilIface, .imm .nilIface, .imm .nilIface, .imm .nilIface, .imm .nilIface, .imm .nilIface, .imm .nilIface, .imm .nilIface, .imm .nilIface, .int .i64 0] [], none⟩,⟨none, .store 26 (.tmp 4) (.tmp 22), none⟩,⟨some 5, .mv (.cst (.int .i64 1)), none⟩]
def path_From.k4 : LCode := .seq path_From.k2 (.cond (.tmp 21) (.seq path_From.k3 .ret) .skip)
def path_From.k5 : LCode := .text [⟨some 6, .alloc [.bool false, .bool false, .bool false, .bool false, .bool false, .bool false, .bool false, .bool false, .bool false, .bool false, .bool false, .bool false, .bool false, .bool false, .bool false, .bool false, .bool false, .bool false, .bool false, .bool false, .bool false, .bool false, .bool false, .bool false, .bool false, .bool false, .bool false, .bool false, .bool false, .bool false, .bool false, .bool false, .bool false, .bool false, .bool false, .bool false, .bool false, .bool false, .bool false, .bool false, .bool false, .bool false, .bool false, .bool false, .bool false, .bool false, .bool false, .bool false, .bool false, .bool false, .bool false, .bool false, .bool false, .bool false, .bool false, .bool false, .bool false, .bool false, .bool false, .bool false, .bool false, .bool false, .bool false, .bool false, .bool false, .bool false, .bool false, .bool false, .bool false, .bool false, .bool false, .bool false, .bool false, .bool false, .bool false, .bool false, .bool false, .bool false, .bool false, .bool false, .bool false, .bool false, .bool false, .bool false, .bool false, .bool false, .bool false, .bool false, .bool false, .bool false, .bool false, .bool false, .bool false, .bool false, .bool false, .bool false, .bool false, .bool false, .bool false, .bool false, .bool false, .bool false, .bool false, .bool false, .bool false, .bool false, .bool false, .bool false, .bool false, .bool false, .bool false, .bool false, .bool false, .bool false, .bool false, .bool false, .bool false, .bool false, .bool false, .bool false, .bool false, .bool false, .bool false, .bool false, .bool false, .bool false, .bool false, .bool false, .bool false, .bool false, .bool false, .bool false, .bool false, .bool false, .bool false, .bool false, .bool false, .bool false, .bool false, .bool false, .bool false, .bool false, .bool false, .bool false, .bool false, .bool false, .bool false, .bool false, .bool false, .bool false, .bool false, .bool false, .bool false, .bool false, .bool false, .bool false, .bool false, .bool false, .bool false, .bool false, .bool false, .bool false, .bool false, .bool false, .bool false, .bool false, .bool false, .bool false, .bool false, .bool false, .bool false, .bool false, .bool false, .bool false, .bool false, .bool false, .bool false, .bool false, .bool false, .bool false, .bool false, .bool false, .bool false, .bool false, .bool false, .bool false, .bool false, .bool false, .bool false, .bool false, .bool false, .bool false, .bool false, .bool false, .bool false, .bool false, .bool false, .bool false, .bool false, .bool false], none⟩]
def path_From.k6 : LCode := .text [⟨some 23, .mv (.tmp 1), none⟩,⟨some 24, .call (.cst (.fn (.func 40) [] [])) [], none⟩,⟨some 25, .build [.int .i64 0, .imm .nilIface, .imm .nilIface, .imm .nilIface, .imm .nilIface, .imm .nilIface, .imm .nilIface, .imm .nilIface, .imm .nilIface, .imm .nilIface, .imm .nilIface, .imm .nilIface, .imm .nilIface, .imm .nilIface, .imm .nilIface, .imm .nilIface, .imm .nilIface, .imm .nilIface, .imm .nilIface, .imm .nilIface, .imm .nilIface, .imm .nilIface, .imm .nilIface, .imm .nilIface, .imm .nilIface, .int .i64 0] [(0, 1, .tmp 23), (1, 24, .tmp 24)], none⟩,⟨some 7, .alloc [.int .i64 0, .imm .nilIface, .imm .nilIface, .imm .nilIface, .imm .nilIface, .imm .nilIface, .imm .nilIface, .imm .nilIface, .imm .nilIface, .imm .nilIface, .imm .nilIface, .imm .nilIface, .imm .nilIface, .imm .nilIface, .imm .nilIface, .imm .nilIface, .imm .nilIface, .imm .nilIface, .imm .nilIface, .imm .nilIface, .imm .nilIface, .imm .nilIface, .imm .nilIface, .imm .nilIface, .imm .nilIface, .int .i64 0], none⟩,⟨none, .store 26 (.tmp 7) (.tmp 25), none⟩]
def path_From.k7 : LCode := .text [⟨some 26, .mkFn (.func 41) [] [.tmp 2, .tmp 7, .tmp 6], none⟩,⟨some 8, .mv (.tmp 26), none⟩]
def path_From.k8 : LCode := .text [⟨some 27, .mv (.tmp 8), none⟩,⟨some 28, .call (.tmp 27) [], none⟩]
def path_From.k9 : LCode := .seq (.seq path_From.k8 (.cond (.tmp 28) .skip (.exit 0))) (.block 1 .skip)
def path_From.k10 : LCode := .text [⟨some 29, .faddr 0 (.tmp 7), none⟩,⟨some 30, .load false 1 (.tmp 29), none⟩,⟨some 31, .iaddrA 200 1 (.tmp 6) (.tmp 30), none⟩,⟨some 32, .load false 1 (.tmp 31), none⟩]
def path_From.k11 : LCode := .text [⟨some 33, .call (.cst (.fn (.func 40) [] [])) [], none⟩,⟨some 34, .build [.int .i64 0, .imm .nilIface, .imm .nilIface, .imm .nilIface, .imm .nilIface, .imm .nilIface, .imm .nilIface, .imm .nilIface, .imm .nilIface, .imm .nilIface, .imm .nilIface, .imm .nilIface, .imm .nilIface, .imm .nilIface, .imm .nilIface, .imm .nilIface, .imm .nilIface, .imm .nilIface, .imm .nilIface, .imm .nilIface, .imm .nilIface, .imm .nilIface, .imm .nilIface, .imm .nilIface, .imm .nilIface, .int .i64 0] [(0, 1, .cst (.int .i64 (-1))), (1, 24, .tmp 33)], none⟩,⟨none, .store 26 (.tmp 4) (.tmp 34), none⟩,⟨some 5, .mv (.cst (.int .i64 0)), none⟩]
def path_From.k12 : LCode := .seq path_From.k10 (.cond (.tmp 32) (.seq path_From.k11 .ret) .skip)
def path_From.k13 : LCode := .text [⟨some 35, .load true 26 (.tmp 7), none⟩,⟨none, .store 26 (.tmp 4) (.tmp 35), none⟩,⟨some 5, .mv (.cst (.int .i64 0)), none⟩]
def path_From.k14 : LCode := .seq (.block 0 (.loop path_From.k9)) (.seq path_From.k12 (.seq path_From.k13 .ret))
def path_From.k15 : LCode := .seq path_From.k5 (.seq path_From.k6 (.seq path_From.k7 path_From.k14))
def path_From.lc : LCode :=
 .seq path_From.k1 (.seq path_From.k4 path_From.k15)
theorem path_From.low : lowFn Tryd.prog 31 = some (36, path_From.lc, [.cell 4 true 26, .tmp 5]) := by kernel_rfl
def ins_rest.k1 : LCode := .text [⟨some 2, .box (.tmp 0), none⟩,⟨some 3, .box (.tmp 1), none⟩,⟨some 4, .alloc [.int .i64 0, .int .i64 0, .int .i64 0, .int .i64 0, .int .i64 0, .int .i64 0], none⟩]
def ins_rest.k2 : LCode := .text [⟨some 7, .faddr 0 (.tmp 2), none⟩,⟨none, .store 1 (.tmp 7) (.cst (.int .i64 0)), none⟩]
def ins_rest.k3 : LCode := .text [⟨some 8, .faddr 1 (.tmp 3), none⟩,⟨some 9, .load false 1 (.tmp 8), none⟩,⟨some 10, .range (.tmp 9), none⟩]
def ins_rest.k4 : LCode := .text [⟨some 11, .next (.tmp 10), none⟩,⟨some 12, .extract (.tmp 11) 0, none⟩]
def ins_rest.k5 : LCode := .text [⟨some 13, .extract (.tmp 11) 2, none⟩,⟨some 6, .mv (.tmp 13), none⟩]
def ins_rest.k6 : LCode := .text [⟨some 19, .bin .eql .other (.tmp 14) (.cst (.int .i32 78)), none⟩,⟨some 18, .mv (.tmp 19), none⟩]
def ins_rest.k7 : LCode := .text [⟨some 20, .faddr 4 (.tmp 2), none⟩,⟨none, .store 1 (.tmp 20) (.cst (.int .i64 0)), none⟩]
def ins_rest.k8 : LCode := .text [⟨some 22, .bin .eql .other (.tmp 14) (.cst (.int .i32 84)), none⟩,⟨some 21, .mv (.tmp 22), none⟩]
def ins_rest.k9 : LCode := .text [⟨some 23, .faddr 5 (.tmp 2), none⟩,⟨none, .store 1 (.tmp 23) (.cst (.int .i64 0)), none⟩]
def ins_rest.k10 : LCode := .text [⟨some 15, .mv (.tmp 6), none⟩,⟨some 16, .call (.cst (.fn (.func 45) [] [])) [.tmp 2, .tmp 15], none⟩,⟨some 17, .nilc (.tmp 16), none⟩,⟨none, .store 1 (.tmp 17) (.cst (.int .i64 0)), none⟩]
def ins_rest.k11 : LCode := .cond (.tmp 18) ins_rest.k7 (.seq ins_rest.k8 (.cond (.tmp 21) ins_rest.k9 ins_rest.k10))
def ins_rest.k12 : LCode := .seq (.text [⟨some 14, .mv (.tmp 6), none⟩]) (.block 2 (.seq ins_rest.k6 ins_rest.k11))
def ins_rest.k13 : LCode := .seq (.cond (.tmp 12) .skip (.exit 0)) (.block 1 (.seq ins_rest.k5 ins_rest.k12))
def ins_rest.k14 : LCode := .seq ins_rest.k3 (.block 0 (.loop (.seq ins_rest.k4 ins_rest.k13)))
def ins_rest.k15 : LCode := .text [⟨some 24, .load true 6 (.tmp 2), none⟩,⟨none, .store 6 (.tmp 4) (.tmp 24), none⟩]
def ins_rest.k16 : LCode := .seq ins_rest.k2 (.seq ins_rest.k14 (.seq ins_rest.k15 .ret))
def ins_rest.lc : LCode :=
 .seq ins_rest.k1 ins_rest.k16
theorem ins_rest.low : lowFn Tryd.prog 47 = some (25, ins_rest.lc, [.cell 4 true 6]) := by kernel_rfl
def env_Good.k1 : LCode := .text [⟨some 1, .box (.tmp 0), none⟩,⟨some 2, .mv (.cst (.bool false)), none⟩]
def env_Good.k2 : LCode := .text [⟨some 5, .load true 24 (.tmp 1), none⟩,⟨some 6, .mv (.cst (.int .i64 0)), none⟩]
def env_Good.k3 : LCode := .text [⟨some 7, .bin .lss .other (.tmp 6) (.cst (.int .i64 24)), none⟩]
def env_Good.k4 : LCode := .text [⟨some 8, .idxA 24 false 1 (.tmp 5) (.tmp 6), none⟩,⟨some 4, .mv (.tmp 8), none⟩]
def env_Good.k5 : LCode := .text [⟨some 9, .mv (.tmp 4), none⟩,⟨some 10, .call (.cst (.fn (.func 66) [] [])) [.tmp 9], none⟩,⟨some 11, .not (.tmp 10), none⟩]
def env_Good.k6 : LCode := .seq (.text [⟨some 2, .mv (.cst (.bool false)), none⟩]) .ret
def env_Good.k7 : LCode := .seq env_Good.k4 (.seq env_Good.k5 (.cond (.tmp 11) env_Good.k6 .skip))
def env_Good.k8 : LCode := .text [⟨some 12, .bin .add .other (.tmp 6) (.cst (.int .i64 1)), none⟩,⟨some 6, .mv (.tmp 12), none⟩]
def env_Good.k9 : LCode := .seq (.cond (.tmp 7) .skip (.exit 0)) (.seq (.block 1 env_Good.k7) env_Good.k8)
def env_Good.k10 : LCode := .seq env_Good.k2 (.block 0 (.loop (.seq env_Good.k3 env_Good.k9)))
def env_Good.k11 : LCode := .seq env_Good.k10 (.seq (.text [⟨some 2, .mv (.cst (.bool true)), none⟩]) .ret)
def env_Good.lc : LCode :=
 .seq env_Good.k1 env_Good.k11
theorem env_Good.low : lowFn Tryd.prog 63 = some (13, env_Good.lc, [.tmp 2]) := by kernel_rfl
def shrink_least_int.k1 : LCode := .text [⟨some 8, .mv (.tmp 0), none⟩,⟨some 9, .mv (.tmp 1), none⟩,⟨some 10, .bin .lss .other (.tmp 8) (.tmp 9), none⟩]
def shrink_least_int.k2 : LCode := .text [⟨some 11, .mv (.tmp 0), none⟩,⟨some 12, .mv (.tmp 1), none⟩,⟨some 13, .mv (.tmp 0), none⟩,⟨some 14, .bin .sub .other (.tmp 12) (.tmp 13), none⟩,⟨some 15, .bin .quo .other (.tmp 14) (.cst (.int .i64 2)), none⟩,⟨some 16, .bin .add .other (.tmp 11) (.tmp 15), none⟩,⟨some 7, .mv (.tmp 16), none⟩]
def shrink_least_int.k3 : LCode := .text [⟨some 17, .mv (.tmp 2), none⟩,⟨some 18, .mv (.tmp 7), none⟩,⟨some 19, .call (.tmp 17) [.tmp 18], none⟩]
def shrink_least_int.k4 : LCode := .text [⟨some 20, .mv (.tmp 7), none⟩,⟨some 1, .mv (.tmp 20), none⟩]
def shrink_least_int.k5 : LCode := .text [⟨some 21, .mv (.tmp 7), none⟩,⟨some 22, .bin .add .other (.tmp 21) (.cst (.int .i64 1)), none⟩,⟨some 0, .mv (.tmp 22), none⟩]
def shrink_least_int.k6 : LCode := .seq shrink_least_int.k3 (.cond (.tmp 19) shrink_least_int.k4 shrink_least_int.k5)
def shrink_least_int.k7 : LCode := .seq (.seq shrink_least_int.k1 (.cond (.tmp 10) .skip (.exit 0))) (.block 1 (.seq shrink_least_int.k2 shrink_least_int.k6))
def shrink_least_int.k8 : LCode := .text [⟨some 23, .mv (.tmp 0), none⟩,⟨some 6, .mv (.tmp 23), none⟩]
def shrink_least_int.k9 : LCode := .seq (.block 0 (.loop shrink_least_int.k7)) (.seq shrink_least_int.k8 .ret)
def shrink_least_int.lc : LCode :=
 .seq (.text [⟨some 6, .mv (.cst (.int .i64 0)), none⟩]) shrink_least_int.k9
theorem shrink_least_int.low : lowFn Tryd.prog 16 = some (24, shrink_least_int.lc, [.tmp 6]) := by kernel_rfl
def ins_words.k1 : LCode := .text [⟨some 7, .mv (.tmp 0), none⟩,⟨some 8, .range (.tmp 7), none⟩]
def ins_words.k2 : LCode := .text [⟨some 9, .next (.tmp 8), none⟩,⟨some 10, .extract (.tmp 9) 0, none⟩]
def ins_words.k3 : LCode := .text [⟨some 11, .extract (.tmp 9) 1, none⟩,⟨some 12, .extract (.tmp 9) 2, none⟩,⟨some 5, .mv (.tmp 11), none⟩,⟨some 6, .mv (.tmp 12), none⟩]
def ins_words.k4 : LCode := .text [⟨some 13, .mv (.tmp 6), none⟩,⟨some 14, .bin .eql .other (.tmp 13) (.cst (.int .i32 32)), none⟩]
def ins_words.k5 : LCode := .text [⟨some 15, .mv (.tmp 3), none⟩,⟨some 16, .mv (.tmp 0), none⟩,⟨some 17, .mv (.tmp 4), none⟩,⟨some 18, .mv (.tmp 5), none⟩,⟨some 19, .sliceS (.tmp 16) (some (.tmp 17)) (some (.tmp 18)), none⟩,⟨some 20, .bslice 1 [.str ⟨#[]⟩] 1 [(0, .tmp 19)], none⟩,⟨some 21, .append 1 16 (.tmp 15) (.tmp 20), none⟩,⟨some 3, .mv (.tmp 21), none⟩]
def ins_words.k6 : LCode := .text [⟨some 22, .mv (.tmp 5), none⟩,⟨some 23, .bin .add .other (.tmp 22) (.cst (.int .i64 1)), none⟩,⟨some 4, .mv (.tmp 23), none⟩]
def ins_words.k7 : LCode := .seq ins_words.k4 (.cond (.tmp 14) (.seq ins_words.k5 ins_words.k6) .skip)
def ins_words.k8 : LCode := .seq (.cond (.tmp 10) .skip (.exit 0)) (.block 1 (.seq ins_words.k3 ins_words.k7))
def ins_words.k9 : LCode := .seq ins_words.k1 (.block 0 (.loop (.seq ins_words.k2 ins_words.k8)))
def ins_words.k10 : LCode := .text [⟨some 24, .mv (.tmp 3), none⟩,⟨some 25, .mv (.tmp 0), none⟩,⟨some 26, .mv (.tmp 4), none⟩,⟨some 27, .sliceS (.tmp 25) (some (.tmp 26)) none, none⟩,⟨some 28, .bslice 1 [.str ⟨#[]⟩] 1 [(0, .tmp 27)], none⟩,⟨some 29, .append 1 16 (.tmp 24) (.tmp 28), none⟩,⟨some 2, .mv (.tmp 29), none⟩]
def ins_words.k11 : LCode := .seq (.text [⟨some 4, .mv (.cst (.int .i64 0)), none⟩]) (.seq ins_words.k9 (.seq ins_words.k10 .ret))
def ins_words.k12 : LCode := .seq (.text [⟨some 3, .mv (.cst (.imm (.slice none 0 0))), none⟩]) ins_words.k11
def ins_words.lc : LCode :=
 .seq (.text [⟨some 2, .mv (.cst (.imm (.slice none 0 0))), none⟩]) ins_words.k12
theorem ins_words.low : lowFn Tryd.prog 32 = some (30, ins_words.lc, [.tmp 2]) := by kernel_rfl
def loc_Right.k1 : LCode := .text [⟨some 3, .mv (.tmp 0), none⟩,⟨some 4, .bin .geq .other (.tmp 3) (.cst (.int .i64 0)), none⟩,⟨some 5, .mv (.tmp 4), none⟩,⟨some 6, .mv (.tmp 0), some (5, true)⟩,⟨some 7, .bin .lss .other (.tmp 6) (.cst (.int .i64 24)), some (5, true)⟩,⟨some 8, .pick (.tmp 5) (.tmp 7) (.cst (.bool false)), none⟩,⟨some 2, .mv (.tmp 8), none⟩]
def loc_Right.lc : LCode :=
 .seq (.text [⟨some 2, .mv (.cst (.bool false)), none⟩]) (.seq loc_Right.k1 .ret)
theorem loc_Right.low : lowFn Tryd.prog 48 = some (9, loc_Right.lc, [.tmp 2]) := by kernel_rfl
def heap_in.k1 : LCode := .text [⟨some 5, .mv (.tmp 0), none⟩,⟨some 6, .call (.cst (.fn (.func 50) [] [])) [.tmp 5], none⟩,⟨some 7, .mv (.tmp 6), none⟩,⟨some 8, .mv (.tmp 1), some (7, true)⟩,⟨some 9, .bin .geq .other (.tmp 8) (.cst (.int .i64 0)), some (7, true)⟩,⟨some 10, .pick (.tmp 7) (.tmp 9) (.cst (.bool false)), none⟩,⟨some 11, .mv (.tmp 10), none⟩,⟨some 12, .mv (.tmp 1), some (11, true)⟩,⟨some 13, .mv (.tmp 0), some (11, true)⟩,⟨some 14, .len .slice (.tmp 13), some (11, true)⟩,⟨some 15, .bin .lss .other (.tmp 12) (.tmp 14), some (11, true)⟩,⟨some 16, .pick (.tmp 11) (.tmp 15) (.cst (.bool false)), none⟩,⟨some 4, .mv (.tmp 16), none⟩]
def heap_in.lc : LCode :=
 .seq (.text [⟨some 4, .mv (.cst (.bool false)), none⟩]) (.seq heap_in.k1 .ret)
theorem heap_in.low : lowFn Tryd.prog 64 = some (17, heap_in.lc, [.tmp 4]) := by kernel_rfl
def shrink_Case_2.k1 : LCode := .text [⟨some 6, .load true 11 (.tmp 1), none⟩,⟨some 5, .alloc [.int .i64 0, .int .i64 0, .int .i64 0, .int .i64 0, .int .i64 0, .int .i64 0, .int .i64 0, .int .i64 0, .imm (.slice none 0 0), .imm (.slice none 0 0), .int .i64 0], none⟩,⟨none, .store 11 (.tmp 5) (.tmp 6), none⟩]
def shrink_Case_2.k2 : LCode := .text [⟨some 7, .mv (.tmp 0), none⟩,⟨some 8, .faddr 10 (.tmp 5), none⟩,⟨none, .store 1 (.tmp 8) (.tmp 7), none⟩]
def shrink_Case_2.k3 : LCode := .text [⟨some 9, .load false 1 (.tmp 2), none⟩,⟨some 10, .load true 11 (.tmp 5), none⟩,⟨some 11, .call (.tmp 9) [.tmp 10], none⟩,⟨some 4, .mv (.tmp 11), none⟩]
def shrink_Case_2.k4 : LCode := .seq shrink_Case_2.k1 (.seq shrink_Case_2.k2 (.seq shrink_Case_2.k3 .ret))
def shrink_Case_2.lc : LCode :=
 .seq (.text [⟨some 4, .mv (.cst (.bool false)), none⟩]) shrink_Case_2.k4
theorem shrink_Case_2.low : lowFn Tryd.prog 17 = some (12, shrink_Case_2.lc, [.tmp 4]) := by kernel_rfl
def ins_fill.k1 : LCode := .text [⟨some 13, .bin .eql .other (.tmp 11) (.cst (.int .i32 78)), none⟩,⟨some 12, .mv (.tmp 13), none⟩]
def ins_fill.k2 : LCode := .text [⟨some 14, .bin .eql .other (.tmp 11) (.cst (.int .i32 84)), none⟩,⟨some 12, .mv (.tmp 14), none⟩]
def ins_fill.k3 : LCode := .text [⟨some 16, .mv (.tmp 2), none⟩,⟨some 17, .call (.cst (.fn (.func 43) [] [])) [.tmp 16], none⟩,⟨some 15, .mv (.tmp 17), none⟩,⟨some 18, .extract (.tmp 15) 0, none⟩,⟨some 19, .extract (.tmp 15) 1, none⟩,⟨some 7, .mv (.tmp 18), none⟩,⟨some 8, .mv (.tmp 19), none⟩]
def ins_fill.k4 : LCode := .text [⟨some 20, .mv (.tmp 1), none⟩,⟨some 21, .bin .eql .other (.tmp 20) (.cst (.int .i32 78)), none⟩]
def ins_fill.k5 : LCode := .text [⟨some 22, .mv (.tmp 0), none⟩,⟨some 23, .mv (.tmp 7), none⟩,⟨some 24, .nilc (.tmp 22), none⟩,⟨some 25, .faddr 4 (.tmp 24), none⟩,⟨none, .store 1 (.tmp 25) (.tmp 23), none⟩]
def ins_fill.k6 : LCode := .text [⟨some 26, .mv (.tmp 0), none⟩,⟨some 27, .mv (.tmp 7), none⟩,⟨some 28, .nilc (.tmp 26), none⟩,⟨some 29, .faddr 5 (.tmp 28), none⟩,⟨none, .store 1 (.tmp 29) (.tmp 27), none⟩]
def ins_fill.k7 : LCode := .text [⟨some 30, .mv (.tmp 8), none⟩,⟨some 6, .mv (.tmp 30), none⟩]
def ins_fill.k8 : LCode := .seq (.seq ins_fill.k4 (.cond (.tmp 21) ins_fill.k5 ins_fill.k6)) (.seq ins_fill.k7 .ret)
def ins_fill.k9 : LCode := .seq (.seq ins_fill.k1 (.cond (.tmp 12) .skip ins_fill.k2)) (.cond (.tmp 12) (.seq ins_fill.k3 ins_fill.k8) .skip)
def ins_fill.k10 : LCode := .seq (.text [⟨some 11, .mv (.tmp 1), none⟩]) (.block 0 ins_fill.k9)
def ins_fill.k11 : LCode := .text [⟨some 32, .mv (.tmp 2), none⟩,⟨some 33, .call (.cst (.fn (.func 44) [] [])) [.tmp 32], none⟩,⟨some 31, .mv (.tmp 33), none⟩,⟨some 34, .extract (.tmp 31) 0, none⟩,⟨some 35, .extract (.tmp 31) 1, none⟩,⟨some 9, .mv (.tmp 34), none⟩,⟨some 10, .mv (.tmp 35), none⟩]
def ins_fill.k12 : LCode := .text [⟨some 36, .mv (.tmp 0), none⟩,⟨some 37, .mv (.tmp 1), none⟩,⟨some 38, .call (.cst (.fn (.func 45) [] [])) [.tmp 36, .tmp 37], none⟩,⟨some 39, .mv (.tmp 9), none⟩,⟨some 40, .nilc (.tmp 38), none⟩,⟨none, .store 1 (.tmp 40) (.tmp 39), none⟩]
def ins_fill.k13 : LCode := .text [⟨some 41, .mv (.tmp 10), none⟩,⟨some 6, .mv (.tmp 41), none⟩]
def ins_fill.k14 : LCode := .seq ins_fill.k11 (.seq ins_fill.k12 (.seq ins_fill.k13 .ret))
def ins_fill.lc : LCode :=
 .seq (.text [⟨some 6, .mv (.cst (.int .i64 0)), none⟩]) (.seq ins_fill.k10 ins_fill.k14)
theorem ins_fill.low : lowFn Tryd.prog 33 = some (42, ins_fill.lc, [.tmp 6]) := by kernel_rfl
def loc_Reg.k1 : LCode := .text [⟨some 3, .mv (.tmp 0), none⟩,⟨some 4, .bin .geq .other (.tmp 3) (.cst (.int .i64 0)), none⟩,⟨some 5, .mv (.tmp 4), none⟩,⟨some 6, .mv (.tmp 0), some (5, true)⟩,⟨some 7, .bin .lss .other (.tmp 6) (.cst (.int .i64 8)), some (5, true)⟩,⟨some 8, .pick (.tmp 5) (.tmp 7) (.cst (.bool false)), none⟩,⟨some 2, .mv (.tmp 8), none⟩]
def loc_Reg.lc : LCode :=
 .seq (.text [⟨some 2, .mv (.cst (.bool false)), none⟩]) (.seq loc_Reg.k1 .ret)
theorem loc_Reg.low : lowFn Tryd.prog 49 = some (9, loc_Reg.lc, [.tmp 2]) := by kernel_rfl
def num_deeds.k1 : LCode := .text [⟨some 1, .mkMap, none⟩,⟨none, .mapSet (.tmp 1) (.cst (.int .i64 4)) (.cst (.fn (.func 67) [] [])), none⟩,⟨none, .mapSet (.tmp 1) (.cst (.int .i64 5)) (.cst (.fn (.func 68) [] [])), none⟩,⟨none, .mapSet (.tmp 1) (.cst (.int .i64 6)) (.cst (.fn (.func 69) [] [])), none⟩,⟨none, .mapSet (.tmp 1) (.cst (.int .i64 7)) (.cst (.fn (.func 70) [] [])), none⟩,⟨none, .mapSet (.tmp 1) (.cst (.int .i64 8)) (.cst (.fn (.func 71) [] [])), none⟩,⟨none, .mapSet (.tmp 1) (.cst (.int .i64 9)) (.cst (.fn (.func 72) [] [])), none⟩,⟨none, .mapSet (.tmp 1) (.cst (.int .i64 10)) (.cst (.fn (.func 73) [] [])), none⟩,⟨none, .mapSet (.tmp 1) (.cst (.int .i64 11)) (.cst (.fn (.func 74) [] [])), none⟩,⟨none, .mapSet (.tmp 1) (.cst (.int .i64 12)) (.cst (.fn (.func 76) [] [])), none⟩,⟨some 2, .mv (.tmp 1), none⟩,⟨some 0, .mv (.tmp 2), none⟩]
def num_deeds.lc : LCode :=
 .seq (.text [⟨some 0, .mv (.cst (.imm (.map none))), none⟩]) (.seq num_deeds.k1 .ret)
theorem num_deeds.low : lowFn Tryd.prog 65 = some (3, num_deeds.lc, [.tmp 0]) := by kernel_rfl
def shrink_Case_3.k1 : LCode := .text [⟨some 6, .load true 11 (.tmp 1), none⟩,⟨some 5, .alloc [.int .i64 0, .int .i64 0, .int .i64 0, .int .i64 0, .int .i64 0, .int .i64 0, .int .i64 0, .int .i64 0, .imm (.slice none 0 0), .imm (.slice none 0 0), .int .i64 0], none⟩,⟨none, .store 11 (.tmp 5) (.tmp 6), none⟩]
def shrink_Case_3.k2 : LCode := .text [⟨some 7, .faddr 9 (.tmp 1), none⟩,⟨some 8, .load false 1 (.tmp 7), none⟩,⟨some 9, .mv (.tmp 0), none⟩,⟨some 10, .slice 1 (.tmp 8) none (some (.tmp 9)) none, none⟩,⟨some 11, .faddr 9 (.tmp 5), none⟩,⟨none, .store 1 (.tmp 11) (.tmp 10), none⟩]
def shrink_Case_3.k3 : LCode := .text [⟨some 12, .load false 1 (.tmp 2), none⟩,⟨some 13, .load true 11 (.tmp 5), none⟩,⟨some 14, .call (.tmp 12) [.tmp 13], none⟩,⟨some 4, .mv (.tmp 14), none⟩]
def shrink_Case_3.k4 : LCode := .seq shrink_Case_3.k1 (.seq shrink_Case_3.k2 (.seq shrink_Case_3.k3 .ret))
def shrink_Case_3.lc : LCode :=
 .seq (.text [⟨some 4, .mv (.cst (.bool false)), none⟩]) shrink_Case_3.k4
theorem shrink_Case_3.low : lowFn Tryd.prog 18 = some (15, shrink_Case_3.lc, [.tmp 4]) := by kernel_rfl
def ins_Check.k1 : LCode := .text [⟨some 2, .box (.tmp 0), none⟩,⟨some 4, .mv (.cst (.int .i64 0)), none⟩]
def ins_Check.k2 : LCode := .text [⟨some 11, .faddr 0 (.tmp 2), none⟩,⟨some 12, .load false 1 (.tmp 11), none⟩,⟨some 13, .call (.cst (.fn (.func 46) [] [])) [.tmp 12], none⟩,⟨some 10, .mv (.tmp 13), none⟩,⟨some 14, .extract (.tmp 10) 0, none⟩,⟨some 15, .extract (.tmp 10) 1, none⟩,⟨some 5, .alloc [.str ⟨#[]⟩, .str ⟨#[]⟩], none⟩,⟨none, .store 2 (.tmp 5) (.tmp 14), none⟩,⟨some 6, .mv (.tmp 15), none⟩]
def ins_Check.k3 : LCode := .text [⟨some 16, .mv (.tmp 6), none⟩,⟨some 17, .not (.tmp 16), none⟩,⟨some 18, .mv (.tmp 17), none⟩,⟨some 19, .load true 6 (.tmp 2), some (18, false)⟩,⟨some 20, .load true 2 (.tmp 5), some (18, false)⟩,⟨some 21, .call (.cst (.fn (.func 47) [] [])) [.tmp 19, .tmp 20], some (18, false)⟩,⟨some 22, .build [.int .i64 0, .int .i64 0, .int .i64 0, .int .i64 0, .int .i64 0, .int .i64 0] [], some (18, false)⟩,⟨some 23, .bin .neq (.cells [.i, .i, .i, .i, .i, .i]) (.tmp 21) (.tmp 22), some (18, false)⟩,⟨some 24, .pick (.tmp 18) (.cst (.bool true)) (.tmp 23), none⟩,⟨some 25, .mv (.tmp 24), none⟩,⟨some 26, .faddr 0 (.tmp 2), some (25, false)⟩,⟨some 27, .load false 1 (.tmp 26), some (25, false)⟩,⟨some 28, .bin .eql .other (.tmp 27) (.cst (.int .i64 15)), some (25, false)⟩,⟨some 29, .mv (.tmp 28), some (25, false)⟩,⟨some 30, .faddr 4 (.tmp 2), some (29, true)⟩,⟨some 31, .load false 1 (.tmp 30), some (29, true)⟩,⟨some 32, .bin .lss .other (.tmp 31) (.cst (.int .i64 0)), some (29, true)⟩,⟨some 33, .mv (.tmp 32), some (29, true)⟩,⟨some 34, .faddr 4 (.tmp 2), some (33, false)⟩,⟨some 35, .load false 1 (.tmp 34), some (33, false)⟩,⟨some 36, .bin .gtr .other (.tmp 35) (.cst (.int .i64 99)), some (33, false)⟩,⟨some 37, .pick (.tmp 33) (.cst (.bool true)) (.tmp 36), some (29, true)⟩,⟨some 38, .pick (.tmp 29) (.tmp 37) (.cst (.bool false)), some (25, false)⟩,⟨some 39, .pick (.tmp 25) (.cst (.bool true)) (.tmp 38), none⟩]
def ins_Check.k4 : LCode := .seq (.text [⟨some 4, .mv (.cst (.int .i64 1)), none⟩]) .ret
def ins_Check.k5 : LCode := .text [⟨some 40, .faddr 1 (.tmp 5), none⟩,⟨some 41, .load false 1 (.tmp 40), none⟩,⟨some 42, .range (.tmp 41), none⟩]
def ins_Check.k6 : LCode := .text [⟨some 43, .next (.tmp 42), none⟩,⟨some 44, .extract (.tmp 43) 0, none⟩]
def ins_Check.k7 : LCode := .text [⟨some 45, .extract (.tmp 43) 2, none⟩,⟨some 9, .mv (.tmp 45), none⟩]
def ins_Check.k8 : LCode := .text [⟨some 47, .mv (.tmp 9), none⟩,⟨some 48, .bin .eql .other (.tmp 47) (.cst (.int .i32 78)), none⟩,⟨some 46, .mv (.tmp 48), none⟩]
def ins_Check.k9 : LCode := .text [⟨some 50, .mv (.tmp 9), none⟩,⟨some 51, .bin .eql .other (.tmp 50) (.cst (.int .i32 84)), none⟩,⟨some 49, .mv (.tmp 51), none⟩]
def ins_Check.k10 : LCode := .text [⟨some 52, .faddr 5 (.tmp 2), none⟩,⟨some 53, .load false 1 (.tmp 52), none⟩,⟨some 54, .bin .lss .other (.tmp 53) (.cst (.int .i64 0)), none⟩,⟨some 55, .mv (.tmp 54), none⟩,⟨some 56, .faddr 5 (.tmp 2), some (55, false)⟩,⟨some 57, .load false 1 (.tmp 56), some (55, false)⟩,⟨some 58, .mv (.tmp 1), some (55, false)⟩,⟨some 59, .bin .geq .other (.tmp 57) (.tmp 58), some (55, false)⟩,⟨some 60, .pick (.tmp 55) (.cst (.bool true)) (.tmp 59), none⟩,⟨some 7, .mv (.tmp 60), none⟩]
def ins_Check.k11 : LCode := .text [⟨some 62, .mv (.tmp 9), none⟩,⟨some 63, .bin .geq .other (.tmp 62) (.cst (.int .i32 97)), none⟩,⟨some 64, .mv (.tmp 63), none⟩,⟨some 65, .mv (.tmp 9), some (64, true)⟩,⟨some 66, .call (.cst (.fn (.func 45) [] [])) [.tmp 2, .tmp 65], some (64, true)⟩,⟨some 67, .nilc (.tmp 66), some (64, true)⟩,⟨some 68, .load false 1 (.tmp 67), some (64, true)⟩,⟨some 69, .call (.cst (.fn (.func 48) [] [])) [.tmp 68], some (64, true)⟩,⟨some 70, .not (.tmp 69), some (64, true)⟩,⟨some 71, .pick (.tmp 64) (.tmp 70) (.cst (.bool false)), none⟩,⟨some 61, .mv (.tmp 71), none⟩]
def ins_Check.k12 : LCode := .text [⟨some 72, .mv (.tmp 9), none⟩,⟨some 73, .bin .lss .other (.tmp 72) (.cst (.int .i32 97)), none⟩,⟨some 74, .mv (.tmp 73), none⟩,⟨some 75, .mv (.tmp 9), some (74, true)⟩,⟨some 76, .call (.cst (.fn (.func 45) [] [])) [.tmp 2, .tmp 75], some (74, true)⟩,⟨some 77, .nilc (.tmp 76), some (74, true)⟩,⟨some 78, .load false 1 (.tmp 77), some (74, true)⟩,⟨some 79, .call (.cst (.fn (.func 49) [] [])) [.tmp 78], some (74, true)⟩,⟨some 80, .not (.tmp 79), some (74, true)⟩,⟨some 81, .pick (.tmp 74) (.tmp 80) (.cst (.bool false)), none⟩,⟨some 61, .mv (.tmp 81), none⟩]
def ins_Check.k13 : LCode := .seq (.text [⟨some 4, .mv (.cst (.int .i64 6)), none⟩]) .ret
def ins_Check.k14 : LCode := .seq (.seq ins_Check.k11 (.cond (.tmp 61) .skip ins_Check.k12)) (.cond (.tmp 61) ins_Check.k13 .skip)
def ins_Check.k15 : LCode := .seq ins_Check.k9 (.cond (.tmp 49) ins_Check.k10 ins_Check.k14)
def ins_Check.k16 : LCode := .block 2 (.seq ins_Check.k8 (.cond (.tmp 46) .skip ins_Check.k15))
def ins_Check.k17 : LCode := .seq (.cond (.tmp 44) .skip (.exit 0)) (.block 1 (.seq ins_Check.k7 ins_Check.k16))
def ins_Check.k18 : LCode := .seq ins_Check.k5 (.block 0 (.loop (.seq ins_Check.k6 ins_Check.k17)))
def ins_Check.k19 : LCode := .seq (.text [⟨some 4, .mv (.cst (.int .i64 4)), none⟩]) .ret
def ins_Check.k20 : LCode := .seq (.text [⟨some 82, .mv (.tmp 7), none⟩]) (.cond (.tmp 82) ins_Check.k19 .skip)
def ins_Check.k21 : LCode := .seq (.text [⟨some 4, .mv (.cst (.int .i64 0)), none⟩]) .ret
def ins_Check.k22 : LCode := .seq (.text [⟨some 7, .mv (.cst (.bool false)), none⟩]) (.seq ins_Check.k18 (.seq ins_Check.k20 ins_Check.k21))
def ins_Check.k23 : LCode := .seq (.seq ins_Check.k3 (.cond (.tmp 39) ins_Check.k4 .skip)) ins_Check.k22
def ins_Check.lc : LCode :=
 .seq ins_Check.k1 (.seq ins_Check.k2 ins_Check.k23)
theorem ins_Check.low : lowFn Tryd.prog 34 = some (83, ins_Check.lc, [.tmp 4]) := by kernel_rfl
def heap_Right.k1 : LCode := .text [⟨some 3, .mv (.tmp 0), none⟩,⟨some 4, .len .slice (.tmp 3), none⟩,⟨some 5, .bin .leq .other (.tmp 4) (.cst (.int .i64 16)), none⟩,⟨some 2, .mv (.tmp 5), none⟩]
def heap_Right.lc : LCode :=
 .seq (.text [⟨some 2, .mv (.cst (.bool false)), none⟩]) (.seq heap_Right.k1 .ret)
theorem heap_Right.low : lowFn Tryd.prog 50 = some (6, heap_Right.lc, [.tmp 2]) := by kernel_rfl
def env_may.k1 : LCode := .text [⟨some 8, .mv (.tmp 0), none⟩,⟨some 9, .assertT 112 (.agg [.int .i64 0]) (.tmp 8), none⟩,⟨some 7, .mv (.tmp 9), none⟩,⟨some 10, .extract (.tmp 7) 0, none⟩,⟨some 11, .extract (.tmp 7) 1, none⟩,⟨some 3, .alloc [.int .i64 0], none⟩,⟨none, .store 1 (.tmp 3) (.tmp 10), none⟩,⟨some 4, .mv (.tmp 11), none⟩]
def env_may.k2 : LCode := .text [⟨some 13, .faddr 0 (.tmp 3), none⟩,⟨some 14, .load false 1 (.tmp 13), none⟩,⟨some 15, .call (.cst (.fn (.func 48) [] [])) [.tmp 14], none⟩,⟨some 2, .mv (.tmp 15), none⟩]
def env_may.k3 : LCode := .seq (.text [⟨some 12, .mv (.tmp 4), none⟩]) (.cond (.tmp 12) (.seq env_may.k2 .ret) .skip)
def env_may.k4 : LCode := .text [⟨some 17, .mv (.tmp 0), none⟩,⟨some 18, .assertT 115 (.agg [.int .i64 0]) (.tmp 17), none⟩,⟨some 16, .mv (.tmp 18), none⟩,⟨some 19, .extract (.tmp 16) 0, none⟩,⟨some 20, .extract (.tmp 16) 1, none⟩,⟨some 5, .alloc [.int .i64 0], none⟩,⟨none, .store 1 (.tmp 5) (.tmp 19), none⟩,⟨some 6, .mv (.tmp 20), none⟩]
def env_may.k5 : LCode := .text [⟨some 21, .mv (.tmp 6), none⟩,⟨some 2, .mv (.tmp 21), none⟩]
def env_may.k6 : LCode := .seq (.seq env_may.k1 env_may.k3) (.seq env_may.k4 (.seq env_may.k5 .ret))
def env_may.lc : LCode :=
 .seq (.text [⟨some 2, .mv (.cst (.bool false)), none⟩]) env_may.k6
theorem env_may.low : lowFn Tryd.prog 66 = some (22, env_may.lc, [.tmp 2]) := by kernel_rfl
end Go.Proofs.YtphmakopjfbmnaaDoor
