/-
  Texts of this claim, put together.
-/
import Derived.Test.YtnbdpjhmepgoaaaDoorProg
import Derived.KernelRfl
import Derived.Test.YtnbdpjhmepgoaaaDoorZ9
namespace Go.Proofs.YtnbdpjhmepgoaaaDoor
set_option maxRecDepth 100000
def asm_Check.k1 : LCode := .text [⟨some 2, .mv (.cst (.int .i64 0)), none⟩,⟨some 3, .mv (.cst (.int .i64 0)), none⟩]
def asm_Check.k2 : LCode := .text [⟨some 9, .mv (.tmp 0), none⟩,⟨some 10, .len .slice (.tmp 9), none⟩,⟨some 11, .bin .gtr .other (.tmp 10) (.cst (.int .i64 200)), none⟩,⟨some 8, .mv (.tmp 11), none⟩]
def asm_Check.k3 : LCode := .text [⟨some 2, .mv (.cst (.int .i64 0)), none⟩,⟨some 3, .mv (.cst (.int .i64 3)), none⟩]
def asm_Check.k4 : LCode := .text [⟨some 13, .mv (.tmp 0), none⟩,⟨some 14, .len .slice (.tmp 13), none⟩,⟨some 15, .bin .eql .other (.tmp 14) (.cst (.int .i64 0)), none⟩,⟨some 12, .mv (.tmp 15), none⟩]
def asm_Check.k5 : LCode := .text [⟨some 2, .mv (.cst (.int .i64 0)), none⟩,⟨some 3, .mv (.cst (.int .i64 5)), none⟩]
def asm_Check.k6 : LCode := .seq asm_Check.k4 (.cond (.tmp 12) (.seq asm_Check.k5 .ret) .skip)
def asm_Check.k7 : LCode := .seq asm_Check.k2 (.cond (.tmp 8) (.seq asm_Check.k3 .ret) asm_Check.k6)
def asm_Check.k8 : LCode := .text [⟨some 16, .mv (.tmp 0), none⟩,⟨some 17, .len .slice (.tmp 16), none⟩,⟨some 18, .mv (.cst (.int .i64 0)), none⟩]
def asm_Check.k9 : LCode := .text [⟨some 19, .bin .lss .other (.tmp 18) (.tmp 17), none⟩]
def asm_Check.k10 : LCode := .text [⟨some 20, .mv (.tmp 18), none⟩,⟨some 21, .iaddrS 6 (.tmp 16) (.tmp 18), none⟩,⟨some 22, .load true 6 (.tmp 21), none⟩,⟨some 5, .alloc [.int .i64 0, .int .i64 0, .int .i64 0, .int .i64 0, .int .i64 0, .int .i64 0], none⟩,⟨some 4, .mv (.tmp 20), none⟩,⟨none, .store 6 (.tmp 5) (.tmp 22), none⟩]
def asm_Check.k11 : LCode := .text [⟨some 23, .load true 6 (.tmp 5), none⟩,⟨some 24, .mv (.tmp 0), none⟩,⟨some 25, .len .slice (.tmp 24), none⟩,⟨some 26, .call (.cst (.fn (.func 42) [] [])) [.tmp 23, .tmp 25], none⟩,⟨some 6, .mv (.tmp 26), none⟩]
def asm_Check.k12 : LCode := .text [⟨some 27, .mv (.tmp 6), none⟩,⟨some 28, .bin .neq .other (.tmp 27) (.cst (.int .i64 0)), none⟩]
def asm_Check.k13 : LCode := .text [⟨some 29, .mv (.tmp 4), none⟩,⟨some 30, .mv (.tmp 6), none⟩,⟨some 2, .mv (.tmp 29), none⟩,⟨some 3, .mv (.tmp 30), none⟩]
def asm_Check.k14 : LCode := .seq asm_Check.k12 (.cond (.tmp 28) (.seq asm_Check.k13 .ret) .skip)
def asm_Check.k15 : LCode := .block 2 (.seq asm_Check.k10 (.seq asm_Check.k11 asm_Check.k14))
def asm_Check.k16 : LCode := .text [⟨some 31, .bin .add .other (.tmp 18) (.cst (.int .i64 1)), none⟩,⟨some 18, .mv (.tmp 31), none⟩]
def asm_Check.k17 : LCode := .seq (.cond (.tmp 19) .skip (.exit 1)) (.seq asm_Check.k15 asm_Check.k16)
def asm_Check.k18 : LCode := .seq asm_Check.k8 (.block 1 (.loop (.seq asm_Check.k9 asm_Check.k17)))
def asm_Check.k19 : LCode := .text [⟨some 32, .mv (.tmp 0), none⟩,⟨some 33, .len .slice (.tmp 32), none⟩,⟨some 34, .bin .sub .other (.tmp 33) (.cst (.int .i64 1)), none⟩,⟨some 7, .mv (.tmp 34), none⟩]
def asm_Check.k20 : LCode := .text [⟨some 35, .mv (.tmp 0), none⟩,⟨some 36, .mv (.tmp 7), none⟩,⟨some 37, .iaddrS 6 (.tmp 35) (.tmp 36), none⟩,⟨some 38, .faddr 0 (.tmp 37), none⟩,⟨some 39, .load false 1 (.tmp 38), none⟩,⟨some 40, .bin .neq .other (.tmp 39) (.cst (.int .i64 16)), none⟩,⟨some 41, .mv (.tmp 40), none⟩,⟨some 42, .mv (.tmp 0), some (41, true)⟩,⟨some 43, .mv (.tmp 7), some (41, true)⟩,⟨some 44, .iaddrS 6 (.tmp 42) (.tmp 43), some (41, true)⟩,⟨some 45, .faddr 0 (.tmp 44), some (41, true)⟩,⟨some 46, .load false 1 (.tmp 45), some (41, true)⟩,⟨some 47, .bin .neq .other (.tmp 46) (.cst (.int .i64 18)), some (41, true)⟩,⟨some 48, .pick (.tmp 41) (.tmp 47) (.cst (.bool false)), none⟩]
def asm_Check.k21 : LCode := .text [⟨some 49, .mv (.tmp 7), none⟩,⟨some 2, .mv (.tmp 49), none⟩,⟨some 3, .mv (.cst (.int .i64 5)), none⟩]
def asm_Check.k22 : LCode := .seq asm_Check.k20 (.cond (.tmp 48) (.seq asm_Check.k21 .ret) .skip)
def asm_Check.k23 : LCode := .text [⟨some 2, .mv (.cst (.int .i64 0)), none⟩,⟨some 3, .mv (.cst (.int .i64 0)), none⟩]
def asm_Check.k24 : LCode := .seq (.seq asm_Check.k19 asm_Check.k22) (.seq asm_Check.k23 .ret)
def asm_Check.k25 : LCode := .seq (.block 0 asm_Check.k7) (.seq asm_Check.k18 asm_Check.k24)
def asm_Check.lc : LCode :=
 .seq asm_Check.k1 asm_Check.k25
theorem asm_Check.low : lowFn Tryd.prog 34 = some (50, asm_Check.lc, [.tmp 2, .tmp 3]) := by kernel_rfl
def joineryref03_only.k1 : LCode := .text [⟨some 1, .box (.tmp 0), none⟩,⟨some 2, .alloc [.int .i64 0, .int .i64 0, .int .i64 0, .int .i64 0, .int .i64 0, .int .i64 0], none⟩]
def joineryref03_only.k2 : LCode := .text [⟨some 4, .faddr 0 (.tmp 1), none⟩,⟨some 5, .load false 1 (.tmp 4), none⟩,⟨some 6, .build [.int .i64 0, .int .i64 0, .int .i64 0, .int .i64 0, .int .i64 0, .int .i64 0] [(0, 1, .tmp 5)], none⟩,⟨some 3, .alloc [.int .i64 0, .int .i64 0, .int .i64 0, .int .i64 0, .int .i64 0, .int .i64 0], none⟩,⟨none, .store 6 (.tmp 3) (.tmp 6), none⟩]
def joineryref03_only.k3 : LCode := .text [⟨some 7, .faddr 0 (.tmp 1), none⟩,⟨some 8, .load false 1 (.tmp 7), none⟩,⟨some 9, .bin .eql .other (.tmp 8) (.cst (.int .i64 1)), none⟩,⟨some 10, .mv (.tmp 9), none⟩,⟨some 11, .faddr 0 (.tmp 1), some (10, false)⟩,⟨some 12, .load false 1 (.tmp 11), some (10, false)⟩,⟨some 13, .bin .eql .other (.tmp 12) (.cst (.int .i64 15)), some (10, false)⟩,⟨some 14, .pick (.tmp 10) (.cst (.bool true)) (.tmp 13), none⟩]
def joineryref03_only.k4 : LCode := .text [⟨some 15, .faddr 4 (.tmp 1), none⟩,⟨some 16, .load false 1 (.tmp 15), none⟩,⟨some 17, .faddr 4 (.tmp 3), none⟩,⟨none, .store 1 (.tmp 17) (.tmp 16), none⟩]
def joineryref03_only.k5 : LCode := .seq joineryref03_only.k3 (.cond (.tmp 14) joineryref03_only.k4 .skip)
def joineryref03_only.k6 : LCode := .text [⟨some 18, .faddr 0 (.tmp 1), none⟩,⟨some 19, .load false 1 (.tmp 18), none⟩,⟨some 20, .bin .eql .other (.tmp 19) (.cst (.int .i64 16)), none⟩,⟨some 21, .mv (.tmp 20), none⟩,⟨some 22, .faddr 0 (.tmp 1), some (21, false)⟩,⟨some 23, .load false 1 (.tmp 22), some (21, false)⟩,⟨some 24, .bin .eql .other (.tmp 23) (.cst (.int .i64 17)), some (21, false)⟩,⟨some 25, .pick (.tmp 21) (.cst (.bool true)) (.tmp 24), none⟩]
def joineryref03_only.k7 : LCode := .text [⟨some 26, .faddr 5 (.tmp 1), none⟩,⟨some 27, .load false 1 (.tmp 26), none⟩,⟨some 28, .faddr 5 (.tmp 3), none⟩,⟨none, .store 1 (.tmp 28) (.tmp 27), none⟩]
def joineryref03_only.k8 : LCode := .seq joineryref03_only.k6 (.cond (.tmp 25) joineryref03_only.k7 .skip)
def joineryref03_only.k9 : LCode := .text [⟨some 29, .faddr 0 (.tmp 1), none⟩,⟨some 30, .load false 1 (.tmp 29), none⟩,⟨some 31, .bin .leq .other (.tmp 30) (.cst (.int .i64 13)), none⟩,⟨some 32, .mv (.tmp 31), none⟩,⟨some 33, .faddr 0 (.tmp 1), some (32, false)⟩,⟨some 34, .load false 1 (.tmp 33), some (32, false)⟩,⟨some 35, .bin .eql .other (.tmp 34) (.cst (.int .i64 15)), some (32, false)⟩,⟨some 36, .pick (.tmp 32) (.cst (.bool true)) (.tmp 35), none⟩]
def joineryref03_only.k10 : LCode := .text [⟨some 37, .faddr 1 (.tmp 1), none⟩,⟨some 38, .load false 1 (.tmp 37), none⟩,⟨some 39, .faddr 1 (.tmp 3), none⟩,⟨none, .store 1 (.tmp 39) (.tmp 38), none⟩]
def joineryref03_only.k11 : LCode := .seq joineryref03_only.k9 (.cond (.tmp 36) joineryref03_only.k10 .skip)
def joineryref03_only.k12 : LCode := .text [⟨some 40, .faddr 0 (.tmp 1), none⟩,⟨some 41, .load false 1 (.tmp 40), none⟩,⟨some 42, .bin .neq .other (.tmp 41) (.cst (.int .i64 1)), none⟩,⟨some 43, .mv (.tmp 42), none⟩,⟨some 44, .faddr 0 (.tmp 1), some (43, true)⟩,⟨some 45, .load false 1 (.tmp 44), some (43, true)⟩,⟨some 46, .bin .neq .other (.tmp 45) (.cst (.int .i64 16)), some (43, true)⟩,⟨some 47, .pick (.tmp 43) (.tmp 46) (.cst (.bool false)), none⟩]
def joineryref03_only.k13 : LCode := .text [⟨some 48, .faddr 2 (.tmp 1), none⟩,⟨some 49, .load false 1 (.tmp 48), none⟩,⟨some 50, .faddr 2 (.tmp 3), none⟩,⟨none, .store 1 (.tmp 50) (.tmp 49), none⟩]
def joineryref03_only.k14 : LCode := .seq joineryref03_only.k12 (.cond (.tmp 47) joineryref03_only.k13 .skip)
def joineryref03_only.k15 : LCode := .text [⟨some 51, .faddr 0 (.tmp 1), none⟩,⟨some 52, .load false 1 (.tmp 51), none⟩,⟨some 53, .bin .geq .other (.tmp 52) (.cst (.int .i64 4)), none⟩,⟨some 54, .mv (.tmp 53), none⟩,⟨some 55, .faddr 0 (.tmp 1), some (54, true)⟩,⟨some 56, .load false 1 (.tmp 55), some (54, true)⟩,⟨some 57, .bin .leq .other (.tmp 56) (.cst (.int .i64 12)), some (54, true)⟩,⟨some 58, .pick (.tmp 54) (.tmp 57) (.cst (.bool false)), none⟩,⟨some 59, .mv (.tmp 58), none⟩,⟨some 60, .faddr 0 (.tmp 1), some (59, false)⟩,⟨some 61, .load false 1 (.tmp 60), some (59, false)⟩,⟨some 62, .bin .eql .other (.tmp 61) (.cst (.int .i64 14)), some (59, false)⟩,⟨some 63, .pick (.tmp 59) (.cst (.bool true)) (.tmp 62), none⟩]
def joineryref03_only.k16 : LCode := .text [⟨some 64, .faddr 3 (.tmp 1), none⟩,⟨some 65, .load false 1 (.tmp 64), none⟩,⟨some 66, .faddr 3 (.tmp 3), none⟩,⟨none, .store 1 (.tmp 66) (.tmp 65), none⟩]
def joineryref03_only.k17 : LCode := .seq joineryref03_only.k15 (.cond (.tmp 63) joineryref03_only.k16 .skip)
def joineryref03_only.k18 : LCode := .text [⟨some 67, .load true 6 (.tmp 3), none⟩,⟨none, .store 6 (.tmp 2) (.tmp 67), none⟩]
def joineryref03_only.k19 : LCode := .seq joineryref03_only.k17 (.seq joineryref03_only.k18 .ret)
def joineryref03_only.k20 : LCode := .seq joineryref03_only.k11 (.seq joineryref03_only.k14 joineryref03_only.k19)
def joineryref03_only.k21 : LCode := .seq joineryref03_only.k5 (.seq joineryref03_only.k8 joineryref03_only.k20)
def joineryref03_only.lc : LCode :=
 .seq joineryref03_only.k1 (.seq joineryref03_only.k2 joineryref03_only.k21)
theorem joineryref03_only.low : lowFn Tryd.prog 50 = some (68, joineryref03_only.lc, [.cell 2 true 6]) := by kernel_rfl
def step_work_number.k1 : LCode := .text [⟨some 5, .mv (.tmp 0), none⟩,⟨some 6, .mv (.tmp 1), none⟩,⟨some 7, .nilc (.tmp 5), none⟩,⟨some 8, .faddr 0 (.tmp 7), none⟩,⟨some 9, .faddr 0 (.tmp 8), none⟩,⟨some 10, .iaddrA 24 2 (.tmp 9) (.tmp 6), none⟩,⟨some 11, .faddr 1 (.tmp 10), none⟩,⟨some 12, .load false 1 (.tmp 11), none⟩,⟨some 4, .mv (.tmp 12), none⟩]
def step_work_number.lc : LCode :=
 .seq (.text [⟨some 4, .mv (.cst (.int .i64 0)), none⟩]) (.seq step_work_number.k1 .ret)
theorem step_work_number.low : lowFn Tryd.prog 66 = some (13, step_work_number.lc, [.tmp 4]) := by kernel_rfl
def num_deeds_6.k1 : LCode := .text [⟨some 5, .mv (.tmp 0), none⟩,⟨some 6, .mv (.tmp 1), none⟩,⟨some 7, .bin .or .other (.tmp 5) (.tmp 6), none⟩,⟨some 4, .mv (.tmp 7), none⟩]
def num_deeds_6.lc : LCode :=
 .seq (.text [⟨some 4, .mv (.cst (.int .i64 0)), none⟩]) (.seq num_deeds_6.k1 .ret)
theorem num_deeds_6.low : lowFn Tryd.prog 82 = some (8, num_deeds_6.lc, [.tmp 4]) := by kernel_rfl
end Go.Proofs.YtnbdpjhmepgoaaaDoor
