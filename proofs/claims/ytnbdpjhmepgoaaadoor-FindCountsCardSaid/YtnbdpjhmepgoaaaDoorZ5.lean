/-
  Texts of this claim, put together.
-/
import Derived.Test.YtnbdpjhmepgoaaaDoorProg
import Derived.KernelRfl
import Derived.Test.YtnbdpjhmepgoaaaDoorZ4
namespace Go.Proofs.YtnbdpjhmepgoaaaDoor
set_option maxRecDepth 100000
def num_Parse.k1 : LCode := .text [⟨some 2, .mv (.cst (.int .i64 0)), none⟩,⟨some 3, .mv (.cst (.int .i64 0)), none⟩]
def num_Parse.k2 : LCode := .text [⟨some 10, .mv (.tmp 0), none⟩,⟨some 4, .mv (.tmp 10), none⟩,⟨some 5, .mv (.cst (.bool false)), none⟩]
def num_Parse.k3 : LCode := .text [⟨some 11, .mv (.tmp 0), none⟩,⟨some 12, .len .str (.tmp 11), none⟩,⟨some 13, .bin .gtr .other (.tmp 12) (.cst (.int .i64 0)), none⟩,⟨some 14, .mv (.tmp 13), none⟩,⟨some 15, .mv (.tmp 0), some (14, true)⟩,⟨some 16, .idxS (.tmp 15) (.cst (.int .i64 0)), some (14, true)⟩,⟨some 17, .bin .eql .other (.tmp 16) (.cst (.int .u8 45)), some (14, true)⟩,⟨some 18, .pick (.tmp 14) (.tmp 17) (.cst (.bool false)), none⟩]
def num_Parse.k4 : LCode := .text [⟨some 19, .mv (.tmp 0), none⟩,⟨some 20, .sliceS (.tmp 19) (some (.cst (.int .i64 1))) none, none⟩,⟨some 4, .mv (.tmp 20), none⟩,⟨some 5, .mv (.cst (.bool true)), none⟩]
def num_Parse.k5 : LCode := .text [⟨some 21, .mv (.tmp 4), none⟩,⟨some 22, .len .str (.tmp 21), none⟩,⟨some 23, .bin .eql .other (.tmp 22) (.cst (.int .i64 0)), none⟩,⟨some 24, .mv (.tmp 23), none⟩,⟨some 25, .mv (.tmp 4), some (24, false)⟩,⟨some 26, .len .str (.tmp 25), some (24, false)⟩,⟨some 27, .bin .gtr .other (.tmp 26) (.cst (.int .i64 19)), some (24, false)⟩,⟨some 28, .pick (.tmp 24) (.cst (.bool true)) (.tmp 27), none⟩,⟨some 29, .mv (.tmp 28), none⟩,⟨some 30, .mv (.tmp 4), some (29, false)⟩,⟨some 31, .idxS (.tmp 30) (.cst (.int .i64 0)), some (29, false)⟩,⟨some 32, .bin .eql .other (.tmp 31) (.cst (.int .u8 48)), some (29, false)⟩,⟨some 33, .mv (.tmp 32), some (29, false)⟩,⟨some 34, .mv (.tmp 4), some (33, true)⟩,⟨some 35, .len .str (.tmp 34), some (33, true)⟩,⟨some 36, .bin .gtr .other (.tmp 35) (.cst (.int .i64 1)), some (33, true)⟩,⟨some 37, .mv (.tmp 36), some (33, true)⟩,⟨some 38, .mv (.tmp 5), some (37, false)⟩,⟨some 39, .pick (.tmp 37) (.cst (.bool true)) (.tmp 38), some (33, true)⟩,⟨some 40, .pick (.tmp 33) (.tmp 39) (.cst (.bool false)), some (29, false)⟩,⟨some 41, .pick (.tmp 29) (.cst (.bool true)) (.tmp 40), none⟩]
def num_Parse.k6 : LCode := .text [⟨some 2, .mv (.cst (.int .i64 0)), none⟩,⟨some 3, .mv (.cst (.int .i64 2)), none⟩]
def num_Parse.k7 : LCode := .seq num_Parse.k5 (.cond (.tmp 41) (.seq num_Parse.k6 .ret) .skip)
def num_Parse.k8 : LCode := .text [⟨some 42, .mv (.tmp 4), none⟩,⟨some 43, .range (.tmp 42), none⟩]
def num_Parse.k9 : LCode := .text [⟨some 44, .next (.tmp 43), none⟩,⟨some 45, .extract (.tmp 44) 0, none⟩]
def num_Parse.k10 : LCode := .text [⟨some 46, .extract (.tmp 44) 2, none⟩,⟨some 8, .mv (.tmp 46), none⟩]
def num_Parse.k11 : LCode := .text [⟨some 47, .mv (.tmp 8), none⟩,⟨some 48, .bin .lss .other (.tmp 47) (.cst (.int .i32 48)), none⟩,⟨some 49, .mv (.tmp 48), none⟩,⟨some 50, .mv (.tmp 8), some (49, false)⟩,⟨some 51, .bin .gtr .other (.tmp 50) (.cst (.int .i32 57)), some (49, false)⟩,⟨some 52, .pick (.tmp 49) (.cst (.bool true)) (.tmp 51), none⟩]
def num_Parse.k12 : LCode := .text [⟨some 2, .mv (.cst (.int .i64 0)), none⟩,⟨some 3, .mv (.cst (.int .i64 2)), none⟩]
def num_Parse.k13 : LCode := .seq num_Parse.k11 (.cond (.tmp 52) (.seq num_Parse.k12 .ret) .skip)
def num_Parse.k14 : LCode := .text [⟨some 53, .mv (.tmp 6), none⟩,⟨some 54, .bin .mul .other (.tmp 53) (.cst (.int .u64 10)), none⟩,⟨some 55, .mv (.tmp 8), none⟩,⟨some 56, .bin .sub .other (.tmp 55) (.cst (.int .i32 48)), none⟩,⟨some 57, .toInt .u64 (.tmp 56), none⟩,⟨some 58, .bin .add .other (.tmp 54) (.tmp 57), none⟩,⟨some 6, .mv (.tmp 58), none⟩]
def num_Parse.k15 : LCode := .block 1 (.seq num_Parse.k10 (.seq num_Parse.k13 num_Parse.k14))
def num_Parse.k16 : LCode := .seq num_Parse.k9 (.seq (.cond (.tmp 45) .skip (.exit 0)) num_Parse.k15)
def num_Parse.k17 : LCode := .text [⟨some 9, .mv (.cst (.int .u64 9223372036854775807)), none⟩]
def num_Parse.k18 : LCode := .text [⟨some 60, .mv (.tmp 9), none⟩,⟨some 61, .bin .add .other (.tmp 60) (.cst (.int .u64 1)), none⟩,⟨some 9, .mv (.tmp 61), none⟩]
def num_Parse.k19 : LCode := .text [⟨some 62, .mv (.tmp 6), none⟩,⟨some 63, .neg (.tmp 62), none⟩,⟨some 64, .mv (.tmp 9), none⟩,⟨some 65, .neg (.tmp 64), none⟩,⟨some 6, .mv (.tmp 63), none⟩,⟨some 9, .mv (.tmp 65), none⟩]
def num_Parse.k20 : LCode := .text [⟨some 66, .mv (.tmp 6), none⟩,⟨some 67, .mv (.tmp 9), none⟩,⟨some 68, .bin .lss .other (.tmp 66) (.tmp 67), none⟩]
def num_Parse.k21 : LCode := .text [⟨some 2, .mv (.cst (.int .i64 0)), none⟩,⟨some 3, .mv (.cst (.int .i64 2)), none⟩]
def num_Parse.k22 : LCode := .seq num_Parse.k20 (.cond (.tmp 68) (.seq num_Parse.k21 .ret) .skip)
def num_Parse.k23 : LCode := .text [⟨some 69, .mv (.tmp 6), none⟩,⟨some 70, .toInt .i64 (.tmp 69), none⟩,⟨some 2, .mv (.tmp 70), none⟩,⟨some 3, .mv (.cst (.int .i64 0)), none⟩]
def num_Parse.k24 : LCode := .seq num_Parse.k19 (.seq num_Parse.k22 (.seq num_Parse.k23 .ret))
def num_Parse.k25 : LCode := .seq (.text [⟨some 59, .mv (.tmp 5), none⟩]) (.cond (.tmp 59) (.seq num_Parse.k18 num_Parse.k24) .skip)
def num_Parse.k26 : LCode := .text [⟨some 71, .mv (.tmp 6), none⟩,⟨some 72, .mv (.tmp 9), none⟩,⟨some 73, .bin .gtr .other (.tmp 71) (.tmp 72), none⟩]
def num_Parse.k27 : LCode := .text [⟨some 2, .mv (.cst (.int .i64 0)), none⟩,⟨some 3, .mv (.cst (.int .i64 2)), none⟩]
def num_Parse.k28 : LCode := .seq num_Parse.k26 (.cond (.tmp 73) (.seq num_Parse.k27 .ret) .skip)
def num_Parse.k29 : LCode := .text [⟨some 74, .mv (.tmp 6), none⟩,⟨some 75, .toInt .i64 (.tmp 74), none⟩,⟨some 2, .mv (.tmp 75), none⟩,⟨some 3, .mv (.cst (.int .i64 0)), none⟩]
def num_Parse.k30 : LCode := .seq num_Parse.k25 (.seq num_Parse.k28 (.seq num_Parse.k29 .ret))
def num_Parse.k31 : LCode := .seq (.seq num_Parse.k8 (.block 0 (.loop num_Parse.k16))) (.seq num_Parse.k17 num_Parse.k30)
def num_Parse.k32 : LCode := .seq (.text [⟨some 6, .mv (.cst (.int .u64 0)), none⟩]) num_Parse.k31
def num_Parse.k33 : LCode := .seq (.seq num_Parse.k3 (.cond (.tmp 18) num_Parse.k4 .skip)) (.seq num_Parse.k7 num_Parse.k32)
def num_Parse.lc : LCode :=
 .seq num_Parse.k1 (.seq num_Parse.k2 num_Parse.k33)
theorem num_Parse.low : lowFn Tryd.prog 53 = some (76, num_Parse.lc, [.tmp 2, .tmp 3]) := by kernel_rfl
def heap_Store.k1 : LCode := .text [⟨some 6, .mv (.cst (.imm (.slice none 0 0))), none⟩,⟨some 7, .mv (.cst (.int .i64 0)), none⟩]
def heap_Store.k2 : LCode := .text [⟨some 9, .mv (.tmp 0), none⟩,⟨some 10, .mv (.tmp 1), none⟩,⟨some 11, .call (.cst (.fn (.func 74) [] [])) [.tmp 9, .tmp 10], none⟩,⟨some 12, .not (.tmp 11), none⟩]
def heap_Store.k3 : LCode := .text [⟨some 6, .mv (.cst (.imm (.slice none 0 0))), none⟩,⟨some 7, .mv (.cst (.int .i64 4)), none⟩]
def heap_Store.k4 : LCode := .seq heap_Store.k2 (.cond (.tmp 12) (.seq heap_Store.k3 .ret) .skip)
def heap_Store.k5 : LCode := .text [⟨some 13, .mv (.tmp 0), none⟩,⟨some 14, .len .slice (.tmp 13), none⟩,⟨some 15, .mkSlice 1 8 [.int .i64 0] (.tmp 14) (.tmp 14), none⟩,⟨some 8, .mv (.tmp 15), none⟩]
def heap_Store.k6 : LCode := .text [⟨some 16, .mv (.tmp 8), none⟩,⟨some 17, .mv (.tmp 0), none⟩,⟨some 18, .copy 1 (.tmp 16) (.tmp 17), none⟩]
def heap_Store.k7 : LCode := .text [⟨some 19, .mv (.tmp 8), none⟩,⟨some 20, .mv (.tmp 1), none⟩,⟨some 21, .mv (.tmp 2), none⟩,⟨some 22, .iaddrS 1 (.tmp 19) (.tmp 20), none⟩,⟨none, .store 1 (.tmp 22) (.tmp 21), none⟩]
def heap_Store.k8 : LCode := .text [⟨some 23, .mv (.tmp 8), none⟩,⟨some 6, .mv (.tmp 23), none⟩,⟨some 7, .mv (.cst (.int .i64 0)), none⟩]
def heap_Store.k9 : LCode := .seq heap_Store.k6 (.seq heap_Store.k7 (.seq heap_Store.k8 .ret))
def heap_Store.lc : LCode :=
 .seq heap_Store.k1 (.seq heap_Store.k4 (.seq heap_Store.k5 heap_Store.k9))
theorem heap_Store.low : lowFn Tryd.prog 69 = some (24, heap_Store.lc, [.tmp 6, .tmp 7]) := by kernel_rfl
def num_flag.k1 : LCode := .seq (.text [⟨some 2, .mv (.cst (.int .i64 1)), none⟩]) .ret
def num_flag.k2 : LCode := .seq (.text [⟨some 3, .mv (.tmp 0), none⟩]) (.cond (.tmp 3) num_flag.k1 .skip)
def num_flag.k3 : LCode := .seq (.text [⟨some 2, .mv (.cst (.int .i64 0)), none⟩]) .ret
def num_flag.lc : LCode :=
 .seq (.text [⟨some 2, .mv (.cst (.int .i64 0)), none⟩]) (.seq num_flag.k2 num_flag.k3)
theorem num_flag.low : lowFn Tryd.prog 85 = some (4, num_flag.lc, [.tmp 2]) := by kernel_rfl
def differ_Tell_2.k1 : LCode := .text [⟨some 2, .box (.tmp 0), none⟩,⟨some 3, .box (.tmp 1), none⟩,⟨some 4, .mv (.cst (.bool false)), none⟩]
def differ_Tell_2.k2 : LCode := .text [⟨some 5, .faddr 0 (.tmp 2), none⟩,⟨some 6, .load true 6 (.tmp 5), none⟩,⟨some 7, .call (.cst (.fn (.func 23) [] [])) [.tmp 6], none⟩,⟨some 8, .mv (.tmp 7), none⟩,⟨some 9, .faddr 0 (.tmp 3), some (8, true)⟩,⟨some 10, .faddr 0 (.tmp 9), some (8, true)⟩,⟨some 11, .load false 1 (.tmp 10), some (8, true)⟩,⟨some 12, .faddr 0 (.tmp 2), some (8, true)⟩,⟨some 13, .faddr 0 (.tmp 12), some (8, true)⟩,⟨some 14, .load false 1 (.tmp 13), some (8, true)⟩,⟨some 15, .call (.cst (.fn (.func 21) [] [])) [.tmp 11, .tmp 14], some (8, true)⟩,⟨some 16, .not (.tmp 15), some (8, true)⟩,⟨some 17, .pick (.tmp 8) (.tmp 16) (.cst (.bool false)), none⟩,⟨some 4, .mv (.tmp 17), none⟩]
def differ_Tell_2.lc : LCode :=
 .seq differ_Tell_2.k1 (.seq differ_Tell_2.k2 .ret)
theorem differ_Tell_2.low : lowFn Tryd.prog 22 = some (18, differ_Tell_2.lc, [.tmp 4]) := by kernel_rfl
def joineryref03_Check.k1 : LCode := .text [⟨some 2, .box (.tmp 0), none⟩,⟨some 4, .mv (.cst (.int .i64 0)), none⟩]
def joineryref03_Check.k2 : LCode := .any true [⟨some 5, .faddr 0 (.tmp 2), none⟩,⟨some 6, .load false 1 (.tmp 5), none⟩,⟨some 7, .bin .lss .other (.tmp 6) (.cst (.int .i64 1)), none⟩,⟨some 8, .mv (.tmp 7), none⟩,⟨some 9, .faddr 0 (.tmp 2), some (8, false)⟩,⟨some 10, .load false 1 (.tmp 9), some (8, false)⟩,⟨some 11, .bin .gtr .other (.tmp 10) (.cst (.int .i64 18)), some (8, false)⟩,⟨some 12, .pick (.tmp 8) (.cst (.bool true)) (.tmp 11), none⟩,⟨some 13, .mv (.tmp 12), none⟩,⟨some 14, .load true 6 (.tmp 2), some (13, false)⟩,⟨some 15, .call (.cst (.fn (.func 50) [] [])) [.tmp 14], some (13, false)⟩,⟨some 16, .load true 6 (.tmp 2), some (13, false)⟩,⟨some 17, .bin .neq (.cells [.i, .i, .i, .i, .i, .i]) (.tmp 15) (.tmp 16), some (13, false)⟩,⟨some 18, .pick (.tmp 13) (.cst (.bool true)) (.tmp 17), none⟩,⟨some 19, .mv (.tmp 18), none⟩,⟨some 20, .faddr 0 (.tmp 2), some (19, false)⟩,⟨some 21, .load false 1 (.tmp 20), some (19, false)⟩,⟨some 22, .bin .eql .other (.tmp 21) (.cst (.int .i64 15)), some (19, false)⟩,⟨some 23, .mv (.tmp 22), some (19, false)⟩,⟨some 24, .faddr 4 (.tmp 2), some (23, true)⟩,⟨some 25, .load false 1 (.tmp 24), some (23, true)⟩,⟨some 26, .bin .lss .other (.tmp 25) (.cst (.int .i64 0)), some (23, true)⟩,⟨some 27, .mv (.tmp 26), some (23, true)⟩,⟨some 28, .faddr 4 (.tmp 2), some (27, false)⟩,⟨some 29, .load false 1 (.tmp 28), some (27, false)⟩,⟨some 30, .bin .gtr .other (.tmp 29) (.cst (.int .i64 99)), some (27, false)⟩,⟨some 31, .pick (.tmp 27) (.cst (.bool true)) (.tmp 30), some (23, true)⟩,⟨some 32, .pick (.tmp 23) (.tmp 31) (.cst (.bool false)), some (19, false)⟩,⟨some 33, .pick (.tmp 19) (.cst (.bool true)) (.tmp 32), none⟩] (.both (.take 0 (.all [(1, .take 2 (.take 3 (.take 4 (.all [(5, .take 6 (.take 7 (.take 8 (.all [(9, .all [(10, .all [(11, .take 12 (.take 13 (.take 14 (.take 15 (.all [(16, .take 17 (.take 18 (.take 19 (.all [(20, .take 21 (.take 22 (.take 23 (.all [(24, .take 25 (.take 26 (.take 27 (.take 28 .done))))]))))]))))])))))]), (11, .all [(10, .take 12 (.take 13 (.take 14 (.take 15 (.all [(16, .take 17 (.take 18 (.take 19 (.all [(20, .take 21 (.take 22 (.take 23 (.all [(24, .take 25 (.take 26 (.take 27 (.take 28 .done))))]))))]))))])))))])]), (11, .all [(9, .all [(10, .take 12 (.take 13 (.take 14 (.take 15 (.all [(16, .take 17 (.take 18 (.take 19 (.all [(20, .take 21 (.take 22 (.take 23 (.all [(24, .take 25 (.take 26 (.take 27 (.take 28 .done))))]))))]))))])))))])])]))))]))))])) (.front 0 (.front 1 (.front 2 (.front 3 (.front 4 (.front 5 (.front 6 (.front 7 (.front 8 (.front 9 (.front 10 (.front 11 (.front 12 (.front 13 (.front 14 (.front 15 (.front 16 (.front 17 (.front 18 (.front 19 (.front 20 (.front 21 (.front 22 (.front 23 (.front 24 (.front 25 (.front 26 (.front 27 (.front 28 .done))))))))))))))))))))))))))))))
def joineryref03_Check.k3 : LCode := .seq (.text [⟨some 4, .mv (.cst (.int .i64 1)), none⟩]) .ret
def joineryref03_Check.k4 : LCode := .seq joineryref03_Check.k2 (.cond (.tmp 33) joineryref03_Check.k3 .skip)
def joineryref03_Check.k5 : LCode := .text [⟨some 34, .faddr 0 (.tmp 2), none⟩,⟨some 35, .load false 1 (.tmp 34), none⟩,⟨some 36, .bin .leq .other (.tmp 35) (.cst (.int .i64 3)), none⟩]
def joineryref03_Check.k6 : LCode := .text [⟨some 37, .faddr 1 (.tmp 2), none⟩,⟨some 38, .load false 1 (.tmp 37), none⟩,⟨some 39, .call (.cst (.fn (.func 51) [] [])) [.tmp 38], none⟩,⟨some 40, .not (.tmp 39), none⟩,⟨some 41, .mv (.tmp 40), none⟩,⟨some 42, .faddr 2 (.tmp 2), some (41, false)⟩,⟨some 43, .load false 1 (.tmp 42), some (41, false)⟩,⟨some 44, .call (.cst (.fn (.func 51) [] [])) [.tmp 43], some (41, false)⟩,⟨some 45, .not (.tmp 44), some (41, false)⟩,⟨some 46, .pick (.tmp 41) (.cst (.bool true)) (.tmp 45), none⟩]
def joineryref03_Check.k7 : LCode := .seq (.text [⟨some 4, .mv (.cst (.int .i64 6)), none⟩]) .ret
def joineryref03_Check.k8 : LCode := .seq joineryref03_Check.k6 (.cond (.tmp 46) joineryref03_Check.k7 .skip)
def joineryref03_Check.k9 : LCode := .text [⟨some 47, .faddr 1 (.tmp 2), none⟩,⟨some 48, .load false 1 (.tmp 47), none⟩,⟨some 49, .call (.cst (.fn (.func 52) [] [])) [.tmp 48], none⟩,⟨some 50, .not (.tmp 49), none⟩,⟨some 51, .mv (.tmp 50), none⟩,⟨some 52, .faddr 2 (.tmp 2), some (51, false)⟩,⟨some 53, .load false 1 (.tmp 52), some (51, false)⟩,⟨some 54, .call (.cst (.fn (.func 52) [] [])) [.tmp 53], some (51, false)⟩,⟨some 55, .not (.tmp 54), some (51, false)⟩,⟨some 56, .pick (.tmp 51) (.cst (.bool true)) (.tmp 55), none⟩,⟨some 57, .mv (.tmp 56), none⟩,⟨some 58, .faddr 3 (.tmp 2), some (57, false)⟩,⟨some 59, .load false 1 (.tmp 58), some (57, false)⟩,⟨some 60, .call (.cst (.fn (.func 52) [] [])) [.tmp 59], some (57, false)⟩,⟨some 61, .not (.tmp 60), some (57, false)⟩,⟨some 62, .pick (.tmp 57) (.cst (.bool true)) (.tmp 61), none⟩]
def joineryref03_Check.k10 : LCode := .seq (.text [⟨some 4, .mv (.cst (.int .i64 6)), none⟩]) .ret
def joineryref03_Check.k11 : LCode := .seq joineryref03_Check.k9 (.cond (.tmp 62) joineryref03_Check.k10 .skip)
def joineryref03_Check.k12 : LCode := .cond (.tmp 36) joineryref03_Check.k8 joineryref03_Check.k11
def joineryref03_Check.k13 : LCode := .text [⟨some 63, .faddr 0 (.tmp 2), none⟩,⟨some 64, .load false 1 (.tmp 63), none⟩,⟨some 65, .bin .eql .other (.tmp 64) (.cst (.int .i64 16)), none⟩,⟨some 66, .mv (.tmp 65), none⟩,⟨some 67, .faddr 0 (.tmp 2), some (66, false)⟩,⟨some 68, .load false 1 (.tmp 67), some (66, false)⟩,⟨some 69, .bin .eql .other (.tmp 68) (.cst (.int .i64 17)), some (66, false)⟩,⟨some 70, .pick (.tmp 66) (.cst (.bool true)) (.tmp 69), none⟩,⟨some 71, .mv (.tmp 70), none⟩,⟨some 72, .faddr 5 (.tmp 2), some (71, true)⟩,⟨some 73, .load false 1 (.tmp 72), some (71, true)⟩,⟨some 74, .bin .lss .other (.tmp 73) (.cst (.int .i64 0)), some (71, true)⟩,⟨some 75, .mv (.tmp 74), some (71, true)⟩,⟨some 76, .faddr 5 (.tmp 2), some (75, false)⟩,⟨some 77, .load false 1 (.tmp 76), some (75, false)⟩,⟨some 78, .mv (.tmp 1), some (75, false)⟩,⟨some 79, .bin .geq .other (.tmp 77) (.tmp 78), some (75, false)⟩,⟨some 80, .pick (.tmp 75) (.cst (.bool true)) (.tmp 79), some (71, true)⟩,⟨some 81, .pick (.tmp 71) (.tmp 80) (.cst (.bool false)), none⟩]
def joineryref03_Check.k14 : LCode := .seq (.text [⟨some 4, .mv (.cst (.int .i64 4)), none⟩]) .ret
def joineryref03_Check.k15 : LCode := .seq joineryref03_Check.k13 (.cond (.tmp 81) joineryref03_Check.k14 .skip)
def joineryref03_Check.k16 : LCode := .seq (.text [⟨some 4, .mv (.cst (.int .i64 0)), none⟩]) .ret
def joineryref03_Check.k17 : LCode := .seq (.seq joineryref03_Check.k5 joineryref03_Check.k12) (.seq joineryref03_Check.k15 joineryref03_Check.k16)
def joineryref03_Check.lc : LCode :=
 .seq joineryref03_Check.k1 (.seq joineryref03_Check.k4 joineryref03_Check.k17)
theorem joineryref03_Check.low : lowFn Tryd.prog 38 = some (82, joineryref03_Check.lc, [.tmp 4]) := by kernel_rfl
def loc_Parse.k1 : LCode := .text [⟨some 2, .mv (.cst (.int .i64 0)), none⟩,⟨some 3, .mv (.cst (.int .i64 0)), none⟩]
def loc_Parse.k2 : LCode := .text [⟨some 4, .mv (.cst (.int .i64 0)), none⟩,⟨some 5, .mv (.cst (.int .i64 0)), none⟩,⟨some 6, .mv (.cst (.int .i64 0)), none⟩]
def loc_Parse.k3 : LCode := .text [⟨some 9, .mv (.tmp 0), none⟩,⟨some 10, .range (.tmp 9), none⟩]
def loc_Parse.k4 : LCode := .text [⟨some 11, .next (.tmp 10), none⟩,⟨some 12, .extract (.tmp 11) 0, none⟩]
def loc_Parse.k5 : LCode := .text [⟨some 13, .extract (.tmp 11) 1, none⟩,⟨some 14, .extract (.tmp 11) 2, none⟩,⟨some 7, .mv (.tmp 13), none⟩,⟨some 8, .mv (.tmp 14), none⟩]
def loc_Parse.k6 : LCode := .text [⟨some 22, .mv (.tmp 7), none⟩,⟨some 23, .bin .eql .other (.tmp 22) (.cst (.int .i64 0)), none⟩,⟨some 24, .mv (.tmp 23), none⟩,⟨some 25, .mv (.tmp 8), some (24, true)⟩,⟨some 26, .bin .eql .other (.tmp 25) (.cst (.int .i32 114)), some (24, true)⟩,⟨some 27, .pick (.tmp 24) (.tmp 26) (.cst (.bool false)), none⟩,⟨some 21, .mv (.tmp 27), none⟩]
def loc_Parse.k7 : LCode := .text [⟨some 29, .mv (.tmp 7), none⟩,⟨some 30, .bin .eql .other (.tmp 29) (.cst (.int .i64 0)), none⟩,⟨some 31, .mv (.tmp 30), none⟩,⟨some 32, .mv (.tmp 8), some (31, true)⟩,⟨some 33, .bin .eql .other (.tmp 32) (.cst (.int .i32 115)), some (31, true)⟩,⟨some 34, .pick (.tmp 31) (.tmp 33) (.cst (.bool false)), none⟩,⟨some 28, .mv (.tmp 34), none⟩]
def loc_Parse.k8 : LCode := .text [⟨some 4, .mv (.cst (.int .i64 8)), none⟩,⟨some 6, .mv (.cst (.int .i64 16)), none⟩]
def loc_Parse.k9 : LCode := .text [⟨some 36, .mv (.tmp 7), none⟩,⟨some 37, .bin .eql .other (.tmp 36) (.cst (.int .i64 0)), none⟩,⟨some 38, .mv (.tmp 37), none⟩,⟨some 39, .mv (.tmp 7), some (38, false)⟩,⟨some 40, .bin .gtr .other (.tmp 39) (.cst (.int .i64 2)), some (38, false)⟩,⟨some 41, .pick (.tmp 38) (.cst (.bool true)) (.tmp 40), none⟩,⟨some 42, .mv (.tmp 41), none⟩,⟨some 43, .mv (.tmp 8), some (42, false)⟩,⟨some 44, .bin .lss .other (.tmp 43) (.cst (.int .i32 48)), some (42, false)⟩,⟨some 45, .pick (.tmp 42) (.cst (.bool true)) (.tmp 44), none⟩,⟨some 46, .mv (.tmp 45), none⟩,⟨some 47, .mv (.tmp 8), some (46, false)⟩,⟨some 48, .bin .gtr .other (.tmp 47) (.cst (.int .i32 57)), some (46, false)⟩,⟨some 49, .pick (.tmp 46) (.cst (.bool true)) (.tmp 48), none⟩,⟨some 50, .mv (.tmp 49), none⟩,⟨some 51, .mv (.tmp 7), some (50, false)⟩,⟨some 52, .bin .eql .other (.tmp 51) (.cst (.int .i64 2)), some (50, false)⟩,⟨some 53, .mv (.tmp 52), some (50, false)⟩,⟨some 54, .mv (.tmp 5), some (53, true)⟩,⟨some 55, .bin .eql .other (.tmp 54) (.cst (.int .i64 0)), some (53, true)⟩,⟨some 56, .pick (.tmp 53) (.tmp 55) (.cst (.bool false)), some (50, false)⟩,⟨some 57, .pick (.tmp 50) (.cst (.bool true)) (.tmp 56), none⟩,⟨some 35, .mv (.tmp 57), none⟩]
def loc_Parse.k10 : LCode := .text [⟨some 2, .mv (.cst (.int .i64 0)), none⟩,⟨some 3, .mv (.cst (.int .i64 2)), none⟩]
def loc_Parse.k11 : LCode := .text [⟨some 15, .mv (.tmp 5), none⟩,⟨some 16, .bin .mul .other (.tmp 15) (.cst (.int .i64 10)), none⟩,⟨some 17, .mv (.tmp 8), none⟩,⟨some 18, .bin .sub .other (.tmp 17) (.cst (.int .i32 48)), none⟩,⟨some 19, .toInt .i64 (.tmp 18), none⟩,⟨some 20, .bin .add .other (.tmp 16) (.tmp 19), none⟩,⟨some 5, .mv (.tmp 20), none⟩]
def loc_Parse.k12 : LCode := .seq loc_Parse.k9 (.cond (.tmp 35) (.seq loc_Parse.k10 .ret) loc_Parse.k11)
def loc_Parse.k13 : LCode := .seq loc_Parse.k7 (.cond (.tmp 28) loc_Parse.k8 loc_Parse.k12)
def loc_Parse.k14 : LCode := .cond (.tmp 21) (.text [⟨some 6, .mv (.cst (.int .i64 8)), none⟩]) loc_Parse.k13
def loc_Parse.k15 : LCode := .seq loc_Parse.k5 (.block 2 (.seq loc_Parse.k6 loc_Parse.k14))
def loc_Parse.k16 : LCode := .seq (.cond (.tmp 12) .skip (.exit 0)) (.block 1 loc_Parse.k15)
def loc_Parse.k17 : LCode := .seq loc_Parse.k3 (.block 0 (.loop (.seq loc_Parse.k4 loc_Parse.k16)))
def loc_Parse.k18 : LCode := .text [⟨some 58, .mv (.tmp 0), none⟩,⟨some 59, .len .str (.tmp 58), none⟩,⟨some 60, .bin .lss .other (.tmp 59) (.cst (.int .i64 2)), none⟩,⟨some 61, .mv (.tmp 60), none⟩,⟨some 62, .mv (.tmp 5), some (61, false)⟩,⟨some 63, .mv (.tmp 6), some (61, false)⟩,⟨some 64, .bin .geq .other (.tmp 62) (.tmp 63), some (61, false)⟩,⟨some 65, .pick (.tmp 61) (.cst (.bool true)) (.tmp 64), none⟩]
def loc_Parse.k19 : LCode := .text [⟨some 2, .mv (.cst (.int .i64 0)), none⟩,⟨some 3, .mv (.cst (.int .i64 2)), none⟩]
def loc_Parse.k20 : LCode := .seq loc_Parse.k18 (.cond (.tmp 65) (.seq loc_Parse.k19 .ret) .skip)
def loc_Parse.k21 : LCode := .text [⟨some 66, .mv (.tmp 4), none⟩,⟨some 67, .mv (.tmp 5), none⟩,⟨some 68, .bin .add .other (.tmp 66) (.tmp 67), none⟩,⟨some 2, .mv (.tmp 68), none⟩,⟨some 3, .mv (.cst (.int .i64 0)), none⟩]
def loc_Parse.k22 : LCode := .seq loc_Parse.k17 (.seq loc_Parse.k20 (.seq loc_Parse.k21 .ret))
def loc_Parse.lc : LCode :=
 .seq loc_Parse.k1 (.seq loc_Parse.k2 loc_Parse.k22)
theorem loc_Parse.low : lowFn Tryd.prog 54 = some (69, loc_Parse.lc, [.tmp 2, .tmp 3]) := by kernel_rfl
def step_work_call.k1 : LCode := .any true [⟨some 5, .mv (.tmp 0), none⟩,⟨some 6, .nilc (.tmp 5), none⟩,⟨some 7, .faddr 0 (.tmp 6), none⟩,⟨some 8, .faddr 50 (.tmp 7), none⟩,⟨some 9, .load false 1 (.tmp 8), none⟩,⟨some 10, .mv (.tmp 0), none⟩,⟨some 11, .nilc (.tmp 10), none⟩,⟨some 12, .faddr 57 (.tmp 11), none⟩,⟨some 13, .load false 1 (.tmp 12), none⟩,⟨some 14, .len .slice (.tmp 13), none⟩,⟨some 15, .bin .geq .other (.tmp 9) (.tmp 14), none⟩] (.both .no .no)
def step_work_call.k2 : LCode := .text [⟨some 16, .mv (.tmp 0), none⟩,⟨some 17, .nilc (.tmp 16), none⟩,⟨some 18, .faddr 59 (.tmp 17), none⟩,⟨none, .store 1 (.tmp 18) (.cst (.int .i64 5)), none⟩]
def step_work_call.k3 : LCode := .seq step_work_call.k1 (.cond (.tmp 15) (.seq step_work_call.k2 .ret) .skip)
def step_work_call.k4 : LCode := .any true [⟨some 19, .mv (.tmp 0), none⟩,⟨some 20, .nilc (.tmp 19), none⟩,⟨some 21, .faddr 57 (.tmp 20), none⟩,⟨some 22, .load false 1 (.tmp 21), none⟩,⟨some 23, .mv (.tmp 0), none⟩,⟨some 24, .nilc (.tmp 23), none⟩,⟨some 25, .faddr 0 (.tmp 24), none⟩,⟨some 26, .faddr 50 (.tmp 25), none⟩,⟨some 27, .load false 1 (.tmp 26), none⟩,⟨some 28, .iaddrS 1 (.tmp 22) (.tmp 27), none⟩,⟨some 29, .load false 1 (.tmp 28), none⟩,⟨some 4, .mv (.tmp 29), none⟩] (.both .no .no)
def step_work_call.k5 : LCode := .text [⟨some 30, .mv (.tmp 0), none⟩,⟨some 31, .mv (.tmp 0), none⟩,⟨some 32, .nilc (.tmp 31), none⟩,⟨some 33, .faddr 51 (.tmp 32), none⟩,⟨some 34, .faddr 4 (.tmp 33), none⟩,⟨some 35, .load false 1 (.tmp 34), none⟩,⟨some 36, .mv (.tmp 1), none⟩,⟨some 37, .mv (.tmp 4), none⟩,⟨some 38, .build [.int .i64 0, .int .i64 0, .int .i64 0] [(0, 1, .tmp 35), (1, 1, .tmp 36), (2, 1, .tmp 37)], none⟩,⟨some 39, .bslice 3 [.int .i64 0, .int .i64 0, .int .i64 0] 1 [(0, .tmp 38)], none⟩,⟨some 40, .nilc (.tmp 30), none⟩,⟨some 41, .faddr 58 (.tmp 40), none⟩,⟨none, .store 1 (.tmp 41) (.tmp 39), none⟩]
def step_work_call.k6 : LCode := .text [⟨some 42, .mv (.tmp 0), none⟩,⟨some 43, .nilc (.tmp 42), none⟩,⟨some 44, .faddr 0 (.tmp 43), none⟩,⟨some 45, .faddr 50 (.tmp 44), none⟩,⟨some 46, .load false 1 (.tmp 45), none⟩,⟨some 47, .bin .add .other (.tmp 46) (.cst (.int .i64 1)), none⟩,⟨some 48, .nilc (.tmp 42), none⟩,⟨some 49, .faddr 0 (.tmp 48), none⟩,⟨some 50, .faddr 50 (.tmp 49), none⟩,⟨none, .store 1 (.tmp 50) (.tmp 47), none⟩]
def step_work_call.k7 : LCode := .text [⟨some 51, .mv (.tmp 0), none⟩,⟨some 52, .mv (.tmp 4), none⟩,⟨some 53, .call (.cst (.fn (.func 67) [] [])) [.tmp 51, .tmp 52, .cst (.int .i64 0)], none⟩]
def step_work_call.k8 : LCode := .seq step_work_call.k5 (.seq step_work_call.k6 step_work_call.k7)
def step_work_call.lc : LCode :=
 .seq step_work_call.k3 (.seq step_work_call.k4 step_work_call.k8)
theorem step_work_call.low : lowFn Tryd.prog 70 = some (54, step_work_call.lc, []) := by kernel_rfl
def num_deeds_9.k1 : LCode := .text [⟨some 5, .mv (.tmp 0), none⟩,⟨some 6, .mv (.tmp 1), none⟩,⟨some 7, .bin .eql .other (.tmp 5) (.tmp 6), none⟩,⟨some 8, .call (.cst (.fn (.func 85) [] [])) [.tmp 7], none⟩,⟨some 4, .mv (.tmp 8), none⟩]
def num_deeds_9.lc : LCode :=
 .seq (.text [⟨some 4, .mv (.cst (.int .i64 0)), none⟩]) (.seq num_deeds_9.k1 .ret)
theorem num_deeds_9.low : lowFn Tryd.prog 86 = some (9, num_deeds_9.lc, [.tmp 4]) := by kernel_rfl
def joinerylaw19_great.k1 : LCode := .text [⟨some 5, .box (.tmp 2), none⟩,⟨some 6, .mv (.cst (.bool false)), none⟩]
def joinerylaw19_great.k2 : LCode := .text [⟨some 7, .mv (.tmp 0), none⟩,⟨some 8, .len .slice (.tmp 7), none⟩,⟨some 9, .bin .gtr .other (.tmp 8) (.cst (.int .i64 300)), none⟩,⟨some 10, .mv (.tmp 9), none⟩,⟨some 11, .mv (.tmp 1), some (10, false)⟩,⟨some 12, .len .slice (.tmp 11), some (10, false)⟩,⟨some 13, .bin .gtr .other (.tmp 12) (.cst (.int .i64 300)), some (10, false)⟩,⟨some 14, .pick (.tmp 10) (.cst (.bool true)) (.tmp 13), none⟩,⟨some 15, .mv (.tmp 14), none⟩,⟨some 16, .faddr 0 (.tmp 5), some (15, false)⟩,⟨some 17, .load false 1 (.tmp 16), some (15, false)⟩,⟨some 18, .bin .gtr .other (.tmp 17) (.cst (.int .i64 30)), some (15, false)⟩,⟨some 19, .pick (.tmp 15) (.cst (.bool true)) (.tmp 18), none⟩,⟨some 20, .mv (.tmp 19), none⟩,⟨some 21, .faddr 1 (.tmp 5), some (20, false)⟩,⟨some 22, .load false 1 (.tmp 21), some (20, false)⟩,⟨some 23, .bin .gtr .other (.tmp 22) (.cst (.int .i64 300)), some (20, false)⟩,⟨some 24, .pick (.tmp 20) (.cst (.bool true)) (.tmp 23), none⟩,⟨some 6, .mv (.tmp 24), none⟩]
def joinerylaw19_great.lc : LCode :=
 .seq joinerylaw19_great.k1 (.seq joinerylaw19_great.k2 .ret)
theorem joinerylaw19_great.low : lowFn Tryd.prog 7 = some (25, joinerylaw19_great.lc, [.tmp 6]) := by kernel_rfl
def differ_Halted.k1 : LCode := .text [⟨some 1, .box (.tmp 0), none⟩,⟨some 2, .mv (.cst (.bool false)), none⟩]
def differ_Halted.k2 : LCode := .text [⟨some 3, .faddr 1 (.tmp 1), none⟩,⟨some 4, .faddr 0 (.tmp 3), none⟩,⟨some 5, .load false 1 (.tmp 4), none⟩]
def differ_Halted.k3 : LCode := .text [⟨some 7, .bin .eql .other (.tmp 5) (.cst (.int .i64 1)), none⟩,⟨some 6, .mv (.tmp 7), none⟩]
def differ_Halted.k4 : LCode := .text [⟨some 8, .bin .eql .other (.tmp 5) (.cst (.int .i64 2)), none⟩,⟨some 6, .mv (.tmp 8), none⟩]
def differ_Halted.k5 : LCode := .text [⟨some 9, .bin .eql .other (.tmp 5) (.cst (.int .i64 3)), none⟩,⟨some 6, .mv (.tmp 9), none⟩]
def differ_Halted.k6 : LCode := .text [⟨some 10, .bin .eql .other (.tmp 5) (.cst (.int .i64 4)), none⟩,⟨some 6, .mv (.tmp 10), none⟩]
def differ_Halted.k7 : LCode := .seq differ_Halted.k5 (.cond (.tmp 6) .skip differ_Halted.k6)
def differ_Halted.k8 : LCode := .seq differ_Halted.k4 (.cond (.tmp 6) .skip differ_Halted.k7)
def differ_Halted.k9 : LCode := .seq differ_Halted.k3 (.cond (.tmp 6) .skip differ_Halted.k8)
def differ_Halted.k10 : LCode := .cond (.tmp 6) (.seq (.text [⟨some 2, .mv (.cst (.bool true)), none⟩]) .ret) .skip
def differ_Halted.k11 : LCode := .seq differ_Halted.k2 (.block 0 (.seq differ_Halted.k9 differ_Halted.k10))
def differ_Halted.k12 : LCode := .seq (.text [⟨some 2, .mv (.cst (.bool false)), none⟩]) .ret
def differ_Halted.lc : LCode :=
 .seq differ_Halted.k1 (.seq differ_Halted.k11 differ_Halted.k12)
theorem differ_Halted.low : lowFn Tryd.prog 23 = some (11, differ_Halted.lc, [.tmp 2]) := by kernel_rfl
def cand_head.k1 : LCode := .text [⟨some 3, .mv (.tmp 0), none⟩,⟨some 4, .mv (.tmp 0), none⟩,⟨some 5, .len .slice (.tmp 4), none⟩,⟨some 6, .min [.tmp 5, .cst (.int .i64 200)], none⟩,⟨some 7, .slice 6 (.tmp 3) none (some (.tmp 6)) none, none⟩,⟨some 2, .mv (.tmp 7), none⟩]
def cand_head.lc : LCode :=
 .seq (.text [⟨some 2, .mv (.cst (.imm (.slice none 0 0))), none⟩]) (.seq cand_head.k1 .ret)
theorem cand_head.low : lowFn Tryd.prog 39 = some (8, cand_head.lc, [.tmp 2]) := by kernel_rfl
def ins_field.k1 : LCode := .text [⟨some 7, .bin .eql .other (.tmp 5) (.cst (.int .i32 68)), none⟩,⟨some 6, .mv (.tmp 7), none⟩]
def ins_field.k2 : LCode := .text [⟨some 8, .bin .eql .other (.tmp 5) (.cst (.int .i32 100)), none⟩,⟨some 6, .mv (.tmp 8), none⟩]
def ins_field.k3 : LCode := .text [⟨some 9, .mv (.tmp 0), none⟩,⟨some 10, .nilc (.tmp 9), none⟩,⟨some 11, .faddr 1 (.tmp 10), none⟩,⟨some 4, .mv (.tmp 11), none⟩]
def ins_field.k4 : LCode := .text [⟨some 13, .bin .eql .other (.tmp 5) (.cst (.int .i32 65)), none⟩,⟨some 12, .mv (.tmp 13), none⟩]
def ins_field.k5 : LCode := .text [⟨some 14, .bin .eql .other (.tmp 5) (.cst (.int .i32 97)), none⟩,⟨some 12, .mv (.tmp 14), none⟩]
def ins_field.k6 : LCode := .text [⟨some 15, .mv (.tmp 0), none⟩,⟨some 16, .nilc (.tmp 15), none⟩,⟨some 17, .faddr 2 (.tmp 16), none⟩,⟨some 4, .mv (.tmp 17), none⟩]
def ins_field.k7 : LCode := .seq (.seq ins_field.k4 (.cond (.tmp 12) .skip ins_field.k5)) (.cond (.tmp 12) (.seq ins_field.k6 .ret) .skip)
def ins_field.k8 : LCode := .seq (.seq ins_field.k1 (.cond (.tmp 6) .skip ins_field.k2)) (.cond (.tmp 6) (.seq ins_field.k3 .ret) ins_field.k7)
def ins_field.k9 : LCode := .seq (.text [⟨some 5, .mv (.tmp 1), none⟩]) (.block 0 ins_field.k8)
def ins_field.k10 : LCode := .text [⟨some 18, .mv (.tmp 0), none⟩,⟨some 19, .nilc (.tmp 18), none⟩,⟨some 20, .faddr 3 (.tmp 19), none⟩,⟨some 4, .mv (.tmp 20), none⟩]
def ins_field.lc : LCode :=
 .seq (.text [⟨some 4, .mv (.cst (.imm (.pointer none))), none⟩]) (.seq ins_field.k9 (.seq ins_field.k10 .ret))
theorem ins_field.low : lowFn Tryd.prog 55 = some (21, ins_field.lc, [.tmp 4]) := by kernel_rfl
def num_Do.k1 : LCode := .text [⟨some 6, .mv (.cst (.int .i64 0)), none⟩,⟨some 7, .mv (.cst (.int .i64 0)), none⟩]
def num_Do.k2 : LCode := .text [⟨some 9, .call (.cst (.fn (.func 75) [] [])) [], none⟩,⟨some 10, .mv (.tmp 0), none⟩,⟨some 11, .lookup (.imm .nilFunc) (.tmp 9) (.tmp 10) false, none⟩,⟨some 8, .mv (.tmp 11), none⟩]
def num_Do.k3 : LCode := .text [⟨some 13, .mv (.tmp 8), none⟩,⟨some 14, .bin .eql .func (.tmp 13) (.cst (.imm .nilFunc)), none⟩,⟨some 12, .mv (.tmp 14), none⟩]
def num_Do.k4 : LCode := .text [⟨some 6, .mv (.cst (.int .i64 0)), none⟩,⟨some 7, .mv (.cst (.int .i64 2)), none⟩]
def num_Do.k5 : LCode := .text [⟨some 16, .mv (.tmp 0), none⟩,⟨some 17, .bin .eql .other (.tmp 16) (.cst (.int .i64 7)), none⟩,⟨some 18, .mv (.tmp 17), none⟩,⟨some 19, .mv (.tmp 2), some (18, true)⟩,⟨some 20, .bin .eql .other (.tmp 19) (.cst (.int .i64 0)), some (18, true)⟩,⟨some 21, .pick (.tmp 18) (.tmp 20) (.cst (.bool false)), none⟩,⟨some 15, .mv (.tmp 21), none⟩]
def num_Do.k6 : LCode := .text [⟨some 6, .mv (.cst (.int .i64 0)), none⟩,⟨some 7, .mv (.cst (.int .i64 3)), none⟩]
def num_Do.k7 : LCode := .seq num_Do.k5 (.cond (.tmp 15) (.seq num_Do.k6 .ret) .skip)
def num_Do.k8 : LCode := .seq num_Do.k3 (.cond (.tmp 12) (.seq num_Do.k4 .ret) num_Do.k7)
def num_Do.k9 : LCode := .text [⟨some 22, .mv (.tmp 8), none⟩,⟨some 23, .mv (.tmp 1), none⟩,⟨some 24, .mv (.tmp 2), none⟩,⟨some 25, .call (.tmp 22) [.tmp 23, .tmp 24], none⟩,⟨some 6, .mv (.tmp 25), none⟩,⟨some 7, .mv (.cst (.int .i64 0)), none⟩]
def num_Do.k10 : LCode := .seq num_Do.k2 (.seq (.block 0 num_Do.k8) (.seq num_Do.k9 .ret))
def num_Do.lc : LCode :=
 .seq num_Do.k1 num_Do.k10
theorem num_Do.low : lowFn Tryd.prog 71 = some (26, num_Do.lc, [.tmp 6, .tmp 7]) := by kernel_rfl
def joinerylaw19_knows.k1 : LCode := .text [⟨some 14, .call (.cst (.fn (.func 15) [] [])) [.cst (.str ⟨#[114, 101, 116, 32, 114, 48, 10]⟩)], none⟩,⟨some 13, .mv (.tmp 14), none⟩,⟨some 15, .extract (.tmp 13) 0, none⟩,⟨some 16, .extract (.tmp 13) 1, none⟩,⟨some 17, .extract (.tmp 13) 2, none⟩,⟨some 1, .mv (.tmp 15), none⟩,⟨some 2, .mv (.tmp 16), none⟩,⟨some 3, .mv (.tmp 17), none⟩]
def joinerylaw19_knows.k2 : LCode := .text [⟨some 19, .call (.cst (.fn (.func 15) [] [])) [.cst (.str ⟨#[114, 101, 116, 32, 114, 49, 10]⟩)], none⟩,⟨some 18, .mv (.tmp 19), none⟩,⟨some 20, .extract (.tmp 18) 0, none⟩,⟨some 21, .extract (.tmp 18) 1, none⟩,⟨some 22, .extract (.tmp 18) 2, none⟩,⟨some 4, .mv (.tmp 20), none⟩,⟨some 5, .mv (.tmp 21), none⟩,⟨some 6, .mv (.tmp 22), none⟩]
def joinerylaw19_knows.k3 : LCode := .text [⟨some 24, .mv (.tmp 1), none⟩,⟨some 25, .mv (.tmp 4), none⟩,⟨some 26, .build [.int .i64 0, .int .i64 0] [], none⟩,⟨some 27, .call (.cst (.fn (.func 9) [] [])) [.tmp 24, .tmp 25, .tmp 26], none⟩,⟨some 23, .mv (.tmp 27), none⟩,⟨some 28, .extract (.tmp 23) 0, none⟩,⟨some 29, .extract (.tmp 23) 1, none⟩,⟨some 30, .extract (.tmp 23) 2, none⟩,⟨some 7, .alloc [.int .i64 0, .int .i64 0, .int .i64 0, .int .i64 0, .int .i64 0, .int .i64 0, .int .i64 0, .int .i64 0, .int .i64 0, .int .i64 0, .imm (.slice none 0 0), .imm (.slice none 0 0), .int .i64 0], none⟩,⟨none, .store 13 (.tmp 7) (.tmp 28), none⟩,⟨some 8, .mv (.tmp 29), none⟩,⟨some 9, .mv (.tmp 30), none⟩]
def joinerylaw19_knows.k4 : LCode := .text [⟨some 32, .mv (.tmp 1), none⟩,⟨some 33, .mv (.tmp 1), none⟩,⟨some 34, .build [.int .i64 0, .int .i64 0] [(0, 1, .cst (.int .i64 3)), (1, 1, .cst (.int .i64 9))], none⟩,⟨some 35, .call (.cst (.fn (.func 9) [] [])) [.tmp 32, .tmp 33, .tmp 34], none⟩,⟨some 31, .mv (.tmp 35), none⟩,⟨some 36, .extract (.tmp 31) 0, none⟩,⟨some 37, .extract (.tmp 31) 1, none⟩,⟨some 38, .extract (.tmp 31) 2, none⟩,⟨some 10, .alloc [.int .i64 0, .int .i64 0, .int .i64 0, .int .i64 0, .int .i64 0, .int .i64 0, .int .i64 0, .int .i64 0, .int .i64 0, .int .i64 0, .imm (.slice none 0 0), .imm (.slice none 0 0), .int .i64 0], none⟩,⟨none, .store 13 (.tmp 10) (.tmp 36), none⟩,⟨some 11, .mv (.tmp 37), none⟩,⟨some 12, .mv (.tmp 38), none⟩]
def joinerylaw19_knows.k5 : LCode := .text [⟨some 39, .mv (.tmp 8), none⟩,⟨some 40, .mv (.tmp 39), none⟩,⟨some 41, .mv (.tmp 9), some (40, true)⟩,⟨some 42, .bin .eql .other (.tmp 41) (.cst (.int .i64 0)), some (40, true)⟩,⟨some 43, .pick (.tmp 40) (.tmp 42) (.cst (.bool false)), none⟩,⟨some 44, .mv (.tmp 43), none⟩,⟨some 45, .faddr 0 (.tmp 7), some (44, true)⟩,⟨some 46, .load false 1 (.tmp 45), some (44, true)⟩,⟨some 47, .bin .eql .other (.tmp 46) (.cst (.int .i64 0)), some (44, true)⟩,⟨some 48, .pick (.tmp 44) (.tmp 47) (.cst (.bool false)), none⟩,⟨some 49, .mv (.tmp 48), none⟩,⟨some 50, .faddr 1 (.tmp 7), some (49, true)⟩,⟨some 51, .load false 1 (.tmp 50), some (49, true)⟩,⟨some 52, .bin .eql .other (.tmp 51) (.cst (.int .i64 3)), some (49, true)⟩,⟨some 53, .pick (.tmp 49) (.tmp 52) (.cst (.bool false)), none⟩,⟨some 54, .mv (.tmp 53), none⟩,⟨some 55, .faddr 2 (.tmp 7), some (54, true)⟩,⟨some 56, .faddr 0 (.tmp 55), some (54, true)⟩,⟨some 57, .iaddrA 8 1 (.tmp 56) (.cst (.int .i64 0)), some (54, true)⟩,⟨some 58, .load false 1 (.tmp 57), some (54, true)⟩,⟨some 59, .bin .eql .other (.tmp 58) (.cst (.int .i64 1000003)), some (54, true)⟩,⟨some 60, .pick (.tmp 54) (.tmp 59) (.cst (.bool false)), none⟩,⟨some 61, .mv (.tmp 60), none⟩,⟨some 62, .mv (.tmp 11), some (61, true)⟩,⟨some 63, .not (.tmp 62), some (61, true)⟩,⟨some 64, .pick (.tmp 61) (.tmp 63) (.cst (.bool false)), none⟩,⟨some 65, .mv (.tmp 64), none⟩,⟨some 66, .mv (.tmp 12), some (65, true)⟩,⟨some 67, .bin .eql .other (.tmp 66) (.cst (.int .i64 0)), some (65, true)⟩,⟨some 68, .pick (.tmp 65) (.tmp 67) (.cst (.bool false)), none⟩,⟨some 0, .mv (.tmp 68), none⟩]
def joinerylaw19_knows.k6 : LCode := .seq joinerylaw19_knows.k4 (.seq joinerylaw19_knows.k5 .ret)
def joinerylaw19_knows.k7 : LCode := .seq joinerylaw19_knows.k2 (.seq joinerylaw19_knows.k3 joinerylaw19_knows.k6)
def joinerylaw19_knows.lc : LCode :=
 .seq (.text [⟨some 0, .mv (.cst (.bool false)), none⟩]) (.seq joinerylaw19_knows.k1 joinerylaw19_knows.k7)
theorem joinerylaw19_knows.low : lowFn Tryd.prog 8 = some (69, joinerylaw19_knows.lc, [.tmp 0]) := by kernel_rfl
end Go.Proofs.YtnbdpjhmepgoaaaDoor
