/-
  Texts of this claim, put together.
-/
import Derived.Test.YtbkbehkjndmabaaDoorProg
import Derived.KernelRfl
import Derived.Test.YtbkbehkjndmabaaDoorZ4
/-
  The seat's functions, made plain (printed by a program of this claim; each is held against the loaded program by the kernel).
-/
namespace Go.Proofs.YtbkbehkjndmabaaDoor
set_option maxRecDepth 100000
def joineryref01_Do.k1 : LCode := .text [⟨some 6, .mv (.cst (.int .i64 0)), none⟩,⟨some 7, .mv (.cst (.int .i64 0)), none⟩]
def joineryref01_Do.k2 : LCode := .text [⟨some 10, .bin .eql .other (.tmp 8) (.cst (.int .i64 4)), none⟩,⟨some 9, .mv (.tmp 10), none⟩]
def joineryref01_Do.k3 : LCode := .text [⟨some 11, .mv (.tmp 1), none⟩,⟨some 12, .mv (.tmp 2), none⟩,⟨some 13, .bin .add .other (.tmp 11) (.tmp 12), none⟩,⟨some 6, .mv (.tmp 13), none⟩,⟨some 7, .mv (.cst (.int .i64 0)), none⟩]
def joineryref01_Do.k4 : LCode := .text [⟨some 15, .bin .eql .other (.tmp 8) (.cst (.int .i64 5)), none⟩,⟨some 14, .mv (.tmp 15), none⟩]
def joineryref01_Do.k5 : LCode := .text [⟨some 16, .mv (.tmp 1), none⟩,⟨some 17, .mv (.tmp 2), none⟩,⟨some 18, .bin .sub .other (.cst (.int .i64 0)) (.tmp 17), none⟩,⟨some 19, .bin .add .other (.tmp 16) (.tmp 18), none⟩,⟨some 6, .mv (.tmp 19), none⟩,⟨some 7, .mv (.cst (.int .i64 0)), none⟩]
def joineryref01_Do.k6 : LCode := .text [⟨some 21, .bin .eql .other (.tmp 8) (.cst (.int .i64 6)), none⟩,⟨some 20, .mv (.tmp 21), none⟩]
def joineryref01_Do.k7 : LCode := .text [⟨some 22, .mv (.tmp 1), none⟩,⟨some 23, .mv (.tmp 2), none⟩,⟨some 24, .bin .mul .other (.tmp 22) (.tmp 23), none⟩,⟨some 6, .mv (.tmp 24), none⟩,⟨some 7, .mv (.cst (.int .i64 0)), none⟩]
def joineryref01_Do.k8 : LCode := .text [⟨some 26, .bin .eql .other (.tmp 8) (.cst (.int .i64 7)), none⟩,⟨some 25, .mv (.tmp 26), none⟩]
def joineryref01_Do.k9 : LCode := .text [⟨some 27, .mv (.tmp 2), none⟩,⟨some 28, .bin .eql .other (.tmp 27) (.cst (.int .i64 0)), none⟩]
def joineryref01_Do.k10 : LCode := .text [⟨some 6, .mv (.cst (.int .i64 0)), none⟩,⟨some 7, .mv (.cst (.int .i64 3)), none⟩]
def joineryref01_Do.k11 : LCode := .seq joineryref01_Do.k9 (.cond (.tmp 28) (.seq joineryref01_Do.k10 .ret) .skip)
def joineryref01_Do.k12 : LCode := .text [⟨some 29, .mv (.tmp 2), none⟩,⟨some 30, .bin .eql .other (.tmp 29) (.cst (.int .i64 (-1))), none⟩]
def joineryref01_Do.k13 : LCode := .text [⟨some 31, .mv (.tmp 1), none⟩,⟨some 32, .bin .sub .other (.cst (.int .i64 0)) (.tmp 31), none⟩,⟨some 6, .mv (.tmp 32), none⟩,⟨some 7, .mv (.cst (.int .i64 0)), none⟩]
def joineryref01_Do.k14 : LCode := .seq joineryref01_Do.k12 (.cond (.tmp 30) (.seq joineryref01_Do.k13 .ret) .skip)
def joineryref01_Do.k15 : LCode := .text [⟨some 33, .mv (.tmp 1), none⟩,⟨some 34, .mv (.tmp 2), none⟩,⟨some 35, .bin .quo .other (.tmp 33) (.tmp 34), none⟩,⟨some 6, .mv (.tmp 35), none⟩,⟨some 7, .mv (.cst (.int .i64 0)), none⟩]
def joineryref01_Do.k16 : LCode := .seq joineryref01_Do.k11 (.seq joineryref01_Do.k14 (.seq joineryref01_Do.k15 .ret))
def joineryref01_Do.k17 : LCode := .text [⟨some 37, .bin .eql .other (.tmp 8) (.cst (.int .i64 8)), none⟩,⟨some 36, .mv (.tmp 37), none⟩]
def joineryref01_Do.k18 : LCode := .text [⟨some 38, .mv (.tmp 1), none⟩,⟨some 39, .mv (.tmp 2), none⟩,⟨some 40, .bin .and .other (.tmp 38) (.tmp 39), none⟩,⟨some 6, .mv (.tmp 40), none⟩,⟨some 7, .mv (.cst (.int .i64 0)), none⟩]
def joineryref01_Do.k19 : LCode := .text [⟨some 42, .bin .eql .other (.tmp 8) (.cst (.int .i64 9)), none⟩,⟨some 41, .mv (.tmp 42), none⟩]
def joineryref01_Do.k20 : LCode := .text [⟨some 43, .mv (.tmp 1), none⟩,⟨some 44, .mv (.tmp 2), none⟩,⟨some 45, .bin .or .other (.tmp 43) (.tmp 44), none⟩,⟨some 6, .mv (.tmp 45), none⟩,⟨some 7, .mv (.cst (.int .i64 0)), none⟩]
def joineryref01_Do.k21 : LCode := .text [⟨some 47, .bin .eql .other (.tmp 8) (.cst (.int .i64 10)), none⟩,⟨some 46, .mv (.tmp 47), none⟩]
def joineryref01_Do.k22 : LCode := .text [⟨some 48, .mv (.tmp 1), none⟩,⟨some 49, .mv (.tmp 2), none⟩,⟨some 50, .bin .or .other (.tmp 48) (.tmp 49), none⟩,⟨some 51, .mv (.tmp 1), none⟩,⟨some 52, .mv (.tmp 2), none⟩,⟨some 53, .bin .and .other (.tmp 51) (.tmp 52), none⟩,⟨some 54, .bin .sub .other (.tmp 50) (.tmp 53), none⟩,⟨some 6, .mv (.tmp 54), none⟩,⟨some 7, .mv (.cst (.int .i64 0)), none⟩]
def joineryref01_Do.k23 : LCode := .text [⟨some 56, .bin .eql .other (.tmp 8) (.cst (.int .i64 11)), none⟩,⟨some 55, .mv (.tmp 56), none⟩]
def joineryref01_Do.k24 : LCode := .text [⟨some 57, .mv (.tmp 2), none⟩,⟨some 58, .mv (.tmp 1), none⟩,⟨some 59, .bin .gtr .other (.tmp 57) (.tmp 58), none⟩]
def joineryref01_Do.k25 : LCode := .text [⟨some 6, .mv (.cst (.int .i64 1)), none⟩,⟨some 7, .mv (.cst (.int .i64 0)), none⟩]
def joineryref01_Do.k26 : LCode := .seq joineryref01_Do.k24 (.cond (.tmp 59) (.seq joineryref01_Do.k25 .ret) .skip)
def joineryref01_Do.k27 : LCode := .text [⟨some 6, .mv (.cst (.int .i64 0)), none⟩,⟨some 7, .mv (.cst (.int .i64 0)), none⟩]
def joineryref01_Do.k28 : LCode := .text [⟨some 61, .bin .eql .other (.tmp 8) (.cst (.int .i64 12)), none⟩,⟨some 60, .mv (.tmp 61), none⟩]
def joineryref01_Do.k29 : LCode := .text [⟨some 62, .mv (.tmp 1), none⟩,⟨some 63, .mv (.tmp 2), none⟩,⟨some 64, .bin .lss .other (.tmp 62) (.tmp 63), none⟩,⟨some 65, .mv (.tmp 64), none⟩,⟨some 66, .mv (.tmp 1), some (65, false)⟩,⟨some 67, .mv (.tmp 2), some (65, false)⟩,⟨some 68, .bin .gtr .other (.tmp 66) (.tmp 67), some (65, false)⟩,⟨some 69, .pick (.tmp 65) (.cst (.bool true)) (.tmp 68), none⟩]
def joineryref01_Do.k30 : LCode := .text [⟨some 6, .mv (.cst (.int .i64 0)), none⟩,⟨some 7, .mv (.cst (.int .i64 0)), none⟩]
def joineryref01_Do.k31 : LCode := .seq joineryref01_Do.k29 (.cond (.tmp 69) (.seq joineryref01_Do.k30 .ret) .skip)
def joineryref01_Do.k32 : LCode := .text [⟨some 6, .mv (.cst (.int .i64 1)), none⟩,⟨some 7, .mv (.cst (.int .i64 0)), none⟩]
def joineryref01_Do.k33 : LCode := .cond (.tmp 60) (.seq joineryref01_Do.k31 (.seq joineryref01_Do.k32 .ret)) .skip
def joineryref01_Do.k34 : LCode := .cond (.tmp 55) (.seq joineryref01_Do.k26 (.seq joineryref01_Do.k27 .ret)) (.seq joineryref01_Do.k28 joineryref01_Do.k33)
def joineryref01_Do.k35 : LCode := .cond (.tmp 46) (.seq joineryref01_Do.k22 .ret) (.seq joineryref01_Do.k23 joineryref01_Do.k34)
def joineryref01_Do.k36 : LCode := .cond (.tmp 41) (.seq joineryref01_Do.k20 .ret) (.seq joineryref01_Do.k21 joineryref01_Do.k35)
def joineryref01_Do.k37 : LCode := .cond (.tmp 36) (.seq joineryref01_Do.k18 .ret) (.seq joineryref01_Do.k19 joineryref01_Do.k36)
def joineryref01_Do.k38 : LCode := .cond (.tmp 25) joineryref01_Do.k16 (.seq joineryref01_Do.k17 joineryref01_Do.k37)
def joineryref01_Do.k39 : LCode := .cond (.tmp 20) (.seq joineryref01_Do.k7 .ret) (.seq joineryref01_Do.k8 joineryref01_Do.k38)
def joineryref01_Do.k40 : LCode := .cond (.tmp 14) (.seq joineryref01_Do.k5 .ret) (.seq joineryref01_Do.k6 joineryref01_Do.k39)
def joineryref01_Do.k41 : LCode := .cond (.tmp 9) (.seq joineryref01_Do.k3 .ret) (.seq joineryref01_Do.k4 joineryref01_Do.k40)
def joineryref01_Do.k42 : LCode := .seq (.text [⟨some 8, .mv (.tmp 0), none⟩]) (.block 0 (.seq joineryref01_Do.k2 joineryref01_Do.k41))
def joineryref01_Do.k43 : LCode := .text [⟨some 6, .mv (.cst (.int .i64 0)), none⟩,⟨some 7, .mv (.cst (.int .i64 2)), none⟩]
def joineryref01_Do.lc : LCode :=
 .seq joineryref01_Do.k1 (.seq joineryref01_Do.k42 (.seq joineryref01_Do.k43 .ret))
theorem joineryref01_Do.low : lowFn Tryd.prog 49 = some (70, joineryref01_Do.lc, [.tmp 6, .tmp 7]) := by kernel_rfl

def joineryref03_Check.k1 : LCode := .text [⟨some 2, .box (.tmp 0), none⟩,⟨some 4, .mv (.cst (.int .i64 0)), none⟩]
def joineryref03_Check.k2 : LCode := .any true [⟨some 5, .faddr 0 (.tmp 2), none⟩,⟨some 6, .load false 1 (.tmp 5), none⟩,⟨some 7, .bin .lss .other (.tmp 6) (.cst (.int .i64 1)), none⟩,⟨some 8, .mv (.tmp 7), none⟩,⟨some 9, .faddr 0 (.tmp 2), some (8, false)⟩,⟨some 10, .load false 1 (.tmp 9), some (8, false)⟩,⟨some 11, .bin .gtr .other (.tmp 10) (.cst (.int .i64 18)), some (8, false)⟩,⟨some 12, .pick (.tmp 8) (.cst (.bool true)) (.tmp 11), none⟩,⟨some 13, .mv (.tmp 12), none⟩,⟨some 14, .load true 6 (.tmp 2), some (13, false)⟩,⟨some 15, .call (.cst (.fn (.func 71) [] [])) [.tmp 14], some (13, false)⟩,⟨some 16, .load true 6 (.tmp 2), some (13, false)⟩,⟨some 17, .bin .neq (.cells [.i, .i, .i, .i, .i, .i]) (.tmp 15) (.tmp 16), some (13, false)⟩,⟨some 18, .pick (.tmp 13) (.cst (.bool true)) (.tmp 17), none⟩,⟨some 19, .mv (.tmp 18), none⟩,⟨some 20, .faddr 0 (.tmp 2), some (19, false)⟩,⟨some 21, .load false 1 (.tmp 20), some (19, false)⟩,⟨some 22, .bin .eql .other (.tmp 21) (.cst (.int .i64 15)), some (19, false)⟩,⟨some 23, .mv (.tmp 22), some (19, false)⟩,⟨some 24, .faddr 4 (.tmp 2), some (23, true)⟩,⟨some 25, .load false 1 (.tmp 24), some (23, true)⟩,⟨some 26, .bin .lss .other (.tmp 25) (.cst (.int .i64 0)), some (23, true)⟩,⟨some 27, .mv (.tmp 26), some (23, true)⟩,⟨some 28, .faddr 4 (.tmp 2), some (27, false)⟩,⟨some 29, .load false 1 (.tmp 28), some (27, false)⟩,⟨some 30, .bin .gtr .other (.tmp 29) (.cst (.int .i64 99)), some (27, false)⟩,⟨some 31, .pick (.tmp 27) (.cst (.bool true)) (.tmp 30), some (23, true)⟩,⟨some 32, .pick (.tmp 23) (.tmp 31) (.cst (.bool false)), some (19, false)⟩,⟨some 33, .pick (.tmp 19) (.cst (.bool true)) (.tmp 32), none⟩] (.both (.take 0 (.all [(1, .take 2 (.take 3 (.take 4 (.all [(5, .take 6 (.take 7 (.take 8 (.all [(9, .all [(10, .all [(11, .take 12 (.take 13 (.take 14 (.take 15 (.all [(16, .take 17 (.take 18 (.take 19 (.all [(20, .take 21 (.take 22 (.take 23 (.all [(24, .take 25 (.take 26 (.take 27 (.take 28 .done))))]))))]))))])))))]), (11, .all [(10, .take 12 (.take 13 (.take 14 (.take 15 (.all [(16, .take 17 (.take 18 (.take 19 (.all [(20, .take 21 (.take 22 (.take 23 (.all [(24, .take 25 (.take 26 (.take 27 (.take 28 .done))))]))))]))))])))))])]), (11, .all [(9, .all [(10, .take 12 (.take 13 (.take 14 (.take 15 (.all [(16, .take 17 (.take 18 (.take 19 (.all [(20, .take 21 (.take 22 (.take 23 (.all [(24, .take 25 (.take 26 (.take 27 (.take 28 .done))))]))))]))))])))))])])]))))]))))])) (.front 0 (.front 1 (.front 2 (.front 3 (.front 4 (.front 5 (.front 6 (.front 7 (.front 8 (.front 9 (.front 10 (.front 11 (.front 12 (.front 13 (.front 14 (.front 15 (.front 16 (.front 17 (.front 18 (.front 19 (.front 20 (.front 21 (.front 22 (.front 23 (.front 24 (.front 25 (.front 26 (.front 27 (.front 28 .done))))))))))))))))))))))))))))))
def joineryref03_Check.k3 : LCode := .seq (.text [⟨some 4, .mv (.cst (.int .i64 1)), none⟩]) .ret
def joineryref03_Check.k4 : LCode := .seq joineryref03_Check.k2 (.cond (.tmp 33) joineryref03_Check.k3 .skip)
def joineryref03_Check.k5 : LCode := .text [⟨some 34, .faddr 0 (.tmp 2), none⟩,⟨some 35, .load false 1 (.tmp 34), none⟩,⟨some 36, .bin .leq .other (.tmp 35) (.cst (.int .i64 3)), none⟩]
def joineryref03_Check.k6 : LCode := .text [⟨some 37, .faddr 1 (.tmp 2), none⟩,⟨some 38, .load false 1 (.tmp 37), none⟩,⟨some 39, .call (.cst (.fn (.func 72) [] [])) [.tmp 38], none⟩,⟨some 40, .not (.tmp 39), none⟩,⟨some 41, .mv (.tmp 40), none⟩,⟨some 42, .faddr 2 (.tmp 2), some (41, false)⟩,⟨some 43, .load false 1 (.tmp 42), some (41, false)⟩,⟨some 44, .call (.cst (.fn (.func 72) [] [])) [.tmp 43], some (41, false)⟩,⟨some 45, .not (.tmp 44), some (41, false)⟩,⟨some 46, .pick (.tmp 41) (.cst (.bool true)) (.tmp 45), none⟩]
def joineryref03_Check.k7 : LCode := .seq (.text [⟨some 4, .mv (.cst (.int .i64 6)), none⟩]) .ret
def joineryref03_Check.k8 : LCode := .seq joineryref03_Check.k6 (.cond (.tmp 46) joineryref03_Check.k7 .skip)
def joineryref03_Check.k9 : LCode := .text [⟨some 47, .faddr 1 (.tmp 2), none⟩,⟨some 48, .load false 1 (.tmp 47), none⟩,⟨some 49, .call (.cst (.fn (.func 73) [] [])) [.tmp 48], none⟩,⟨some 50, .not (.tmp 49), none⟩,⟨some 51, .mv (.tmp 50), none⟩,⟨some 52, .faddr 2 (.tmp 2), some (51, false)⟩,⟨some 53, .load false 1 (.tmp 52), some (51, false)⟩,⟨some 54, .call (.cst (.fn (.func 73) [] [])) [.tmp 53], some (51, false)⟩,⟨some 55, .not (.tmp 54), some (51, false)⟩,⟨some 56, .pick (.tmp 51) (.cst (.bool true)) (.tmp 55), none⟩,⟨some 57, .mv (.tmp 56), none⟩,⟨some 58, .faddr 3 (.tmp 2), some (57, false)⟩,⟨some 59, .load false 1 (.tmp 58), some (57, false)⟩,⟨some 60, .call (.cst (.fn (.func 73) [] [])) [.tmp 59], some (57, false)⟩,⟨some 61, .not (.tmp 60), some (57, false)⟩,⟨some 62, .pick (.tmp 57) (.cst (.bool true)) (.tmp 61), none⟩]
def joineryref03_Check.k10 : LCode := .seq (.text [⟨some 4, .mv (.cst (.int .i64 6)), none⟩]) .ret
def joineryref03_Check.k11 : LCode := .seq joineryref03_Check.k9 (.cond (.tmp 62) joineryref03_Check.k10 .skip)
def joineryref03_Check.k12 : LCode := .cond (.tmp 36) joineryref03_Check.k8 joineryref03_Check.k11
def joineryref03_Check.k13 : LCode := .text [⟨some 63, .faddr 0 (.tmp 2), none⟩,⟨some 64, .load false 1 (.tmp 63), none⟩,⟨some 65, .bin .eql .other (.tmp 64) (.cst (.int .i64 16)), none⟩,⟨some 66, .mv (.tmp 65), none⟩,⟨some 67, .faddr 0 (.tmp 2), some (66, false)⟩,⟨some 68, .load false 1 (.tmp 67), some (66, false)⟩,⟨some 69, .bin .eql .other (.tmp 68) (.cst (.int .i64 17)), some (66, false)⟩,⟨some 70, .pick (.tmp 66) (.cst (.bool true)) (.tmp 69), none⟩,⟨some 71, .mv (.tmp 70), none⟩,⟨some 72, .faddr 5 (.tmp 2), some (71, true)⟩,⟨some 73, .load false 1 (.tmp 72), some (71, true)⟩,⟨some 74, .bin .lss .other (.tmp 73) (.cst (.int .i64 0)), some (71, true)⟩,⟨some 75, .mv (.tmp 74), some (71, true)⟩,⟨some 76, .faddr 5 (.tmp 2), some (75, false)⟩,⟨some 77, .load false 1 (.tmp 76), some (75, false)⟩,⟨some 78, .mv (.tmp 1), some (75, false)⟩,⟨some 79, .bin .geq .other (.tmp 77) (.tmp 78), some (75, false)⟩,⟨some 80, .pick (.tmp 75) (.cst (.bool true)) (.tmp 79), some (71, true)⟩,⟨some 81, .pick (.tmp 71) (.tmp 80) (.cst (.bool false)), none⟩]
def joineryref03_Check.k14 : LCode := .seq (.text [⟨some 4, .mv (.cst (.int .i64 4)), none⟩]) .ret
def joineryref03_Check.k15 : LCode := .seq joineryref03_Check.k13 (.cond (.tmp 81) joineryref03_Check.k14 .skip)
def joineryref03_Check.k16 : LCode := .seq (.text [⟨some 4, .mv (.cst (.int .i64 0)), none⟩]) .ret
def joineryref03_Check.k17 : LCode := .seq (.seq joineryref03_Check.k5 joineryref03_Check.k12) (.seq joineryref03_Check.k15 joineryref03_Check.k16)
def joineryref03_Check.lc : LCode :=
 .seq joineryref03_Check.k1 (.seq joineryref03_Check.k4 joineryref03_Check.k17)
theorem joineryref03_Check.low : lowFn Tryd.prog 65 = some (82, joineryref03_Check.lc, [.tmp 4]) := by kernel_rfl

def num_deeds_3.k1 : LCode := .text [⟨some 5, .mv (.tmp 0), none⟩,⟨some 6, .mv (.tmp 1), none⟩,⟨some 7, .bin .mul .other (.tmp 5) (.tmp 6), none⟩,⟨some 4, .mv (.tmp 7), none⟩]
def num_deeds_3.lc : LCode :=
 .seq (.text [⟨some 4, .mv (.cst (.int .i64 0)), none⟩]) (.seq num_deeds_3.k1 .ret)
theorem num_deeds_3.low : lowFn Tryd.prog 81 = some (8, num_deeds_3.lc, [.tmp 4]) := by kernel_rfl

def joineryref08_Fair.k1 : LCode := .text [⟨some 3, .box (.tmp 1), none⟩,⟨some 4, .mv (.cst (.bool false)), none⟩]
def joineryref08_Fair.k2 : LCode := .text [⟨some 5, .mv (.tmp 0), none⟩,⟨some 6, .call (.cst (.fn (.func 39) [] [])) [.tmp 5], none⟩,⟨some 7, .mv (.tmp 6), none⟩,⟨some 8, .load true 11 (.tmp 3), some (7, true)⟩,⟨some 9, .call (.cst (.fn (.func 31) [] [])) [.tmp 8], some (7, true)⟩,⟨some 10, .pick (.tmp 7) (.tmp 9) (.cst (.bool false)), none⟩,⟨some 4, .mv (.tmp 10), none⟩]
def joineryref08_Fair.lc : LCode :=
 .seq joineryref08_Fair.k1 (.seq joineryref08_Fair.k2 .ret)
theorem joineryref08_Fair.low : lowFn Tryd.prog 34 = some (11, joineryref08_Fair.lc, [.tmp 4]) := by kernel_rfl

def joineryref06_Load.k1 : LCode := .text [⟨some 4, .mv (.cst (.int .i64 0)), none⟩,⟨some 5, .mv (.cst (.int .i64 0)), none⟩]
def joineryref06_Load.k2 : LCode := .text [⟨some 7, .mv (.tmp 0), none⟩,⟨some 8, .len .slice (.tmp 7), none⟩,⟨some 9, .bin .leq .other (.tmp 8) (.cst (.int .i64 16)), none⟩]
def joineryref06_Load.k3 : LCode := .text [⟨some 10, .mv (.tmp 6), none⟩,⟨some 11, .mv (.tmp 0), none⟩,⟨some 12, .len .slice (.tmp 11), none⟩,⟨some 13, .bin .lss .other (.tmp 10) (.tmp 12), none⟩]
def joineryref06_Load.k4 : LCode := .text [⟨some 16, .mv (.tmp 6), none⟩,⟨some 17, .mv (.tmp 1), none⟩,⟨some 18, .bin .eql .other (.tmp 16) (.tmp 17), none⟩]
def joineryref06_Load.k5 : LCode := .text [⟨some 19, .mv (.tmp 0), none⟩,⟨some 20, .mv (.tmp 6), none⟩,⟨some 21, .iaddrS 1 (.tmp 19) (.tmp 20), none⟩,⟨some 22, .load false 1 (.tmp 21), none⟩,⟨some 4, .mv (.tmp 22), none⟩,⟨some 5, .mv (.cst (.int .i64 0)), none⟩]
def joineryref06_Load.k6 : LCode := .seq joineryref06_Load.k4 (.cond (.tmp 18) (.seq joineryref06_Load.k5 .ret) .skip)
def joineryref06_Load.k7 : LCode := .text [⟨some 14, .mv (.tmp 6), none⟩,⟨some 15, .bin .add .other (.tmp 14) (.cst (.int .i64 1)), none⟩,⟨some 6, .mv (.tmp 15), none⟩]
def joineryref06_Load.k8 : LCode := .seq (.seq joineryref06_Load.k3 (.cond (.tmp 13) .skip (.exit 0))) (.seq (.block 1 joineryref06_Load.k6) joineryref06_Load.k7)
def joineryref06_Load.k9 : LCode := .seq (.text [⟨some 6, .mv (.cst (.int .i64 0)), none⟩]) (.block 0 (.loop joineryref06_Load.k8))
def joineryref06_Load.k10 : LCode := .seq joineryref06_Load.k2 (.cond (.tmp 9) joineryref06_Load.k9 .skip)
def joineryref06_Load.k11 : LCode := .text [⟨some 4, .mv (.cst (.int .i64 0)), none⟩,⟨some 5, .mv (.cst (.int .i64 4)), none⟩]
def joineryref06_Load.k12 : LCode := .seq joineryref06_Load.k10 (.seq joineryref06_Load.k11 .ret)
def joineryref06_Load.lc : LCode :=
 .seq joineryref06_Load.k1 joineryref06_Load.k12
theorem joineryref06_Load.low : lowFn Tryd.prog 50 = some (23, joineryref06_Load.lc, [.tmp 4, .tmp 5]) := by kernel_rfl

def ins_words.k1 : LCode := .text [⟨some 7, .mv (.tmp 0), none⟩,⟨some 8, .range (.tmp 7), none⟩]
def ins_words.k2 : LCode := .text [⟨some 9, .next (.tmp 8), none⟩,⟨some 10, .extract (.tmp 9) 0, none⟩]
def ins_words.k3 : LCode := .text [⟨some 11, .extract (.tmp 9) 1, none⟩,⟨some 12, .extract (.tmp 9) 2, none⟩,⟨some 5, .mv (.tmp 11), none⟩,⟨some 6, .mv (.tmp 12), none⟩]
def ins_words.k4 : LCode := .text [⟨some 13, .mv (.tmp 6), none⟩,⟨some 14, .bin .eql .other (.tmp 13) (.cst (.int .i32 32)), none⟩]
def ins_words.k5 : LCode := .text [⟨some 15, .mv (.tmp 3), none⟩,⟨some 16, .mv (.tmp 0), none⟩,⟨some 17, .mv (.tmp 4), none⟩,⟨some 18, .mv (.tmp 5), none⟩,⟨some 19, .sliceS (.tmp 16) (some (.tmp 17)) (some (.tmp 18)), none⟩,⟨some 20, .bslice 1 [.str ⟨#[]⟩] 1 [(0, .tmp 19)], none⟩,⟨some 21, .append 1 16 (.tmp 15) (.tmp 20), none⟩,⟨some 3, .mv (.tmp 21), none⟩]
def ins_words.k6 : LCode := .text [⟨some 22, .mv (.tmp 5), none⟩,⟨some 23, .bin .add .other (.tmp 22) (.cst (.int .i64 1)), none⟩,⟨some 4, .mv (.tmp 23), none⟩]
def ins_words.k7 : LCode := .seq ins_words.k4 (.cond (.tmp 14) (.seq ins_words.k5 ins_words.k6) .skip)
def ins_words.k8 : LCode := .seq (.cond (.tmp 10) .skip (.exit 0)) (.block 1 (.seq ins_words.k3 ins_words.k7))
def ins_words.k9 : LCode := .seq ins_words.k1 (.block 0 (.loop (.seq ins_words.k2 ins_words.k8)))
def ins_words.k10 : LCode := .text [⟨some 24, .mv (.tmp 3), none⟩,⟨some 25, .mv (.tmp 0), none⟩,⟨some 26, .mv (.tmp 4), none⟩,⟨some 27, .sliceS (.tmp 25) (some (.tmp 26)) none, none⟩,⟨some 28, .bslice 1 [.str ⟨#[]⟩] 1 [(0, .tmp 27)], none⟩,⟨some 29, .append 1 16 (.tmp 24) (.tmp 28), none⟩,⟨some 2, .mv (.tmp 29), none⟩]
def ins_words.k11 : LCode := .seq (.text [⟨some 4, .mv (.cst (.int .i64 0)), none⟩]) (.seq ins_words.k9 (.seq ins_words.k10 .ret))
def ins_words.k12 : LCode := .seq (.text [⟨some 3, .mv (.cst (.imm (.slice none 0 0))), none⟩]) ins_words.k11
def ins_words.lc : LCode :=
 .seq (.text [⟨some 2, .mv (.cst (.imm (.slice none 0 0))), none⟩]) ins_words.k12
theorem ins_words.low : lowFn Tryd.prog 66 = some (30, ins_words.lc, [.tmp 2]) := by kernel_rfl

def num_deeds_4.k1 : LCode := .text [⟨some 5, .mv (.tmp 0), none⟩,⟨some 6, .mv (.tmp 1), none⟩,⟨some 7, .bin .quo .other (.tmp 5) (.tmp 6), none⟩,⟨some 4, .mv (.tmp 7), none⟩]
def num_deeds_4.lc : LCode :=
 .seq (.text [⟨some 4, .mv (.cst (.int .i64 0)), none⟩]) (.seq num_deeds_4.k1 .ret)
theorem num_deeds_4.low : lowFn Tryd.prog 82 = some (8, num_deeds_4.lc, [.tmp 4]) := by kernel_rfl


end Go.Proofs.YtbkbehkjndmabaaDoor
