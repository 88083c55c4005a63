/-
  Texts of this claim, put together.
-/
import Derived.Test.YtbkbehkjndmabaaDoorProg
import Derived.KernelRfl
import Derived.Test.YtbkbehkjndmabaaDoorZ9
/-
  The seat's functions, made plain (printed by a program of this claim; each is held against the loaded program by the kernel).
-/
namespace Go.Proofs.YtbkbehkjndmabaaDoor
set_option maxRecDepth 100000
def joineryref08_Begins.k1 : LCode := .text [⟨some 5, .mv (.tmp 0), none⟩,⟨some 6, .len .slice (.tmp 5), none⟩,⟨some 7, .mv (.tmp 1), none⟩,⟨some 8, .len .slice (.tmp 7), none⟩,⟨some 9, .bin .leq .other (.tmp 6) (.tmp 8), none⟩,⟨some 10, .mv (.tmp 9), none⟩,⟨some 11, .mv (.tmp 0), some (10, true)⟩,⟨some 12, .mv (.tmp 1), some (10, true)⟩,⟨some 13, .mv (.tmp 0), some (10, true)⟩,⟨some 14, .len .slice (.tmp 13), some (10, true)⟩,⟨some 15, .slice 3 (.tmp 12) none (some (.tmp 14)) none, some (10, true)⟩,⟨some 16, .call (.cst (.fn (.func 24) [] [])) [.tmp 11, .tmp 15], some (10, true)⟩,⟨some 17, .pick (.tmp 10) (.tmp 16) (.cst (.bool false)), none⟩,⟨some 4, .mv (.tmp 17), none⟩]
def joineryref08_Begins.lc : LCode :=
 .seq (.text [⟨some 4, .mv (.cst (.bool false)), none⟩]) (.seq joineryref08_Begins.k1 .ret)
theorem joineryref08_Begins.low : lowFn Tryd.prog 37 = some (18, joineryref08_Begins.lc, [.tmp 4]) := by kernel_rfl

def joinerylaw08_RunGrows.k1 : LCode := .text [⟨some 4, .box (.tmp 1), none⟩,⟨some 6, .mv (.cst (.bool false)), none⟩]
def joinerylaw08_RunGrows.k2 : LCode := .text [⟨some 13, .mv (.tmp 0), none⟩,⟨some 14, .load true 11 (.tmp 4), none⟩,⟨some 15, .call (.cst (.fn (.func 27) [] [])) [.tmp 13, .tmp 14], none⟩,⟨some 16, .mv (.tmp 15), none⟩,⟨some 17, .mv (.tmp 0), some (16, false)⟩,⟨some 18, .load true 11 (.tmp 4), some (16, false)⟩,⟨some 19, .call (.cst (.fn (.func 34) [] [])) [.tmp 17, .tmp 18], some (16, false)⟩,⟨some 20, .not (.tmp 19), some (16, false)⟩,⟨some 21, .pick (.tmp 16) (.cst (.bool true)) (.tmp 20), none⟩]
def joinerylaw08_RunGrows.k3 : LCode := .text [⟨some 22, .call (.cst (.fn (.func 28) [] [])) [], none⟩,⟨some 6, .mv (.tmp 22), none⟩]
def joinerylaw08_RunGrows.k4 : LCode := .seq joinerylaw08_RunGrows.k2 (.cond (.tmp 21) (.seq joinerylaw08_RunGrows.k3 .ret) .skip)
def joinerylaw08_RunGrows.k5 : LCode := .text [⟨some 24, .mv (.tmp 0), none⟩,⟨some 25, .load true 11 (.tmp 4), none⟩,⟨some 26, .call (.cst (.fn (.func 29) [] [])) [.tmp 24, .tmp 25], none⟩,⟨some 23, .mv (.tmp 26), none⟩,⟨some 27, .extract (.tmp 23) 0, none⟩,⟨some 28, .extract (.tmp 23) 1, none⟩,⟨some 29, .extract (.tmp 23) 2, none⟩,⟨some 7, .alloc [.imm (.slice none 0 0), .int .i64 0, .int .i64 0, .imm (.slice none 0 0), .int .i64 0, .int .i64 0], none⟩,⟨some 8, .alloc [.bool false, .int .i64 0, .bool false, .int .i64 0, .bool false, .int .i64 0, .bool false, .int .i64 0, .bool false, .int .i64 0, .bool false, .int .i64 0, .bool false, .int .i64 0, .bool false, .int .i64 0, .bool false, .int .i64 0, .bool false, .int .i64 0, .bool false, .int .i64 0, .bool false, .int .i64 0, .bool false, .int .i64 0, .bool false, .int .i64 0, .bool false, .int .i64 0, .bool false, .int .i64 0, .bool false, .int .i64 0, .bool false, .int .i64 0, .bool false, .int .i64 0, .bool false, .int .i64 0, .bool false, .int .i64 0, .bool false, .int .i64 0, .bool false, .int .i64 0, .bool false, .int .i64 0, .imm (.slice none 0 0), .int .i64 0, .int .i64 0], none⟩,⟨none, .store 6 (.tmp 7) (.tmp 27), none⟩,⟨none, .store 51 (.tmp 8) (.tmp 28), none⟩,⟨some 9, .mv (.tmp 29), none⟩]
def joinerylaw08_RunGrows.k6 : LCode := .text [⟨some 30, .faddr 10 (.tmp 4), none⟩,⟨some 31, .load false 1 (.tmp 30), none⟩,⟨some 32, .mv (.tmp 2), none⟩,⟨some 33, .toInt .i64 (.tmp 32), none⟩,⟨some 34, .bin .add .other (.tmp 31) (.tmp 33), none⟩,⟨some 35, .faddr 10 (.tmp 4), none⟩,⟨none, .store 1 (.tmp 35) (.tmp 34), none⟩]
def joinerylaw08_RunGrows.k7 : LCode := .text [⟨some 36, .faddr 10 (.tmp 4), none⟩,⟨some 37, .load false 1 (.tmp 36), none⟩,⟨some 38, .bin .gtr .other (.tmp 37) (.cst (.int .i64 5000)), none⟩]
def joinerylaw08_RunGrows.k8 : LCode := .text [⟨some 39, .call (.cst (.fn (.func 28) [] [])) [], none⟩,⟨some 6, .mv (.tmp 39), none⟩]
def joinerylaw08_RunGrows.k9 : LCode := .seq joinerylaw08_RunGrows.k7 (.cond (.tmp 38) (.seq joinerylaw08_RunGrows.k8 .ret) .skip)
def joinerylaw08_RunGrows.k10 : LCode := .text [⟨some 41, .mv (.tmp 0), none⟩,⟨some 42, .load true 11 (.tmp 4), none⟩,⟨some 43, .call (.cst (.fn (.func 29) [] [])) [.tmp 41, .tmp 42], none⟩,⟨some 40, .mv (.tmp 43), none⟩,⟨some 44, .extract (.tmp 40) 0, none⟩,⟨some 45, .extract (.tmp 40) 1, none⟩,⟨some 46, .extract (.tmp 40) 2, none⟩,⟨some 10, .alloc [.imm (.slice none 0 0), .int .i64 0, .int .i64 0, .imm (.slice none 0 0), .int .i64 0, .int .i64 0], none⟩,⟨some 11, .alloc [.bool false, .int .i64 0, .bool false, .int .i64 0, .bool false, .int .i64 0, .bool false, .int .i64 0, .bool false, .int .i64 0, .bool false, .int .i64 0, .bool false, .int .i64 0, .bool false, .int .i64 0, .bool false, .int .i64 0, .bool false, .int .i64 0, .bool false, .int .i64 0, .bool false, .int .i64 0, .bool false, .int .i64 0, .bool false, .int .i64 0, .bool false, .int .i64 0, .bool false, .int .i64 0, .bool false, .int .i64 0, .bool false, .int .i64 0, .bool false, .int .i64 0, .bool false, .int .i64 0, .bool false, .int .i64 0, .bool false, .int .i64 0, .bool false, .int .i64 0, .bool false, .int .i64 0, .imm (.slice none 0 0), .int .i64 0, .int .i64 0], none⟩,⟨none, .store 6 (.tmp 10) (.tmp 44), none⟩,⟨none, .store 51 (.tmp 11) (.tmp 45), none⟩,⟨some 12, .mv (.tmp 46), none⟩]
def joinerylaw08_RunGrows.k11 : LCode := .text [⟨some 47, .mv (.tmp 9), none⟩,⟨some 48, .bin .neq .other (.tmp 47) (.cst (.int .i64 0)), none⟩,⟨some 49, .mv (.tmp 48), none⟩,⟨some 50, .mv (.tmp 12), some (49, false)⟩,⟨some 51, .bin .neq .other (.tmp 50) (.cst (.int .i64 0)), some (49, false)⟩,⟨some 52, .pick (.tmp 49) (.cst (.bool true)) (.tmp 51), none⟩,⟨some 53, .mv (.tmp 52), none⟩,⟨some 54, .faddr 0 (.tmp 7), some (53, false)⟩,⟨some 55, .load false 1 (.tmp 54), some (53, false)⟩,⟨some 56, .faddr 0 (.tmp 10), some (53, false)⟩,⟨some 57, .load false 1 (.tmp 56), some (53, false)⟩,⟨some 58, .call (.cst (.fn (.func 37) [] [])) [.tmp 55, .tmp 57], some (53, false)⟩,⟨some 59, .not (.tmp 58), some (53, false)⟩,⟨some 60, .pick (.tmp 53) (.cst (.bool true)) (.tmp 59), none⟩,⟨some 61, .mv (.tmp 60), none⟩,⟨some 62, .faddr 4 (.tmp 10), some (61, false)⟩,⟨some 63, .load false 1 (.tmp 62), some (61, false)⟩,⟨some 64, .faddr 4 (.tmp 7), some (61, false)⟩,⟨some 65, .load false 1 (.tmp 64), some (61, false)⟩,⟨some 66, .bin .lss .other (.tmp 63) (.tmp 65), some (61, false)⟩,⟨some 67, .pick (.tmp 61) (.cst (.bool true)) (.tmp 66), none⟩]
def joinerylaw08_RunGrows.k12 : LCode := .seq (.text [⟨some 6, .mv (.cst (.bool false)), none⟩]) .ret
def joinerylaw08_RunGrows.k13 : LCode := .seq joinerylaw08_RunGrows.k11 (.cond (.tmp 67) joinerylaw08_RunGrows.k12 .skip)
def joinerylaw08_RunGrows.k14 : LCode := .text [⟨some 68, .faddr 1 (.tmp 7), none⟩,⟨some 69, .faddr 0 (.tmp 68), none⟩,⟨some 70, .load false 1 (.tmp 69), none⟩,⟨some 71, .bin .eql .other (.tmp 70) (.cst (.int .i64 0)), none⟩,⟨some 72, .mv (.tmp 71), none⟩,⟨some 73, .load true 6 (.tmp 7), some (72, false)⟩,⟨some 74, .load true 6 (.tmp 10), some (72, false)⟩,⟨some 75, .call (.cst (.fn (.func 35) [] [])) [.tmp 73, .tmp 74], some (72, false)⟩,⟨some 76, .pick (.tmp 72) (.cst (.bool true)) (.tmp 75), none⟩,⟨some 77, .mv (.tmp 76), none⟩,⟨some 78, .call (.cst (.fn (.func 28) [] [])) [], some (77, true)⟩,⟨some 79, .pick (.tmp 77) (.tmp 78) (.cst (.bool false)), none⟩,⟨some 6, .mv (.tmp 79), none⟩]
def joinerylaw08_RunGrows.k15 : LCode := .seq joinerylaw08_RunGrows.k13 (.seq joinerylaw08_RunGrows.k14 .ret)
def joinerylaw08_RunGrows.k16 : LCode := .seq joinerylaw08_RunGrows.k9 (.seq joinerylaw08_RunGrows.k10 joinerylaw08_RunGrows.k15)
def joinerylaw08_RunGrows.k17 : LCode := .seq joinerylaw08_RunGrows.k5 (.seq joinerylaw08_RunGrows.k6 joinerylaw08_RunGrows.k16)
def joinerylaw08_RunGrows.lc : LCode :=
 .seq joinerylaw08_RunGrows.k1 (.seq joinerylaw08_RunGrows.k4 joinerylaw08_RunGrows.k17)
theorem joinerylaw08_RunGrows.low : lowFn Tryd.prog 10 = some (80, joinerylaw08_RunGrows.lc, [.tmp 6]) := by kernel_rfl

def joinerylaw08_RunGoes.k1 : LCode := .text [⟨some 4, .box (.tmp 1), none⟩,⟨some 6, .mv (.cst (.bool false)), none⟩]
def joinerylaw08_RunGoes.k2 : LCode := .text [⟨some 15, .mv (.tmp 0), none⟩,⟨some 16, .load true 11 (.tmp 4), none⟩,⟨some 17, .call (.cst (.fn (.func 27) [] [])) [.tmp 15, .tmp 16], none⟩,⟨some 18, .mv (.tmp 17), none⟩,⟨some 19, .mv (.tmp 0), some (18, false)⟩,⟨some 20, .load true 11 (.tmp 4), some (18, false)⟩,⟨some 21, .call (.cst (.fn (.func 34) [] [])) [.tmp 19, .tmp 20], some (18, false)⟩,⟨some 22, .not (.tmp 21), some (18, false)⟩,⟨some 23, .pick (.tmp 18) (.cst (.bool true)) (.tmp 22), none⟩,⟨some 24, .mv (.tmp 23), none⟩,⟨some 25, .faddr 10 (.tmp 4), some (24, false)⟩,⟨some 26, .load false 1 (.tmp 25), some (24, false)⟩,⟨some 27, .mv (.tmp 2), some (24, false)⟩,⟨some 28, .toInt .i64 (.tmp 27), some (24, false)⟩,⟨some 29, .bin .add .other (.tmp 26) (.tmp 28), some (24, false)⟩,⟨some 30, .bin .gtr .other (.tmp 29) (.cst (.int .i64 5000)), some (24, false)⟩,⟨some 31, .pick (.tmp 24) (.cst (.bool true)) (.tmp 30), none⟩]
def joinerylaw08_RunGoes.k3 : LCode := .text [⟨some 32, .call (.cst (.fn (.func 28) [] [])) [], none⟩,⟨some 6, .mv (.tmp 32), none⟩]
def joinerylaw08_RunGoes.k4 : LCode := .seq joinerylaw08_RunGoes.k2 (.cond (.tmp 31) (.seq joinerylaw08_RunGoes.k3 .ret) .skip)
def joinerylaw08_RunGoes.k5 : LCode := .text [⟨some 34, .mv (.tmp 0), none⟩,⟨some 35, .load true 11 (.tmp 4), none⟩,⟨some 36, .call (.cst (.fn (.func 29) [] [])) [.tmp 34, .tmp 35], none⟩,⟨some 33, .mv (.tmp 36), none⟩,⟨some 37, .extract (.tmp 33) 0, none⟩,⟨some 38, .extract (.tmp 33) 1, none⟩,⟨some 39, .extract (.tmp 33) 2, none⟩,⟨some 7, .alloc [.imm (.slice none 0 0), .int .i64 0, .int .i64 0, .imm (.slice none 0 0), .int .i64 0, .int .i64 0], none⟩,⟨some 8, .alloc [.bool false, .int .i64 0, .bool false, .int .i64 0, .bool false, .int .i64 0, .bool false, .int .i64 0, .bool false, .int .i64 0, .bool false, .int .i64 0, .bool false, .int .i64 0, .bool false, .int .i64 0, .bool false, .int .i64 0, .bool false, .int .i64 0, .bool false, .int .i64 0, .bool false, .int .i64 0, .bool false, .int .i64 0, .bool false, .int .i64 0, .bool false, .int .i64 0, .bool false, .int .i64 0, .bool false, .int .i64 0, .bool false, .int .i64 0, .bool false, .int .i64 0, .bool false, .int .i64 0, .bool false, .int .i64 0, .bool false, .int .i64 0, .bool false, .int .i64 0, .bool false, .int .i64 0, .imm (.slice none 0 0), .int .i64 0, .int .i64 0], none⟩,⟨none, .store 6 (.tmp 7) (.tmp 37), none⟩,⟨none, .store 51 (.tmp 8) (.tmp 38), none⟩,⟨some 9, .mv (.tmp 39), none⟩]
def joinerylaw08_RunGoes.k6 : LCode := .text [⟨some 40, .mv (.tmp 9), none⟩,⟨some 41, .bin .neq .other (.tmp 40) (.cst (.int .i64 0)), none⟩,⟨some 42, .mv (.tmp 41), none⟩,⟨some 43, .faddr 1 (.tmp 7), some (42, false)⟩,⟨some 44, .faddr 0 (.tmp 43), some (42, false)⟩,⟨some 45, .load false 1 (.tmp 44), some (42, false)⟩,⟨some 46, .bin .eql .other (.tmp 45) (.cst (.int .i64 0)), some (42, false)⟩,⟨some 47, .mv (.tmp 46), some (42, false)⟩,⟨some 48, .faddr 4 (.tmp 7), some (47, true)⟩,⟨some 49, .load false 1 (.tmp 48), some (47, true)⟩,⟨some 50, .faddr 10 (.tmp 4), some (47, true)⟩,⟨some 51, .load false 1 (.tmp 50), some (47, true)⟩,⟨some 52, .bin .neq .other (.tmp 49) (.tmp 51), some (47, true)⟩,⟨some 53, .pick (.tmp 47) (.tmp 52) (.cst (.bool false)), some (42, false)⟩,⟨some 54, .pick (.tmp 42) (.cst (.bool true)) (.tmp 53), none⟩,⟨some 55, .mv (.tmp 54), none⟩,⟨some 56, .faddr 4 (.tmp 7), some (55, false)⟩,⟨some 57, .load false 1 (.tmp 56), some (55, false)⟩,⟨some 58, .faddr 10 (.tmp 4), some (55, false)⟩,⟨some 59, .load false 1 (.tmp 58), some (55, false)⟩,⟨some 60, .bin .gtr .other (.tmp 57) (.tmp 59), some (55, false)⟩,⟨some 61, .pick (.tmp 55) (.cst (.bool true)) (.tmp 60), none⟩,⟨some 62, .mv (.tmp 61), none⟩,⟨some 63, .faddr 5 (.tmp 7), some (62, false)⟩,⟨some 64, .load false 1 (.tmp 63), some (62, false)⟩,⟨some 65, .faddr 4 (.tmp 7), some (62, false)⟩,⟨some 66, .load false 1 (.tmp 65), some (62, false)⟩,⟨some 67, .bin .gtr .other (.tmp 64) (.tmp 66), some (62, false)⟩,⟨some 68, .pick (.tmp 62) (.cst (.bool true)) (.tmp 67), none⟩]
def joinerylaw08_RunGoes.k7 : LCode := .seq (.text [⟨some 6, .mv (.cst (.bool false)), none⟩]) .ret
def joinerylaw08_RunGoes.k8 : LCode := .seq joinerylaw08_RunGoes.k6 (.cond (.tmp 68) joinerylaw08_RunGoes.k7 .skip)
def joinerylaw08_RunGoes.k9 : LCode := .any false [⟨some 70, .mv (.tmp 0), none⟩,⟨some 71, .load true 51 (.tmp 8), none⟩,⟨some 72, .call (.cst (.fn (.func 19) [] [])) [.tmp 71], none⟩,⟨some 73, .load true 6 (.tmp 7), none⟩,⟨some 74, .faddr 9 (.tmp 4), none⟩,⟨some 75, .load false 1 (.tmp 74), none⟩,⟨some 76, .mv (.tmp 2), none⟩,⟨some 77, .toInt .i64 (.tmp 76), none⟩,⟨some 78, .call (.cst (.fn (.func 38) [] [])) [.tmp 70, .tmp 72, .tmp 73, .tmp 75, .tmp 77], none⟩,⟨some 69, .mv (.tmp 78), none⟩,⟨some 79, .extract (.tmp 69) 0, none⟩,⟨some 80, .extract (.tmp 69) 1, none⟩,⟨some 10, .alloc [.imm (.slice none 0 0), .int .i64 0, .int .i64 0, .imm (.slice none 0 0), .int .i64 0, .int .i64 0], none⟩,⟨some 11, .alloc [.imm (.slice none 0 0), .imm (.slice none 0 0), .int .i64 0, .int .i64 0], none⟩,⟨none, .store 6 (.tmp 10) (.tmp 79), none⟩,⟨none, .store 4 (.tmp 11) (.tmp 80), none⟩] (.both .no (.front 0 (.front 1 (.front 2 (.front 3 (.front 4 (.front 5 (.front 6 (.front 7 (.front 8 (.front 9 (.front 10 (.front 11 (.all [(12, .front 13 (.front 14 (.front 15 .done))), (13, .front 12 (.front 14 (.front 15 .done)))]))))))))))))))
def joinerylaw08_RunGoes.k10 : LCode := .text [⟨some 81, .faddr 10 (.tmp 4), none⟩,⟨some 82, .load false 1 (.tmp 81), none⟩,⟨some 83, .mv (.tmp 2), none⟩,⟨some 84, .toInt .i64 (.tmp 83), none⟩,⟨some 85, .bin .add .other (.tmp 82) (.tmp 84), none⟩,⟨some 86, .faddr 10 (.tmp 4), none⟩,⟨none, .store 1 (.tmp 86) (.tmp 85), none⟩]
def joinerylaw08_RunGoes.k11 : LCode := .text [⟨some 88, .mv (.tmp 0), none⟩,⟨some 89, .load true 11 (.tmp 4), none⟩,⟨some 90, .call (.cst (.fn (.func 29) [] [])) [.tmp 88, .tmp 89], none⟩,⟨some 87, .mv (.tmp 90), none⟩,⟨some 91, .extract (.tmp 87) 0, none⟩,⟨some 92, .extract (.tmp 87) 1, none⟩,⟨some 93, .extract (.tmp 87) 2, none⟩,⟨some 12, .alloc [.imm (.slice none 0 0), .int .i64 0, .int .i64 0, .imm (.slice none 0 0), .int .i64 0, .int .i64 0], none⟩,⟨some 13, .alloc [.bool false, .int .i64 0, .bool false, .int .i64 0, .bool false, .int .i64 0, .bool false, .int .i64 0, .bool false, .int .i64 0, .bool false, .int .i64 0, .bool false, .int .i64 0, .bool false, .int .i64 0, .bool false, .int .i64 0, .bool false, .int .i64 0, .bool false, .int .i64 0, .bool false, .int .i64 0, .bool false, .int .i64 0, .bool false, .int .i64 0, .bool false, .int .i64 0, .bool false, .int .i64 0, .bool false, .int .i64 0, .bool false, .int .i64 0, .bool false, .int .i64 0, .bool false, .int .i64 0, .bool false, .int .i64 0, .bool false, .int .i64 0, .bool false, .int .i64 0, .bool false, .int .i64 0, .imm (.slice none 0 0), .int .i64 0, .int .i64 0], none⟩,⟨none, .store 6 (.tmp 12) (.tmp 91), none⟩,⟨none, .store 51 (.tmp 13) (.tmp 92), none⟩,⟨some 14, .mv (.tmp 93), none⟩]
def joinerylaw08_RunGoes.k12 : LCode := .any true [⟨some 94, .mv (.tmp 14), none⟩,⟨some 95, .bin .eql .other (.tmp 94) (.cst (.int .i64 0)), none⟩,⟨some 96, .mv (.tmp 95), none⟩,⟨some 97, .load true 6 (.tmp 10), some (96, true)⟩,⟨some 98, .load true 6 (.tmp 12), some (96, true)⟩,⟨some 99, .call (.cst (.fn (.func 35) [] [])) [.tmp 97, .tmp 98], some (96, true)⟩,⟨some 100, .pick (.tmp 96) (.tmp 99) (.cst (.bool false)), none⟩,⟨some 101, .mv (.tmp 100), none⟩,⟨some 102, .load true 4 (.tmp 11), some (101, true)⟩,⟨some 103, .load true 51 (.tmp 13), some (101, true)⟩,⟨some 104, .call (.cst (.fn (.func 19) [] [])) [.tmp 103], some (101, true)⟩,⟨some 105, .call (.cst (.fn (.func 21) [] [])) [.tmp 102, .tmp 104], some (101, true)⟩,⟨some 106, .pick (.tmp 101) (.tmp 105) (.cst (.bool false)), none⟩,⟨some 107, .mv (.tmp 106), none⟩,⟨some 108, .mv (.tmp 0), some (107, true)⟩,⟨some 109, .call (.cst (.fn (.func 39) [] [])) [.tmp 108], some (107, true)⟩,⟨some 110, .pick (.tmp 107) (.tmp 109) (.cst (.bool false)), none⟩,⟨some 111, .mv (.tmp 110), none⟩,⟨some 112, .call (.cst (.fn (.func 28) [] [])) [], some (111, true)⟩,⟨some 113, .pick (.tmp 111) (.tmp 112) (.cst (.bool false)), none⟩,⟨some 6, .mv (.tmp 113), none⟩] (.both (.take 0 (.take 1 (.take 2 (.all [(3, .all [(4, .all [(5, .take 6 (.take 7 (.all [(8, .all [(9, .all [(10, .all [(11, .take 12 (.take 13 (.take 14 (.all [(15, .take 16 (.take 17 (.all [(18, .take 19 (.take 20 .done))])))]))))])])]), (9, .all [(8, .all [(10, .all [(11, .take 12 (.take 13 (.take 14 (.all [(15, .take 16 (.take 17 (.all [(18, .take 19 (.take 20 .done))])))]))))])]), (10, .all [(8, .all [(11, .take 12 (.take 13 (.take 14 (.all [(15, .take 16 (.take 17 (.all [(18, .take 19 (.take 20 .done))])))]))))])])])])))])]), (4, .all [(3, .all [(5, .take 6 (.take 7 (.all [(8, .all [(9, .all [(10, .all [(11, .take 12 (.take 13 (.take 14 (.all [(15, .take 16 (.take 17 (.all [(18, .take 19 (.take 20 .done))])))]))))])])]), (9, .all [(8, .all [(10, .all [(11, .take 12 (.take 13 (.take 14 (.all [(15, .take 16 (.take 17 (.all [(18, .take 19 (.take 20 .done))])))]))))])]), (10, .all [(8, .all [(11, .take 12 (.take 13 (.take 14 (.all [(15, .take 16 (.take 17 (.all [(18, .take 19 (.take 20 .done))])))]))))])])])])))])])])))) (.front 0 (.front 1 (.front 2 (.front 3 (.front 4 (.front 5 (.front 6 (.front 7 (.front 8 (.front 9 (.front 10 (.front 11 (.front 12 (.front 13 (.front 14 (.front 15 (.front 16 (.front 17 (.front 18 (.front 19 (.front 20 .done))))))))))))))))))))))
def joinerylaw08_RunGoes.k13 : LCode := .seq joinerylaw08_RunGoes.k11 (.seq joinerylaw08_RunGoes.k12 .ret)
def joinerylaw08_RunGoes.k14 : LCode := .seq joinerylaw08_RunGoes.k9 (.seq joinerylaw08_RunGoes.k10 joinerylaw08_RunGoes.k13)
def joinerylaw08_RunGoes.k15 : LCode := .seq joinerylaw08_RunGoes.k5 (.seq joinerylaw08_RunGoes.k8 joinerylaw08_RunGoes.k14)
def joinerylaw08_RunGoes.lc : LCode :=
 .seq joinerylaw08_RunGoes.k1 (.seq joinerylaw08_RunGoes.k4 joinerylaw08_RunGoes.k15)
theorem joinerylaw08_RunGoes.low : lowFn Tryd.prog 11 = some (114, joinerylaw08_RunGoes.lc, [.tmp 6]) := by kernel_rfl

def joinerylaw08_RunNone.k1 : LCode := .text [⟨some 3, .box (.tmp 1), none⟩,⟨some 4, .mv (.cst (.bool false)), none⟩]
def joinerylaw08_RunNone.k2 : LCode := .text [⟨some 11, .mv (.tmp 0), none⟩,⟨some 12, .load true 11 (.tmp 3), none⟩,⟨some 13, .call (.cst (.fn (.func 27) [] [])) [.tmp 11, .tmp 12], none⟩,⟨some 14, .mv (.tmp 13), none⟩,⟨some 15, .mv (.tmp 0), some (14, false)⟩,⟨some 16, .load true 11 (.tmp 3), some (14, false)⟩,⟨some 17, .call (.cst (.fn (.func 34) [] [])) [.tmp 15, .tmp 16], some (14, false)⟩,⟨some 18, .not (.tmp 17), some (14, false)⟩,⟨some 19, .pick (.tmp 14) (.cst (.bool true)) (.tmp 18), none⟩]
def joinerylaw08_RunNone.k3 : LCode := .text [⟨some 20, .call (.cst (.fn (.func 28) [] [])) [], none⟩,⟨some 4, .mv (.tmp 20), none⟩]
def joinerylaw08_RunNone.k4 : LCode := .seq joinerylaw08_RunNone.k2 (.cond (.tmp 19) (.seq joinerylaw08_RunNone.k3 .ret) .skip)
def joinerylaw08_RunNone.k5 : LCode := .text [⟨some 22, .mv (.tmp 0), none⟩,⟨some 23, .load true 11 (.tmp 3), none⟩,⟨some 24, .call (.cst (.fn (.func 29) [] [])) [.tmp 22, .tmp 23], none⟩,⟨some 21, .mv (.tmp 24), none⟩,⟨some 25, .extract (.tmp 21) 0, none⟩,⟨some 26, .extract (.tmp 21) 1, none⟩,⟨some 27, .extract (.tmp 21) 2, none⟩,⟨some 5, .alloc [.imm (.slice none 0 0), .int .i64 0, .int .i64 0, .imm (.slice none 0 0), .int .i64 0, .int .i64 0], none⟩,⟨some 6, .alloc [.bool false, .int .i64 0, .bool false, .int .i64 0, .bool false, .int .i64 0, .bool false, .int .i64 0, .bool false, .int .i64 0, .bool false, .int .i64 0, .bool false, .int .i64 0, .bool false, .int .i64 0, .bool false, .int .i64 0, .bool false, .int .i64 0, .bool false, .int .i64 0, .bool false, .int .i64 0, .bool false, .int .i64 0, .bool false, .int .i64 0, .bool false, .int .i64 0, .bool false, .int .i64 0, .bool false, .int .i64 0, .bool false, .int .i64 0, .bool false, .int .i64 0, .bool false, .int .i64 0, .bool false, .int .i64 0, .bool false, .int .i64 0, .bool false, .int .i64 0, .bool false, .int .i64 0, .imm (.slice none 0 0), .int .i64 0, .int .i64 0], none⟩,⟨none, .store 6 (.tmp 5) (.tmp 25), none⟩,⟨none, .store 51 (.tmp 6) (.tmp 26), none⟩,⟨some 7, .mv (.tmp 27), none⟩]
def joinerylaw08_RunNone.k6 : LCode := .text [⟨some 28, .faddr 10 (.tmp 3), none⟩,⟨none, .store 1 (.tmp 28) (.cst (.int .i64 0)), none⟩]
def joinerylaw08_RunNone.k7 : LCode := .text [⟨some 30, .mv (.tmp 0), none⟩,⟨some 31, .load true 11 (.tmp 3), none⟩,⟨some 32, .call (.cst (.fn (.func 29) [] [])) [.tmp 30, .tmp 31], none⟩,⟨some 29, .mv (.tmp 32), none⟩,⟨some 33, .extract (.tmp 29) 0, none⟩,⟨some 34, .extract (.tmp 29) 1, none⟩,⟨some 35, .extract (.tmp 29) 2, none⟩,⟨some 8, .alloc [.imm (.slice none 0 0), .int .i64 0, .int .i64 0, .imm (.slice none 0 0), .int .i64 0, .int .i64 0], none⟩,⟨some 9, .alloc [.bool false, .int .i64 0, .bool false, .int .i64 0, .bool false, .int .i64 0, .bool false, .int .i64 0, .bool false, .int .i64 0, .bool false, .int .i64 0, .bool false, .int .i64 0, .bool false, .int .i64 0, .bool false, .int .i64 0, .bool false, .int .i64 0, .bool false, .int .i64 0, .bool false, .int .i64 0, .bool false, .int .i64 0, .bool false, .int .i64 0, .bool false, .int .i64 0, .bool false, .int .i64 0, .bool false, .int .i64 0, .bool false, .int .i64 0, .bool false, .int .i64 0, .bool false, .int .i64 0, .bool false, .int .i64 0, .bool false, .int .i64 0, .bool false, .int .i64 0, .bool false, .int .i64 0, .imm (.slice none 0 0), .int .i64 0, .int .i64 0], none⟩,⟨none, .store 6 (.tmp 8) (.tmp 33), none⟩,⟨none, .store 51 (.tmp 9) (.tmp 34), none⟩,⟨some 10, .mv (.tmp 35), none⟩]
def joinerylaw08_RunNone.k8 : LCode := .text [⟨some 36, .mv (.tmp 7), none⟩,⟨some 37, .bin .neq .other (.tmp 36) (.cst (.int .i64 0)), none⟩,⟨some 38, .mv (.tmp 37), none⟩,⟨some 39, .mv (.tmp 10), some (38, false)⟩,⟨some 40, .bin .neq .other (.tmp 39) (.cst (.int .i64 0)), some (38, false)⟩,⟨some 41, .pick (.tmp 38) (.cst (.bool true)) (.tmp 40), none⟩,⟨some 42, .mv (.tmp 41), none⟩,⟨some 43, .faddr 5 (.tmp 5), some (42, false)⟩,⟨some 44, .load false 1 (.tmp 43), some (42, false)⟩,⟨some 45, .faddr 4 (.tmp 5), some (42, false)⟩,⟨some 46, .load false 1 (.tmp 45), some (42, false)⟩,⟨some 47, .bin .gtr .other (.tmp 44) (.tmp 46), some (42, false)⟩,⟨some 48, .pick (.tmp 42) (.cst (.bool true)) (.tmp 47), none⟩,⟨some 49, .mv (.tmp 48), none⟩,⟨some 50, .faddr 48 (.tmp 6), some (49, false)⟩,⟨some 51, .load false 1 (.tmp 50), some (49, false)⟩,⟨some 52, .len .slice (.tmp 51), some (49, false)⟩,⟨some 53, .faddr 8 (.tmp 3), some (49, false)⟩,⟨some 54, .load false 1 (.tmp 53), some (49, false)⟩,⟨some 55, .len .slice (.tmp 54), some (49, false)⟩,⟨some 56, .bin .neq .other (.tmp 52) (.tmp 55), some (49, false)⟩,⟨some 57, .pick (.tmp 49) (.cst (.bool true)) (.tmp 56), none⟩]
def joinerylaw08_RunNone.k9 : LCode := .seq (.text [⟨some 4, .mv (.cst (.bool false)), none⟩]) .ret
def joinerylaw08_RunNone.k10 : LCode := .seq joinerylaw08_RunNone.k8 (.cond (.tmp 57) joinerylaw08_RunNone.k9 .skip)
def joinerylaw08_RunNone.k11 : LCode := .any true [⟨some 58, .faddr 4 (.tmp 8), none⟩,⟨some 59, .load false 1 (.tmp 58), none⟩,⟨some 60, .bin .eql .other (.tmp 59) (.cst (.int .i64 0)), none⟩,⟨some 61, .mv (.tmp 60), none⟩,⟨some 62, .faddr 0 (.tmp 8), some (61, true)⟩,⟨some 63, .load false 1 (.tmp 62), some (61, true)⟩,⟨some 64, .len .slice (.tmp 63), some (61, true)⟩,⟨some 65, .bin .eql .other (.tmp 64) (.cst (.int .i64 0)), some (61, true)⟩,⟨some 66, .pick (.tmp 61) (.tmp 65) (.cst (.bool false)), none⟩,⟨some 67, .mv (.tmp 66), none⟩,⟨some 68, .faddr 1 (.tmp 8), some (67, true)⟩,⟨some 69, .faddr 0 (.tmp 68), some (67, true)⟩,⟨some 70, .load false 1 (.tmp 69), some (67, true)⟩,⟨some 71, .bin .eql .other (.tmp 70) (.cst (.int .i64 0)), some (67, true)⟩,⟨some 72, .pick (.tmp 67) (.tmp 71) (.cst (.bool false)), none⟩,⟨some 73, .mv (.tmp 72), none⟩,⟨some 74, .faddr 49 (.tmp 9), some (73, true)⟩,⟨some 75, .load false 1 (.tmp 74), some (73, true)⟩,⟨some 76, .bin .eql .other (.tmp 75) (.cst (.int .i64 0)), some (73, true)⟩,⟨some 77, .pick (.tmp 73) (.tmp 76) (.cst (.bool false)), none⟩,⟨some 78, .mv (.tmp 77), none⟩,⟨some 79, .load true 51 (.tmp 9), some (78, true)⟩,⟨some 80, .call (.cst (.fn (.func 19) [] [])) [.tmp 79], some (78, true)⟩,⟨some 81, .load true 11 (.tmp 3), some (78, true)⟩,⟨some 82, .call (.cst (.fn (.func 33) [] [])) [.tmp 81], some (78, true)⟩,⟨some 83, .call (.cst (.fn (.func 21) [] [])) [.tmp 80, .tmp 82], some (78, true)⟩,⟨some 84, .pick (.tmp 78) (.tmp 83) (.cst (.bool false)), none⟩,⟨some 85, .mv (.tmp 84), none⟩,⟨some 86, .call (.cst (.fn (.func 28) [] [])) [], some (85, true)⟩,⟨some 87, .pick (.tmp 85) (.tmp 86) (.cst (.bool false)), none⟩,⟨some 4, .mv (.tmp 87), none⟩] (.both (.take 0 (.all [(1, .take 2 (.take 3 (.take 4 (.all [(5, .take 6 (.take 7 (.take 8 (.take 9 (.take 10 (.take 11 (.all [(12, .take 13 (.take 14 (.take 15 (.take 16 (.all [(17, .take 18 (.take 19 (.take 20 (.all [(21, .all [(22, .all [(23, .all [(24, .all [(25, .take 26 (.take 27 (.all [(28, .take 29 (.take 30 .done))])))])])]), (23, .all [(22, .all [(24, .all [(25, .take 26 (.take 27 (.all [(28, .take 29 (.take 30 .done))])))])])])]), (23, .all [(21, .all [(22, .all [(24, .all [(25, .take 26 (.take 27 (.all [(28, .take 29 (.take 30 .done))])))])])])])]))))])))))])))))))]))))])) (.front 0 (.front 1 (.front 2 (.front 3 (.front 4 (.front 5 (.front 6 (.front 7 (.front 8 (.front 9 (.front 10 (.front 11 (.front 12 (.front 13 (.front 14 (.front 15 (.front 16 (.front 17 (.front 18 (.front 19 (.front 20 (.front 21 (.front 22 (.front 23 (.front 24 (.front 25 (.front 26 (.front 27 (.front 28 (.front 29 (.front 30 .done))))))))))))))))))))))))))))))))
def joinerylaw08_RunNone.k12 : LCode := .seq joinerylaw08_RunNone.k10 (.seq joinerylaw08_RunNone.k11 .ret)
def joinerylaw08_RunNone.k13 : LCode := .seq joinerylaw08_RunNone.k6 (.seq joinerylaw08_RunNone.k7 joinerylaw08_RunNone.k12)
def joinerylaw08_RunNone.k14 : LCode := .seq joinerylaw08_RunNone.k4 (.seq joinerylaw08_RunNone.k5 joinerylaw08_RunNone.k13)
def joinerylaw08_RunNone.lc : LCode :=
 .seq joinerylaw08_RunNone.k1 joinerylaw08_RunNone.k14
theorem joinerylaw08_RunNone.low : lowFn Tryd.prog 12 = some (88, joinerylaw08_RunNone.lc, [.tmp 4]) := by kernel_rfl


end Go.Proofs.YtbkbehkjndmabaaDoor
/-
  run: traces; the document's beginning; whether two traces are alike, whether events begin others.
-/
namespace Go.Proofs.YtbkbehkjndmabaaDoor
open Go.RowKit
set_option linter.unusedVariables false
set_option linter.unusedSimpArgs false
theorem ref08_Begins_ok (a b : List Ev) (hl : a.length ≤ 9223372036854775806) : Pure Tryd.prog 37 [evs a, evs b] (.bool (decide (a.length ≤ b.length) && decide (a = b.take a.length))) := by
  intro H
  refine ACalls.go joineryref08_Begins.low (by simp) fun hcl => ?_
  have h1 := ref07_SameEvents_ok a (b.take a.length) hl
  rw [evs_eq, evs_eq] at *
  rw [List.map_take] at h1
  by_cases k1 : (a.length : Int) ≤ (b.length : Int)
  · rw [decide_eq_true (show a.length ≤ b.length by omega), Bool.true_and]
    generalize decide (a = b.take a.length) = r at *
    have k2 : a.length ≤ b.length := by omega
    have k3 : b.map encEv = [] ∨ ((b.map encEv).headD []).length = 3 := by
      cases b
      · exact .inl rfl
      · exact .inr rfl
    clear hl
    replace h1 := Hold.mk h1
    repeat' (first | simp only [seval, evx, beq_self_eq_true, sb, ew, ec, evs_eq, encEv_def, List.map_nil, Nat.mul_one, *] | simp (disch := omega) only [if_pos, if_neg] | refine R.seq ?_ | refine LCB.text ?_ | refine LCB.quiet rfl ?_ | refine R.anyX ?_ | refine R.block ?_ | refine LCB.skip ?_ | refine LCB.exit ?_ | refine LCB.ret ?_ | ((first | refine RetOk.val hcl ?_ | refine Weak.at hcl ?_); simp only [seval, evw, List.forall_mem_cons, List.forall_mem_map, List.forall_mem_append, List.not_mem_nil, sb, ew, ec, evs_eq, encEv_def, List.map_nil, Nat.mul_one, *]) | ((first | refine LCB.cond (by simp only [seval, evx] <;> rfl) ?_ ?_ | refine wpG_split (by simp only [seval, evx] <;> rfl) ?_ ?_ | refine wxG_split (by simp only [seval, evx] <;> rfl) ?_ ?_) <;> (intro hc; try simp only [seval, nf] at hc)) | refine ACalls.inst ?_ | refine CallX.inst ?_ | (with_reducible refine And.intro ?_ ?_) | exact True.intro | refine ACalls.pure h1.of ?_ | refine CallX.pure h1.of ?_ | refine ACalls.pure h2.of ?_ | refine CallX.pure h2.of ?_)
  · rw [decide_eq_false (show ¬ a.length ≤ b.length by omega), Bool.false_and]
    generalize decide (a = b.take a.length) = r at *
    clear hl
    replace h1 := Hold.mk h1
    repeat' (first | simp only [seval, evx, beq_self_eq_true, sb, ew, ec, evs_eq, encEv_def, List.map_nil, Nat.mul_one, *] | simp (disch := omega) only [if_pos, if_neg] | refine R.seq ?_ | refine LCB.text ?_ | refine LCB.quiet rfl ?_ | refine R.anyX ?_ | refine R.block ?_ | refine LCB.skip ?_ | refine LCB.exit ?_ | refine LCB.ret ?_ | ((first | refine RetOk.val hcl ?_ | refine Weak.at hcl ?_); simp only [seval, evw, List.forall_mem_cons, List.forall_mem_map, List.forall_mem_append, List.not_mem_nil, sb, ew, ec, evs_eq, encEv_def, List.map_nil, Nat.mul_one, *]) | ((first | refine LCB.cond (by simp only [seval, evx] <;> rfl) ?_ ?_ | refine wpG_split (by simp only [seval, evx] <;> rfl) ?_ ?_ | refine wxG_split (by simp only [seval, evx] <;> rfl) ?_ ?_) <;> (intro hc; try simp only [seval, nf] at hc)) | refine ACalls.inst ?_ | refine CallX.inst ?_ | (with_reducible refine And.intro ?_ ?_) | exact True.intro | refine ACalls.pure h1.of ?_ | refine CallX.pure h1.of ?_ | refine ACalls.pure h2.of ?_ | refine CallX.pure h2.of ?_)
end Go.Proofs.YtbkbehkjndmabaaDoor

/-
  The last step: cases. RunRuns, of every function and case.
-/
namespace Go.Proofs.YtbkbehkjndmabaaDoor
open Go.ChangeShapes Go.WideShapes Go.ChangeAt Go.RowKit
set_option linter.unusedVariables false
set_option linter.unusedSimpArgs false
theorem fit_nums {rest : List Sh} : ∀ (n : Nat) (r : List AV), FitR (List.replicate n (.int .i64) ++ rest) r → ∃ (R : List Int) (r' : List AV), r = ic R ++ r' ∧ R.length = n ∧ (∀ x ∈ R, in64 x) ∧ FitR rest r'
  | 0, r, h => ⟨[], r, rfl, rfl, by simp, by simpa using h⟩
  | n + 1, r, h => by
    have e : List.replicate (n + 1) (Sh.int .i64) ++ rest = .int .i64 :: (List.replicate n (.int .i64) ++ rest) := by rw [List.replicate_succ]; rfl
    rw [e] at h
    obtain ⟨a, r1, rfl, h1, h2⟩ := h.cons_inv
    obtain ⟨v, rfl, hv⟩ := h1.i64
    obtain ⟨R, r', rfl, h5, h6, h7⟩ := fit_nums n r1 h2
    exact ⟨v :: R, r', rfl, by simp [h5], by simpa using ⟨hv, h6⟩, h7⟩
abbrev csSh : List Sh := List.replicate 8 (.int .i64) ++ [.list [.int .i64], .list [.int .i64], .int .i64]
theorem FitA.cs {a : AV} (h : FitA (.agg csSh) a) : ∃ c : Cs, a = csA c ∧ c.R.length = 8 ∧ c.heap.length ≤ maxLen ∧ c.ans.length ≤ maxLen ∧ in64 c.fuel := by
  obtain ⟨r, rfl, hr⟩ := h
  obtain ⟨R, r1, rfl, h1, h2, h3⟩ := fit_nums 8 r hr
  obtain ⟨a, r2, rfl, g1, g2⟩ := h3.cons_inv
  obtain ⟨b, r3, rfl, g3, g4⟩ := g2.cons_inv
  obtain ⟨c, r4, rfl, g5, g6⟩ := g4.cons_inv
  have := g6.nil_inv
  subst this
  obtain ⟨hp, rfl, k1, k2⟩ := g1.ints
  obtain ⟨an, rfl, k3, k4⟩ := g3.ints
  obtain ⟨fu, rfl, k5⟩ := g5.i64
  exact ⟨⟨R, hp, an, fu⟩, rfl, h1, k2, k4, k5⟩
theorem onF_inv (f : List Ins) (ans : List Int) : ∀ (n : Nat) (s : St) (t : Tr) (K : Nat), t.out.heap.length ≤ K → s.heap.length ≤ K →
    (onF f ans n s t).2.L.length = s.L.length ∧ (onF f ans n s t).2.heap.length = s.heap.length ∧ (onF f ans n s t).1.evs.length ≤ t.evs.length + n ∧ (onF f ans n s t).1.out.heap.length ≤ K
  | 0, s, t, K, h1, h2 => ⟨rfl, rfl, Nat.le_refl _, h1⟩
  | n + 1, s, t, K, h1, h2 => by
    unfold onF
    split
    · have i1 := stepF_len f s ans
      have i2 := stepF_heap f s ans
      have i3 := stepF_evs f s ans
      have i4 := stepF_out f s ans
      have h := onF_inv f ans n (stepF f s ans).1 (nextT f ans s t) K (by show (stepF f s ans).2.2.heap.length ≤ K; omega) (by omega)
      have e : (nextT f ans s t).evs.length = t.evs.length + (stepF f s ans).2.1.length := List.length_append
      obtain ⟨j1, j2, j3, j4⟩ := h
      exact ⟨by omega, by omega, by omega, j4⟩
    · exact ⟨rfl, rfl, Nat.le_add_right _ _, h1⟩
theorem runF_inv {f : List Ins} {c : Cs} (hR : c.R.length = 8) (hf : c.fuel ≤ 5000) : (runF f c).2.L.length = 24 ∧ (runF f c).2.heap.length = c.heap.length ∧ (runF f c).1.evs.length ≤ 5000 ∧ (runF f c).1.out.heap.length ≤ c.heap.length := by
  obtain ⟨h1, h2, h3, h4⟩ := onF_inv f c.ans c.fuel.toNat (beginS c) tr0 c.heap.length (Nat.zero_le _) (Nat.le_refl _)
  refine ⟨by rw [← beginS_len hR]; exact h1, h2, ?_, h4⟩
  have e : tr0.evs.length = 0 := rfl
  rw [e] at h3
  have : (runF f c).1.evs.length ≤ 0 + c.fuel.toNat := h3
  omega
theorem great8_not {f : List Ins} {c : Cs} (h : ¬ csGreat f c = true) : f.length ≤ 300 ∧ c.heap.length ≤ 100 ∧ c.ans.length ≤ 1000 ∧ (c.fuel ≤ 1000 ∨ 5000 < c.fuel) := by
  unfold csGreat at h
  simp only [Bool.or_eq_true, Bool.and_eq_true, decide_eq_true_eq, not_or, not_and] at h
  obtain ⟨h1, h2, h3, h4⟩ := h
  refine ⟨by omega, by omega, by omega, ?_⟩
  by_cases h5 : 1000 < c.fuel
  · have := h4 h5
    omega
  · omega
end Go.Proofs.YtbkbehkjndmabaaDoor

/-
  run: laws of steps one after another.
-/
namespace Go.Proofs.YtbkbehkjndmabaaDoor
open Go.RowKit
set_option linter.unusedVariables false
set_option linter.unusedSimpArgs false
theorem onF_stop {f : List Ins} {ans : List Int} {s : St} {t : Tr} (h : ¬ t.out.how = 0) : ∀ n : Nat, onF f ans n s t = (t, s)
  | 0 => rfl
  | n + 1 => by rw [onF, if_neg h]
theorem onF_add (f : List Ins) (ans : List Int) : ∀ (m n : Nat) (s : St) (t : Tr), onF f ans (m + n) s t = onF f ans n (onF f ans m s t).2 (onF f ans m s t).1
  | 0, n, s, t => by rw [Nat.zero_add]; rfl
  | m + 1, n, s, t => by
    by_cases h : t.out.how = 0
    · rw [show m + 1 + n = (m + n) + 1 by omega, onF, if_pos h, onF, if_pos h]
      exact onF_add f ans m n _ _
    · rw [onF_stop h, onF_stop h, onF_stop h]
theorem onF_count (f : List Ins) (ans : List Int) : ∀ (n : Nat) (s : St) (t : Tr), t.steps ≤ (onF f ans n s t).1.steps ∧ (onF f ans n s t).1.steps ≤ t.steps + (n : Int) ∧ ((onF f ans n s t).1.out.how = 0 → (onF f ans n s t).1.steps = t.steps + (n : Int)) ∧
    t.work ≤ (onF f ans n s t).1.work ∧ (onF f ans n s t).1.work - t.work ≤ (onF f ans n s t).1.steps - t.steps
  | 0, s, t => by
    show t.steps ≤ t.steps ∧ t.steps ≤ t.steps + ((0 : Nat) : Int) ∧ (t.out.how = 0 → t.steps = t.steps + ((0 : Nat) : Int)) ∧ t.work ≤ t.work ∧ t.work - t.work ≤ t.steps - t.steps
    refine ⟨by omega, by omega, fun _ => by omega, by omega, by omega⟩
  | n + 1, s, t => by
    by_cases h : t.out.how = 0
    · rw [onF, if_pos h]
      obtain ⟨h1, h2, h3, h4, h5⟩ := onF_count f ans n (stepF f s ans).1 (nextT f ans s t)
      have e1 : (nextT f ans s t).steps = t.steps + 1 := rfl
      have e2 : t.work ≤ (nextT f ans s t).work ∧ (nextT f ans s t).work ≤ t.work + 1 := by
        unfold nextT
        simp only
        split <;> constructor <;> omega
      rw [e1] at h1 h2 h3 h5
      refine ⟨by omega, by omega, fun g => by have := h3 g; omega, by omega, by omega⟩
    · rw [onF_stop h]
      refine ⟨Int.le_refl _, by show t.steps ≤ _; omega, fun g => absurd g h, Int.le_refl _, by show t.work - t.work ≤ t.steps - t.steps; omega⟩
theorem onF_pre (f : List Ins) (ans : List Int) : ∀ (n : Nat) (s : St) (t : Tr), ∃ l, (onF f ans n s t).1.evs = t.evs ++ l
  | 0, s, t => ⟨[], by rw [List.append_nil]; rfl⟩
  | n + 1, s, t => by
    by_cases h : t.out.how = 0
    · rw [onF, if_pos h]
      obtain ⟨l, hl⟩ := onF_pre f ans n (stepF f s ans).1 (nextT f ans s t)
      exact ⟨(stepF f s ans).2.1 ++ l, by rw [hl, ← List.append_assoc]; rfl⟩
    · rw [onF_stop h]
      exact ⟨[], by rw [List.append_nil]⟩
theorem onF_right {f : List Ins} {ans : List Int} : ∀ (n : Nat) (s : St) (t : Tr), (t.out.how = 0 → stRight f s = true) → (onF f ans n s t).1.out.how = 0 → stRight f (onF f ans n s t).2 = true
  | 0, s, t, hs, h => hs h
  | n + 1, s, t, hs, h => by
    by_cases h0 : t.out.how = 0
    · rw [onF, if_pos h0] at h ⊢
      exact onF_right n _ _ (fun g => stepF_right (hs h0) g) h
    · rw [onF_stop h0] at h
      exact absurd h h0
/-- With more fuel. -/
theorem runF_more {f : List Ins} {R hp an : List Int} {fu : Int} (h : 0 ≤ fu) (m : Nat) : runF f ⟨R, hp, an, fu + (m : Int)⟩ = onF f an m (runF f ⟨R, hp, an, fu⟩).2 (runF f ⟨R, hp, an, fu⟩).1 := by
  show onF f an (fu + (m : Int)).toNat _ _ = onF f an m (onF f an fu.toNat _ _).2 (onF f an fu.toNat _ _).1
  rw [← onF_add, show (fu + (m : Int)).toNat = fu.toNat + m by omega]
  rfl
theorem runF_none {f : List Ins} {R hp an : List Int} {fu : Int} : runF f ⟨R, hp, an, 0⟩ = (tr0, beginS ⟨R, hp, an, fu⟩) := rfl
theorem runF_count {f : List Ins} {c : Cs} (h : 0 ≤ c.fuel) : 0 ≤ (runF f c).1.steps ∧ (runF f c).1.steps ≤ c.fuel ∧ ((runF f c).1.out.how = 0 → (runF f c).1.steps = c.fuel) ∧ 0 ≤ (runF f c).1.work ∧ (runF f c).1.work ≤ (runF f c).1.steps := by
  obtain ⟨h1, h2, h3, h4, h5⟩ := onF_count f c.ans c.fuel.toNat (beginS c) tr0
  have e : onF f c.ans c.fuel.toNat (beginS c) tr0 = runF f c := rfl
  have e1 : tr0.steps = 0 := rfl
  have e2 : tr0.work = 0 := rfl
  rw [e, e1] at h1 h2 h3 h5
  rw [e, e2] at h4
  rw [e2] at h5
  refine ⟨h1, by omega, fun g => by have := h3 g; omega, h4, by omega⟩
end Go.Proofs.YtbkbehkjndmabaaDoor

