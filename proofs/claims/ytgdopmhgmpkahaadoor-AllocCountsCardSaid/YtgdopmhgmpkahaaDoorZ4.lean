/-
  Texts of this claim, put together.
-/
import Derived.Test.YtgdopmhgmpkahaaDoorProg
import Derived.KernelRfl
import Derived.Test.YtgdopmhgmpkahaaDoorZ3
/-
  The seat's functions, made plain (printed by a program of this claim; each is held against the loaded program by the kernel).
-/
namespace Go.Proofs.YtgdopmhgmpkahaaDoor
set_option maxRecDepth 100000

def joinerylaw23_AllocSpills.k1 : LCode := .text [⟨some 12, .mv (.tmp 0), none⟩,⟨some 13, .len .slice (.tmp 12), none⟩,⟨some 14, .bin .gtr .other (.tmp 13) (.cst (.int .i64 300)), none⟩]
def joinerylaw23_AllocSpills.k2 : LCode := .text [⟨some 15, .call (.cst (.fn (.func 8) [] [])) [], none⟩,⟨some 2, .mv (.tmp 15), none⟩]
def joinerylaw23_AllocSpills.k3 : LCode := .cond (.tmp 14) (.seq joinerylaw23_AllocSpills.k2 .ret) .skip
def joinerylaw23_AllocSpills.k4 : LCode := .seq joinerylaw23_AllocSpills.k1 joinerylaw23_AllocSpills.k3
def joinerylaw23_AllocSpills.k5 : LCode := .text [⟨some 17, .mv (.tmp 0), none⟩,⟨some 18, .call (.cst (.fn (.func 9) [] [])) [.tmp 17], none⟩,⟨some 16, .mv (.tmp 18), none⟩,⟨some 19, .extract (.tmp 16) 0, none⟩,⟨some 20, .extract (.tmp 16) 1, none⟩,⟨some 3, .mv (.tmp 19), none⟩,⟨some 4, .mv (.tmp 20), none⟩]
def joinerylaw23_AllocSpills.k6 : LCode := .text [⟨some 21, .mv (.tmp 4), none⟩,⟨some 22, .bin .neq .other (.tmp 21) (.cst (.int .i64 0)), none⟩]
def joinerylaw23_AllocSpills.k7 : LCode := .text [⟨some 23, .mv (.tmp 3), none⟩,⟨some 24, .len .slice (.tmp 23), none⟩,⟨some 25, .bin .eql .other (.tmp 24) (.cst (.int .i64 0)), none⟩,⟨some 26, .mv (.tmp 25), none⟩,⟨some 27, .call (.cst (.fn (.func 8) [] [])) [], some (26, true)⟩,⟨some 28, .pick (.tmp 26) (.tmp 27) (.cst (.bool false)), none⟩,⟨some 2, .mv (.tmp 28), none⟩]
def joinerylaw23_AllocSpills.k8 : LCode := .cond (.tmp 22) (.seq joinerylaw23_AllocSpills.k7 .ret) .skip
def joinerylaw23_AllocSpills.k9 : LCode := .seq joinerylaw23_AllocSpills.k6 joinerylaw23_AllocSpills.k8
def joinerylaw23_AllocSpills.k10 : LCode := .text [⟨some 30, .mv (.tmp 3), none⟩,⟨some 31, .call (.cst (.fn (.func 9) [] [])) [.tmp 30], none⟩,⟨some 29, .mv (.tmp 31), none⟩,⟨some 32, .extract (.tmp 29) 0, none⟩,⟨some 33, .extract (.tmp 29) 1, none⟩,⟨some 5, .mv (.tmp 32), none⟩,⟨some 6, .mv (.tmp 33), none⟩]
def joinerylaw23_AllocSpills.k11 : LCode := .text [⟨some 34, .mv (.tmp 7), none⟩,⟨some 35, .bin .leq .other (.tmp 34) (.cst (.int .i64 18)), none⟩]
def joinerylaw23_AllocSpills.k12 : LCode := .seq joinerylaw23_AllocSpills.k11 (.cond (.tmp 35) .skip (.exit 0))
def joinerylaw23_AllocSpills.k13 : LCode := .text [⟨some 8, .mv (.cst (.int .i64 0)), none⟩,⟨some 9, .mv (.cst (.int .i64 0)), none⟩]
def joinerylaw23_AllocSpills.k14 : LCode := .text [⟨some 38, .mv (.tmp 10), none⟩,⟨some 39, .mv (.tmp 0), none⟩,⟨some 40, .len .slice (.tmp 39), none⟩,⟨some 41, .bin .lss .other (.tmp 38) (.tmp 40), none⟩]
def joinerylaw23_AllocSpills.k15 : LCode := .seq joinerylaw23_AllocSpills.k14 (.cond (.tmp 41) .skip (.exit 2))
def joinerylaw23_AllocSpills.k16 : LCode := .text [⟨some 44, .mv (.tmp 0), none⟩,⟨some 45, .mv (.tmp 10), none⟩,⟨some 46, .iaddrS 6 (.tmp 44) (.tmp 45), none⟩,⟨some 47, .faddr 0 (.tmp 46), none⟩,⟨some 48, .load false 1 (.tmp 47), none⟩,⟨some 49, .mv (.tmp 7), none⟩,⟨some 50, .bin .eql .other (.tmp 48) (.tmp 49), none⟩]
def joinerylaw23_AllocSpills.k17 : LCode := .text [⟨some 51, .mv (.tmp 8), none⟩,⟨some 52, .bin .add .other (.tmp 51) (.cst (.int .i64 1)), none⟩,⟨some 8, .mv (.tmp 52), none⟩]
def joinerylaw23_AllocSpills.k18 : LCode := .seq joinerylaw23_AllocSpills.k16 (.cond (.tmp 50) joinerylaw23_AllocSpills.k17 .skip)
def joinerylaw23_AllocSpills.k19 : LCode := .text [⟨some 42, .mv (.tmp 10), none⟩,⟨some 43, .bin .add .other (.tmp 42) (.cst (.int .i64 1)), none⟩,⟨some 10, .mv (.tmp 43), none⟩]
def joinerylaw23_AllocSpills.k20 : LCode := .seq (.block 3 joinerylaw23_AllocSpills.k18) joinerylaw23_AllocSpills.k19
def joinerylaw23_AllocSpills.k21 : LCode := .seq joinerylaw23_AllocSpills.k15 joinerylaw23_AllocSpills.k20
def joinerylaw23_AllocSpills.k22 : LCode := .seq (.text [⟨some 10, .mv (.cst (.int .i64 0)), none⟩]) (.block 2 (.loop joinerylaw23_AllocSpills.k21))
def joinerylaw23_AllocSpills.k23 : LCode := .text [⟨some 53, .mv (.tmp 11), none⟩,⟨some 54, .mv (.tmp 3), none⟩,⟨some 55, .len .slice (.tmp 54), none⟩,⟨some 56, .bin .lss .other (.tmp 53) (.tmp 55), none⟩]
def joinerylaw23_AllocSpills.k24 : LCode := .seq joinerylaw23_AllocSpills.k23 (.cond (.tmp 56) .skip (.exit 4))
def joinerylaw23_AllocSpills.k25 : LCode := .text [⟨some 59, .mv (.tmp 3), none⟩,⟨some 60, .mv (.tmp 11), none⟩,⟨some 61, .iaddrS 6 (.tmp 59) (.tmp 60), none⟩,⟨some 62, .faddr 0 (.tmp 61), none⟩,⟨some 63, .load false 1 (.tmp 62), none⟩,⟨some 64, .mv (.tmp 7), none⟩,⟨some 65, .bin .eql .other (.tmp 63) (.tmp 64), none⟩]
def joinerylaw23_AllocSpills.k26 : LCode := .text [⟨some 66, .mv (.tmp 9), none⟩,⟨some 67, .bin .add .other (.tmp 66) (.cst (.int .i64 1)), none⟩,⟨some 9, .mv (.tmp 67), none⟩]
def joinerylaw23_AllocSpills.k27 : LCode := .seq joinerylaw23_AllocSpills.k25 (.cond (.tmp 65) joinerylaw23_AllocSpills.k26 .skip)
def joinerylaw23_AllocSpills.k28 : LCode := .text [⟨some 57, .mv (.tmp 11), none⟩,⟨some 58, .bin .add .other (.tmp 57) (.cst (.int .i64 1)), none⟩,⟨some 11, .mv (.tmp 58), none⟩]
def joinerylaw23_AllocSpills.k29 : LCode := .seq (.block 5 joinerylaw23_AllocSpills.k27) joinerylaw23_AllocSpills.k28
def joinerylaw23_AllocSpills.k30 : LCode := .seq joinerylaw23_AllocSpills.k24 joinerylaw23_AllocSpills.k29
def joinerylaw23_AllocSpills.k31 : LCode := .seq (.text [⟨some 11, .mv (.cst (.int .i64 0)), none⟩]) (.block 4 (.loop joinerylaw23_AllocSpills.k30))
def joinerylaw23_AllocSpills.k32 : LCode := .text [⟨some 68, .mv (.tmp 7), none⟩,⟨some 69, .bin .neq .other (.tmp 68) (.cst (.int .i64 2)), none⟩,⟨some 70, .mv (.tmp 69), none⟩,⟨some 71, .mv (.tmp 8), some (70, true)⟩,⟨some 72, .mv (.tmp 9), some (70, true)⟩,⟨some 73, .bin .neq .other (.tmp 71) (.tmp 72), some (70, true)⟩,⟨some 74, .pick (.tmp 70) (.tmp 73) (.cst (.bool false)), none⟩,⟨some 75, .mv (.tmp 74), none⟩,⟨some 76, .mv (.tmp 7), some (75, false)⟩,⟨some 77, .bin .eql .other (.tmp 76) (.cst (.int .i64 2)), some (75, false)⟩,⟨some 78, .mv (.tmp 77), some (75, false)⟩,⟨some 79, .mv (.tmp 9), some (78, true)⟩,⟨some 80, .mv (.tmp 8), some (78, true)⟩,⟨some 81, .bin .add .other (.tmp 80) (.cst (.int .i64 8)), some (78, true)⟩,⟨some 82, .bin .lss .other (.tmp 79) (.tmp 81), some (78, true)⟩,⟨some 83, .pick (.tmp 78) (.tmp 82) (.cst (.bool false)), some (75, false)⟩,⟨some 84, .pick (.tmp 75) (.cst (.bool true)) (.tmp 83), none⟩]
def joinerylaw23_AllocSpills.k33 : LCode := .seq (.text [⟨some 2, .mv (.cst (.bool false)), none⟩]) .ret
def joinerylaw23_AllocSpills.k34 : LCode := .seq joinerylaw23_AllocSpills.k32 (.cond (.tmp 84) joinerylaw23_AllocSpills.k33 .skip)
def joinerylaw23_AllocSpills.k35 : LCode := .seq joinerylaw23_AllocSpills.k31 joinerylaw23_AllocSpills.k34
def joinerylaw23_AllocSpills.k36 : LCode := .seq joinerylaw23_AllocSpills.k22 joinerylaw23_AllocSpills.k35
def joinerylaw23_AllocSpills.k37 : LCode := .seq joinerylaw23_AllocSpills.k13 joinerylaw23_AllocSpills.k36
def joinerylaw23_AllocSpills.k38 : LCode := .text [⟨some 36, .mv (.tmp 7), none⟩,⟨some 37, .bin .add .other (.tmp 36) (.cst (.int .i64 1)), none⟩,⟨some 7, .mv (.tmp 37), none⟩]
def joinerylaw23_AllocSpills.k39 : LCode := .seq (.block 1 joinerylaw23_AllocSpills.k37) joinerylaw23_AllocSpills.k38
def joinerylaw23_AllocSpills.k40 : LCode := .seq joinerylaw23_AllocSpills.k12 joinerylaw23_AllocSpills.k39
def joinerylaw23_AllocSpills.k41 : LCode := .seq (.text [⟨some 7, .mv (.cst (.int .i64 1)), none⟩]) (.block 0 (.loop joinerylaw23_AllocSpills.k40))
def joinerylaw23_AllocSpills.k42 : LCode := .text [⟨some 85, .mv (.tmp 6), none⟩,⟨some 86, .bin .eql .other (.tmp 85) (.cst (.int .i64 6)), none⟩,⟨some 87, .mv (.tmp 86), none⟩,⟨some 88, .mv (.tmp 3), some (87, true)⟩,⟨some 89, .call (.cst (.fn (.func 10) [] [])) [.tmp 88], some (87, true)⟩,⟨some 90, .pick (.tmp 87) (.tmp 89) (.cst (.bool false)), none⟩,⟨some 91, .mv (.tmp 90), none⟩,⟨some 92, .call (.cst (.fn (.func 8) [] [])) [], some (91, true)⟩,⟨some 93, .pick (.tmp 91) (.tmp 92) (.cst (.bool false)), none⟩,⟨some 2, .mv (.tmp 93), none⟩]
def joinerylaw23_AllocSpills.k43 : LCode := .seq joinerylaw23_AllocSpills.k41 (.seq joinerylaw23_AllocSpills.k42 .ret)
def joinerylaw23_AllocSpills.k44 : LCode := .seq joinerylaw23_AllocSpills.k10 joinerylaw23_AllocSpills.k43
def joinerylaw23_AllocSpills.k45 : LCode := .seq joinerylaw23_AllocSpills.k9 joinerylaw23_AllocSpills.k44
def joinerylaw23_AllocSpills.k46 : LCode := .seq joinerylaw23_AllocSpills.k5 joinerylaw23_AllocSpills.k45
def joinerylaw23_AllocSpills.k47 : LCode := .seq joinerylaw23_AllocSpills.k4 joinerylaw23_AllocSpills.k46
def joinerylaw23_AllocSpills.lc : LCode :=
 .seq (.text [⟨some 2, .mv (.cst (.bool false)), none⟩]) joinerylaw23_AllocSpills.k47
theorem joinerylaw23_AllocSpills.low : lowFn Tryd.prog 3 = some (94, joinerylaw23_AllocSpills.lc, [.tmp 2]) := by kernel_rfl

def asm_Parse.k1 : LCode := .text [⟨some 1, .box (.tmp 0), none⟩,⟨some 2, .mv (.cst (.imm (.slice none 0 0))), none⟩,⟨some 3, .mv (.cst (.int .i64 0)), none⟩,⟨some 4, .mv (.cst (.int .i64 0)), none⟩]
def asm_Parse.k2 : LCode := .text [⟨some 13, .load false 1 (.tmp 1), none⟩,⟨some 14, .len .str (.tmp 13), none⟩,⟨some 15, .bin .gtr .other (.tmp 14) (.cst (.int .i64 20000)), none⟩]
def asm_Parse.k3 : LCode := .text [⟨some 2, .mv (.cst (.imm (.slice none 0 0))), none⟩,⟨some 3, .mv (.cst (.int .i64 0)), none⟩,⟨some 4, .mv (.cst (.int .i64 3)), none⟩]
def asm_Parse.k4 : LCode := .seq asm_Parse.k2 (.cond (.tmp 15) (.seq asm_Parse.k3 .ret) .skip)
def asm_Parse.k5 : LCode := .text [⟨some 7, .alloc [.int .i64 0], none⟩,⟨none, .store 1 (.tmp 7) (.cst (.int .i64 0)), none⟩]
def asm_Parse.k6 : LCode := .text [⟨some 16, .mkFn (.func 53) [] [.tmp 1, .tmp 7, .tmp 5, .tmp 6], none⟩,⟨some 8, .mv (.tmp 16), none⟩]
def asm_Parse.k7 : LCode := .text [⟨some 17, .load false 1 (.tmp 1), none⟩,⟨some 18, .range (.tmp 17), none⟩]
def asm_Parse.k8 : LCode := .text [⟨some 19, .next (.tmp 18), none⟩,⟨some 20, .extract (.tmp 19) 0, none⟩]
def asm_Parse.k9 : LCode := .text [⟨some 21, .extract (.tmp 19) 1, none⟩,⟨some 22, .extract (.tmp 19) 2, none⟩,⟨some 9, .mv (.tmp 21), none⟩,⟨some 10, .mv (.tmp 22), none⟩]
def asm_Parse.k10 : LCode := .text [⟨some 23, .mv (.tmp 10), none⟩,⟨some 24, .bin .neq .other (.tmp 23) (.cst (.int .i32 10)), none⟩]
def asm_Parse.k11 : LCode := .text [⟨some 25, .mv (.tmp 8), none⟩,⟨some 26, .mv (.tmp 9), none⟩,⟨some 27, .call (.tmp 25) [.tmp 26], none⟩,⟨some 28, .not (.tmp 27), none⟩]
def asm_Parse.k12 : LCode := .any true [⟨some 29, .load false 1 (.tmp 7), none⟩,⟨some 2, .mv (.cst (.imm (.slice none 0 0))), none⟩,⟨some 3, .mv (.tmp 29), none⟩,⟨some 4, .mv (.cst (.int .i64 2)), none⟩] (.both .no .no)
def asm_Parse.k13 : LCode := .seq asm_Parse.k11 (.cond (.tmp 28) (.seq asm_Parse.k12 .ret) .skip)
def asm_Parse.k14 : LCode := .text [⟨some 30, .mv (.tmp 9), none⟩,⟨some 31, .bin .add .other (.tmp 30) (.cst (.int .i64 1)), none⟩,⟨none, .store 1 (.tmp 7) (.tmp 31), none⟩]
def asm_Parse.k15 : LCode := .seq (.seq asm_Parse.k10 (.cond (.tmp 24) (.exit 1) .skip)) (.seq asm_Parse.k13 asm_Parse.k14)
def asm_Parse.k16 : LCode := .seq (.cond (.tmp 20) .skip (.exit 0)) (.block 1 (.seq asm_Parse.k9 asm_Parse.k15))
def asm_Parse.k17 : LCode := .seq asm_Parse.k7 (.block 0 (.loop (.seq asm_Parse.k8 asm_Parse.k16)))
def asm_Parse.k18 : LCode := .text [⟨some 32, .load false 1 (.tmp 7), none⟩,⟨some 33, .load false 1 (.tmp 1), none⟩,⟨some 34, .len .str (.tmp 33), none⟩,⟨some 35, .bin .lss .other (.tmp 32) (.tmp 34), none⟩]
def asm_Parse.k19 : LCode := .any true [⟨some 36, .load false 1 (.tmp 7), none⟩,⟨some 2, .mv (.cst (.imm (.slice none 0 0))), none⟩,⟨some 3, .mv (.tmp 36), none⟩,⟨some 4, .mv (.cst (.int .i64 2)), none⟩] (.both .no .no)
def asm_Parse.k20 : LCode := .seq asm_Parse.k18 (.cond (.tmp 35) (.seq asm_Parse.k19 .ret) .skip)
def asm_Parse.k21 : LCode := .text [⟨some 38, .load false 1 (.tmp 5), none⟩,⟨some 39, .call (.cst (.fn (.func 28) [] [])) [.tmp 38], none⟩,⟨some 37, .mv (.tmp 39), none⟩,⟨some 40, .extract (.tmp 37) 0, none⟩,⟨some 41, .extract (.tmp 37) 1, none⟩,⟨some 11, .mv (.tmp 40), none⟩,⟨some 12, .mv (.tmp 41), none⟩]
def asm_Parse.k22 : LCode := .text [⟨some 42, .mv (.tmp 12), none⟩,⟨some 43, .bin .eql .other (.tmp 42) (.cst (.int .i64 0)), none⟩]
def asm_Parse.k23 : LCode := .text [⟨some 44, .load false 1 (.tmp 5), none⟩,⟨some 2, .mv (.tmp 44), none⟩,⟨some 3, .mv (.cst (.int .i64 0)), none⟩,⟨some 4, .mv (.cst (.int .i64 0)), none⟩]
def asm_Parse.k24 : LCode := .seq asm_Parse.k22 (.cond (.tmp 43) (.seq asm_Parse.k23 .ret) .skip)
def asm_Parse.k25 : LCode := .text [⟨some 45, .mv (.tmp 11), none⟩,⟨some 46, .load false 1 (.tmp 6), none⟩,⟨some 47, .len .slice (.tmp 46), none⟩,⟨some 48, .bin .lss .other (.tmp 45) (.tmp 47), none⟩]
def asm_Parse.k26 : LCode := .text [⟨some 49, .load false 1 (.tmp 6), none⟩,⟨some 50, .mv (.tmp 11), none⟩,⟨some 51, .iaddrS 1 (.tmp 49) (.tmp 50), none⟩,⟨some 52, .load false 1 (.tmp 51), none⟩,⟨some 11, .mv (.tmp 52), none⟩]
def asm_Parse.k27 : LCode := .text [⟨some 53, .mv (.tmp 11), none⟩,⟨some 54, .mv (.tmp 12), none⟩,⟨some 2, .mv (.cst (.imm (.slice none 0 0))), none⟩,⟨some 3, .mv (.tmp 53), none⟩,⟨some 4, .mv (.tmp 54), none⟩]
def asm_Parse.k28 : LCode := .seq (.seq asm_Parse.k25 (.cond (.tmp 48) asm_Parse.k26 .skip)) (.seq asm_Parse.k27 .ret)
def asm_Parse.k29 : LCode := .seq asm_Parse.k20 (.seq asm_Parse.k21 (.seq asm_Parse.k24 asm_Parse.k28))
def asm_Parse.k30 : LCode := .seq asm_Parse.k5 (.seq asm_Parse.k6 (.seq asm_Parse.k17 asm_Parse.k29))
def asm_Parse.k31 : LCode := .seq (.text [⟨some 6, .alloc [.imm (.slice none 0 0)], none⟩]) asm_Parse.k30
def asm_Parse.k32 : LCode := .seq (.text [⟨some 5, .alloc [.imm (.slice none 0 0)], none⟩]) asm_Parse.k31
def asm_Parse.lc : LCode :=
 .seq asm_Parse.k1 (.seq asm_Parse.k4 asm_Parse.k32)
theorem asm_Parse.low : lowFn Tryd.prog 19 = some (55, asm_Parse.lc, [.tmp 2, .tmp 3, .tmp 4]) := by kernel_rfl

def joineryref23_put.k1 : LCode := .text [⟨some 6, .mv (.cst (.imm (.slice none 0 0))), none⟩,⟨some 7, .mv (.cst (.int .i64 0)), none⟩]
def joineryref23_put.k2 : LCode := .text [⟨some 11, .mv (.tmp 0), none⟩,⟨some 12, .len .slice (.tmp 11), none⟩,⟨some 13, .mv (.tmp 2), none⟩,⟨some 14, .len .slice (.tmp 13), none⟩,⟨some 15, .bin .add .other (.tmp 12) (.tmp 14), none⟩,⟨some 16, .bin .gtr .other (.tmp 15) (.cst (.int .i64 200)), none⟩]
def joineryref23_put.k3 : LCode := .text [⟨some 6, .mv (.cst (.imm (.slice none 0 0))), none⟩,⟨some 7, .mv (.cst (.int .i64 3)), none⟩]
def joineryref23_put.k4 : LCode := .seq joineryref23_put.k2 (.cond (.tmp 16) (.seq joineryref23_put.k3 .ret) .skip)
def joineryref23_put.k5 : LCode := .text [⟨some 17, .mv (.tmp 9), none⟩,⟨some 18, .mv (.tmp 0), none⟩,⟨some 19, .len .slice (.tmp 18), none⟩,⟨some 20, .bin .lss .other (.tmp 17) (.tmp 19), none⟩]
def joineryref23_put.k6 : LCode := .text [⟨some 23, .mv (.tmp 9), none⟩,⟨some 24, .mv (.tmp 1), none⟩,⟨some 25, .bin .eql .other (.tmp 23) (.tmp 24), none⟩]
def joineryref23_put.k7 : LCode := .text [⟨some 26, .mv (.tmp 8), none⟩,⟨some 27, .mv (.tmp 2), none⟩,⟨some 28, .append 6 48 (.tmp 26) (.tmp 27), none⟩,⟨some 8, .mv (.tmp 28), none⟩]
def joineryref23_put.k8 : LCode := .seq joineryref23_put.k6 (.cond (.tmp 25) joineryref23_put.k7 .skip)
def joineryref23_put.k9 : LCode := .text [⟨some 29, .mv (.tmp 0), none⟩,⟨some 30, .mv (.tmp 9), none⟩,⟨some 31, .iaddrS 6 (.tmp 29) (.tmp 30), none⟩,⟨some 32, .load true 6 (.tmp 31), none⟩,⟨some 10, .alloc [.int .i64 0, .int .i64 0, .int .i64 0, .int .i64 0, .int .i64 0, .int .i64 0], none⟩,⟨none, .store 6 (.tmp 10) (.tmp 32), none⟩]
def joineryref23_put.k10 : LCode := .text [⟨some 33, .faddr 0 (.tmp 10), none⟩,⟨some 34, .load false 1 (.tmp 33), none⟩,⟨some 35, .bin .eql .other (.tmp 34) (.cst (.int .i64 16)), none⟩,⟨some 36, .mv (.tmp 35), none⟩,⟨some 37, .faddr 0 (.tmp 10), some (36, false)⟩,⟨some 38, .load false 1 (.tmp 37), some (36, false)⟩,⟨some 39, .bin .eql .other (.tmp 38) (.cst (.int .i64 17)), some (36, false)⟩,⟨some 40, .pick (.tmp 36) (.cst (.bool true)) (.tmp 39), none⟩,⟨some 41, .mv (.tmp 40), none⟩,⟨some 42, .faddr 5 (.tmp 10), some (41, true)⟩,⟨some 43, .load false 1 (.tmp 42), some (41, true)⟩,⟨some 44, .mv (.tmp 1), some (41, true)⟩,⟨some 45, .bin .gtr .other (.tmp 43) (.tmp 44), some (41, true)⟩,⟨some 46, .pick (.tmp 41) (.tmp 45) (.cst (.bool false)), none⟩]
def joineryref23_put.k11 : LCode := .text [⟨some 47, .faddr 5 (.tmp 10), none⟩,⟨some 48, .load false 1 (.tmp 47), none⟩,⟨some 49, .mv (.tmp 2), none⟩,⟨some 50, .len .slice (.tmp 49), none⟩,⟨some 51, .bin .add .other (.tmp 48) (.tmp 50), none⟩,⟨some 52, .faddr 5 (.tmp 10), none⟩,⟨none, .store 1 (.tmp 52) (.tmp 51), none⟩]
def joineryref23_put.k12 : LCode := .seq joineryref23_put.k10 (.cond (.tmp 46) joineryref23_put.k11 .skip)
def joineryref23_put.k13 : LCode := .text [⟨some 53, .mv (.tmp 8), none⟩,⟨some 54, .load true 6 (.tmp 10), none⟩,⟨some 55, .bslice 6 [.int .i64 0, .int .i64 0, .int .i64 0, .int .i64 0, .int .i64 0, .int .i64 0] 1 [(0, .tmp 54)], none⟩,⟨some 56, .append 6 48 (.tmp 53) (.tmp 55), none⟩,⟨some 8, .mv (.tmp 56), none⟩]
def joineryref23_put.k14 : LCode := .seq joineryref23_put.k9 (.seq joineryref23_put.k12 joineryref23_put.k13)
def joineryref23_put.k15 : LCode := .text [⟨some 21, .mv (.tmp 9), none⟩,⟨some 22, .bin .add .other (.tmp 21) (.cst (.int .i64 1)), none⟩,⟨some 9, .mv (.tmp 22), none⟩]
def joineryref23_put.k16 : LCode := .seq (.block 1 (.seq joineryref23_put.k8 joineryref23_put.k14)) joineryref23_put.k15
def joineryref23_put.k17 : LCode := .seq (.seq joineryref23_put.k5 (.cond (.tmp 20) .skip (.exit 0))) joineryref23_put.k16
def joineryref23_put.k18 : LCode := .seq (.text [⟨some 9, .mv (.cst (.int .i64 0)), none⟩]) (.block 0 (.loop joineryref23_put.k17))
def joineryref23_put.k19 : LCode := .text [⟨some 57, .mv (.tmp 8), none⟩,⟨some 6, .mv (.tmp 57), none⟩,⟨some 7, .mv (.cst (.int .i64 0)), none⟩]
def joineryref23_put.k20 : LCode := .seq (.text [⟨some 8, .mv (.cst (.imm (.slice none 0 0))), none⟩]) (.seq joineryref23_put.k18 (.seq joineryref23_put.k19 .ret))
def joineryref23_put.lc : LCode :=
 .seq joineryref23_put.k1 (.seq joineryref23_put.k4 joineryref23_put.k20)
theorem joineryref23_put.low : lowFn Tryd.prog 35 = some (58, joineryref23_put.lc, [.tmp 6, .tmp 7]) := by kernel_rfl

def loc_Parse.k1 : LCode := .text [⟨some 2, .mv (.cst (.int .i64 0)), none⟩,⟨some 3, .mv (.cst (.int .i64 0)), none⟩]
def loc_Parse.k2 : LCode := .text [⟨some 4, .mv (.cst (.int .i64 0)), none⟩,⟨some 5, .mv (.cst (.int .i64 0)), none⟩,⟨some 6, .mv (.cst (.int .i64 0)), none⟩]
def loc_Parse.k3 : LCode := .text [⟨some 9, .mv (.tmp 0), none⟩,⟨some 10, .range (.tmp 9), none⟩]
def loc_Parse.k4 : LCode := .text [⟨some 11, .next (.tmp 10), none⟩,⟨some 12, .extract (.tmp 11) 0, none⟩]
def loc_Parse.k5 : LCode := .text [⟨some 13, .extract (.tmp 11) 1, none⟩,⟨some 14, .extract (.tmp 11) 2, none⟩,⟨some 7, .mv (.tmp 13), none⟩,⟨some 8, .mv (.tmp 14), none⟩]
def loc_Parse.k6 : LCode := .text [⟨some 22, .mv (.tmp 7), none⟩,⟨some 23, .bin .eql .other (.tmp 22) (.cst (.int .i64 0)), none⟩,⟨some 24, .mv (.tmp 23), none⟩,⟨some 25, .mv (.tmp 8), some (24, true)⟩,⟨some 26, .bin .eql .other (.tmp 25) (.cst (.int .i32 114)), some (24, true)⟩,⟨some 27, .pick (.tmp 24) (.tmp 26) (.cst (.bool false)), none⟩,⟨some 21, .mv (.tmp 27), none⟩]
def loc_Parse.k7 : LCode := .text [⟨some 29, .mv (.tmp 7), none⟩,⟨some 30, .bin .eql .other (.tmp 29) (.cst (.int .i64 0)), none⟩,⟨some 31, .mv (.tmp 30), none⟩,⟨some 32, .mv (.tmp 8), some (31, true)⟩,⟨some 33, .bin .eql .other (.tmp 32) (.cst (.int .i32 115)), some (31, true)⟩,⟨some 34, .pick (.tmp 31) (.tmp 33) (.cst (.bool false)), none⟩,⟨some 28, .mv (.tmp 34), none⟩]
def loc_Parse.k8 : LCode := .text [⟨some 4, .mv (.cst (.int .i64 8)), none⟩,⟨some 6, .mv (.cst (.int .i64 16)), none⟩]
def loc_Parse.k9 : LCode := .text [⟨some 36, .mv (.tmp 7), none⟩,⟨some 37, .bin .eql .other (.tmp 36) (.cst (.int .i64 0)), none⟩,⟨some 38, .mv (.tmp 37), none⟩,⟨some 39, .mv (.tmp 7), some (38, false)⟩,⟨some 40, .bin .gtr .other (.tmp 39) (.cst (.int .i64 2)), some (38, false)⟩,⟨some 41, .pick (.tmp 38) (.cst (.bool true)) (.tmp 40), none⟩,⟨some 42, .mv (.tmp 41), none⟩,⟨some 43, .mv (.tmp 8), some (42, false)⟩,⟨some 44, .bin .lss .other (.tmp 43) (.cst (.int .i32 48)), some (42, false)⟩,⟨some 45, .pick (.tmp 42) (.cst (.bool true)) (.tmp 44), none⟩,⟨some 46, .mv (.tmp 45), none⟩,⟨some 47, .mv (.tmp 8), some (46, false)⟩,⟨some 48, .bin .gtr .other (.tmp 47) (.cst (.int .i32 57)), some (46, false)⟩,⟨some 49, .pick (.tmp 46) (.cst (.bool true)) (.tmp 48), none⟩,⟨some 50, .mv (.tmp 49), none⟩,⟨some 51, .mv (.tmp 7), some (50, false)⟩,⟨some 52, .bin .eql .other (.tmp 51) (.cst (.int .i64 2)), some (50, false)⟩,⟨some 53, .mv (.tmp 52), some (50, false)⟩,⟨some 54, .mv (.tmp 5), some (53, true)⟩,⟨some 55, .bin .eql .other (.tmp 54) (.cst (.int .i64 0)), some (53, true)⟩,⟨some 56, .pick (.tmp 53) (.tmp 55) (.cst (.bool false)), some (50, false)⟩,⟨some 57, .pick (.tmp 50) (.cst (.bool true)) (.tmp 56), none⟩,⟨some 35, .mv (.tmp 57), none⟩]
def loc_Parse.k10 : LCode := .text [⟨some 2, .mv (.cst (.int .i64 0)), none⟩,⟨some 3, .mv (.cst (.int .i64 2)), none⟩]
def loc_Parse.k11 : LCode := .text [⟨some 15, .mv (.tmp 5), none⟩,⟨some 16, .bin .mul .other (.tmp 15) (.cst (.int .i64 10)), none⟩,⟨some 17, .mv (.tmp 8), none⟩,⟨some 18, .bin .sub .other (.tmp 17) (.cst (.int .i32 48)), none⟩,⟨some 19, .toInt .i64 (.tmp 18), none⟩,⟨some 20, .bin .add .other (.tmp 16) (.tmp 19), none⟩,⟨some 5, .mv (.tmp 20), none⟩]
def loc_Parse.k12 : LCode := .seq loc_Parse.k9 (.cond (.tmp 35) (.seq loc_Parse.k10 .ret) loc_Parse.k11)
def loc_Parse.k13 : LCode := .seq loc_Parse.k7 (.cond (.tmp 28) loc_Parse.k8 loc_Parse.k12)
def loc_Parse.k14 : LCode := .cond (.tmp 21) (.text [⟨some 6, .mv (.cst (.int .i64 8)), none⟩]) loc_Parse.k13
def loc_Parse.k15 : LCode := .seq loc_Parse.k5 (.block 2 (.seq loc_Parse.k6 loc_Parse.k14))
def loc_Parse.k16 : LCode := .seq (.cond (.tmp 12) .skip (.exit 0)) (.block 1 loc_Parse.k15)
def loc_Parse.k17 : LCode := .seq loc_Parse.k3 (.block 0 (.loop (.seq loc_Parse.k4 loc_Parse.k16)))
def loc_Parse.k18 : LCode := .text [⟨some 58, .mv (.tmp 0), none⟩,⟨some 59, .len .str (.tmp 58), none⟩,⟨some 60, .bin .lss .other (.tmp 59) (.cst (.int .i64 2)), none⟩,⟨some 61, .mv (.tmp 60), none⟩,⟨some 62, .mv (.tmp 5), some (61, false)⟩,⟨some 63, .mv (.tmp 6), some (61, false)⟩,⟨some 64, .bin .geq .other (.tmp 62) (.tmp 63), some (61, false)⟩,⟨some 65, .pick (.tmp 61) (.cst (.bool true)) (.tmp 64), none⟩]
def loc_Parse.k19 : LCode := .text [⟨some 2, .mv (.cst (.int .i64 0)), none⟩,⟨some 3, .mv (.cst (.int .i64 2)), none⟩]
def loc_Parse.k20 : LCode := .seq loc_Parse.k18 (.cond (.tmp 65) (.seq loc_Parse.k19 .ret) .skip)
def loc_Parse.k21 : LCode := .text [⟨some 66, .mv (.tmp 4), none⟩,⟨some 67, .mv (.tmp 5), none⟩,⟨some 68, .bin .add .other (.tmp 66) (.tmp 67), none⟩,⟨some 2, .mv (.tmp 68), none⟩,⟨some 3, .mv (.cst (.int .i64 0)), none⟩]
def loc_Parse.k22 : LCode := .seq loc_Parse.k17 (.seq loc_Parse.k20 (.seq loc_Parse.k21 .ret))
def loc_Parse.lc : LCode :=
 .seq loc_Parse.k1 (.seq loc_Parse.k2 loc_Parse.k22)
theorem loc_Parse.low : lowFn Tryd.prog 83 = some (69, loc_Parse.lc, [.tmp 2, .tmp 3]) := by kernel_rfl

def joinerylaw23_AllocPuts.k1 : LCode := .text [⟨some 11, .mv (.tmp 0), none⟩,⟨some 12, .len .slice (.tmp 11), none⟩,⟨some 13, .bin .gtr .other (.tmp 12) (.cst (.int .i64 300)), none⟩,⟨some 14, .mv (.tmp 13), none⟩,⟨some 15, .mv (.tmp 2), some (14, false)⟩,⟨some 16, .len .slice (.tmp 15), some (14, false)⟩,⟨some 17, .bin .gtr .other (.tmp 16) (.cst (.int .i64 300)), some (14, false)⟩,⟨some 18, .pick (.tmp 14) (.cst (.bool true)) (.tmp 17), none⟩]
def joinerylaw23_AllocPuts.k2 : LCode := .text [⟨some 19, .call (.cst (.fn (.func 8) [] [])) [], none⟩,⟨some 6, .mv (.tmp 19), none⟩]
def joinerylaw23_AllocPuts.k3 : LCode := .seq joinerylaw23_AllocPuts.k1 (.cond (.tmp 18) (.seq joinerylaw23_AllocPuts.k2 .ret) .skip)
def joinerylaw23_AllocPuts.k4 : LCode := .text [⟨some 21, .mv (.tmp 0), none⟩,⟨some 22, .mv (.tmp 1), none⟩,⟨some 23, .mv (.tmp 2), none⟩,⟨some 24, .call (.cst (.fn (.func 11) [] [])) [.tmp 21, .tmp 22, .tmp 23], none⟩,⟨some 20, .mv (.tmp 24), none⟩,⟨some 25, .extract (.tmp 20) 0, none⟩,⟨some 26, .extract (.tmp 20) 1, none⟩,⟨some 7, .mv (.tmp 25), none⟩,⟨some 8, .mv (.tmp 26), none⟩]
def joinerylaw23_AllocPuts.k5 : LCode := .text [⟨some 28, .mv (.tmp 0), none⟩,⟨some 29, .mv (.tmp 1), none⟩,⟨some 30, .mv (.tmp 2), none⟩,⟨some 31, .call (.cst (.fn (.func 12) [] [])) [.tmp 28, .tmp 29, .tmp 30], none⟩,⟨some 27, .mv (.tmp 31), none⟩,⟨some 32, .extract (.tmp 27) 0, none⟩,⟨some 33, .extract (.tmp 27) 1, none⟩,⟨some 9, .mv (.tmp 32), none⟩,⟨some 10, .mv (.tmp 33), none⟩]
def joinerylaw23_AllocPuts.k6 : LCode := .text [⟨some 34, .mv (.tmp 7), none⟩,⟨some 35, .mv (.tmp 9), none⟩,⟨some 36, .call (.cst (.fn (.func 13) [] [])) [.tmp 34, .tmp 35], none⟩,⟨some 37, .mv (.tmp 36), none⟩,⟨some 38, .mv (.tmp 8), some (37, true)⟩,⟨some 39, .mv (.tmp 10), some (37, true)⟩,⟨some 40, .bin .eql .other (.tmp 38) (.tmp 39), some (37, true)⟩,⟨some 41, .pick (.tmp 37) (.tmp 40) (.cst (.bool false)), none⟩,⟨some 42, .mv (.tmp 41), none⟩,⟨some 43, .mv (.tmp 8), some (42, true)⟩,⟨some 44, .bin .neq .other (.tmp 43) (.cst (.int .i64 0)), some (42, true)⟩,⟨some 45, .mv (.tmp 44), some (42, true)⟩,⟨some 46, .mv (.tmp 7), some (45, false)⟩,⟨some 47, .call (.cst (.fn (.func 10) [] [])) [.tmp 46], some (45, false)⟩,⟨some 48, .pick (.tmp 45) (.cst (.bool true)) (.tmp 47), some (42, true)⟩,⟨some 49, .pick (.tmp 42) (.tmp 48) (.cst (.bool false)), none⟩,⟨some 50, .mv (.tmp 49), none⟩,⟨some 51, .call (.cst (.fn (.func 8) [] [])) [], some (50, true)⟩,⟨some 52, .pick (.tmp 50) (.tmp 51) (.cst (.bool false)), none⟩,⟨some 6, .mv (.tmp 52), none⟩]
def joinerylaw23_AllocPuts.k7 : LCode := .seq joinerylaw23_AllocPuts.k5 (.seq joinerylaw23_AllocPuts.k6 .ret)
def joinerylaw23_AllocPuts.k8 : LCode := .seq joinerylaw23_AllocPuts.k3 (.seq joinerylaw23_AllocPuts.k4 joinerylaw23_AllocPuts.k7)
def joinerylaw23_AllocPuts.lc : LCode :=
 .seq (.text [⟨some 6, .mv (.cst (.bool false)), none⟩]) joinerylaw23_AllocPuts.k8
theorem joinerylaw23_AllocPuts.low : lowFn Tryd.prog 4 = some (53, joinerylaw23_AllocPuts.lc, [.tmp 6]) := by kernel_rfl

def asm_Print.k1 : LCode := .text [⟨some 2, .mv (.cst (.str ⟨#[]⟩)), none⟩,⟨some 3, .mv (.cst (.int .i64 0)), none⟩]
def asm_Print.k2 : LCode := .text [⟨some 9, .mv (.tmp 0), none⟩,⟨some 10, .call (.cst (.fn (.func 10) [] [])) [.tmp 9], none⟩,⟨some 11, .not (.tmp 10), none⟩]
def asm_Print.k3 : LCode := .text [⟨some 2, .mv (.cst (.str ⟨#[]⟩)), none⟩,⟨some 3, .mv (.cst (.int .i64 1)), none⟩]
def asm_Print.k4 : LCode := .seq asm_Print.k2 (.cond (.tmp 11) (.seq asm_Print.k3 .ret) .skip)
def asm_Print.k5 : LCode := .text [⟨some 12, .mv (.tmp 0), none⟩,⟨some 13, .len .slice (.tmp 12), none⟩,⟨some 14, .mv (.cst (.int .i64 0)), none⟩]
def asm_Print.k6 : LCode := .text [⟨some 15, .bin .lss .other (.tmp 14) (.tmp 13), none⟩]
def asm_Print.k7 : LCode := .text [⟨some 16, .iaddrS 6 (.tmp 12) (.tmp 14), none⟩,⟨some 17, .load true 6 (.tmp 16), none⟩,⟨some 6, .alloc [.int .i64 0, .int .i64 0, .int .i64 0, .int .i64 0, .int .i64 0, .int .i64 0], none⟩,⟨none, .store 6 (.tmp 6) (.tmp 17), none⟩]
def asm_Print.k8 : LCode := .text [⟨some 19, .load true 6 (.tmp 6), none⟩,⟨some 20, .call (.cst (.fn (.func 55) [] [])) [.tmp 19], none⟩,⟨some 18, .mv (.tmp 20), none⟩,⟨some 21, .extract (.tmp 18) 0, none⟩,⟨some 22, .extract (.tmp 18) 1, none⟩,⟨some 7, .mv (.tmp 21), none⟩,⟨some 8, .mv (.tmp 22), none⟩]
def asm_Print.k9 : LCode := .text [⟨some 23, .mv (.tmp 4), none⟩,⟨some 24, .mv (.tmp 7), none⟩,⟨some 25, .appendS (.tmp 23) (.tmp 24), none⟩,⟨some 26, .bslice 1 [.int .u8 0] 1 [(0, .cst (.int .u8 10))], none⟩,⟨some 27, .append 1 1 (.tmp 25) (.tmp 26), none⟩,⟨some 4, .mv (.tmp 27), none⟩]
def asm_Print.k10 : LCode := .block 1 (.seq asm_Print.k7 (.seq asm_Print.k8 asm_Print.k9))
def asm_Print.k11 : LCode := .text [⟨some 28, .bin .add .other (.tmp 14) (.cst (.int .i64 1)), none⟩,⟨some 14, .mv (.tmp 28), none⟩]
def asm_Print.k12 : LCode := .seq (.cond (.tmp 15) .skip (.exit 0)) (.seq asm_Print.k10 asm_Print.k11)
def asm_Print.k13 : LCode := .seq asm_Print.k5 (.block 0 (.loop (.seq asm_Print.k6 asm_Print.k12)))
def asm_Print.k14 : LCode := .text [⟨some 29, .mv (.tmp 4), none⟩,⟨some 30, .toStr (.tmp 29), none⟩,⟨some 2, .mv (.tmp 30), none⟩,⟨some 3, .mv (.cst (.int .i64 0)), none⟩]
def asm_Print.k15 : LCode := .seq (.text [⟨some 4, .mv (.cst (.imm (.slice none 0 0))), none⟩]) (.seq asm_Print.k13 (.seq asm_Print.k14 .ret))
def asm_Print.lc : LCode :=
 .seq asm_Print.k1 (.seq asm_Print.k4 asm_Print.k15)
theorem asm_Print.low : lowFn Tryd.prog 20 = some (31, asm_Print.lc, [.tmp 2, .tmp 3]) := by kernel_rfl

def loc_Right.k1 : LCode := .text [⟨some 3, .mv (.tmp 0), none⟩,⟨some 4, .bin .geq .other (.tmp 3) (.cst (.int .i64 0)), none⟩,⟨some 5, .mv (.tmp 4), none⟩,⟨some 6, .mv (.tmp 0), some (5, true)⟩,⟨some 7, .bin .lss .other (.tmp 6) (.cst (.int .i64 24)), some (5, true)⟩,⟨some 8, .pick (.tmp 5) (.tmp 7) (.cst (.bool false)), none⟩,⟨some 2, .mv (.tmp 8), none⟩]
def loc_Right.lc : LCode :=
 .seq (.text [⟨some 2, .mv (.cst (.bool false)), none⟩]) (.seq loc_Right.k1 .ret)
theorem loc_Right.low : lowFn Tryd.prog 36 = some (9, loc_Right.lc, [.tmp 2]) := by kernel_rfl

def joinerylaw23_AllocCounts.k1 : LCode := .text [⟨some 13, .mv (.tmp 0), none⟩,⟨some 14, .len .slice (.tmp 13), none⟩,⟨some 15, .bin .gtr .other (.tmp 14) (.cst (.int .i64 300)), none⟩,⟨some 16, .mv (.tmp 15), none⟩,⟨some 17, .mv (.tmp 2), some (16, false)⟩,⟨some 18, .len .slice (.tmp 17), some (16, false)⟩,⟨some 19, .bin .gtr .other (.tmp 18) (.cst (.int .i64 300)), some (16, false)⟩,⟨some 20, .pick (.tmp 16) (.cst (.bool true)) (.tmp 19), none⟩]
def joinerylaw23_AllocCounts.k2 : LCode := .text [⟨some 21, .call (.cst (.fn (.func 8) [] [])) [], none⟩,⟨some 6, .mv (.tmp 21), none⟩]
def joinerylaw23_AllocCounts.k3 : LCode := .cond (.tmp 20) (.seq joinerylaw23_AllocCounts.k2 .ret) .skip
def joinerylaw23_AllocCounts.k4 : LCode := .seq joinerylaw23_AllocCounts.k1 joinerylaw23_AllocCounts.k3
def joinerylaw23_AllocCounts.k5 : LCode := .text [⟨some 23, .mv (.tmp 0), none⟩,⟨some 24, .mv (.tmp 1), none⟩,⟨some 25, .mv (.tmp 2), none⟩,⟨some 26, .call (.cst (.fn (.func 11) [] [])) [.tmp 23, .tmp 24, .tmp 25], none⟩,⟨some 22, .mv (.tmp 26), none⟩,⟨some 27, .extract (.tmp 22) 0, none⟩,⟨some 28, .extract (.tmp 22) 1, none⟩,⟨some 7, .mv (.tmp 27), none⟩,⟨some 8, .mv (.tmp 28), none⟩]
def joinerylaw23_AllocCounts.k6 : LCode := .text [⟨some 29, .mv (.tmp 8), none⟩,⟨some 30, .bin .neq .other (.tmp 29) (.cst (.int .i64 0)), none⟩]
def joinerylaw23_AllocCounts.k7 : LCode := .text [⟨some 31, .mv (.tmp 7), none⟩,⟨some 32, .len .slice (.tmp 31), none⟩,⟨some 33, .bin .eql .other (.tmp 32) (.cst (.int .i64 0)), none⟩,⟨some 34, .mv (.tmp 33), none⟩,⟨some 35, .call (.cst (.fn (.func 8) [] [])) [], some (34, true)⟩,⟨some 36, .pick (.tmp 34) (.tmp 35) (.cst (.bool false)), none⟩,⟨some 6, .mv (.tmp 36), none⟩]
def joinerylaw23_AllocCounts.k8 : LCode := .cond (.tmp 30) (.seq joinerylaw23_AllocCounts.k7 .ret) .skip
def joinerylaw23_AllocCounts.k9 : LCode := .seq joinerylaw23_AllocCounts.k6 joinerylaw23_AllocCounts.k8
def joinerylaw23_AllocCounts.k10 : LCode := .text [⟨some 37, .mv (.tmp 7), none⟩,⟨some 38, .len .slice (.tmp 37), none⟩,⟨some 39, .mv (.tmp 0), none⟩,⟨some 40, .len .slice (.tmp 39), none⟩,⟨some 41, .mv (.tmp 2), none⟩,⟨some 42, .len .slice (.tmp 41), none⟩,⟨some 43, .bin .add .other (.tmp 40) (.tmp 42), none⟩,⟨some 44, .bin .neq .other (.tmp 38) (.tmp 43), none⟩]
def joinerylaw23_AllocCounts.k11 : LCode := .seq (.text [⟨some 6, .mv (.cst (.bool false)), none⟩]) .ret
def joinerylaw23_AllocCounts.k12 : LCode := .seq joinerylaw23_AllocCounts.k10 (.cond (.tmp 44) joinerylaw23_AllocCounts.k11 .skip)
def joinerylaw23_AllocCounts.k13 : LCode := .text [⟨some 45, .mv (.tmp 9), none⟩,⟨some 46, .mv (.tmp 0), none⟩,⟨some 47, .len .slice (.tmp 46), none⟩,⟨some 48, .bin .lss .other (.tmp 45) (.tmp 47), none⟩]
def joinerylaw23_AllocCounts.k14 : LCode := .seq joinerylaw23_AllocCounts.k13 (.cond (.tmp 48) .skip (.exit 0))
def joinerylaw23_AllocCounts.k15 : LCode := .text [⟨some 51, .mv (.tmp 0), none⟩,⟨some 52, .mv (.tmp 9), none⟩,⟨some 53, .iaddrS 6 (.tmp 51) (.tmp 52), none⟩,⟨some 54, .load true 6 (.tmp 53), none⟩,⟨some 10, .alloc [.int .i64 0, .int .i64 0, .int .i64 0, .int .i64 0, .int .i64 0, .int .i64 0], none⟩,⟨none, .store 6 (.tmp 10) (.tmp 54), none⟩]
def joinerylaw23_AllocCounts.k16 : LCode := .text [⟨some 55, .mv (.tmp 7), none⟩,⟨some 56, .mv (.tmp 9), none⟩,⟨some 57, .iaddrS 6 (.tmp 55) (.tmp 56), none⟩,⟨some 58, .load true 6 (.tmp 57), none⟩,⟨some 11, .alloc [.int .i64 0, .int .i64 0, .int .i64 0, .int .i64 0, .int .i64 0, .int .i64 0], none⟩,⟨none, .store 6 (.tmp 11) (.tmp 58), none⟩]
def joinerylaw23_AllocCounts.k17 : LCode := .text [⟨some 59, .mv (.tmp 9), none⟩,⟨some 60, .mv (.tmp 1), none⟩,⟨some 61, .bin .geq .other (.tmp 59) (.tmp 60), none⟩]
def joinerylaw23_AllocCounts.k18 : LCode := .text [⟨some 62, .mv (.tmp 7), none⟩,⟨some 63, .mv (.tmp 9), none⟩,⟨some 64, .mv (.tmp 2), none⟩,⟨some 65, .len .slice (.tmp 64), none⟩,⟨some 66, .bin .add .other (.tmp 63) (.tmp 65), none⟩,⟨some 67, .iaddrS 6 (.tmp 62) (.tmp 66), none⟩,⟨some 68, .load true 6 (.tmp 67), none⟩,⟨none, .store 6 (.tmp 11) (.tmp 68), none⟩]
def joinerylaw23_AllocCounts.k19 : LCode := .seq joinerylaw23_AllocCounts.k17 (.cond (.tmp 61) joinerylaw23_AllocCounts.k18 .skip)
def joinerylaw23_AllocCounts.k20 : LCode := .text [⟨some 69, .faddr 5 (.tmp 11), none⟩,⟨some 70, .load false 1 (.tmp 69), none⟩,⟨some 71, .faddr 5 (.tmp 10), none⟩,⟨none, .store 1 (.tmp 71) (.tmp 70), none⟩]
def joinerylaw23_AllocCounts.k21 : LCode := .text [⟨some 72, .load true 6 (.tmp 10), none⟩,⟨some 73, .load true 6 (.tmp 11), none⟩,⟨some 74, .bin .neq (.cells [.i, .i, .i, .i, .i, .i]) (.tmp 72) (.tmp 73), none⟩]
def joinerylaw23_AllocCounts.k22 : LCode := .seq (.text [⟨some 6, .mv (.cst (.bool false)), none⟩]) .ret
def joinerylaw23_AllocCounts.k23 : LCode := .seq joinerylaw23_AllocCounts.k21 (.cond (.tmp 74) joinerylaw23_AllocCounts.k22 .skip)
def joinerylaw23_AllocCounts.k24 : LCode := .seq joinerylaw23_AllocCounts.k20 joinerylaw23_AllocCounts.k23
def joinerylaw23_AllocCounts.k25 : LCode := .seq joinerylaw23_AllocCounts.k19 joinerylaw23_AllocCounts.k24
def joinerylaw23_AllocCounts.k26 : LCode := .seq joinerylaw23_AllocCounts.k16 joinerylaw23_AllocCounts.k25
def joinerylaw23_AllocCounts.k27 : LCode := .seq joinerylaw23_AllocCounts.k15 joinerylaw23_AllocCounts.k26
def joinerylaw23_AllocCounts.k28 : LCode := .text [⟨some 49, .mv (.tmp 9), none⟩,⟨some 50, .bin .add .other (.tmp 49) (.cst (.int .i64 1)), none⟩,⟨some 9, .mv (.tmp 50), none⟩]
def joinerylaw23_AllocCounts.k29 : LCode := .seq (.block 1 joinerylaw23_AllocCounts.k27) joinerylaw23_AllocCounts.k28
def joinerylaw23_AllocCounts.k30 : LCode := .seq joinerylaw23_AllocCounts.k14 joinerylaw23_AllocCounts.k29
def joinerylaw23_AllocCounts.k31 : LCode := .seq (.text [⟨some 9, .mv (.cst (.int .i64 0)), none⟩]) (.block 0 (.loop joinerylaw23_AllocCounts.k30))
def joinerylaw23_AllocCounts.k32 : LCode := .text [⟨some 75, .mv (.tmp 12), none⟩,⟨some 76, .mv (.tmp 2), none⟩,⟨some 77, .len .slice (.tmp 76), none⟩,⟨some 78, .bin .lss .other (.tmp 75) (.tmp 77), none⟩]
def joinerylaw23_AllocCounts.k33 : LCode := .seq joinerylaw23_AllocCounts.k32 (.cond (.tmp 78) .skip (.exit 2))
def joinerylaw23_AllocCounts.k34 : LCode := .any true [⟨some 81, .mv (.tmp 7), none⟩,⟨some 82, .mv (.tmp 1), none⟩,⟨some 83, .mv (.tmp 12), none⟩,⟨some 84, .bin .add .other (.tmp 82) (.tmp 83), none⟩,⟨some 85, .iaddrS 6 (.tmp 81) (.tmp 84), none⟩,⟨some 86, .load true 6 (.tmp 85), none⟩,⟨some 87, .mv (.tmp 2), none⟩,⟨some 88, .mv (.tmp 12), none⟩,⟨some 89, .iaddrS 6 (.tmp 87) (.tmp 88), none⟩,⟨some 90, .load true 6 (.tmp 89), none⟩,⟨some 91, .bin .neq (.cells [.i, .i, .i, .i, .i, .i]) (.tmp 86) (.tmp 90), none⟩] (.both .no .no)
def joinerylaw23_AllocCounts.k35 : LCode := .seq (.text [⟨some 6, .mv (.cst (.bool false)), none⟩]) .ret
def joinerylaw23_AllocCounts.k36 : LCode := .seq joinerylaw23_AllocCounts.k34 (.cond (.tmp 91) joinerylaw23_AllocCounts.k35 .skip)
def joinerylaw23_AllocCounts.k37 : LCode := .text [⟨some 79, .mv (.tmp 12), none⟩,⟨some 80, .bin .add .other (.tmp 79) (.cst (.int .i64 1)), none⟩,⟨some 12, .mv (.tmp 80), none⟩]
def joinerylaw23_AllocCounts.k38 : LCode := .seq (.block 3 joinerylaw23_AllocCounts.k36) joinerylaw23_AllocCounts.k37
def joinerylaw23_AllocCounts.k39 : LCode := .seq joinerylaw23_AllocCounts.k33 joinerylaw23_AllocCounts.k38
def joinerylaw23_AllocCounts.k40 : LCode := .seq (.text [⟨some 12, .mv (.cst (.int .i64 0)), none⟩]) (.block 2 (.loop joinerylaw23_AllocCounts.k39))
def joinerylaw23_AllocCounts.k41 : LCode := .text [⟨some 92, .call (.cst (.fn (.func 8) [] [])) [], none⟩,⟨some 6, .mv (.tmp 92), none⟩]
def joinerylaw23_AllocCounts.k42 : LCode := .seq joinerylaw23_AllocCounts.k40 (.seq joinerylaw23_AllocCounts.k41 .ret)
def joinerylaw23_AllocCounts.k43 : LCode := .seq joinerylaw23_AllocCounts.k31 joinerylaw23_AllocCounts.k42
def joinerylaw23_AllocCounts.k44 : LCode := .seq joinerylaw23_AllocCounts.k12 joinerylaw23_AllocCounts.k43
def joinerylaw23_AllocCounts.k45 : LCode := .seq joinerylaw23_AllocCounts.k9 joinerylaw23_AllocCounts.k44
def joinerylaw23_AllocCounts.k46 : LCode := .seq joinerylaw23_AllocCounts.k5 joinerylaw23_AllocCounts.k45
def joinerylaw23_AllocCounts.k47 : LCode := .seq joinerylaw23_AllocCounts.k4 joinerylaw23_AllocCounts.k46
def joinerylaw23_AllocCounts.lc : LCode :=
 .seq (.text [⟨some 6, .mv (.cst (.bool false)), none⟩]) joinerylaw23_AllocCounts.k47
theorem joinerylaw23_AllocCounts.low : lowFn Tryd.prog 5 = some (93, joinerylaw23_AllocCounts.lc, [.tmp 6]) := by kernel_rfl

def alloc_Split.k1 : LCode := .text [⟨some 4, .mv (.cst (.imm (.slice none 0 0))), none⟩,⟨some 5, .mv (.cst (.int .i64 0)), none⟩]
def alloc_Split.k2 : LCode := .text [⟨some 6, .mv (.tmp 0), none⟩,⟨some 7, .mv (.tmp 1), none⟩,⟨some 8, .call (.cst (.fn (.func 29) [] [])) [.tmp 6, .tmp 7], none⟩,⟨some 9, .not (.tmp 8), none⟩]
def alloc_Split.k3 : LCode := .text [⟨some 4, .mv (.cst (.imm (.slice none 0 0))), none⟩,⟨some 5, .mv (.cst (.int .i64 1)), none⟩]
def alloc_Split.k4 : LCode := .seq alloc_Split.k2 (.cond (.tmp 9) (.seq alloc_Split.k3 .ret) .skip)
def alloc_Split.k5 : LCode := .text [⟨some 10, .mv (.tmp 0), none⟩,⟨some 11, .mv (.tmp 1), none⟩,⟨some 12, .mv (.tmp 1), none⟩,⟨some 13, .bin .add .other (.tmp 12) (.cst (.int .i64 1)), none⟩,⟨some 14, .build [.int .i64 0, .int .i64 0, .int .i64 0, .int .i64 0, .int .i64 0, .int .i64 0] [(0, 1, .cst (.int .i64 16)), (5, 1, .tmp 13)], none⟩,⟨some 15, .bslice 6 [.int .i64 0, .int .i64 0, .int .i64 0, .int .i64 0, .int .i64 0, .int .i64 0] 1 [(0, .tmp 14)], none⟩,⟨some 16, .call (.cst (.fn (.func 32) [] [])) [.tmp 10, .tmp 11, .tmp 15], none⟩,⟨some 17, .extract (.tmp 16) 0, none⟩,⟨some 18, .extract (.tmp 16) 1, none⟩,⟨some 4, .mv (.tmp 17), none⟩,⟨some 5, .mv (.tmp 18), none⟩]
def alloc_Split.lc : LCode :=
 .seq alloc_Split.k1 (.seq alloc_Split.k4 (.seq alloc_Split.k5 .ret))
theorem alloc_Split.low : lowFn Tryd.prog 21 = some (19, alloc_Split.lc, [.tmp 4, .tmp 5]) := by kernel_rfl

def alloc_Rename_1.k1 : LCode := .text [⟨some 7, .load false 1 (.tmp 1), none⟩,⟨some 8, .bin .eql .other (.tmp 5) (.tmp 7), none⟩,⟨some 6, .mv (.tmp 8), none⟩]
def alloc_Rename_1.k2 : LCode := .text [⟨some 9, .load false 1 (.tmp 2), none⟩,⟨some 4, .mv (.tmp 9), none⟩]
def alloc_Rename_1.k3 : LCode := .text [⟨some 11, .load false 1 (.tmp 2), none⟩,⟨some 12, .bin .eql .other (.tmp 5) (.tmp 11), none⟩,⟨some 10, .mv (.tmp 12), none⟩]
def alloc_Rename_1.k4 : LCode := .text [⟨some 13, .load false 1 (.tmp 1), none⟩,⟨some 4, .mv (.tmp 13), none⟩]
def alloc_Rename_1.k5 : LCode := .seq alloc_Rename_1.k3 (.cond (.tmp 10) (.seq alloc_Rename_1.k4 .ret) .skip)
def alloc_Rename_1.k6 : LCode := .cond (.tmp 6) (.seq alloc_Rename_1.k2 .ret) alloc_Rename_1.k5
def alloc_Rename_1.k7 : LCode := .seq (.text [⟨some 5, .mv (.tmp 0), none⟩]) (.block 0 (.seq alloc_Rename_1.k1 alloc_Rename_1.k6))
def alloc_Rename_1.k8 : LCode := .text [⟨some 14, .mv (.tmp 0), none⟩,⟨some 4, .mv (.tmp 14), none⟩]
def alloc_Rename_1.lc : LCode :=
 .seq (.text [⟨some 4, .mv (.cst (.int .i64 0)), none⟩]) (.seq alloc_Rename_1.k7 (.seq alloc_Rename_1.k8 .ret))
theorem alloc_Rename_1.low : lowFn Tryd.prog 37 = some (15, alloc_Rename_1.lc, [.tmp 4]) := by kernel_rfl

def asm_Parse_1.k1 : LCode := .text [⟨some 10, .load false 1 (.tmp 1), none⟩,⟨some 11, .load false 1 (.tmp 2), none⟩,⟨some 12, .mv (.tmp 0), none⟩,⟨some 13, .sliceS (.tmp 10) (some (.tmp 11)) (some (.tmp 12)), none⟩,⟨some 14, .call (.cst (.fn (.func 54) [] [])) [.tmp 13], none⟩,⟨some 9, .mv (.tmp 14), none⟩,⟨some 15, .extract (.tmp 9) 0, none⟩,⟨some 16, .extract (.tmp 9) 1, none⟩,⟨some 7, .alloc [.int .i64 0, .int .i64 0, .int .i64 0, .int .i64 0, .int .i64 0, .int .i64 0], none⟩,⟨none, .store 6 (.tmp 7) (.tmp 15), none⟩,⟨some 8, .mv (.tmp 16), none⟩]
def asm_Parse_1.k2 : LCode := .any false [⟨some 17, .load false 1 (.tmp 3), none⟩,⟨some 18, .load true 6 (.tmp 7), none⟩,⟨some 19, .bslice 6 [.int .i64 0, .int .i64 0, .int .i64 0, .int .i64 0, .int .i64 0, .int .i64 0] 1 [(0, .tmp 18)], none⟩,⟨some 20, .append 6 48 (.tmp 17) (.tmp 19), none⟩,⟨some 21, .load false 1 (.tmp 4), none⟩,⟨some 22, .load false 1 (.tmp 2), none⟩,⟨some 23, .bslice 1 [.int .i64 0] 1 [(0, .tmp 22)], none⟩,⟨some 24, .append 1 8 (.tmp 21) (.tmp 23), none⟩,⟨none, .store 1 (.tmp 3) (.tmp 20), none⟩,⟨none, .store 1 (.tmp 4) (.tmp 24), none⟩] (.both (.all [(0, .all [(1, .all [(2, .all [(3, .all [(4, .all [(5, .all [(6, .all [(7, .all [(8, .all [(9, .done)])])])])]), (5, .all [(4, .all [(6, .all [(7, .all [(8, .all [(9, .done)])])])]), (6, .all [(4, .all [(7, .all [(8, .all [(9, .done)])])])])])]), (4, .all [(3, .all [(5, .all [(6, .all [(7, .all [(8, .all [(9, .done)])])])])]), (5, .all [(3, .all [(6, .all [(7, .all [(8, .all [(9, .done)])])])]), (6, .all [(3, .all [(7, .all [(8, .all [(9, .done)])])])])])]), (5, .all [(3, .all [(4, .all [(6, .all [(7, .all [(8, .all [(9, .done)])])])]), (6, .all [(4, .all [(7, .all [(8, .all [(9, .done)])])])])]), (4, .all [(3, .all [(6, .all [(7, .all [(8, .all [(9, .done)])])])]), (6, .all [(3, .all [(7, .all [(8, .all [(9, .done)])])])])]), (6, .all [(3, .all [(4, .all [(7, .all [(8, .all [(9, .done)])])])]), (4, .all [(3, .all [(7, .all [(8, .all [(9, .done)])])])])])])]), (4, .all [(2, .all [(3, .all [(5, .all [(6, .all [(7, .all [(8, .all [(9, .done)])])])])]), (5, .all [(3, .all [(6, .all [(7, .all [(8, .all [(9, .done)])])])]), (6, .all [(3, .all [(7, .all [(8, .all [(9, .done)])])])])])]), (5, .all [(2, .all [(3, .all [(6, .all [(7, .all [(8, .all [(9, .done)])])])]), (6, .all [(3, .all [(7, .all [(8, .all [(9, .done)])])])])]), (6, .all [(2, .all [(3, .all [(7, .all [(8, .all [(9, .done)])])])])])])]), (5, .all [(2, .all [(3, .all [(4, .all [(6, .all [(7, .all [(8, .all [(9, .done)])])])]), (6, .all [(4, .all [(7, .all [(8, .all [(9, .done)])])])])]), (4, .all [(3, .all [(6, .all [(7, .all [(8, .all [(9, .done)])])])]), (6, .all [(3, .all [(7, .all [(8, .all [(9, .done)])])])])]), (6, .all [(3, .all [(4, .all [(7, .all [(8, .all [(9, .done)])])])]), (4, .all [(3, .all [(7, .all [(8, .all [(9, .done)])])])])])]), (4, .all [(2, .all [(3, .all [(6, .all [(7, .all [(8, .all [(9, .done)])])])]), (6, .all [(3, .all [(7, .all [(8, .all [(9, .done)])])])])]), (6, .all [(2, .all [(3, .all [(7, .all [(8, .all [(9, .done)])])])])])]), (6, .all [(2, .all [(3, .all [(4, .all [(7, .all [(8, .all [(9, .done)])])])]), (4, .all [(3, .all [(7, .all [(8, .all [(9, .done)])])])])]), (4, .all [(2, .all [(3, .all [(7, .all [(8, .all [(9, .done)])])])])])])])]), (4, .all [(1, .all [(2, .all [(3, .all [(5, .all [(6, .all [(7, .all [(8, .all [(9, .done)])])])])]), (5, .all [(3, .all [(6, .all [(7, .all [(8, .all [(9, .done)])])])]), (6, .all [(3, .all [(7, .all [(8, .all [(9, .done)])])])])])]), (5, .all [(2, .all [(3, .all [(6, .all [(7, .all [(8, .all [(9, .done)])])])]), (6, .all [(3, .all [(7, .all [(8, .all [(9, .done)])])])])]), (6, .all [(2, .all [(3, .all [(7, .all [(8, .all [(9, .done)])])])])])])]), (5, .all [(1, .all [(2, .all [(3, .all [(6, .all [(7, .all [(8, .all [(9, .done)])])])]), (6, .all [(3, .all [(7, .all [(8, .all [(9, .done)])])])])]), (6, .all [(2, .all [(3, .all [(7, .all [(8, .all [(9, .done)])])])])])]), (6, .all [(1, .all [(2, .all [(3, .all [(7, .all [(8, .all [(9, .done)])])])])])])])]), (5, .all [(1, .all [(2, .all [(3, .all [(4, .all [(6, .all [(7, .all [(8, .all [(9, .done)])])])]), (6, .all [(4, .all [(7, .all [(8, .all [(9, .done)])])])])]), (4, .all [(3, .all [(6, .all [(7, .all [(8, .all [(9, .done)])])])]), (6, .all [(3, .all [(7, .all [(8, .all [(9, .done)])])])])]), (6, .all [(3, .all [(4, .all [(7, .all [(8, .all [(9, .done)])])])]), (4, .all [(3, .all [(7, .all [(8, .all [(9, .done)])])])])])]), (4, .all [(2, .all [(3, .all [(6, .all [(7, .all [(8, .all [(9, .done)])])])]), (6, .all [(3, .all [(7, .all [(8, .all [(9, .done)])])])])]), (6, .all [(2, .all [(3, .all [(7, .all [(8, .all [(9, .done)])])])])])]), (6, .all [(2, .all [(3, .all [(4, .all [(7, .all [(8, .all [(9, .done)])])])]), (4, .all [(3, .all [(7, .all [(8, .all [(9, .done)])])])])]), (4, .all [(2, .all [(3, .all [(7, .all [(8, .all [(9, .done)])])])])])])]), (4, .all [(1, .all [(2, .all [(3, .all [(6, .all [(7, .all [(8, .all [(9, .done)])])])]), (6, .all [(3, .all [(7, .all [(8, .all [(9, .done)])])])])]), (6, .all [(2, .all [(3, .all [(7, .all [(8, .all [(9, .done)])])])])])]), (6, .all [(1, .all [(2, .all [(3, .all [(7, .all [(8, .all [(9, .done)])])])])])])]), (6, .all [(1, .all [(2, .all [(3, .all [(4, .all [(7, .all [(8, .all [(9, .done)])])])]), (4, .all [(3, .all [(7, .all [(8, .all [(9, .done)])])])])]), (4, .all [(2, .all [(3, .all [(7, .all [(8, .all [(9, .done)])])])])])]), (4, .all [(1, .all [(2, .all [(3, .all [(7, .all [(8, .all [(9, .done)])])])])])])])])]), (1, .all [(0, .all [(2, .all [(3, .all [(4, .all [(5, .all [(6, .all [(7, .all [(8, .all [(9, .done)])])])])]), (5, .all [(4, .all [(6, .all [(7, .all [(8, .all [(9, .done)])])])]), (6, .all [(4, .all [(7, .all [(8, .all [(9, .done)])])])])])]), (4, .all [(3, .all [(5, .all [(6, .all [(7, .all [(8, .all [(9, .done)])])])])]), (5, .all [(3, .all [(6, .all [(7, .all [(8, .all [(9, .done)])])])]), (6, .all [(3, .all [(7, .all [(8, .all [(9, .done)])])])])])]), (5, .all [(3, .all [(4, .all [(6, .all [(7, .all [(8, .all [(9, .done)])])])]), (6, .all [(4, .all [(7, .all [(8, .all [(9, .done)])])])])]), (4, .all [(3, .all [(6, .all [(7, .all [(8, .all [(9, .done)])])])]), (6, .all [(3, .all [(7, .all [(8, .all [(9, .done)])])])])]), (6, .all [(3, .all [(4, .all [(7, .all [(8, .all [(9, .done)])])])]), (4, .all [(3, .all [(7, .all [(8, .all [(9, .done)])])])])])])]), (4, .all [(2, .all [(3, .all [(5, .all [(6, .all [(7, .all [(8, .all [(9, .done)])])])])]), (5, .all [(3, .all [(6, .all [(7, .all [(8, .all [(9, .done)])])])]), (6, .all [(3, .all [(7, .all [(8, .all [(9, .done)])])])])])]), (5, .all [(2, .all [(3, .all [(6, .all [(7, .all [(8, .all [(9, .done)])])])]), (6, .all [(3, .all [(7, .all [(8, .all [(9, .done)])])])])]), (6, .all [(2, .all [(3, .all [(7, .all [(8, .all [(9, .done)])])])])])])]), (5, .all [(2, .all [(3, .all [(4, .all [(6, .all [(7, .all [(8, .all [(9, .done)])])])]), (6, .all [(4, .all [(7, .all [(8, .all [(9, .done)])])])])]), (4, .all [(3, .all [(6, .all [(7, .all [(8, .all [(9, .done)])])])]), (6, .all [(3, .all [(7, .all [(8, .all [(9, .done)])])])])]), (6, .all [(3, .all [(4, .all [(7, .all [(8, .all [(9, .done)])])])]), (4, .all [(3, .all [(7, .all [(8, .all [(9, .done)])])])])])]), (4, .all [(2, .all [(3, .all [(6, .all [(7, .all [(8, .all [(9, .done)])])])]), (6, .all [(3, .all [(7, .all [(8, .all [(9, .done)])])])])]), (6, .all [(2, .all [(3, .all [(7, .all [(8, .all [(9, .done)])])])])])]), (6, .all [(2, .all [(3, .all [(4, .all [(7, .all [(8, .all [(9, .done)])])])]), (4, .all [(3, .all [(7, .all [(8, .all [(9, .done)])])])])]), (4, .all [(2, .all [(3, .all [(7, .all [(8, .all [(9, .done)])])])])])])])]), (2, .all [(0, .all [(3, .all [(4, .all [(5, .all [(6, .all [(7, .all [(8, .all [(9, .done)])])])])]), (5, .all [(4, .all [(6, .all [(7, .all [(8, .all [(9, .done)])])])]), (6, .all [(4, .all [(7, .all [(8, .all [(9, .done)])])])])])]), (4, .all [(3, .all [(5, .all [(6, .all [(7, .all [(8, .all [(9, .done)])])])])]), (5, .all [(3, .all [(6, .all [(7, .all [(8, .all [(9, .done)])])])]), (6, .all [(3, .all [(7, .all [(8, .all [(9, .done)])])])])])]), (5, .all [(3, .all [(4, .all [(6, .all [(7, .all [(8, .all [(9, .done)])])])]), (6, .all [(4, .all [(7, .all [(8, .all [(9, .done)])])])])]), (4, .all [(3, .all [(6, .all [(7, .all [(8, .all [(9, .done)])])])]), (6, .all [(3, .all [(7, .all [(8, .all [(9, .done)])])])])]), (6, .all [(3, .all [(4, .all [(7, .all [(8, .all [(9, .done)])])])]), (4, .all [(3, .all [(7, .all [(8, .all [(9, .done)])])])])])])]), (4, .all [(0, .all [(3, .all [(5, .all [(6, .all [(7, .all [(8, .all [(9, .done)])])])])]), (5, .all [(3, .all [(6, .all [(7, .all [(8, .all [(9, .done)])])])]), (6, .all [(3, .all [(7, .all [(8, .all [(9, .done)])])])])])]), (5, .all [(0, .all [(3, .all [(6, .all [(7, .all [(8, .all [(9, .done)])])])]), (6, .all [(3, .all [(7, .all [(8, .all [(9, .done)])])])])]), (6, .all [(0, .all [(3, .all [(7, .all [(8, .all [(9, .done)])])])])])])]), (5, .all [(0, .all [(3, .all [(4, .all [(6, .all [(7, .all [(8, .all [(9, .done)])])])]), (6, .all [(4, .all [(7, .all [(8, .all [(9, .done)])])])])]), (4, .all [(3, .all [(6, .all [(7, .all [(8, .all [(9, .done)])])])]), (6, .all [(3, .all [(7, .all [(8, .all [(9, .done)])])])])]), (6, .all [(3, .all [(4, .all [(7, .all [(8, .all [(9, .done)])])])]), (4, .all [(3, .all [(7, .all [(8, .all [(9, .done)])])])])])]), (4, .all [(0, .all [(3, .all [(6, .all [(7, .all [(8, .all [(9, .done)])])])]), (6, .all [(3, .all [(7, .all [(8, .all [(9, .done)])])])])]), (6, .all [(0, .all [(3, .all [(7, .all [(8, .all [(9, .done)])])])])])]), (6, .all [(0, .all [(3, .all [(4, .all [(7, .all [(8, .all [(9, .done)])])])]), (4, .all [(3, .all [(7, .all [(8, .all [(9, .done)])])])])]), (4, .all [(0, .all [(3, .all [(7, .all [(8, .all [(9, .done)])])])])])])])]), (4, .all [(0, .all [(2, .all [(3, .all [(5, .all [(6, .all [(7, .all [(8, .all [(9, .done)])])])])]), (5, .all [(3, .all [(6, .all [(7, .all [(8, .all [(9, .done)])])])]), (6, .all [(3, .all [(7, .all [(8, .all [(9, .done)])])])])])]), (5, .all [(2, .all [(3, .all [(6, .all [(7, .all [(8, .all [(9, .done)])])])]), (6, .all [(3, .all [(7, .all [(8, .all [(9, .done)])])])])]), (6, .all [(2, .all [(3, .all [(7, .all [(8, .all [(9, .done)])])])])])])]), (2, .all [(0, .all [(3, .all [(5, .all [(6, .all [(7, .all [(8, .all [(9, .done)])])])])]), (5, .all [(3, .all [(6, .all [(7, .all [(8, .all [(9, .done)])])])]), (6, .all [(3, .all [(7, .all [(8, .all [(9, .done)])])])])])]), (5, .all [(0, .all [(3, .all [(6, .all [(7, .all [(8, .all [(9, .done)])])])]), (6, .all [(3, .all [(7, .all [(8, .all [(9, .done)])])])])]), (6, .all [(0, .all [(3, .all [(7, .all [(8, .all [(9, .done)])])])])])])]), (5, .all [(0, .all [(2, .all [(3, .all [(6, .all [(7, .all [(8, .all [(9, .done)])])])]), (6, .all [(3, .all [(7, .all [(8, .all [(9, .done)])])])])]), (6, .all [(2, .all [(3, .all [(7, .all [(8, .all [(9, .done)])])])])])]), (2, .all [(0, .all [(3, .all [(6, .all [(7, .all [(8, .all [(9, .done)])])])]), (6, .all [(3, .all [(7, .all [(8, .all [(9, .done)])])])])]), (6, .all [(0, .all [(3, .all [(7, .all [(8, .all [(9, .done)])])])])])]), (6, .all [(0, .all [(2, .all [(3, .all [(7, .all [(8, .all [(9, .done)])])])])]), (2, .all [(0, .all [(3, .all [(7, .all [(8, .all [(9, .done)])])])])])])])]), (5, .all [(0, .all [(2, .all [(3, .all [(4, .all [(6, .all [(7, .all [(8, .all [(9, .done)])])])]), (6, .all [(4, .all [(7, .all [(8, .all [(9, .done)])])])])]), (4, .all [(3, .all [(6, .all [(7, .all [(8, .all [(9, .done)])])])]), (6, .all [(3, .all [(7, .all [(8, .all [(9, .done)])])])])]), (6, .all [(3, .all [(4, .all [(7, .all [(8, .all [(9, .done)])])])]), (4, .all [(3, .all [(7, .all [(8, .all [(9, .done)])])])])])]), (4, .all [(2, .all [(3, .all [(6, .all [(7, .all [(8, .all [(9, .done)])])])]), (6, .all [(3, .all [(7, .all [(8, .all [(9, .done)])])])])]), (6, .all [(2, .all [(3, .all [(7, .all [(8, .all [(9, .done)])])])])])]), (6, .all [(2, .all [(3, .all [(4, .all [(7, .all [(8, .all [(9, .done)])])])]), (4, .all [(3, .all [(7, .all [(8, .all [(9, .done)])])])])]), (4, .all [(2, .all [(3, .all [(7, .all [(8, .all [(9, .done)])])])])])])]), (2, .all [(0, .all [(3, .all [(4, .all [(6, .all [(7, .all [(8, .all [(9, .done)])])])]), (6, .all [(4, .all [(7, .all [(8, .all [(9, .done)])])])])]), (4, .all [(3, .all [(6, .all [(7, .all [(8, .all [(9, .done)])])])]), (6, .all [(3, .all [(7, .all [(8, .all [(9, .done)])])])])]), (6, .all [(3, .all [(4, .all [(7, .all [(8, .all [(9, .done)])])])]), (4, .all [(3, .all [(7, .all [(8, .all [(9, .done)])])])])])]), (4, .all [(0, .all [(3, .all [(6, .all [(7, .all [(8, .all [(9, .done)])])])]), (6, .all [(3, .all [(7, .all [(8, .all [(9, .done)])])])])]), (6, .all [(0, .all [(3, .all [(7, .all [(8, .all [(9, .done)])])])])])]), (6, .all [(0, .all [(3, .all [(4, .all [(7, .all [(8, .all [(9, .done)])])])]), (4, .all [(3, .all [(7, .all [(8, .all [(9, .done)])])])])]), (4, .all [(0, .all [(3, .all [(7, .all [(8, .all [(9, .done)])])])])])])]), (4, .all [(0, .all [(2, .all [(3, .all [(6, .all [(7, .all [(8, .all [(9, .done)])])])]), (6, .all [(3, .all [(7, .all [(8, .all [(9, .done)])])])])]), (6, .all [(2, .all [(3, .all [(7, .all [(8, .all [(9, .done)])])])])])]), (2, .all [(0, .all [(3, .all [(6, .all [(7, .all [(8, .all [(9, .done)])])])]), (6, .all [(3, .all [(7, .all [(8, .all [(9, .done)])])])])]), (6, .all [(0, .all [(3, .all [(7, .all [(8, .all [(9, .done)])])])])])]), (6, .all [(0, .all [(2, .all [(3, .all [(7, .all [(8, .all [(9, .done)])])])])]), (2, .all [(0, .all [(3, .all [(7, .all [(8, .all [(9, .done)])])])])])])]), (6, .all [(0, .all [(2, .all [(3, .all [(4, .all [(7, .all [(8, .all [(9, .done)])])])]), (4, .all [(3, .all [(7, .all [(8, .all [(9, .done)])])])])]), (4, .all [(2, .all [(3, .all [(7, .all [(8, .all [(9, .done)])])])])])]), (2, .all [(0, .all [(3, .all [(4, .all [(7, .all [(8, .all [(9, .done)])])])]), (4, .all [(3, .all [(7, .all [(8, .all [(9, .done)])])])])]), (4, .all [(0, .all [(3, .all [(7, .all [(8, .all [(9, .done)])])])])])]), (4, .all [(0, .all [(2, .all [(3, .all [(7, .all [(8, .all [(9, .done)])])])])]), (2, .all [(0, .all [(3, .all [(7, .all [(8, .all [(9, .done)])])])])])])])])]), (4, .all [(0, .all [(1, .all [(2, .all [(3, .all [(5, .all [(6, .all [(7, .all [(8, .all [(9, .done)])])])])]), (5, .all [(3, .all [(6, .all [(7, .all [(8, .all [(9, .done)])])])]), (6, .all [(3, .all [(7, .all [(8, .all [(9, .done)])])])])])]), (5, .all [(2, .all [(3, .all [(6, .all [(7, .all [(8, .all [(9, .done)])])])]), (6, .all [(3, .all [(7, .all [(8, .all [(9, .done)])])])])]), (6, .all [(2, .all [(3, .all [(7, .all [(8, .all [(9, .done)])])])])])])]), (5, .all [(1, .all [(2, .all [(3, .all [(6, .all [(7, .all [(8, .all [(9, .done)])])])]), (6, .all [(3, .all [(7, .all [(8, .all [(9, .done)])])])])]), (6, .all [(2, .all [(3, .all [(7, .all [(8, .all [(9, .done)])])])])])]), (6, .all [(1, .all [(2, .all [(3, .all [(7, .all [(8, .all [(9, .done)])])])])])])])]), (1, .all [(0, .all [(2, .all [(3, .all [(5, .all [(6, .all [(7, .all [(8, .all [(9, .done)])])])])]), (5, .all [(3, .all [(6, .all [(7, .all [(8, .all [(9, .done)])])])]), (6, .all [(3, .all [(7, .all [(8, .all [(9, .done)])])])])])]), (5, .all [(2, .all [(3, .all [(6, .all [(7, .all [(8, .all [(9, .done)])])])]), (6, .all [(3, .all [(7, .all [(8, .all [(9, .done)])])])])]), (6, .all [(2, .all [(3, .all [(7, .all [(8, .all [(9, .done)])])])])])])]), (2, .all [(0, .all [(3, .all [(5, .all [(6, .all [(7, .all [(8, .all [(9, .done)])])])])]), (5, .all [(3, .all [(6, .all [(7, .all [(8, .all [(9, .done)])])])]), (6, .all [(3, .all [(7, .all [(8, .all [(9, .done)])])])])])]), (5, .all [(0, .all [(3, .all [(6, .all [(7, .all [(8, .all [(9, .done)])])])]), (6, .all [(3, .all [(7, .all [(8, .all [(9, .done)])])])])]), (6, .all [(0, .all [(3, .all [(7, .all [(8, .all [(9, .done)])])])])])])]), (5, .all [(0, .all [(2, .all [(3, .all [(6, .all [(7, .all [(8, .all [(9, .done)])])])]), (6, .all [(3, .all [(7, .all [(8, .all [(9, .done)])])])])]), (6, .all [(2, .all [(3, .all [(7, .all [(8, .all [(9, .done)])])])])])]), (2, .all [(0, .all [(3, .all [(6, .all [(7, .all [(8, .all [(9, .done)])])])]), (6, .all [(3, .all [(7, .all [(8, .all [(9, .done)])])])])]), (6, .all [(0, .all [(3, .all [(7, .all [(8, .all [(9, .done)])])])])])]), (6, .all [(0, .all [(2, .all [(3, .all [(7, .all [(8, .all [(9, .done)])])])])]), (2, .all [(0, .all [(3, .all [(7, .all [(8, .all [(9, .done)])])])])])])])]), (5, .all [(0, .all [(1, .all [(2, .all [(3, .all [(6, .all [(7, .all [(8, .all [(9, .done)])])])]), (6, .all [(3, .all [(7, .all [(8, .all [(9, .done)])])])])]), (6, .all [(2, .all [(3, .all [(7, .all [(8, .all [(9, .done)])])])])])]), (6, .all [(1, .all [(2, .all [(3, .all [(7, .all [(8, .all [(9, .done)])])])])])])]), (1, .all [(0, .all [(2, .all [(3, .all [(6, .all [(7, .all [(8, .all [(9, .done)])])])]), (6, .all [(3, .all [(7, .all [(8, .all [(9, .done)])])])])]), (6, .all [(2, .all [(3, .all [(7, .all [(8, .all [(9, .done)])])])])])]), (2, .all [(0, .all [(3, .all [(6, .all [(7, .all [(8, .all [(9, .done)])])])]), (6, .all [(3, .all [(7, .all [(8, .all [(9, .done)])])])])]), (6, .all [(0, .all [(3, .all [(7, .all [(8, .all [(9, .done)])])])])])]), (6, .all [(0, .all [(2, .all [(3, .all [(7, .all [(8, .all [(9, .done)])])])])]), (2, .all [(0, .all [(3, .all [(7, .all [(8, .all [(9, .done)])])])])])])]), (6, .all [(0, .all [(1, .all [(2, .all [(3, .all [(7, .all [(8, .all [(9, .done)])])])])])]), (1, .all [(0, .all [(2, .all [(3, .all [(7, .all [(8, .all [(9, .done)])])])])]), (2, .all [(0, .all [(3, .all [(7, .all [(8, .all [(9, .done)])])])])])])])])]), (5, .all [(0, .all [(1, .all [(2, .all [(3, .all [(4, .all [(6, .all [(7, .all [(8, .all [(9, .done)])])])]), (6, .all [(4, .all [(7, .all [(8, .all [(9, .done)])])])])]), (4, .all [(3, .all [(6, .all [(7, .all [(8, .all [(9, .done)])])])]), (6, .all [(3, .all [(7, .all [(8, .all [(9, .done)])])])])]), (6, .all [(3, .all [(4, .all [(7, .all [(8, .all [(9, .done)])])])]), (4, .all [(3, .all [(7, .all [(8, .all [(9, .done)])])])])])]), (4, .all [(2, .all [(3, .all [(6, .all [(7, .all [(8, .all [(9, .done)])])])]), (6, .all [(3, .all [(7, .all [(8, .all [(9, .done)])])])])]), (6, .all [(2, .all [(3, .all [(7, .all [(8, .all [(9, .done)])])])])])]), (6, .all [(2, .all [(3, .all [(4, .all [(7, .all [(8, .all [(9, .done)])])])]), (4, .all [(3, .all [(7, .all [(8, .all [(9, .done)])])])])]), (4, .all [(2, .all [(3, .all [(7, .all [(8, .all [(9, .done)])])])])])])]), (4, .all [(1, .all [(2, .all [(3, .all [(6, .all [(7, .all [(8, .all [(9, .done)])])])]), (6, .all [(3, .all [(7, .all [(8, .all [(9, .done)])])])])]), (6, .all [(2, .all [(3, .all [(7, .all [(8, .all [(9, .done)])])])])])]), (6, .all [(1, .all [(2, .all [(3, .all [(7, .all [(8, .all [(9, .done)])])])])])])]), (6, .all [(1, .all [(2, .all [(3, .all [(4, .all [(7, .all [(8, .all [(9, .done)])])])]), (4, .all [(3, .all [(7, .all [(8, .all [(9, .done)])])])])]), (4, .all [(2, .all [(3, .all [(7, .all [(8, .all [(9, .done)])])])])])]), (4, .all [(1, .all [(2, .all [(3, .all [(7, .all [(8, .all [(9, .done)])])])])])])])]), (1, .all [(0, .all [(2, .all [(3, .all [(4, .all [(6, .all [(7, .all [(8, .all [(9, .done)])])])]), (6, .all [(4, .all [(7, .all [(8, .all [(9, .done)])])])])]), (4, .all [(3, .all [(6, .all [(7, .all [(8, .all [(9, .done)])])])]), (6, .all [(3, .all [(7, .all [(8, .all [(9, .done)])])])])]), (6, .all [(3, .all [(4, .all [(7, .all [(8, .all [(9, .done)])])])]), (4, .all [(3, .all [(7, .all [(8, .all [(9, .done)])])])])])]), (4, .all [(2, .all [(3, .all [(6, .all [(7, .all [(8, .all [(9, .done)])])])]), (6, .all [(3, .all [(7, .all [(8, .all [(9, .done)])])])])]), (6, .all [(2, .all [(3, .all [(7, .all [(8, .all [(9, .done)])])])])])]), (6, .all [(2, .all [(3, .all [(4, .all [(7, .all [(8, .all [(9, .done)])])])]), (4, .all [(3, .all [(7, .all [(8, .all [(9, .done)])])])])]), (4, .all [(2, .all [(3, .all [(7, .all [(8, .all [(9, .done)])])])])])])]), (2, .all [(0, .all [(3, .all [(4, .all [(6, .all [(7, .all [(8, .all [(9, .done)])])])]), (6, .all [(4, .all [(7, .all [(8, .all [(9, .done)])])])])]), (4, .all [(3, .all [(6, .all [(7, .all [(8, .all [(9, .done)])])])]), (6, .all [(3, .all [(7, .all [(8, .all [(9, .done)])])])])]), (6, .all [(3, .all [(4, .all [(7, .all [(8, .all [(9, .done)])])])]), (4, .all [(3, .all [(7, .all [(8, .all [(9, .done)])])])])])]), (4, .all [(0, .all [(3, .all [(6, .all [(7, .all [(8, .all [(9, .done)])])])]), (6, .all [(3, .all [(7, .all [(8, .all [(9, .done)])])])])]), (6, .all [(0, .all [(3, .all [(7, .all [(8, .all [(9, .done)])])])])])]), (6, .all [(0, .all [(3, .all [(4, .all [(7, .all [(8, .all [(9, .done)])])])]), (4, .all [(3, .all [(7, .all [(8, .all [(9, .done)])])])])]), (4, .all [(0, .all [(3, .all [(7, .all [(8, .all [(9, .done)])])])])])])]), (4, .all [(0, .all [(2, .all [(3, .all [(6, .all [(7, .all [(8, .all [(9, .done)])])])]), (6, .all [(3, .all [(7, .all [(8, .all [(9, .done)])])])])]), (6, .all [(2, .all [(3, .all [(7, .all [(8, .all [(9, .done)])])])])])]), (2, .all [(0, .all [(3, .all [(6, .all [(7, .all [(8, .all [(9, .done)])])])]), (6, .all [(3, .all [(7, .all [(8, .all [(9, .done)])])])])]), (6, .all [(0, .all [(3, .all [(7, .all [(8, .all [(9, .done)])])])])])]), (6, .all [(0, .all [(2, .all [(3, .all [(7, .all [(8, .all [(9, .done)])])])])]), (2, .all [(0, .all [(3, .all [(7, .all [(8, .all [(9, .done)])])])])])])]), (6, .all [(0, .all [(2, .all [(3, .all [(4, .all [(7, .all [(8, .all [(9, .done)])])])]), (4, .all [(3, .all [(7, .all [(8, .all [(9, .done)])])])])]), (4, .all [(2, .all [(3, .all [(7, .all [(8, .all [(9, .done)])])])])])]), (2, .all [(0, .all [(3, .all [(4, .all [(7, .all [(8, .all [(9, .done)])])])]), (4, .all [(3, .all [(7, .all [(8, .all [(9, .done)])])])])]), (4, .all [(0, .all [(3, .all [(7, .all [(8, .all [(9, .done)])])])])])]), (4, .all [(0, .all [(2, .all [(3, .all [(7, .all [(8, .all [(9, .done)])])])])]), (2, .all [(0, .all [(3, .all [(7, .all [(8, .all [(9, .done)])])])])])])])]), (4, .all [(0, .all [(1, .all [(2, .all [(3, .all [(6, .all [(7, .all [(8, .all [(9, .done)])])])]), (6, .all [(3, .all [(7, .all [(8, .all [(9, .done)])])])])]), (6, .all [(2, .all [(3, .all [(7, .all [(8, .all [(9, .done)])])])])])]), (6, .all [(1, .all [(2, .all [(3, .all [(7, .all [(8, .all [(9, .done)])])])])])])]), (1, .all [(0, .all [(2, .all [(3, .all [(6, .all [(7, .all [(8, .all [(9, .done)])])])]), (6, .all [(3, .all [(7, .all [(8, .all [(9, .done)])])])])]), (6, .all [(2, .all [(3, .all [(7, .all [(8, .all [(9, .done)])])])])])]), (2, .all [(0, .all [(3, .all [(6, .all [(7, .all [(8, .all [(9, .done)])])])]), (6, .all [(3, .all [(7, .all [(8, .all [(9, .done)])])])])]), (6, .all [(0, .all [(3, .all [(7, .all [(8, .all [(9, .done)])])])])])]), (6, .all [(0, .all [(2, .all [(3, .all [(7, .all [(8, .all [(9, .done)])])])])]), (2, .all [(0, .all [(3, .all [(7, .all [(8, .all [(9, .done)])])])])])])]), (6, .all [(0, .all [(1, .all [(2, .all [(3, .all [(7, .all [(8, .all [(9, .done)])])])])])]), (1, .all [(0, .all [(2, .all [(3, .all [(7, .all [(8, .all [(9, .done)])])])])]), (2, .all [(0, .all [(3, .all [(7, .all [(8, .all [(9, .done)])])])])])])])]), (6, .all [(0, .all [(1, .all [(2, .all [(3, .all [(4, .all [(7, .all [(8, .all [(9, .done)])])])]), (4, .all [(3, .all [(7, .all [(8, .all [(9, .done)])])])])]), (4, .all [(2, .all [(3, .all [(7, .all [(8, .all [(9, .done)])])])])])]), (4, .all [(1, .all [(2, .all [(3, .all [(7, .all [(8, .all [(9, .done)])])])])])])]), (1, .all [(0, .all [(2, .all [(3, .all [(4, .all [(7, .all [(8, .all [(9, .done)])])])]), (4, .all [(3, .all [(7, .all [(8, .all [(9, .done)])])])])]), (4, .all [(2, .all [(3, .all [(7, .all [(8, .all [(9, .done)])])])])])]), (2, .all [(0, .all [(3, .all [(4, .all [(7, .all [(8, .all [(9, .done)])])])]), (4, .all [(3, .all [(7, .all [(8, .all [(9, .done)])])])])]), (4, .all [(0, .all [(3, .all [(7, .all [(8, .all [(9, .done)])])])])])]), (4, .all [(0, .all [(2, .all [(3, .all [(7, .all [(8, .all [(9, .done)])])])])]), (2, .all [(0, .all [(3, .all [(7, .all [(8, .all [(9, .done)])])])])])])]), (4, .all [(0, .all [(1, .all [(2, .all [(3, .all [(7, .all [(8, .all [(9, .done)])])])])])]), (1, .all [(0, .all [(2, .all [(3, .all [(7, .all [(8, .all [(9, .done)])])])])]), (2, .all [(0, .all [(3, .all [(7, .all [(8, .all [(9, .done)])])])])])])])])])]) (.front 0 (.front 1 (.all [(2, .all [(3, .front 4 (.front 5 (.front 6 (.front 7 (.front 8 (.front 9 .done)))))), (4, .all [(3, .front 5 (.front 6 (.front 7 (.front 8 (.front 9 .done))))), (5, .all [(3, .front 6 (.front 7 (.front 8 (.front 9 .done)))), (6, .front 3 (.front 7 (.front 8 (.front 9 .done))))])]), (5, .all [(3, .front 4 (.front 6 (.front 7 (.front 8 (.front 9 .done))))), (4, .all [(3, .front 6 (.front 7 (.front 8 (.front 9 .done)))), (6, .front 3 (.front 7 (.front 8 (.front 9 .done))))]), (6, .all [(3, .front 4 (.front 7 (.front 8 (.front 9 .done)))), (4, .front 3 (.front 7 (.front 8 (.front 9 .done))))])])]), (4, .all [(2, .all [(3, .front 5 (.front 6 (.front 7 (.front 8 (.front 9 .done))))), (5, .all [(3, .front 6 (.front 7 (.front 8 (.front 9 .done)))), (6, .front 3 (.front 7 (.front 8 (.front 9 .done))))])]), (5, .all [(2, .all [(3, .front 6 (.front 7 (.front 8 (.front 9 .done)))), (6, .front 3 (.front 7 (.front 8 (.front 9 .done))))]), (6, .front 2 (.front 3 (.front 7 (.front 8 (.front 9 .done)))))])]), (5, .all [(2, .all [(3, .front 4 (.front 6 (.front 7 (.front 8 (.front 9 .done))))), (4, .all [(3, .front 6 (.front 7 (.front 8 (.front 9 .done)))), (6, .front 3 (.front 7 (.front 8 (.front 9 .done))))]), (6, .all [(3, .front 4 (.front 7 (.front 8 (.front 9 .done)))), (4, .front 3 (.front 7 (.front 8 (.front 9 .done))))])]), (4, .all [(2, .all [(3, .front 6 (.front 7 (.front 8 (.front 9 .done)))), (6, .front 3 (.front 7 (.front 8 (.front 9 .done))))]), (6, .front 2 (.front 3 (.front 7 (.front 8 (.front 9 .done)))))]), (6, .all [(2, .all [(3, .front 4 (.front 7 (.front 8 (.front 9 .done)))), (4, .front 3 (.front 7 (.front 8 (.front 9 .done))))]), (4, .front 2 (.front 3 (.front 7 (.front 8 (.front 9 .done)))))])])]))))
def asm_Parse_1.k3 : LCode := .text [⟨some 25, .mv (.tmp 8), none⟩,⟨some 26, .bin .eql .other (.tmp 25) (.cst (.int .i64 0)), none⟩,⟨some 6, .mv (.tmp 26), none⟩]
def asm_Parse_1.k4 : LCode := .seq asm_Parse_1.k1 (.seq asm_Parse_1.k2 (.seq asm_Parse_1.k3 .ret))
def asm_Parse_1.lc : LCode :=
 .seq (.text [⟨some 6, .mv (.cst (.bool false)), none⟩]) asm_Parse_1.k4
theorem asm_Parse_1.low : lowFn Tryd.prog 53 = some (27, asm_Parse_1.lc, [.tmp 6]) := by kernel_rfl

def joinerylaw23_AllocTwice.k1 : LCode := .text [⟨some 13, .mv (.tmp 0), none⟩,⟨some 14, .len .slice (.tmp 13), none⟩,⟨some 15, .bin .gtr .other (.tmp 14) (.cst (.int .i64 300)), none⟩]
def joinerylaw23_AllocTwice.k2 : LCode := .text [⟨some 16, .call (.cst (.fn (.func 8) [] [])) [], none⟩,⟨some 6, .mv (.tmp 16), none⟩]
def joinerylaw23_AllocTwice.k3 : LCode := .cond (.tmp 15) (.seq joinerylaw23_AllocTwice.k2 .ret) .skip
def joinerylaw23_AllocTwice.k4 : LCode := .text [⟨some 18, .mv (.tmp 0), none⟩,⟨some 19, .mv (.tmp 1), none⟩,⟨some 20, .mv (.tmp 2), none⟩,⟨some 21, .call (.cst (.fn (.func 14) [] [])) [.tmp 18, .tmp 19, .tmp 20], none⟩,⟨some 17, .mv (.tmp 21), none⟩,⟨some 22, .extract (.tmp 17) 0, none⟩,⟨some 23, .extract (.tmp 17) 1, none⟩,⟨some 7, .mv (.tmp 22), none⟩,⟨some 8, .mv (.tmp 23), none⟩]
def joinerylaw23_AllocTwice.k5 : LCode := .text [⟨some 25, .mv (.tmp 0), none⟩,⟨some 26, .mv (.tmp 2), none⟩,⟨some 27, .mv (.tmp 1), none⟩,⟨some 28, .call (.cst (.fn (.func 14) [] [])) [.tmp 25, .tmp 26, .tmp 27], none⟩,⟨some 24, .mv (.tmp 28), none⟩,⟨some 29, .extract (.tmp 24) 0, none⟩,⟨some 30, .extract (.tmp 24) 1, none⟩,⟨some 9, .mv (.tmp 29), none⟩,⟨some 10, .mv (.tmp 30), none⟩]
def joinerylaw23_AllocTwice.k6 : LCode := .text [⟨some 31, .mv (.tmp 8), none⟩,⟨some 32, .mv (.tmp 10), none⟩,⟨some 33, .bin .neq .other (.tmp 31) (.tmp 32), none⟩,⟨some 34, .mv (.tmp 33), none⟩,⟨some 35, .mv (.tmp 7), some (34, false)⟩,⟨some 36, .mv (.tmp 9), some (34, false)⟩,⟨some 37, .call (.cst (.fn (.func 13) [] [])) [.tmp 35, .tmp 36], some (34, false)⟩,⟨some 38, .not (.tmp 37), some (34, false)⟩,⟨some 39, .pick (.tmp 34) (.cst (.bool true)) (.tmp 38), none⟩]
def joinerylaw23_AllocTwice.k7 : LCode := .seq (.text [⟨some 6, .mv (.cst (.bool false)), none⟩]) .ret
def joinerylaw23_AllocTwice.k8 : LCode := .seq joinerylaw23_AllocTwice.k6 (.cond (.tmp 39) joinerylaw23_AllocTwice.k7 .skip)
def joinerylaw23_AllocTwice.k9 : LCode := .text [⟨some 40, .mv (.tmp 8), none⟩,⟨some 41, .bin .neq .other (.tmp 40) (.cst (.int .i64 0)), none⟩]
def joinerylaw23_AllocTwice.k10 : LCode := .text [⟨some 42, .mv (.tmp 8), none⟩,⟨some 43, .bin .eql .other (.tmp 42) (.cst (.int .i64 1)), none⟩,⟨some 44, .mv (.tmp 43), none⟩,⟨some 45, .call (.cst (.fn (.func 8) [] [])) [], some (44, true)⟩,⟨some 46, .pick (.tmp 44) (.tmp 45) (.cst (.bool false)), none⟩,⟨some 6, .mv (.tmp 46), none⟩]
def joinerylaw23_AllocTwice.k11 : LCode := .cond (.tmp 41) (.seq joinerylaw23_AllocTwice.k10 .ret) .skip
def joinerylaw23_AllocTwice.k12 : LCode := .text [⟨some 48, .mv (.tmp 7), none⟩,⟨some 49, .mv (.tmp 1), none⟩,⟨some 50, .mv (.tmp 2), none⟩,⟨some 51, .call (.cst (.fn (.func 14) [] [])) [.tmp 48, .tmp 49, .tmp 50], none⟩,⟨some 47, .mv (.tmp 51), none⟩,⟨some 52, .extract (.tmp 47) 0, none⟩,⟨some 53, .extract (.tmp 47) 1, none⟩,⟨some 11, .mv (.tmp 52), none⟩,⟨some 12, .mv (.tmp 53), none⟩]
def joinerylaw23_AllocTwice.k13 : LCode := .text [⟨some 54, .mv (.tmp 12), none⟩,⟨some 55, .bin .eql .other (.tmp 54) (.cst (.int .i64 0)), none⟩,⟨some 56, .mv (.tmp 55), none⟩,⟨some 57, .mv (.tmp 11), some (56, true)⟩,⟨some 58, .mv (.tmp 0), some (56, true)⟩,⟨some 59, .call (.cst (.fn (.func 13) [] [])) [.tmp 57, .tmp 58], some (56, true)⟩,⟨some 60, .pick (.tmp 56) (.tmp 59) (.cst (.bool false)), none⟩,⟨some 61, .mv (.tmp 60), none⟩,⟨some 62, .call (.cst (.fn (.func 8) [] [])) [], some (61, true)⟩,⟨some 63, .pick (.tmp 61) (.tmp 62) (.cst (.bool false)), none⟩,⟨some 6, .mv (.tmp 63), none⟩]
def joinerylaw23_AllocTwice.k14 : LCode := .seq joinerylaw23_AllocTwice.k12 (.seq joinerylaw23_AllocTwice.k13 .ret)
def joinerylaw23_AllocTwice.k15 : LCode := .seq (.seq joinerylaw23_AllocTwice.k9 joinerylaw23_AllocTwice.k11) joinerylaw23_AllocTwice.k14
def joinerylaw23_AllocTwice.k16 : LCode := .seq joinerylaw23_AllocTwice.k5 (.seq joinerylaw23_AllocTwice.k8 joinerylaw23_AllocTwice.k15)
def joinerylaw23_AllocTwice.k17 : LCode := .seq (.seq joinerylaw23_AllocTwice.k1 joinerylaw23_AllocTwice.k3) (.seq joinerylaw23_AllocTwice.k4 joinerylaw23_AllocTwice.k16)
def joinerylaw23_AllocTwice.lc : LCode :=
 .seq (.text [⟨some 6, .mv (.cst (.bool false)), none⟩]) joinerylaw23_AllocTwice.k17
theorem joinerylaw23_AllocTwice.low : lowFn Tryd.prog 6 = some (64, joinerylaw23_AllocTwice.lc, [.tmp 6]) := by kernel_rfl

def alloc_free.k1 : LCode := .text [⟨some 2, .alloc [.bool false, .bool false, .bool false, .bool false, .bool false, .bool false, .bool false, .bool false, .bool false, .bool false, .bool false, .bool false, .bool false, .bool false, .bool false, .bool false, .bool false, .bool false, .bool false, .bool false, .bool false, .bool false, .bool false, .bool false], none⟩]
def alloc_free.k2 : LCode := .text [⟨some 3, .alloc [.bool false, .bool false, .bool false, .bool false, .bool false, .bool false, .bool false, .bool false, .bool false, .bool false, .bool false, .bool false, .bool false, .bool false, .bool false, .bool false, .bool false, .bool false, .bool false, .bool false, .bool false, .bool false, .bool false, .bool false], none⟩]
def alloc_free.k3 : LCode := .text [⟨some 10, .bin .lss .other (.tmp 9) (.cst (.int .i64 24)), none⟩]
def alloc_free.k4 : LCode := .text [⟨some 11, .mv (.tmp 9), none⟩,⟨some 4, .mv (.tmp 11), none⟩]
def alloc_free.k5 : LCode := .text [⟨some 12, .mv (.tmp 4), none⟩,⟨some 13, .iaddrA 24 1 (.tmp 3) (.tmp 12), none⟩,⟨none, .store 1 (.tmp 13) (.cst (.bool true)), none⟩]
def alloc_free.k6 : LCode := .text [⟨some 14, .bin .add .other (.tmp 9) (.cst (.int .i64 1)), none⟩,⟨some 9, .mv (.tmp 14), none⟩]
def alloc_free.k7 : LCode := .seq (.block 1 (.seq alloc_free.k4 alloc_free.k5)) alloc_free.k6
def alloc_free.k8 : LCode := .seq alloc_free.k3 (.seq (.cond (.tmp 10) .skip (.exit 0)) alloc_free.k7)
def alloc_free.k9 : LCode := .seq (.text [⟨some 9, .mv (.cst (.int .i64 0)), none⟩]) (.block 0 (.loop alloc_free.k8))
def alloc_free.k10 : LCode := .text [⟨some 15, .mv (.tmp 0), none⟩,⟨some 16, .len .slice (.tmp 15), none⟩,⟨some 17, .mv (.cst (.int .i64 0)), none⟩]
def alloc_free.k11 : LCode := .text [⟨some 18, .bin .lss .other (.tmp 17) (.tmp 16), none⟩]
def alloc_free.k12 : LCode := .text [⟨some 19, .iaddrS 6 (.tmp 15) (.tmp 17), none⟩,⟨some 20, .load true 6 (.tmp 19), none⟩,⟨some 6, .alloc [.int .i64 0, .int .i64 0, .int .i64 0, .int .i64 0, .int .i64 0, .int .i64 0], none⟩,⟨none, .store 6 (.tmp 6) (.tmp 20), none⟩]
def alloc_free.k13 : LCode := .text [⟨some 21, .load true 6 (.tmp 6), none⟩,⟨some 22, .call (.cst (.fn (.func 38) [] [])) [.tmp 21], none⟩,⟨some 23, .len .slice (.tmp 22), none⟩,⟨some 24, .mv (.cst (.int .i64 0)), none⟩]
def alloc_free.k14 : LCode := .text [⟨some 25, .bin .lss .other (.tmp 24) (.tmp 23), none⟩]
def alloc_free.k15 : LCode := .text [⟨some 26, .iaddrS 1 (.tmp 22) (.tmp 24), none⟩,⟨some 27, .load false 1 (.tmp 26), none⟩,⟨some 8, .mv (.tmp 27), none⟩]
def alloc_free.k16 : LCode := .text [⟨some 28, .mv (.tmp 8), none⟩,⟨some 29, .iaddrA 24 1 (.tmp 3) (.tmp 28), none⟩,⟨none, .store 1 (.tmp 29) (.cst (.bool false)), none⟩]
def alloc_free.k17 : LCode := .text [⟨some 30, .bin .add .other (.tmp 24) (.cst (.int .i64 1)), none⟩,⟨some 24, .mv (.tmp 30), none⟩]
def alloc_free.k18 : LCode := .seq (.block 5 (.seq alloc_free.k15 alloc_free.k16)) alloc_free.k17
def alloc_free.k19 : LCode := .seq alloc_free.k14 (.seq (.cond (.tmp 25) .skip (.exit 4)) alloc_free.k18)
def alloc_free.k20 : LCode := .seq alloc_free.k12 (.seq alloc_free.k13 (.block 4 (.loop alloc_free.k19)))
def alloc_free.k21 : LCode := .text [⟨some 31, .bin .add .other (.tmp 17) (.cst (.int .i64 1)), none⟩,⟨some 17, .mv (.tmp 31), none⟩]
def alloc_free.k22 : LCode := .seq (.cond (.tmp 18) .skip (.exit 2)) (.seq (.block 3 alloc_free.k20) alloc_free.k21)
def alloc_free.k23 : LCode := .seq alloc_free.k10 (.block 2 (.loop (.seq alloc_free.k11 alloc_free.k22)))
def alloc_free.k24 : LCode := .text [⟨some 32, .load true 24 (.tmp 3), none⟩,⟨none, .store 24 (.tmp 2) (.tmp 32), none⟩]
def alloc_free.k25 : LCode := .seq alloc_free.k9 (.seq alloc_free.k23 (.seq alloc_free.k24 .ret))
def alloc_free.lc : LCode :=
 .seq alloc_free.k1 (.seq alloc_free.k2 alloc_free.k25)
theorem alloc_free.low : lowFn Tryd.prog 22 = some (33, alloc_free.lc, [.cell 2 true 24]) := by kernel_rfl

def alloc_names.k1 : LCode := .text [⟨some 1, .box (.tmp 0), none⟩,⟨some 2, .mv (.cst (.imm (.slice none 0 0))), none⟩]
def alloc_names.k2 : LCode := .text [⟨some 3, .faddr 0 (.tmp 1), none⟩,⟨some 4, .load false 1 (.tmp 3), none⟩]
def alloc_names.k3 : LCode := .text [⟨some 6, .bin .eql .other (.tmp 4) (.cst (.int .i64 1)), none⟩,⟨some 5, .mv (.tmp 6), none⟩]
def alloc_names.k4 : LCode := .text [⟨some 7, .faddr 1 (.tmp 1), none⟩,⟨some 8, .load false 1 (.tmp 7), none⟩,⟨some 9, .bslice 1 [.int .i64 0] 1 [(0, .tmp 8)], none⟩,⟨some 2, .mv (.tmp 9), none⟩]
def alloc_names.k5 : LCode := .text [⟨some 11, .bin .eql .other (.tmp 4) (.cst (.int .i64 2)), none⟩,⟨some 10, .mv (.tmp 11), none⟩]
def alloc_names.k6 : LCode := .text [⟨some 12, .bin .eql .other (.tmp 4) (.cst (.int .i64 3)), none⟩,⟨some 10, .mv (.tmp 12), none⟩]
def alloc_names.k7 : LCode := .text [⟨some 13, .faddr 1 (.tmp 1), none⟩,⟨some 14, .load false 1 (.tmp 13), none⟩,⟨some 15, .faddr 2 (.tmp 1), none⟩,⟨some 16, .load false 1 (.tmp 15), none⟩,⟨some 17, .bslice 1 [.int .i64 0] 2 [(0, .tmp 14), (1, .tmp 16)], none⟩,⟨some 2, .mv (.tmp 17), none⟩]
def alloc_names.k8 : LCode := .seq (.seq alloc_names.k5 (.cond (.tmp 10) .skip alloc_names.k6)) (.cond (.tmp 10) (.seq alloc_names.k7 .ret) .skip)
def alloc_names.k9 : LCode := .seq alloc_names.k3 (.cond (.tmp 5) (.seq alloc_names.k4 .ret) alloc_names.k8)
def alloc_names.k10 : LCode := .seq (.text [⟨some 2, .mv (.cst (.imm (.slice none 0 0))), none⟩]) .ret
def alloc_names.k11 : LCode := .seq (.seq alloc_names.k2 (.block 0 alloc_names.k9)) alloc_names.k10
def alloc_names.lc : LCode :=
 .seq alloc_names.k1 alloc_names.k11
theorem alloc_names.low : lowFn Tryd.prog 38 = some (18, alloc_names.lc, [.tmp 2]) := by kernel_rfl

def ins_Parse.k1 : LCode := .text [⟨some 2, .alloc [.int .i64 0, .int .i64 0, .int .i64 0, .int .i64 0, .int .i64 0, .int .i64 0], none⟩,⟨some 3, .mv (.cst (.int .i64 0)), none⟩]
def ins_Parse.k2 : LCode := .text [⟨some 11, .mv (.tmp 0), none⟩,⟨some 12, .call (.cst (.fn (.func 73) [] [])) [.tmp 11], none⟩,⟨some 4, .mv (.tmp 12), none⟩]
def ins_Parse.k3 : LCode := .text [⟨some 13, .load true 36 (.cst (.lptr (shapeTbl.flatMap fun p => [.str p.1, .str p.2]) 0)), none⟩,⟨some 14, .mv (.cst (.int .i64 0)), none⟩]
def ins_Parse.k4 : LCode := .text [⟨some 15, .bin .lss .other (.tmp 14) (.cst (.int .i64 18)), none⟩]
def ins_Parse.k5 : LCode := .text [⟨some 16, .mv (.tmp 14), none⟩,⟨some 17, .idxA 18 true 2 (.tmp 13) (.tmp 14), none⟩,⟨some 6, .alloc [.str ⟨#[]⟩, .str ⟨#[]⟩], none⟩,⟨some 5, .mv (.tmp 16), none⟩,⟨none, .store 2 (.tmp 6) (.tmp 17), none⟩]
def ins_Parse.k6 : LCode := .any true [⟨some 18, .faddr 0 (.tmp 6), none⟩,⟨some 19, .load false 1 (.tmp 18), none⟩,⟨some 20, .mv (.tmp 4), none⟩,⟨some 21, .iaddrS 1 (.tmp 20) (.cst (.int .i64 0)), none⟩,⟨some 22, .load false 1 (.tmp 21), none⟩,⟨some 23, .bin .neq .other (.tmp 19) (.tmp 22), none⟩,⟨some 24, .mv (.tmp 23), none⟩,⟨some 25, .faddr 1 (.tmp 6), some (24, false)⟩,⟨some 26, .load false 1 (.tmp 25), some (24, false)⟩,⟨some 27, .len .str (.tmp 26), some (24, false)⟩,⟨some 28, .mv (.tmp 4), some (24, false)⟩,⟨some 29, .len .slice (.tmp 28), some (24, false)⟩,⟨some 30, .bin .sub .other (.tmp 29) (.cst (.int .i64 1)), some (24, false)⟩,⟨some 31, .bin .neq .other (.tmp 27) (.tmp 30), some (24, false)⟩,⟨some 32, .pick (.tmp 24) (.cst (.bool true)) (.tmp 31), none⟩] (.both .no .no)
def ins_Parse.k7 : LCode := .text [⟨some 33, .mv (.tmp 5), none⟩,⟨some 34, .bin .add .other (.cst (.int .i64 1)) (.tmp 33), none⟩,⟨some 35, .build [.int .i64 0, .int .i64 0, .int .i64 0, .int .i64 0, .int .i64 0, .int .i64 0] [(0, 1, .tmp 34)], none⟩,⟨some 7, .alloc [.int .i64 0, .int .i64 0, .int .i64 0, .int .i64 0, .int .i64 0, .int .i64 0], none⟩,⟨none, .store 6 (.tmp 7) (.tmp 35), none⟩]
def ins_Parse.k8 : LCode := .text [⟨some 36, .faddr 1 (.tmp 6), none⟩,⟨some 37, .load false 1 (.tmp 36), none⟩,⟨some 38, .range (.tmp 37), none⟩]
def ins_Parse.k9 : LCode := .text [⟨some 39, .next (.tmp 38), none⟩,⟨some 40, .extract (.tmp 39) 0, none⟩]
def ins_Parse.k10 : LCode := .text [⟨some 41, .extract (.tmp 39) 1, none⟩,⟨some 42, .extract (.tmp 39) 2, none⟩,⟨some 8, .mv (.tmp 41), none⟩,⟨some 9, .mv (.tmp 42), none⟩]
def ins_Parse.k11 : LCode := .text [⟨some 43, .mv (.tmp 9), none⟩,⟨some 44, .mv (.tmp 4), none⟩,⟨some 45, .mv (.tmp 8), none⟩,⟨some 46, .bin .add .other (.tmp 45) (.cst (.int .i64 1)), none⟩,⟨some 47, .iaddrS 1 (.tmp 44) (.tmp 46), none⟩,⟨some 48, .load false 1 (.tmp 47), none⟩,⟨some 49, .call (.cst (.fn (.func 74) [] [])) [.tmp 7, .tmp 43, .tmp 48], none⟩,⟨some 10, .mv (.tmp 49), none⟩]
def ins_Parse.k12 : LCode := .text [⟨some 50, .mv (.tmp 10), none⟩,⟨some 51, .bin .neq .other (.tmp 50) (.cst (.int .i64 0)), none⟩]
def ins_Parse.k13 : LCode := .text [⟨some 52, .build [.int .i64 0, .int .i64 0, .int .i64 0, .int .i64 0, .int .i64 0, .int .i64 0] [], none⟩,⟨none, .store 6 (.tmp 2) (.tmp 52), none⟩,⟨some 3, .mv (.cst (.int .i64 2)), none⟩]
def ins_Parse.k14 : LCode := .seq ins_Parse.k12 (.cond (.tmp 51) (.seq ins_Parse.k13 .ret) .skip)
def ins_Parse.k15 : LCode := .block 3 (.seq ins_Parse.k10 (.seq ins_Parse.k11 ins_Parse.k14))
def ins_Parse.k16 : LCode := .seq ins_Parse.k9 (.seq (.cond (.tmp 40) .skip (.exit 2)) ins_Parse.k15)
def ins_Parse.k17 : LCode := .text [⟨some 53, .load true 6 (.tmp 7), none⟩,⟨some 54, .call (.cst (.fn (.func 31) [] [])) [.tmp 53, .cst (.int .i64 200)], none⟩,⟨some 55, .bin .neq .other (.tmp 54) (.cst (.int .i64 0)), none⟩]
def ins_Parse.k18 : LCode := .text [⟨some 56, .load true 6 (.tmp 7), none⟩,⟨none, .store 6 (.tmp 2) (.tmp 56), none⟩,⟨some 3, .mv (.cst (.int .i64 0)), none⟩]
def ins_Parse.k19 : LCode := .seq (.seq ins_Parse.k17 (.cond (.tmp 55) (.exit 0) .skip)) (.seq ins_Parse.k18 .ret)
def ins_Parse.k20 : LCode := .seq (.seq ins_Parse.k8 (.block 2 (.loop ins_Parse.k16))) ins_Parse.k19
def ins_Parse.k21 : LCode := .seq (.seq ins_Parse.k6 (.cond (.tmp 32) (.exit 1) .skip)) (.seq ins_Parse.k7 ins_Parse.k20)
def ins_Parse.k22 : LCode := .text [⟨some 57, .bin .add .other (.tmp 14) (.cst (.int .i64 1)), none⟩,⟨some 14, .mv (.tmp 57), none⟩]
def ins_Parse.k23 : LCode := .seq (.block 1 (.seq ins_Parse.k5 ins_Parse.k21)) ins_Parse.k22
def ins_Parse.k24 : LCode := .seq ins_Parse.k4 (.seq (.cond (.tmp 15) .skip (.exit 0)) ins_Parse.k23)
def ins_Parse.k25 : LCode := .text [⟨some 58, .build [.int .i64 0, .int .i64 0, .int .i64 0, .int .i64 0, .int .i64 0, .int .i64 0] [], none⟩,⟨none, .store 6 (.tmp 2) (.tmp 58), none⟩,⟨some 3, .mv (.cst (.int .i64 2)), none⟩]
def ins_Parse.k26 : LCode := .seq (.seq ins_Parse.k3 (.block 0 (.loop ins_Parse.k24))) (.seq ins_Parse.k25 .ret)
def ins_Parse.lc : LCode :=
 .seq ins_Parse.k1 (.seq ins_Parse.k2 ins_Parse.k26)
theorem ins_Parse.low : lowFn Tryd.prog 54 = some (59, ins_Parse.lc, [.cell 2 true 6, .tmp 3]) := by kernel_rfl

def loc_Reg.k1 : LCode := .text [⟨some 3, .mv (.tmp 0), none⟩,⟨some 4, .bin .geq .other (.tmp 3) (.cst (.int .i64 0)), none⟩,⟨some 5, .mv (.tmp 4), none⟩,⟨some 6, .mv (.tmp 0), some (5, true)⟩,⟨some 7, .bin .lss .other (.tmp 6) (.cst (.int .i64 8)), some (5, true)⟩,⟨some 8, .pick (.tmp 5) (.tmp 7) (.cst (.bool false)), none⟩,⟨some 2, .mv (.tmp 8), none⟩]
def loc_Reg.lc : LCode :=
 .seq (.text [⟨some 2, .mv (.cst (.bool false)), none⟩]) (.seq loc_Reg.k1 .ret)
theorem loc_Reg.low : lowFn Tryd.prog 23 = some (9, loc_Reg.lc, [.tmp 2]) := by kernel_rfl

def joineryref04_Check.k1 : LCode := .text [⟨some 2, .mv (.cst (.int .i64 0)), none⟩,⟨some 3, .mv (.cst (.int .i64 0)), none⟩]
def joineryref04_Check.k2 : LCode := .text [⟨some 7, .mv (.tmp 0), none⟩,⟨some 8, .len .slice (.tmp 7), none⟩,⟨some 9, .bin .gtr .other (.tmp 8) (.cst (.int .i64 200)), none⟩]
def joineryref04_Check.k3 : LCode := .text [⟨some 2, .mv (.cst (.int .i64 0)), none⟩,⟨some 3, .mv (.cst (.int .i64 3)), none⟩]
def joineryref04_Check.k4 : LCode := .seq joineryref04_Check.k2 (.cond (.tmp 9) (.seq joineryref04_Check.k3 .ret) .skip)
def joineryref04_Check.k5 : LCode := .text [⟨some 10, .mv (.tmp 0), none⟩,⟨some 11, .len .slice (.tmp 10), none⟩,⟨some 12, .bin .eql .other (.tmp 11) (.cst (.int .i64 0)), none⟩]
def joineryref04_Check.k6 : LCode := .text [⟨some 2, .mv (.cst (.int .i64 0)), none⟩,⟨some 3, .mv (.cst (.int .i64 5)), none⟩]
def joineryref04_Check.k7 : LCode := .seq joineryref04_Check.k5 (.cond (.tmp 12) (.seq joineryref04_Check.k6 .ret) .skip)
def joineryref04_Check.k8 : LCode := .text [⟨some 13, .mv (.tmp 4), none⟩,⟨some 14, .mv (.tmp 0), none⟩,⟨some 15, .len .slice (.tmp 14), none⟩,⟨some 16, .bin .lss .other (.tmp 13) (.tmp 15), none⟩]
def joineryref04_Check.k9 : LCode := .seq joineryref04_Check.k8 (.cond (.tmp 16) .skip (.exit 0))
def joineryref04_Check.k10 : LCode := .text [⟨some 19, .mv (.tmp 0), none⟩,⟨some 20, .mv (.tmp 4), none⟩,⟨some 21, .iaddrS 6 (.tmp 19) (.tmp 20), none⟩,⟨some 22, .load true 6 (.tmp 21), none⟩,⟨some 23, .mv (.tmp 0), none⟩,⟨some 24, .len .slice (.tmp 23), none⟩,⟨some 25, .call (.cst (.fn (.func 34) [] [])) [.tmp 22, .tmp 24], none⟩,⟨some 5, .mv (.tmp 25), none⟩]
def joineryref04_Check.k11 : LCode := .text [⟨some 26, .mv (.tmp 5), none⟩,⟨some 27, .bin .neq .other (.tmp 26) (.cst (.int .i64 0)), none⟩]
def joineryref04_Check.k12 : LCode := .text [⟨some 28, .mv (.tmp 4), none⟩,⟨some 29, .mv (.tmp 5), none⟩,⟨some 2, .mv (.tmp 28), none⟩,⟨some 3, .mv (.tmp 29), none⟩]
def joineryref04_Check.k13 : LCode := .seq joineryref04_Check.k11 (.cond (.tmp 27) (.seq joineryref04_Check.k12 .ret) .skip)
def joineryref04_Check.k14 : LCode := .block 1 (.seq joineryref04_Check.k10 joineryref04_Check.k13)
def joineryref04_Check.k15 : LCode := .text [⟨some 17, .mv (.tmp 4), none⟩,⟨some 18, .bin .add .other (.tmp 17) (.cst (.int .i64 1)), none⟩,⟨some 4, .mv (.tmp 18), none⟩]
def joineryref04_Check.k16 : LCode := .seq joineryref04_Check.k9 (.seq joineryref04_Check.k14 joineryref04_Check.k15)
def joineryref04_Check.k17 : LCode := .seq (.text [⟨some 4, .mv (.cst (.int .i64 0)), none⟩]) (.block 0 (.loop joineryref04_Check.k16))
def joineryref04_Check.k18 : LCode := .text [⟨some 30, .mv (.tmp 0), none⟩,⟨some 31, .mv (.tmp 0), none⟩,⟨some 32, .len .slice (.tmp 31), none⟩,⟨some 33, .bin .sub .other (.tmp 32) (.cst (.int .i64 1)), none⟩,⟨some 34, .iaddrS 6 (.tmp 30) (.tmp 33), none⟩,⟨some 35, .faddr 0 (.tmp 34), none⟩,⟨some 36, .load false 1 (.tmp 35), none⟩,⟨some 6, .mv (.tmp 36), none⟩]
def joineryref04_Check.k19 : LCode := .text [⟨some 37, .mv (.tmp 6), none⟩,⟨some 38, .bin .eql .other (.tmp 37) (.cst (.int .i64 16)), none⟩,⟨some 39, .mv (.tmp 38), none⟩,⟨some 40, .mv (.tmp 6), some (39, false)⟩,⟨some 41, .bin .eql .other (.tmp 40) (.cst (.int .i64 18)), some (39, false)⟩,⟨some 42, .pick (.tmp 39) (.cst (.bool true)) (.tmp 41), none⟩]
def joineryref04_Check.k20 : LCode := .text [⟨some 2, .mv (.cst (.int .i64 0)), none⟩,⟨some 3, .mv (.cst (.int .i64 0)), none⟩]
def joineryref04_Check.k21 : LCode := .seq joineryref04_Check.k19 (.cond (.tmp 42) (.seq joineryref04_Check.k20 .ret) .skip)
def joineryref04_Check.k22 : LCode := .text [⟨some 43, .mv (.tmp 0), none⟩,⟨some 44, .len .slice (.tmp 43), none⟩,⟨some 45, .bin .sub .other (.tmp 44) (.cst (.int .i64 1)), none⟩,⟨some 2, .mv (.tmp 45), none⟩,⟨some 3, .mv (.cst (.int .i64 5)), none⟩]
def joineryref04_Check.k23 : LCode := .seq joineryref04_Check.k21 (.seq joineryref04_Check.k22 .ret)
def joineryref04_Check.k24 : LCode := .seq joineryref04_Check.k17 (.seq joineryref04_Check.k18 joineryref04_Check.k23)
def joineryref04_Check.k25 : LCode := .seq joineryref04_Check.k4 (.seq joineryref04_Check.k7 joineryref04_Check.k24)
def joineryref04_Check.lc : LCode :=
 .seq joineryref04_Check.k1 joineryref04_Check.k25
theorem joineryref04_Check.low : lowFn Tryd.prog 39 = some (46, joineryref04_Check.lc, [.tmp 2, .tmp 3]) := by kernel_rfl

def ins_Print.k1 : LCode := .text [⟨some 1, .box (.tmp 0), none⟩,⟨some 2, .mv (.cst (.str ⟨#[]⟩)), none⟩,⟨some 3, .mv (.cst (.int .i64 0)), none⟩]
def ins_Print.k2 : LCode := .text [⟨some 10, .load true 6 (.tmp 1), none⟩,⟨some 11, .call (.cst (.fn (.func 31) [] [])) [.tmp 10, .cst (.int .i64 200)], none⟩,⟨some 12, .bin .neq .other (.tmp 11) (.cst (.int .i64 0)), none⟩]
def ins_Print.k3 : LCode := .text [⟨some 2, .mv (.cst (.str ⟨#[]⟩)), none⟩,⟨some 3, .mv (.cst (.int .i64 1)), none⟩]
def ins_Print.k4 : LCode := .seq ins_Print.k2 (.cond (.tmp 12) (.seq ins_Print.k3 .ret) .skip)
def ins_Print.k5 : LCode := .text [⟨some 14, .faddr 0 (.tmp 1), none⟩,⟨some 15, .load false 1 (.tmp 14), none⟩,⟨some 16, .call (.cst (.fn (.func 57) [] [])) [.tmp 15], none⟩,⟨some 13, .mv (.tmp 16), none⟩,⟨some 17, .extract (.tmp 13) 0, none⟩,⟨some 18, .extract (.tmp 13) 1, none⟩,⟨some 4, .alloc [.str ⟨#[]⟩, .str ⟨#[]⟩], none⟩,⟨none, .store 2 (.tmp 4) (.tmp 17), none⟩,⟨some 5, .mv (.tmp 18), none⟩]
def ins_Print.k6 : LCode := .text [⟨some 19, .faddr 0 (.tmp 4), none⟩,⟨some 20, .load false 1 (.tmp 19), none⟩,⟨some 6, .mv (.tmp 20), none⟩]
def ins_Print.k7 : LCode := .text [⟨some 21, .faddr 1 (.tmp 4), none⟩,⟨some 22, .load false 1 (.tmp 21), none⟩,⟨some 23, .range (.tmp 22), none⟩]
def ins_Print.k8 : LCode := .text [⟨some 24, .next (.tmp 23), none⟩,⟨some 25, .extract (.tmp 24) 0, none⟩]
def ins_Print.k9 : LCode := .text [⟨some 26, .extract (.tmp 24) 2, none⟩,⟨some 8, .mv (.tmp 26), none⟩]
def ins_Print.k10 : LCode := .text [⟨some 37, .bin .eql .other (.tmp 27) (.cst (.int .i32 78)), none⟩,⟨some 36, .mv (.tmp 37), none⟩]
def ins_Print.k11 : LCode := .text [⟨some 38, .faddr 4 (.tmp 1), none⟩,⟨some 39, .load false 1 (.tmp 38), none⟩,⟨some 40, .call (.cst (.fn (.func 75) [] [])) [.tmp 39], none⟩,⟨some 9, .mv (.tmp 40), none⟩]
def ins_Print.k12 : LCode := .text [⟨some 42, .bin .eql .other (.tmp 27) (.cst (.int .i32 84)), none⟩,⟨some 41, .mv (.tmp 42), none⟩]
def ins_Print.k13 : LCode := .text [⟨some 43, .faddr 5 (.tmp 1), none⟩,⟨some 44, .load false 1 (.tmp 43), none⟩,⟨some 45, .call (.cst (.fn (.func 75) [] [])) [.tmp 44], none⟩,⟨some 9, .mv (.tmp 45), none⟩]
def ins_Print.k14 : LCode := .text [⟨some 29, .mv (.tmp 8), none⟩,⟨some 30, .call (.cst (.fn (.func 59) [] [])) [.tmp 1, .tmp 29], none⟩,⟨some 31, .nilc (.tmp 30), none⟩,⟨some 32, .load false 1 (.tmp 31), none⟩,⟨some 33, .call (.cst (.fn (.func 76) [] [])) [.tmp 32], none⟩,⟨some 28, .mv (.tmp 33), none⟩,⟨some 34, .extract (.tmp 28) 0, none⟩,⟨some 35, .extract (.tmp 28) 1, none⟩,⟨some 9, .mv (.tmp 34), none⟩]
def ins_Print.k15 : LCode := .seq ins_Print.k12 (.cond (.tmp 41) ins_Print.k13 ins_Print.k14)
def ins_Print.k16 : LCode := .seq ins_Print.k10 (.cond (.tmp 36) ins_Print.k11 ins_Print.k15)
def ins_Print.k17 : LCode := .seq (.text [⟨some 27, .mv (.tmp 8), none⟩]) (.block 2 ins_Print.k16)
def ins_Print.k18 : LCode := .text [⟨some 46, .mv (.tmp 6), none⟩,⟨some 47, .mv (.tmp 9), none⟩,⟨some 48, .bin .add .other (.cst (.str ⟨#[32]⟩)) (.tmp 47), none⟩,⟨some 49, .bin .add .other (.tmp 46) (.tmp 48), none⟩,⟨some 6, .mv (.tmp 49), none⟩]
def ins_Print.k19 : LCode := .seq (.text [⟨some 9, .mv (.cst (.str ⟨#[]⟩)), none⟩]) (.seq ins_Print.k17 ins_Print.k18)
def ins_Print.k20 : LCode := .seq (.cond (.tmp 25) .skip (.exit 0)) (.block 1 (.seq ins_Print.k9 ins_Print.k19))
def ins_Print.k21 : LCode := .seq ins_Print.k7 (.block 0 (.loop (.seq ins_Print.k8 ins_Print.k20)))
def ins_Print.k22 : LCode := .text [⟨some 50, .mv (.tmp 6), none⟩,⟨some 2, .mv (.tmp 50), none⟩,⟨some 3, .mv (.cst (.int .i64 0)), none⟩]
def ins_Print.k23 : LCode := .seq ins_Print.k6 (.seq ins_Print.k21 (.seq ins_Print.k22 .ret))
def ins_Print.lc : LCode :=
 .seq ins_Print.k1 (.seq ins_Print.k4 (.seq ins_Print.k5 ins_Print.k23))
theorem ins_Print.low : lowFn Tryd.prog 55 = some (51, ins_Print.lc, [.tmp 2, .tmp 3]) := by kernel_rfl

def joinerylaw23_knows.k1 : LCode := .text [⟨some 11, .call (.cst (.fn (.func 19) [] [])) [.cst (.str ⟨#[114, 101, 116, 32, 114, 48, 10]⟩)], none⟩,⟨some 10, .mv (.tmp 11), none⟩,⟨some 12, .extract (.tmp 10) 0, none⟩,⟨some 13, .extract (.tmp 10) 1, none⟩,⟨some 14, .extract (.tmp 10) 2, none⟩,⟨some 1, .mv (.tmp 12), none⟩,⟨some 2, .mv (.tmp 13), none⟩,⟨some 3, .mv (.tmp 14), none⟩]
def joinerylaw23_knows.k2 : LCode := .text [⟨some 16, .mv (.tmp 1), none⟩,⟨some 17, .call (.cst (.fn (.func 9) [] [])) [.tmp 16], none⟩,⟨some 15, .mv (.tmp 17), none⟩,⟨some 18, .extract (.tmp 15) 0, none⟩,⟨some 19, .extract (.tmp 15) 1, none⟩,⟨some 4, .mv (.tmp 18), none⟩,⟨some 5, .mv (.tmp 19), none⟩]
def joinerylaw23_knows.k3 : LCode := .text [⟨some 21, .mv (.tmp 4), none⟩,⟨some 22, .call (.cst (.fn (.func 20) [] [])) [.tmp 21], none⟩,⟨some 20, .mv (.tmp 22), none⟩,⟨some 23, .extract (.tmp 20) 0, none⟩,⟨some 24, .extract (.tmp 20) 1, none⟩,⟨some 6, .mv (.tmp 23), none⟩,⟨some 7, .mv (.tmp 24), none⟩]
def joinerylaw23_knows.k4 : LCode := .text [⟨some 26, .mv (.tmp 1), none⟩,⟨some 27, .call (.cst (.fn (.func 21) [] [])) [.tmp 26, .cst (.int .i64 0)], none⟩,⟨some 25, .mv (.tmp 27), none⟩,⟨some 28, .extract (.tmp 25) 0, none⟩,⟨some 29, .extract (.tmp 25) 1, none⟩,⟨some 8, .mv (.tmp 28), none⟩,⟨some 9, .mv (.tmp 29), none⟩]
def joinerylaw23_knows.k5 : LCode := .text [⟨some 30, .mv (.tmp 3), none⟩,⟨some 31, .bin .eql .other (.tmp 30) (.cst (.int .i64 0)), none⟩,⟨some 32, .mv (.tmp 31), none⟩,⟨some 33, .mv (.tmp 5), some (32, true)⟩,⟨some 34, .bin .eql .other (.tmp 33) (.cst (.int .i64 0)), some (32, true)⟩,⟨some 35, .pick (.tmp 32) (.tmp 34) (.cst (.bool false)), none⟩,⟨some 36, .mv (.tmp 35), none⟩,⟨some 37, .mv (.tmp 6), some (36, true)⟩,⟨some 38, .bin .eql .other (.tmp 37) (.cst (.str ⟨#[109, 111, 118, 32, 115, 48, 32, 114, 48, 10, 109, 111, 118, 32, 115, 49, 32, 114, 49, 10, 109, 111, 118, 32, 115, 50, 32, 114, 50, 10, 109, 111, 118, 32, 115, 51, 32, 114, 51, 10, 109, 111, 118, 32, 115, 52, 32, 114, 52, 10, 109, 111, 118, 32, 115, 53, 32, 114, 53, 10, 109, 111, 118, 32, 115, 54, 32, 114, 54, 10, 109, 111, 118, 32, 115, 55, 32, 114, 55, 10, 109, 111, 118, 32, 114, 48, 32, 115, 48, 10, 114, 101, 116, 32, 114, 48, 10]⟩)), some (36, true)⟩,⟨some 39, .pick (.tmp 36) (.tmp 38) (.cst (.bool false)), none⟩,⟨some 40, .mv (.tmp 39), none⟩,⟨some 41, .mv (.tmp 7), some (40, true)⟩,⟨some 42, .bin .eql .other (.tmp 41) (.cst (.int .i64 0)), some (40, true)⟩,⟨some 43, .pick (.tmp 40) (.tmp 42) (.cst (.bool false)), none⟩,⟨some 44, .mv (.tmp 43), none⟩,⟨some 45, .mv (.tmp 8), some (44, true)⟩,⟨some 46, .len .slice (.tmp 45), some (44, true)⟩,⟨some 47, .bin .eql .other (.tmp 46) (.cst (.int .i64 2)), some (44, true)⟩,⟨some 48, .pick (.tmp 44) (.tmp 47) (.cst (.bool false)), none⟩,⟨some 49, .mv (.tmp 48), none⟩,⟨some 50, .mv (.tmp 8), some (49, true)⟩,⟨some 51, .iaddrS 6 (.tmp 50) (.cst (.int .i64 0)), some (49, true)⟩,⟨some 52, .load true 6 (.tmp 51), some (49, true)⟩,⟨some 53, .build [.int .i64 0, .int .i64 0, .int .i64 0, .int .i64 0, .int .i64 0, .int .i64 0] [(0, 1, .cst (.int .i64 16)), (5, 1, .cst (.int .i64 1))], some (49, true)⟩,⟨some 54, .bin .eql (.cells [.i, .i, .i, .i, .i, .i]) (.tmp 52) (.tmp 53), some (49, true)⟩,⟨some 55, .pick (.tmp 49) (.tmp 54) (.cst (.bool false)), none⟩,⟨some 56, .mv (.tmp 55), none⟩,⟨some 57, .mv (.tmp 9), some (56, true)⟩,⟨some 58, .bin .eql .other (.tmp 57) (.cst (.int .i64 0)), some (56, true)⟩,⟨some 59, .pick (.tmp 56) (.tmp 58) (.cst (.bool false)), none⟩,⟨some 0, .mv (.tmp 59), none⟩]
def joinerylaw23_knows.k6 : LCode := .seq joinerylaw23_knows.k4 (.seq joinerylaw23_knows.k5 .ret)
def joinerylaw23_knows.k7 : LCode := .seq joinerylaw23_knows.k2 (.seq joinerylaw23_knows.k3 joinerylaw23_knows.k6)
def joinerylaw23_knows.lc : LCode :=
 .seq (.text [⟨some 0, .mv (.cst (.bool false)), none⟩]) (.seq joinerylaw23_knows.k1 joinerylaw23_knows.k7)
theorem joinerylaw23_knows.low : lowFn Tryd.prog 8 = some (60, joinerylaw23_knows.lc, [.tmp 0]) := by kernel_rfl

def alloc_move.k1 : LCode := .text [⟨some 4, .alloc [.int .i64 0, .int .i64 0, .int .i64 0, .int .i64 0, .int .i64 0, .int .i64 0], none⟩]
def alloc_move.k2 : LCode := .text [⟨some 5, .mv (.tmp 0), none⟩,⟨some 6, .mv (.tmp 1), none⟩,⟨some 7, .build [.int .i64 0, .int .i64 0, .int .i64 0, .int .i64 0, .int .i64 0, .int .i64 0] [(0, 1, .cst (.int .i64 2)), (1, 1, .tmp 5), (2, 1, .tmp 6)], none⟩,⟨none, .store 6 (.tmp 4) (.tmp 7), none⟩]
def alloc_move.lc : LCode :=
 .seq alloc_move.k1 (.seq alloc_move.k2 .ret)
theorem alloc_move.low : lowFn Tryd.prog 24 = some (8, alloc_move.lc, [.cell 4 true 6]) := by kernel_rfl

def ins_Sets.k1 : LCode := .text [⟨some 1, .box (.tmp 0), none⟩,⟨some 2, .mv (.cst (.int .i64 0)), none⟩,⟨some 3, .mv (.cst (.bool false)), none⟩]
def ins_Sets.k2 : LCode := .text [⟨some 4, .faddr 0 (.tmp 1), none⟩,⟨some 5, .load false 1 (.tmp 4), none⟩,⟨some 6, .bin .geq .other (.tmp 5) (.cst (.int .i64 4)), none⟩,⟨some 7, .mv (.tmp 6), none⟩,⟨some 8, .faddr 0 (.tmp 1), some (7, true)⟩,⟨some 9, .load false 1 (.tmp 8), some (7, true)⟩,⟨some 10, .bin .leq .other (.tmp 9) (.cst (.int .i64 15)), some (7, true)⟩,⟨some 11, .pick (.tmp 7) (.tmp 10) (.cst (.bool false)), none⟩,⟨some 12, .mv (.tmp 11), none⟩,⟨some 13, .faddr 0 (.tmp 1), some (12, true)⟩,⟨some 14, .load false 1 (.tmp 13), some (12, true)⟩,⟨some 15, .bin .neq .other (.tmp 14) (.cst (.int .i64 14)), some (12, true)⟩,⟨some 16, .pick (.tmp 12) (.tmp 15) (.cst (.bool false)), none⟩]
def ins_Sets.k3 : LCode := .text [⟨some 17, .faddr 1 (.tmp 1), none⟩,⟨some 18, .load false 1 (.tmp 17), none⟩,⟨some 2, .mv (.tmp 18), none⟩,⟨some 3, .mv (.cst (.bool true)), none⟩]
def ins_Sets.k4 : LCode := .seq ins_Sets.k2 (.cond (.tmp 16) (.seq ins_Sets.k3 .ret) .skip)
def ins_Sets.k5 : LCode := .text [⟨some 2, .mv (.cst (.int .i64 0)), none⟩,⟨some 3, .mv (.cst (.bool false)), none⟩]
def ins_Sets.lc : LCode :=
 .seq ins_Sets.k1 (.seq ins_Sets.k4 (.seq ins_Sets.k5 .ret))
theorem ins_Sets.low : lowFn Tryd.prog 56 = some (19, ins_Sets.lc, [.tmp 2, .tmp 3]) := by kernel_rfl

def ins_Moves.k1 : LCode := .text [⟨some 1, .box (.tmp 0), none⟩,⟨some 2, .mv (.cst (.bool false)), none⟩]
def ins_Moves.k2 : LCode := .text [⟨some 3, .faddr 0 (.tmp 1), none⟩,⟨some 4, .load false 1 (.tmp 3), none⟩,⟨some 5, .bin .eql .other (.tmp 4) (.cst (.int .i64 1)), none⟩,⟨some 6, .mv (.tmp 5), none⟩,⟨some 7, .faddr 0 (.tmp 1), some (6, false)⟩,⟨some 8, .load false 1 (.tmp 7), some (6, false)⟩,⟨some 9, .bin .eql .other (.tmp 8) (.cst (.int .i64 2)), some (6, false)⟩,⟨some 10, .pick (.tmp 6) (.cst (.bool true)) (.tmp 9), none⟩,⟨some 11, .mv (.tmp 10), none⟩,⟨some 12, .faddr 0 (.tmp 1), some (11, false)⟩,⟨some 13, .load false 1 (.tmp 12), some (11, false)⟩,⟨some 14, .bin .eql .other (.tmp 13) (.cst (.int .i64 3)), some (11, false)⟩,⟨some 15, .pick (.tmp 11) (.cst (.bool true)) (.tmp 14), none⟩,⟨some 16, .mv (.tmp 15), none⟩,⟨some 17, .faddr 0 (.tmp 1), some (16, false)⟩,⟨some 18, .load false 1 (.tmp 17), some (16, false)⟩,⟨some 19, .bin .eql .other (.tmp 18) (.cst (.int .i64 16)), some (16, false)⟩,⟨some 20, .pick (.tmp 16) (.cst (.bool true)) (.tmp 19), none⟩,⟨some 2, .mv (.tmp 20), none⟩]
def ins_Moves.lc : LCode :=
 .seq ins_Moves.k1 (.seq ins_Moves.k2 .ret)
theorem ins_Moves.low : lowFn Tryd.prog 72 = some (21, ins_Moves.lc, [.tmp 2]) := by kernel_rfl

def alloc_Spill.k1 : LCode := .text [⟨some 2, .mv (.cst (.imm (.slice none 0 0))), none⟩,⟨some 3, .mv (.cst (.int .i64 0)), none⟩]
def alloc_Spill.k2 : LCode := .text [⟨some 16, .mv (.tmp 0), none⟩,⟨some 17, .call (.cst (.fn (.func 10) [] [])) [.tmp 16], none⟩,⟨some 18, .not (.tmp 17), none⟩]
def alloc_Spill.k3 : LCode := .text [⟨some 2, .mv (.cst (.imm (.slice none 0 0))), none⟩,⟨some 3, .mv (.cst (.int .i64 1)), none⟩]
def alloc_Spill.k4 : LCode := .seq alloc_Spill.k2 (.cond (.tmp 18) (.seq alloc_Spill.k3 .ret) .skip)
def alloc_Spill.k5 : LCode := .text [⟨some 19, .mv (.tmp 0), none⟩,⟨some 20, .call (.cst (.fn (.func 22) [] [])) [.tmp 19], none⟩,⟨some 21, .mv (.cst (.int .i64 0)), none⟩]
def alloc_Spill.k6 : LCode := .text [⟨some 22, .bin .lss .other (.tmp 21) (.cst (.int .i64 24)), none⟩]
def alloc_Spill.k7 : LCode := .text [⟨some 23, .mv (.tmp 21), none⟩,⟨some 24, .idxA 24 false 1 (.tmp 20) (.tmp 21), none⟩,⟨some 4, .mv (.tmp 23), none⟩,⟨some 5, .mv (.tmp 24), none⟩]
def alloc_Spill.k8 : LCode := .text [⟨some 25, .mv (.tmp 5), none⟩,⟨some 26, .not (.tmp 25), none⟩,⟨some 27, .mv (.tmp 26), none⟩,⟨some 28, .mv (.tmp 4), some (27, true)⟩,⟨some 29, .call (.cst (.fn (.func 23) [] [])) [.tmp 28], some (27, true)⟩,⟨some 30, .not (.tmp 29), some (27, true)⟩,⟨some 31, .pick (.tmp 27) (.tmp 30) (.cst (.bool false)), none⟩]
def alloc_Spill.k9 : LCode := .text [⟨some 2, .mv (.cst (.imm (.slice none 0 0))), none⟩,⟨some 3, .mv (.cst (.int .i64 6)), none⟩]
def alloc_Spill.k10 : LCode := .seq alloc_Spill.k8 (.cond (.tmp 31) (.seq alloc_Spill.k9 .ret) .skip)
def alloc_Spill.k11 : LCode := .text [⟨some 32, .bin .add .other (.tmp 21) (.cst (.int .i64 1)), none⟩,⟨some 21, .mv (.tmp 32), none⟩]
def alloc_Spill.k12 : LCode := .seq (.block 1 (.seq alloc_Spill.k7 alloc_Spill.k10)) alloc_Spill.k11
def alloc_Spill.k13 : LCode := .seq alloc_Spill.k6 (.seq (.cond (.tmp 22) .skip (.exit 0)) alloc_Spill.k12)
def alloc_Spill.k14 : LCode := .text [⟨some 34, .bin .lss .other (.tmp 33) (.cst (.int .i64 8)), none⟩]
def alloc_Spill.k15 : LCode := .text [⟨some 35, .mv (.tmp 33), none⟩,⟨some 8, .mv (.tmp 35), none⟩]
def alloc_Spill.k16 : LCode := .text [⟨some 36, .mv (.tmp 6), none⟩,⟨some 37, .mv (.tmp 8), none⟩,⟨some 38, .bin .add .other (.cst (.int .i64 8)) (.tmp 37), none⟩,⟨some 39, .mv (.tmp 8), none⟩,⟨some 40, .call (.cst (.fn (.func 24) [] [])) [.tmp 38, .tmp 39], none⟩,⟨some 41, .bslice 6 [.int .i64 0, .int .i64 0, .int .i64 0, .int .i64 0, .int .i64 0, .int .i64 0] 1 [(0, .tmp 40)], none⟩,⟨some 42, .append 6 48 (.tmp 36) (.tmp 41), none⟩,⟨some 6, .mv (.tmp 42), none⟩]
def alloc_Spill.k17 : LCode := .text [⟨some 43, .bin .add .other (.tmp 33) (.cst (.int .i64 1)), none⟩,⟨some 33, .mv (.tmp 43), none⟩]
def alloc_Spill.k18 : LCode := .seq (.block 3 (.seq alloc_Spill.k15 alloc_Spill.k16)) alloc_Spill.k17
def alloc_Spill.k19 : LCode := .seq alloc_Spill.k14 (.seq (.cond (.tmp 34) .skip (.exit 2)) alloc_Spill.k18)
def alloc_Spill.k20 : LCode := .seq (.text [⟨some 33, .mv (.cst (.int .i64 0)), none⟩]) (.block 2 (.loop alloc_Spill.k19))
def alloc_Spill.k21 : LCode := .text [⟨some 44, .mv (.tmp 0), none⟩,⟨some 45, .len .slice (.tmp 44), none⟩,⟨some 46, .mv (.cst (.int .i64 0)), none⟩]
def alloc_Spill.k22 : LCode := .text [⟨some 47, .bin .lss .other (.tmp 46) (.tmp 45), none⟩]
def alloc_Spill.k23 : LCode := .text [⟨some 48, .iaddrS 6 (.tmp 44) (.tmp 46), none⟩,⟨some 49, .load true 6 (.tmp 48), none⟩,⟨some 10, .alloc [.int .i64 0, .int .i64 0, .int .i64 0, .int .i64 0, .int .i64 0, .int .i64 0], none⟩,⟨none, .store 6 (.tmp 10) (.tmp 49), none⟩]
def alloc_Spill.k24 : LCode := .text [⟨some 50, .mv (.tmp 7), none⟩,⟨some 51, .mv (.tmp 6), none⟩,⟨some 52, .len .slice (.tmp 51), none⟩,⟨some 53, .bslice 1 [.int .i64 0] 1 [(0, .tmp 52)], none⟩,⟨some 54, .append 1 8 (.tmp 50) (.tmp 53), none⟩,⟨some 7, .mv (.tmp 54), none⟩]
def alloc_Spill.k25 : LCode := .text [⟨some 55, .load true 6 (.tmp 10), none⟩,⟨some 56, .call (.cst (.fn (.func 26) [] [])) [.tmp 55], none⟩,⟨some 57, .call (.cst (.fn (.func 25) [] [])) [.tmp 56], none⟩,⟨some 58, .len .slice (.tmp 57), none⟩,⟨some 59, .mv (.cst (.int .i64 0)), none⟩]
def alloc_Spill.k26 : LCode := .text [⟨some 60, .bin .lss .other (.tmp 59) (.tmp 58), none⟩]
def alloc_Spill.k27 : LCode := .text [⟨some 61, .iaddrS 1 (.tmp 57) (.tmp 59), none⟩,⟨some 62, .load false 1 (.tmp 61), none⟩,⟨some 12, .mv (.tmp 62), none⟩]
def alloc_Spill.k28 : LCode := .text [⟨some 63, .mv (.tmp 6), none⟩,⟨some 64, .mv (.tmp 12), none⟩,⟨some 65, .mv (.tmp 12), none⟩,⟨some 66, .bin .add .other (.cst (.int .i64 8)) (.tmp 65), none⟩,⟨some 67, .call (.cst (.fn (.func 24) [] [])) [.tmp 64, .tmp 66], none⟩,⟨some 68, .bslice 6 [.int .i64 0, .int .i64 0, .int .i64 0, .int .i64 0, .int .i64 0, .int .i64 0] 1 [(0, .tmp 67)], none⟩,⟨some 69, .append 6 48 (.tmp 63) (.tmp 68), none⟩,⟨some 6, .mv (.tmp 69), none⟩]
def alloc_Spill.k29 : LCode := .text [⟨some 70, .bin .add .other (.tmp 59) (.cst (.int .i64 1)), none⟩,⟨some 59, .mv (.tmp 70), none⟩]
def alloc_Spill.k30 : LCode := .seq (.block 7 (.seq alloc_Spill.k27 alloc_Spill.k28)) alloc_Spill.k29
def alloc_Spill.k31 : LCode := .seq alloc_Spill.k26 (.seq (.cond (.tmp 60) .skip (.exit 6)) alloc_Spill.k30)
def alloc_Spill.k32 : LCode := .text [⟨some 71, .mv (.tmp 6), none⟩,⟨some 72, .load true 6 (.tmp 10), none⟩,⟨some 73, .bslice 6 [.int .i64 0, .int .i64 0, .int .i64 0, .int .i64 0, .int .i64 0, .int .i64 0] 1 [(0, .tmp 72)], none⟩,⟨some 74, .append 6 48 (.tmp 71) (.tmp 73), none⟩,⟨some 6, .mv (.tmp 74), none⟩]
def alloc_Spill.k33 : LCode := .text [⟨some 75, .load true 6 (.tmp 10), none⟩,⟨some 76, .call (.cst (.fn (.func 27) [] [])) [.tmp 75], none⟩,⟨some 77, .call (.cst (.fn (.func 25) [] [])) [.tmp 76], none⟩,⟨some 78, .len .slice (.tmp 77), none⟩,⟨some 79, .mv (.cst (.int .i64 0)), none⟩]
def alloc_Spill.k34 : LCode := .text [⟨some 80, .bin .lss .other (.tmp 79) (.tmp 78), none⟩]
def alloc_Spill.k35 : LCode := .text [⟨some 81, .iaddrS 1 (.tmp 77) (.tmp 79), none⟩,⟨some 82, .load false 1 (.tmp 81), none⟩,⟨some 14, .mv (.tmp 82), none⟩]
def alloc_Spill.k36 : LCode := .text [⟨some 83, .mv (.tmp 6), none⟩,⟨some 84, .mv (.tmp 14), none⟩,⟨some 85, .bin .add .other (.cst (.int .i64 8)) (.tmp 84), none⟩,⟨some 86, .mv (.tmp 14), none⟩,⟨some 87, .call (.cst (.fn (.func 24) [] [])) [.tmp 85, .tmp 86], none⟩,⟨some 88, .bslice 6 [.int .i64 0, .int .i64 0, .int .i64 0, .int .i64 0, .int .i64 0, .int .i64 0] 1 [(0, .tmp 87)], none⟩,⟨some 89, .append 6 48 (.tmp 83) (.tmp 88), none⟩,⟨some 6, .mv (.tmp 89), none⟩]
def alloc_Spill.k37 : LCode := .text [⟨some 90, .bin .add .other (.tmp 79) (.cst (.int .i64 1)), none⟩,⟨some 79, .mv (.tmp 90), none⟩]
def alloc_Spill.k38 : LCode := .seq (.block 9 (.seq alloc_Spill.k35 alloc_Spill.k36)) alloc_Spill.k37
def alloc_Spill.k39 : LCode := .seq alloc_Spill.k34 (.seq (.cond (.tmp 80) .skip (.exit 8)) alloc_Spill.k38)
def alloc_Spill.k40 : LCode := .seq alloc_Spill.k32 (.seq alloc_Spill.k33 (.block 8 (.loop alloc_Spill.k39)))
def alloc_Spill.k41 : LCode := .seq (.seq alloc_Spill.k25 (.block 6 (.loop alloc_Spill.k31))) alloc_Spill.k40
def alloc_Spill.k42 : LCode := .block 5 (.seq alloc_Spill.k23 (.seq alloc_Spill.k24 alloc_Spill.k41))
def alloc_Spill.k43 : LCode := .text [⟨some 91, .bin .add .other (.tmp 46) (.cst (.int .i64 1)), none⟩,⟨some 46, .mv (.tmp 91), none⟩]
def alloc_Spill.k44 : LCode := .seq (.cond (.tmp 47) .skip (.exit 4)) (.seq alloc_Spill.k42 alloc_Spill.k43)
def alloc_Spill.k45 : LCode := .seq alloc_Spill.k21 (.block 4 (.loop (.seq alloc_Spill.k22 alloc_Spill.k44)))
def alloc_Spill.k46 : LCode := .text [⟨some 92, .mv (.tmp 6), none⟩,⟨some 93, .len .slice (.tmp 92), none⟩,⟨some 94, .bin .gtr .other (.tmp 93) (.cst (.int .i64 200)), none⟩]
def alloc_Spill.k47 : LCode := .text [⟨some 2, .mv (.cst (.imm (.slice none 0 0))), none⟩,⟨some 3, .mv (.cst (.int .i64 3)), none⟩]
def alloc_Spill.k48 : LCode := .seq alloc_Spill.k46 (.cond (.tmp 94) (.seq alloc_Spill.k47 .ret) .skip)
def alloc_Spill.k49 : LCode := .text [⟨some 95, .mv (.tmp 6), none⟩,⟨some 96, .len .slice (.tmp 95), none⟩,⟨some 97, .mv (.cst (.int .i64 0)), none⟩]
def alloc_Spill.k50 : LCode := .text [⟨some 98, .bin .lss .other (.tmp 97) (.tmp 96), none⟩]
def alloc_Spill.k51 : LCode := .text [⟨some 99, .mv (.tmp 97), none⟩,⟨some 15, .mv (.tmp 99), none⟩]
def alloc_Spill.k52 : LCode := .text [⟨some 100, .mv (.tmp 6), none⟩,⟨some 101, .mv (.tmp 15), none⟩,⟨some 102, .iaddrS 6 (.tmp 100) (.tmp 101), none⟩,⟨some 103, .faddr 0 (.tmp 102), none⟩,⟨some 104, .load false 1 (.tmp 103), none⟩,⟨some 105, .bin .eql .other (.tmp 104) (.cst (.int .i64 16)), none⟩,⟨some 106, .mv (.tmp 105), none⟩,⟨some 107, .mv (.tmp 6), some (106, false)⟩,⟨some 108, .mv (.tmp 15), some (106, false)⟩,⟨some 109, .iaddrS 6 (.tmp 107) (.tmp 108), some (106, false)⟩,⟨some 110, .faddr 0 (.tmp 109), some (106, false)⟩,⟨some 111, .load false 1 (.tmp 110), some (106, false)⟩,⟨some 112, .bin .eql .other (.tmp 111) (.cst (.int .i64 17)), some (106, false)⟩,⟨some 113, .pick (.tmp 106) (.cst (.bool true)) (.tmp 112), none⟩]
def alloc_Spill.k53 : LCode := .text [⟨some 114, .mv (.tmp 6), none⟩,⟨some 115, .mv (.tmp 15), none⟩,⟨some 116, .mv (.tmp 7), none⟩,⟨some 117, .mv (.tmp 6), none⟩,⟨some 118, .mv (.tmp 15), none⟩,⟨some 119, .iaddrS 6 (.tmp 117) (.tmp 118), none⟩,⟨some 120, .faddr 5 (.tmp 119), none⟩,⟨some 121, .load false 1 (.tmp 120), none⟩,⟨some 122, .iaddrS 1 (.tmp 116) (.tmp 121), none⟩,⟨some 123, .load false 1 (.tmp 122), none⟩,⟨some 124, .iaddrS 6 (.tmp 114) (.tmp 115), none⟩,⟨some 125, .faddr 5 (.tmp 124), none⟩,⟨none, .store 1 (.tmp 125) (.tmp 123), none⟩]
def alloc_Spill.k54 : LCode := .seq alloc_Spill.k52 (.cond (.tmp 113) alloc_Spill.k53 .skip)
def alloc_Spill.k55 : LCode := .text [⟨some 126, .bin .add .other (.tmp 97) (.cst (.int .i64 1)), none⟩,⟨some 97, .mv (.tmp 126), none⟩]
def alloc_Spill.k56 : LCode := .seq (.block 11 (.seq alloc_Spill.k51 alloc_Spill.k54)) alloc_Spill.k55
def alloc_Spill.k57 : LCode := .seq alloc_Spill.k50 (.seq (.cond (.tmp 98) .skip (.exit 10)) alloc_Spill.k56)
def alloc_Spill.k58 : LCode := .text [⟨some 127, .mv (.tmp 6), none⟩,⟨some 2, .mv (.tmp 127), none⟩,⟨some 3, .mv (.cst (.int .i64 0)), none⟩]
def alloc_Spill.k59 : LCode := .seq (.seq alloc_Spill.k49 (.block 10 (.loop alloc_Spill.k57))) (.seq alloc_Spill.k58 .ret)
def alloc_Spill.k60 : LCode := .seq alloc_Spill.k20 (.seq alloc_Spill.k45 (.seq alloc_Spill.k48 alloc_Spill.k59))
def alloc_Spill.k61 : LCode := .seq (.text [⟨some 7, .mv (.cst (.imm (.slice none 0 0))), none⟩]) alloc_Spill.k60
def alloc_Spill.k62 : LCode := .seq (.text [⟨some 6, .mv (.cst (.imm (.slice none 0 0))), none⟩]) alloc_Spill.k61
def alloc_Spill.k63 : LCode := .seq (.seq alloc_Spill.k5 (.block 0 (.loop alloc_Spill.k13))) alloc_Spill.k62
def alloc_Spill.lc : LCode :=
 .seq alloc_Spill.k1 (.seq alloc_Spill.k4 alloc_Spill.k63)
theorem alloc_Spill.low : lowFn Tryd.prog 9 = some (128, alloc_Spill.lc, [.tmp 2, .tmp 3]) := by kernel_rfl

def alloc_once.k1 : LCode := .any true [⟨some 3, .mv (.tmp 0), none⟩,⟨some 4, .len .slice (.tmp 3), none⟩,⟨some 5, .bin .eql .other (.tmp 4) (.cst (.int .i64 2)), none⟩,⟨some 6, .mv (.tmp 5), none⟩,⟨some 7, .mv (.tmp 0), some (6, true)⟩,⟨some 8, .iaddrS 1 (.tmp 7) (.cst (.int .i64 0)), some (6, true)⟩,⟨some 9, .load false 1 (.tmp 8), some (6, true)⟩,⟨some 10, .mv (.tmp 0), some (6, true)⟩,⟨some 11, .iaddrS 1 (.tmp 10) (.cst (.int .i64 1)), some (6, true)⟩,⟨some 12, .load false 1 (.tmp 11), some (6, true)⟩,⟨some 13, .bin .eql .other (.tmp 9) (.tmp 12), some (6, true)⟩,⟨some 14, .pick (.tmp 6) (.tmp 13) (.cst (.bool false)), none⟩] (.both .no .no)
def alloc_once.k2 : LCode := .text [⟨some 15, .mv (.tmp 0), none⟩,⟨some 16, .slice 1 (.tmp 15) none (some (.cst (.int .i64 1))) none, none⟩,⟨some 2, .mv (.tmp 16), none⟩]
def alloc_once.k3 : LCode := .seq alloc_once.k1 (.cond (.tmp 14) (.seq alloc_once.k2 .ret) .skip)
def alloc_once.k4 : LCode := .text [⟨some 17, .mv (.tmp 0), none⟩,⟨some 2, .mv (.tmp 17), none⟩]
def alloc_once.lc : LCode :=
 .seq (.text [⟨some 2, .mv (.cst (.imm (.slice none 0 0))), none⟩]) (.seq alloc_once.k3 (.seq alloc_once.k4 .ret))
theorem alloc_once.low : lowFn Tryd.prog 25 = some (18, alloc_once.lc, [.tmp 2]) := by kernel_rfl

def ins_of.k1 : LCode := .text [⟨some 2, .alloc [.str ⟨#[]⟩, .str ⟨#[]⟩], none⟩,⟨some 3, .mv (.cst (.bool false)), none⟩]
def ins_of.k2 : LCode := .text [⟨some 4, .mv (.tmp 0), none⟩,⟨some 5, .bin .lss .other (.tmp 4) (.cst (.int .i64 1)), none⟩,⟨some 6, .mv (.tmp 5), none⟩,⟨some 7, .mv (.tmp 0), some (6, false)⟩,⟨some 8, .bin .gtr .other (.tmp 7) (.cst (.int .i64 18)), some (6, false)⟩,⟨some 9, .pick (.tmp 6) (.cst (.bool true)) (.tmp 8), none⟩]
def ins_of.k3 : LCode := .text [⟨some 10, .build [.str ⟨#[]⟩, .str ⟨#[]⟩] [], none⟩,⟨none, .store 2 (.tmp 2) (.tmp 10), none⟩,⟨some 3, .mv (.cst (.bool false)), none⟩]
def ins_of.k4 : LCode := .text [⟨some 11, .mv (.tmp 0), none⟩,⟨some 12, .bin .sub .other (.tmp 11) (.cst (.int .i64 1)), none⟩,⟨some 13, .iaddrA 18 2 (.cst (.lptr (shapeTbl.flatMap fun p => [.str p.1, .str p.2]) 0)) (.tmp 12), none⟩,⟨some 14, .load true 2 (.tmp 13), none⟩,⟨none, .store 2 (.tmp 2) (.tmp 14), none⟩,⟨some 3, .mv (.cst (.bool true)), none⟩]
def ins_of.k5 : LCode := .seq (.seq ins_of.k2 (.cond (.tmp 9) (.seq ins_of.k3 .ret) .skip)) (.seq ins_of.k4 .ret)
def ins_of.lc : LCode :=
 .seq ins_of.k1 ins_of.k5
theorem ins_of.low : lowFn Tryd.prog 57 = some (15, ins_of.lc, [.cell 2 true 2, .tmp 3]) := by kernel_rfl

def ins_words.k1 : LCode := .text [⟨some 7, .mv (.tmp 0), none⟩,⟨some 8, .range (.tmp 7), none⟩]
def ins_words.k2 : LCode := .text [⟨some 9, .next (.tmp 8), none⟩,⟨some 10, .extract (.tmp 9) 0, none⟩]
def ins_words.k3 : LCode := .text [⟨some 11, .extract (.tmp 9) 1, none⟩,⟨some 12, .extract (.tmp 9) 2, none⟩,⟨some 5, .mv (.tmp 11), none⟩,⟨some 6, .mv (.tmp 12), none⟩]
def ins_words.k4 : LCode := .text [⟨some 13, .mv (.tmp 6), none⟩,⟨some 14, .bin .eql .other (.tmp 13) (.cst (.int .i32 32)), none⟩]
def ins_words.k5 : LCode := .text [⟨some 15, .mv (.tmp 3), none⟩,⟨some 16, .mv (.tmp 0), none⟩,⟨some 17, .mv (.tmp 4), none⟩,⟨some 18, .mv (.tmp 5), none⟩,⟨some 19, .sliceS (.tmp 16) (some (.tmp 17)) (some (.tmp 18)), none⟩,⟨some 20, .bslice 1 [.str ⟨#[]⟩] 1 [(0, .tmp 19)], none⟩,⟨some 21, .append 1 16 (.tmp 15) (.tmp 20), none⟩,⟨some 3, .mv (.tmp 21), none⟩]
def ins_words.k6 : LCode := .text [⟨some 22, .mv (.tmp 5), none⟩,⟨some 23, .bin .add .other (.tmp 22) (.cst (.int .i64 1)), none⟩,⟨some 4, .mv (.tmp 23), none⟩]
def ins_words.k7 : LCode := .seq ins_words.k4 (.cond (.tmp 14) (.seq ins_words.k5 ins_words.k6) .skip)
def ins_words.k8 : LCode := .seq (.cond (.tmp 10) .skip (.exit 0)) (.block 1 (.seq ins_words.k3 ins_words.k7))
def ins_words.k9 : LCode := .seq ins_words.k1 (.block 0 (.loop (.seq ins_words.k2 ins_words.k8)))
def ins_words.k10 : LCode := .text [⟨some 24, .mv (.tmp 3), none⟩,⟨some 25, .mv (.tmp 0), none⟩,⟨some 26, .mv (.tmp 4), none⟩,⟨some 27, .sliceS (.tmp 25) (some (.tmp 26)) none, none⟩,⟨some 28, .bslice 1 [.str ⟨#[]⟩] 1 [(0, .tmp 27)], none⟩,⟨some 29, .append 1 16 (.tmp 24) (.tmp 28), none⟩,⟨some 2, .mv (.tmp 29), none⟩]
def ins_words.k11 : LCode := .seq (.text [⟨some 4, .mv (.cst (.int .i64 0)), none⟩]) (.seq ins_words.k9 (.seq ins_words.k10 .ret))
def ins_words.k12 : LCode := .seq (.text [⟨some 3, .mv (.cst (.imm (.slice none 0 0))), none⟩]) ins_words.k11
def ins_words.lc : LCode :=
 .seq (.text [⟨some 2, .mv (.cst (.imm (.slice none 0 0))), none⟩]) ins_words.k12
theorem ins_words.low : lowFn Tryd.prog 73 = some (30, ins_words.lc, [.tmp 2]) := by kernel_rfl

def asm_Right.k1 : LCode := .text [⟨some 6, .mv (.tmp 0), none⟩,⟨some 7, .call (.cst (.fn (.func 28) [] [])) [.tmp 6], none⟩,⟨some 5, .mv (.tmp 7), none⟩,⟨some 8, .extract (.tmp 5) 0, none⟩,⟨some 9, .extract (.tmp 5) 1, none⟩,⟨some 3, .mv (.tmp 8), none⟩,⟨some 4, .mv (.tmp 9), none⟩]
def asm_Right.k2 : LCode := .text [⟨some 10, .mv (.tmp 4), none⟩,⟨some 11, .bin .eql .other (.tmp 10) (.cst (.int .i64 0)), none⟩,⟨some 2, .mv (.tmp 11), none⟩]
def asm_Right.lc : LCode :=
 .seq (.text [⟨some 2, .mv (.cst (.bool false)), none⟩]) (.seq asm_Right.k1 (.seq asm_Right.k2 .ret))
theorem asm_Right.low : lowFn Tryd.prog 10 = some (12, asm_Right.lc, [.tmp 2]) := by kernel_rfl

def alloc_needs.k1 : LCode := .text [⟨some 1, .box (.tmp 0), none⟩,⟨some 2, .mv (.cst (.imm (.slice none 0 0))), none⟩]
def alloc_needs.k2 : LCode := .text [⟨some 4, .faddr 0 (.tmp 1), none⟩,⟨some 5, .load false 1 (.tmp 4), none⟩,⟨some 6, .bin .eql .other (.tmp 5) (.cst (.int .i64 2)), none⟩,⟨some 3, .mv (.tmp 6), none⟩]
def alloc_needs.k3 : LCode := .text [⟨some 7, .faddr 2 (.tmp 1), none⟩,⟨some 8, .load false 1 (.tmp 7), none⟩,⟨some 9, .bslice 1 [.int .i64 0] 1 [(0, .tmp 8)], none⟩,⟨some 2, .mv (.tmp 9), none⟩]
def alloc_needs.k4 : LCode := .text [⟨some 11, .faddr 0 (.tmp 1), none⟩,⟨some 12, .load false 1 (.tmp 11), none⟩,⟨some 13, .bin .eql .other (.tmp 12) (.cst (.int .i64 3)), none⟩,⟨some 10, .mv (.tmp 13), none⟩]
def alloc_needs.k5 : LCode := .text [⟨some 14, .faddr 1 (.tmp 1), none⟩,⟨some 15, .load false 1 (.tmp 14), none⟩,⟨some 16, .faddr 2 (.tmp 1), none⟩,⟨some 17, .load false 1 (.tmp 16), none⟩,⟨some 18, .bslice 1 [.int .i64 0] 2 [(0, .tmp 15), (1, .tmp 17)], none⟩,⟨some 2, .mv (.tmp 18), none⟩]
def alloc_needs.k6 : LCode := .seq alloc_needs.k4 (.cond (.tmp 10) (.seq alloc_needs.k5 .ret) .skip)
def alloc_needs.k7 : LCode := .seq alloc_needs.k2 (.cond (.tmp 3) (.seq alloc_needs.k3 .ret) alloc_needs.k6)
def alloc_needs.k8 : LCode := .text [⟨some 19, .load true 6 (.tmp 1), none⟩,⟨some 20, .call (.cst (.fn (.func 48) [] [])) [.tmp 19], none⟩,⟨some 2, .mv (.tmp 20), none⟩]
def alloc_needs.lc : LCode :=
 .seq alloc_needs.k1 (.seq (.block 0 alloc_needs.k7) (.seq alloc_needs.k8 .ret))
theorem alloc_needs.low : lowFn Tryd.prog 26 = some (21, alloc_needs.lc, [.tmp 2]) := by kernel_rfl

def ins_rest.k1 : LCode := .text [⟨some 2, .box (.tmp 0), none⟩,⟨some 3, .box (.tmp 1), none⟩,⟨some 4, .alloc [.int .i64 0, .int .i64 0, .int .i64 0, .int .i64 0, .int .i64 0, .int .i64 0], none⟩]
def ins_rest.k2 : LCode := .text [⟨some 7, .faddr 0 (.tmp 2), none⟩,⟨none, .store 1 (.tmp 7) (.cst (.int .i64 0)), none⟩]
def ins_rest.k3 : LCode := .text [⟨some 8, .faddr 1 (.tmp 3), none⟩,⟨some 9, .load false 1 (.tmp 8), none⟩,⟨some 10, .range (.tmp 9), none⟩]
def ins_rest.k4 : LCode := .text [⟨some 11, .next (.tmp 10), none⟩,⟨some 12, .extract (.tmp 11) 0, none⟩]
def ins_rest.k5 : LCode := .text [⟨some 13, .extract (.tmp 11) 2, none⟩,⟨some 6, .mv (.tmp 13), none⟩]
def ins_rest.k6 : LCode := .text [⟨some 19, .bin .eql .other (.tmp 14) (.cst (.int .i32 78)), none⟩,⟨some 18, .mv (.tmp 19), none⟩]
def ins_rest.k7 : LCode := .text [⟨some 20, .faddr 4 (.tmp 2), none⟩,⟨none, .store 1 (.tmp 20) (.cst (.int .i64 0)), none⟩]
def ins_rest.k8 : LCode := .text [⟨some 22, .bin .eql .other (.tmp 14) (.cst (.int .i32 84)), none⟩,⟨some 21, .mv (.tmp 22), none⟩]
def ins_rest.k9 : LCode := .text [⟨some 23, .faddr 5 (.tmp 2), none⟩,⟨none, .store 1 (.tmp 23) (.cst (.int .i64 0)), none⟩]
def ins_rest.k10 : LCode := .text [⟨some 15, .mv (.tmp 6), none⟩,⟨some 16, .call (.cst (.fn (.func 59) [] [])) [.tmp 2, .tmp 15], none⟩,⟨some 17, .nilc (.tmp 16), none⟩,⟨none, .store 1 (.tmp 17) (.cst (.int .i64 0)), none⟩]
def ins_rest.k11 : LCode := .cond (.tmp 18) ins_rest.k7 (.seq ins_rest.k8 (.cond (.tmp 21) ins_rest.k9 ins_rest.k10))
def ins_rest.k12 : LCode := .seq (.text [⟨some 14, .mv (.tmp 6), none⟩]) (.block 2 (.seq ins_rest.k6 ins_rest.k11))
def ins_rest.k13 : LCode := .seq (.cond (.tmp 12) .skip (.exit 0)) (.block 1 (.seq ins_rest.k5 ins_rest.k12))
def ins_rest.k14 : LCode := .seq ins_rest.k3 (.block 0 (.loop (.seq ins_rest.k4 ins_rest.k13)))
def ins_rest.k15 : LCode := .text [⟨some 24, .load true 6 (.tmp 2), none⟩,⟨none, .store 6 (.tmp 4) (.tmp 24), none⟩]
def ins_rest.k16 : LCode := .seq ins_rest.k2 (.seq ins_rest.k14 (.seq ins_rest.k15 .ret))
def ins_rest.lc : LCode :=
 .seq ins_rest.k1 ins_rest.k16
theorem ins_rest.low : lowFn Tryd.prog 58 = some (25, ins_rest.lc, [.cell 4 true 6]) := by kernel_rfl

def ins_fill.k1 : LCode := .text [⟨some 13, .bin .eql .other (.tmp 11) (.cst (.int .i32 78)), none⟩,⟨some 12, .mv (.tmp 13), none⟩]
def ins_fill.k2 : LCode := .text [⟨some 14, .bin .eql .other (.tmp 11) (.cst (.int .i32 84)), none⟩,⟨some 12, .mv (.tmp 14), none⟩]
def ins_fill.k3 : LCode := .text [⟨some 16, .mv (.tmp 2), none⟩,⟨some 17, .call (.cst (.fn (.func 82) [] [])) [.tmp 16], none⟩,⟨some 15, .mv (.tmp 17), none⟩,⟨some 18, .extract (.tmp 15) 0, none⟩,⟨some 19, .extract (.tmp 15) 1, none⟩,⟨some 7, .mv (.tmp 18), none⟩,⟨some 8, .mv (.tmp 19), none⟩]
def ins_fill.k4 : LCode := .text [⟨some 20, .mv (.tmp 1), none⟩,⟨some 21, .bin .eql .other (.tmp 20) (.cst (.int .i32 78)), none⟩]
def ins_fill.k5 : LCode := .text [⟨some 22, .mv (.tmp 0), none⟩,⟨some 23, .mv (.tmp 7), none⟩,⟨some 24, .nilc (.tmp 22), none⟩,⟨some 25, .faddr 4 (.tmp 24), none⟩,⟨none, .store 1 (.tmp 25) (.tmp 23), none⟩]
def ins_fill.k6 : LCode := .text [⟨some 26, .mv (.tmp 0), none⟩,⟨some 27, .mv (.tmp 7), none⟩,⟨some 28, .nilc (.tmp 26), none⟩,⟨some 29, .faddr 5 (.tmp 28), none⟩,⟨none, .store 1 (.tmp 29) (.tmp 27), none⟩]
def ins_fill.k7 : LCode := .text [⟨some 30, .mv (.tmp 8), none⟩,⟨some 6, .mv (.tmp 30), none⟩]
def ins_fill.k8 : LCode := .seq (.seq ins_fill.k4 (.cond (.tmp 21) ins_fill.k5 ins_fill.k6)) (.seq ins_fill.k7 .ret)
def ins_fill.k9 : LCode := .seq (.seq ins_fill.k1 (.cond (.tmp 12) .skip ins_fill.k2)) (.cond (.tmp 12) (.seq ins_fill.k3 ins_fill.k8) .skip)
def ins_fill.k10 : LCode := .seq (.text [⟨some 11, .mv (.tmp 1), none⟩]) (.block 0 ins_fill.k9)
def ins_fill.k11 : LCode := .text [⟨some 32, .mv (.tmp 2), none⟩,⟨some 33, .call (.cst (.fn (.func 83) [] [])) [.tmp 32], none⟩,⟨some 31, .mv (.tmp 33), none⟩,⟨some 34, .extract (.tmp 31) 0, none⟩,⟨some 35, .extract (.tmp 31) 1, none⟩,⟨some 9, .mv (.tmp 34), none⟩,⟨some 10, .mv (.tmp 35), none⟩]
def ins_fill.k12 : LCode := .text [⟨some 36, .mv (.tmp 0), none⟩,⟨some 37, .mv (.tmp 1), none⟩,⟨some 38, .call (.cst (.fn (.func 59) [] [])) [.tmp 36, .tmp 37], none⟩,⟨some 39, .mv (.tmp 9), none⟩,⟨some 40, .nilc (.tmp 38), none⟩,⟨none, .store 1 (.tmp 40) (.tmp 39), none⟩]
def ins_fill.k13 : LCode := .text [⟨some 41, .mv (.tmp 10), none⟩,⟨some 6, .mv (.tmp 41), none⟩]
def ins_fill.k14 : LCode := .seq ins_fill.k11 (.seq ins_fill.k12 (.seq ins_fill.k13 .ret))
def ins_fill.lc : LCode :=
 .seq (.text [⟨some 6, .mv (.cst (.int .i64 0)), none⟩]) (.seq ins_fill.k10 ins_fill.k14)
theorem ins_fill.low : lowFn Tryd.prog 74 = some (42, ins_fill.lc, [.tmp 6]) := by kernel_rfl

def alloc_Put.k1 : LCode := .text [⟨some 6, .mv (.cst (.imm (.slice none 0 0))), none⟩,⟨some 7, .mv (.cst (.int .i64 0)), none⟩]
def alloc_Put.k2 : LCode := .text [⟨some 10, .mv (.tmp 0), none⟩,⟨some 11, .mv (.tmp 1), none⟩,⟨some 12, .call (.cst (.fn (.func 29) [] [])) [.tmp 10, .tmp 11], none⟩,⟨some 13, .not (.tmp 12), none⟩]
def alloc_Put.k3 : LCode := .text [⟨some 6, .mv (.cst (.imm (.slice none 0 0))), none⟩,⟨some 7, .mv (.cst (.int .i64 1)), none⟩]
def alloc_Put.k4 : LCode := .seq alloc_Put.k2 (.cond (.tmp 13) (.seq alloc_Put.k3 .ret) .skip)
def alloc_Put.k5 : LCode := .text [⟨some 14, .mv (.tmp 2), none⟩,⟨some 15, .len .slice (.tmp 14), none⟩,⟨some 16, .mv (.cst (.int .i64 0)), none⟩]
def alloc_Put.k6 : LCode := .text [⟨some 17, .bin .lss .other (.tmp 16) (.tmp 15), none⟩]
def alloc_Put.k7 : LCode := .text [⟨some 18, .iaddrS 6 (.tmp 14) (.tmp 16), none⟩,⟨some 19, .load true 6 (.tmp 18), none⟩,⟨some 9, .alloc [.int .i64 0, .int .i64 0, .int .i64 0, .int .i64 0, .int .i64 0, .int .i64 0], none⟩,⟨none, .store 6 (.tmp 9) (.tmp 19), none⟩]
def alloc_Put.k8 : LCode := .text [⟨some 20, .load true 6 (.tmp 9), none⟩,⟨some 21, .call (.cst (.fn (.func 30) [] [])) [.tmp 20], none⟩,⟨some 22, .mv (.tmp 21), none⟩,⟨some 23, .load true 6 (.tmp 9), some (22, false)⟩,⟨some 24, .mv (.tmp 0), some (22, false)⟩,⟨some 25, .len .slice (.tmp 24), some (22, false)⟩,⟨some 26, .call (.cst (.fn (.func 31) [] [])) [.tmp 23, .tmp 25], some (22, false)⟩,⟨some 27, .bin .neq .other (.tmp 26) (.cst (.int .i64 0)), some (22, false)⟩,⟨some 28, .pick (.tmp 22) (.cst (.bool true)) (.tmp 27), none⟩]
def alloc_Put.k9 : LCode := .text [⟨some 6, .mv (.cst (.imm (.slice none 0 0))), none⟩,⟨some 7, .mv (.cst (.int .i64 1)), none⟩]
def alloc_Put.k10 : LCode := .seq alloc_Put.k8 (.cond (.tmp 28) (.seq alloc_Put.k9 .ret) .skip)
def alloc_Put.k11 : LCode := .text [⟨some 29, .bin .add .other (.tmp 16) (.cst (.int .i64 1)), none⟩,⟨some 16, .mv (.tmp 29), none⟩]
def alloc_Put.k12 : LCode := .seq (.block 1 (.seq alloc_Put.k7 alloc_Put.k10)) alloc_Put.k11
def alloc_Put.k13 : LCode := .seq alloc_Put.k6 (.seq (.cond (.tmp 17) .skip (.exit 0)) alloc_Put.k12)
def alloc_Put.k14 : LCode := .text [⟨some 30, .mv (.tmp 0), none⟩,⟨some 31, .mv (.tmp 1), none⟩,⟨some 32, .mv (.tmp 2), none⟩,⟨some 33, .call (.cst (.fn (.func 32) [] [])) [.tmp 30, .tmp 31, .tmp 32], none⟩,⟨some 34, .extract (.tmp 33) 0, none⟩,⟨some 35, .extract (.tmp 33) 1, none⟩,⟨some 6, .mv (.tmp 34), none⟩,⟨some 7, .mv (.tmp 35), none⟩]
def alloc_Put.k15 : LCode := .seq (.seq alloc_Put.k5 (.block 0 (.loop alloc_Put.k13))) (.seq alloc_Put.k14 .ret)
def alloc_Put.lc : LCode :=
 .seq alloc_Put.k1 (.seq alloc_Put.k4 alloc_Put.k15)
theorem alloc_Put.low : lowFn Tryd.prog 11 = some (36, alloc_Put.lc, [.tmp 6, .tmp 7]) := by kernel_rfl

def alloc_gets.k1 : LCode := .text [⟨some 1, .box (.tmp 0), none⟩,⟨some 2, .mv (.cst (.imm (.slice none 0 0))), none⟩]
def alloc_gets.k2 : LCode := .text [⟨some 5, .faddr 0 (.tmp 1), none⟩,⟨some 6, .load false 1 (.tmp 5), none⟩,⟨some 7, .bin .eql .other (.tmp 6) (.cst (.int .i64 1)), none⟩,⟨some 8, .mv (.tmp 7), none⟩,⟨some 9, .faddr 0 (.tmp 1), some (8, false)⟩,⟨some 10, .load false 1 (.tmp 9), some (8, false)⟩,⟨some 11, .bin .eql .other (.tmp 10) (.cst (.int .i64 2)), some (8, false)⟩,⟨some 12, .pick (.tmp 8) (.cst (.bool true)) (.tmp 11), none⟩,⟨some 13, .mv (.tmp 12), none⟩,⟨some 14, .faddr 0 (.tmp 1), some (13, false)⟩,⟨some 15, .load false 1 (.tmp 14), some (13, false)⟩,⟨some 16, .bin .eql .other (.tmp 15) (.cst (.int .i64 3)), some (13, false)⟩,⟨some 17, .pick (.tmp 13) (.cst (.bool true)) (.tmp 16), none⟩]
def alloc_gets.k3 : LCode := .any true [⟨some 18, .load true 6 (.tmp 1), none⟩,⟨some 19, .call (.cst (.fn (.func 38) [] [])) [.tmp 18], none⟩,⟨some 20, .faddr 0 (.tmp 1), none⟩,⟨some 21, .load false 1 (.tmp 20), none⟩,⟨some 22, .bin .quo .other (.tmp 21) (.cst (.int .i64 3)), none⟩,⟨some 23, .bin .add .other (.cst (.int .i64 1)) (.tmp 22), none⟩,⟨some 24, .slice 1 (.tmp 19) none (some (.tmp 23)) none, none⟩,⟨some 2, .mv (.tmp 24), none⟩] (.both (.take 2 (.all [(0, .all [(1, .all [(3, .take 4 (.take 5 (.take 6 (.take 7 .done))))]), (3, .take 4 (.take 5 (.all [(1, .take 6 (.take 7 .done))])))]), (3, .take 4 (.take 5 (.all [(0, .all [(1, .take 6 (.take 7 .done))])])))])) (.front 0 (.front 1 (.front 2 (.front 3 (.front 4 (.front 5 (.front 6 (.front 7 .done)))))))))
def alloc_gets.k4 : LCode := .seq alloc_gets.k2 (.cond (.tmp 17) (.seq alloc_gets.k3 .ret) .skip)
def alloc_gets.k5 : LCode := .text [⟨some 26, .load true 6 (.tmp 1), none⟩,⟨some 27, .call (.cst (.fn (.func 56) [] [])) [.tmp 26], none⟩,⟨some 25, .mv (.tmp 27), none⟩,⟨some 28, .extract (.tmp 25) 0, none⟩,⟨some 29, .extract (.tmp 25) 1, none⟩,⟨some 3, .mv (.tmp 28), none⟩,⟨some 4, .mv (.tmp 29), none⟩]
def alloc_gets.k6 : LCode := .text [⟨some 31, .mv (.tmp 3), none⟩,⟨some 32, .bslice 1 [.int .i64 0] 1 [(0, .tmp 31)], none⟩,⟨some 2, .mv (.tmp 32), none⟩]
def alloc_gets.k7 : LCode := .seq (.text [⟨some 30, .mv (.tmp 4), none⟩]) (.cond (.tmp 30) (.seq alloc_gets.k6 .ret) .skip)
def alloc_gets.k8 : LCode := .seq (.text [⟨some 2, .mv (.cst (.imm (.slice none 0 0))), none⟩]) .ret
def alloc_gets.k9 : LCode := .seq alloc_gets.k4 (.seq (.seq alloc_gets.k5 alloc_gets.k7) alloc_gets.k8)
def alloc_gets.lc : LCode :=
 .seq alloc_gets.k1 alloc_gets.k9
theorem alloc_gets.low : lowFn Tryd.prog 27 = some (33, alloc_gets.lc, [.tmp 2]) := by kernel_rfl

def ins_field.k1 : LCode := .text [⟨some 7, .bin .eql .other (.tmp 5) (.cst (.int .i32 68)), none⟩,⟨some 6, .mv (.tmp 7), none⟩]
def ins_field.k2 : LCode := .text [⟨some 8, .bin .eql .other (.tmp 5) (.cst (.int .i32 100)), none⟩,⟨some 6, .mv (.tmp 8), none⟩]
def ins_field.k3 : LCode := .text [⟨some 9, .mv (.tmp 0), none⟩,⟨some 10, .nilc (.tmp 9), none⟩,⟨some 11, .faddr 1 (.tmp 10), none⟩,⟨some 4, .mv (.tmp 11), none⟩]
def ins_field.k4 : LCode := .text [⟨some 13, .bin .eql .other (.tmp 5) (.cst (.int .i32 65)), none⟩,⟨some 12, .mv (.tmp 13), none⟩]
def ins_field.k5 : LCode := .text [⟨some 14, .bin .eql .other (.tmp 5) (.cst (.int .i32 97)), none⟩,⟨some 12, .mv (.tmp 14), none⟩]
def ins_field.k6 : LCode := .text [⟨some 15, .mv (.tmp 0), none⟩,⟨some 16, .nilc (.tmp 15), none⟩,⟨some 17, .faddr 2 (.tmp 16), none⟩,⟨some 4, .mv (.tmp 17), none⟩]
def ins_field.k7 : LCode := .seq (.seq ins_field.k4 (.cond (.tmp 12) .skip ins_field.k5)) (.cond (.tmp 12) (.seq ins_field.k6 .ret) .skip)
def ins_field.k8 : LCode := .seq (.seq ins_field.k1 (.cond (.tmp 6) .skip ins_field.k2)) (.cond (.tmp 6) (.seq ins_field.k3 .ret) ins_field.k7)
def ins_field.k9 : LCode := .seq (.text [⟨some 5, .mv (.tmp 1), none⟩]) (.block 0 ins_field.k8)
def ins_field.k10 : LCode := .text [⟨some 18, .mv (.tmp 0), none⟩,⟨some 19, .nilc (.tmp 18), none⟩,⟨some 20, .faddr 3 (.tmp 19), none⟩,⟨some 4, .mv (.tmp 20), none⟩]
def ins_field.lc : LCode :=
 .seq (.text [⟨some 4, .mv (.cst (.imm (.pointer none))), none⟩]) (.seq ins_field.k9 (.seq ins_field.k10 .ret))
theorem ins_field.low : lowFn Tryd.prog 59 = some (21, ins_field.lc, [.tmp 4]) := by kernel_rfl

def num_Text.k1 : LCode := .text [⟨some 9, .mv (.tmp 0), none⟩,⟨some 10, .toInt .u64 (.tmp 9), none⟩,⟨some 3, .mv (.tmp 10), none⟩]
def num_Text.k2 : LCode := .text [⟨some 11, .mv (.tmp 0), none⟩,⟨some 12, .bin .lss .other (.tmp 11) (.cst (.int .i64 0)), none⟩]
def num_Text.k3 : LCode := .text [⟨some 13, .mv (.tmp 3), none⟩,⟨some 14, .neg (.tmp 13), none⟩,⟨some 3, .mv (.tmp 14), none⟩]
def num_Text.k4 : LCode := .seq (.text [⟨some 15, .mv (.tmp 5), none⟩]) (.cond (.tmp 15) .skip (.exit 0))
def num_Text.k5 : LCode := .text [⟨some 18, .mv (.tmp 4), none⟩,⟨some 19, .mv (.tmp 3), none⟩,⟨some 20, .bin .rem .other (.tmp 19) (.cst (.int .u64 10)), none⟩,⟨some 21, .bin .add .other (.cst (.int .u64 48)) (.tmp 20), none⟩,⟨some 22, .toInt .u8 (.tmp 21), none⟩,⟨some 23, .bslice 1 [.int .u8 0] 1 [(0, .tmp 22)], none⟩,⟨some 24, .append 1 1 (.tmp 18) (.tmp 23), none⟩,⟨some 4, .mv (.tmp 24), none⟩]
def num_Text.k6 : LCode := .text [⟨some 25, .mv (.tmp 3), none⟩,⟨some 26, .bin .quo .other (.tmp 25) (.cst (.int .u64 10)), none⟩,⟨some 3, .mv (.tmp 26), none⟩]
def num_Text.k7 : LCode := .text [⟨some 16, .mv (.tmp 3), none⟩,⟨some 17, .bin .gtr .other (.tmp 16) (.cst (.int .u64 0)), none⟩,⟨some 5, .mv (.tmp 17), none⟩]
def num_Text.k8 : LCode := .seq num_Text.k4 (.seq (.block 1 (.seq num_Text.k5 num_Text.k6)) num_Text.k7)
def num_Text.k9 : LCode := .seq (.text [⟨some 5, .mv (.cst (.bool true)), none⟩]) (.block 0 (.loop num_Text.k8))
def num_Text.k10 : LCode := .text [⟨some 27, .mv (.tmp 0), none⟩,⟨some 28, .bin .lss .other (.tmp 27) (.cst (.int .i64 0)), none⟩]
def num_Text.k11 : LCode := .text [⟨some 29, .mv (.tmp 4), none⟩,⟨some 30, .bslice 1 [.int .u8 0] 1 [(0, .cst (.int .u8 45))], none⟩,⟨some 31, .append 1 1 (.tmp 29) (.tmp 30), none⟩,⟨some 4, .mv (.tmp 31), none⟩]
def num_Text.k12 : LCode := .text [⟨some 32, .mv (.tmp 4), none⟩,⟨some 33, .len .slice (.tmp 32), none⟩,⟨some 34, .mkSlice 1 1 [.int .u8 0] (.tmp 33) (.tmp 33), none⟩,⟨some 6, .mv (.tmp 34), none⟩]
def num_Text.k13 : LCode := .text [⟨some 35, .mv (.tmp 4), none⟩,⟨some 36, .len .slice (.tmp 35), none⟩,⟨some 37, .mv (.cst (.int .i64 0)), none⟩]
def num_Text.k14 : LCode := .text [⟨some 38, .bin .lss .other (.tmp 37) (.tmp 36), none⟩]
def num_Text.k15 : LCode := .text [⟨some 39, .mv (.tmp 37), none⟩,⟨some 40, .iaddrS 1 (.tmp 35) (.tmp 37), none⟩,⟨some 41, .load false 1 (.tmp 40), none⟩,⟨some 7, .mv (.tmp 39), none⟩,⟨some 8, .mv (.tmp 41), none⟩]
def num_Text.k16 : LCode := .text [⟨some 42, .mv (.tmp 6), none⟩,⟨some 43, .mv (.tmp 4), none⟩,⟨some 44, .len .slice (.tmp 43), none⟩,⟨some 45, .bin .sub .other (.tmp 44) (.cst (.int .i64 1)), none⟩,⟨some 46, .mv (.tmp 7), none⟩,⟨some 47, .bin .sub .other (.tmp 45) (.tmp 46), none⟩,⟨some 48, .mv (.tmp 8), none⟩,⟨some 49, .iaddrS 1 (.tmp 42) (.tmp 47), none⟩,⟨none, .store 1 (.tmp 49) (.tmp 48), none⟩]
def num_Text.k17 : LCode := .text [⟨some 50, .bin .add .other (.tmp 37) (.cst (.int .i64 1)), none⟩,⟨some 37, .mv (.tmp 50), none⟩]
def num_Text.k18 : LCode := .seq (.block 3 (.seq num_Text.k15 num_Text.k16)) num_Text.k17
def num_Text.k19 : LCode := .seq num_Text.k14 (.seq (.cond (.tmp 38) .skip (.exit 2)) num_Text.k18)
def num_Text.k20 : LCode := .text [⟨some 51, .mv (.tmp 6), none⟩,⟨some 52, .toStr (.tmp 51), none⟩,⟨some 2, .mv (.tmp 52), none⟩]
def num_Text.k21 : LCode := .seq (.seq num_Text.k13 (.block 2 (.loop num_Text.k19))) (.seq num_Text.k20 .ret)
def num_Text.k22 : LCode := .seq (.seq num_Text.k10 (.cond (.tmp 28) num_Text.k11 .skip)) (.seq num_Text.k12 num_Text.k21)
def num_Text.k23 : LCode := .seq (.seq num_Text.k2 (.cond (.tmp 12) num_Text.k3 .skip)) (.seq num_Text.k9 num_Text.k22)
def num_Text.k24 : LCode := .seq (.text [⟨some 4, .mv (.cst (.imm (.slice none 0 0))), none⟩]) num_Text.k23
def num_Text.lc : LCode :=
 .seq (.text [⟨some 2, .mv (.cst (.str ⟨#[]⟩)), none⟩]) (.seq num_Text.k1 num_Text.k24)
theorem num_Text.low : lowFn Tryd.prog 75 = some (53, num_Text.lc, [.tmp 2]) := by kernel_rfl

def joineryref23_Put.k1 : LCode := .text [⟨some 6, .mv (.cst (.imm (.slice none 0 0))), none⟩,⟨some 7, .mv (.cst (.int .i64 0)), none⟩]
def joineryref23_Put.k2 : LCode := .text [⟨some 9, .mv (.tmp 0), none⟩,⟨some 10, .mv (.tmp 1), none⟩,⟨some 11, .call (.cst (.fn (.func 33) [] [])) [.tmp 9, .tmp 10], none⟩,⟨some 12, .not (.tmp 11), none⟩]
def joineryref23_Put.k3 : LCode := .text [⟨some 6, .mv (.cst (.imm (.slice none 0 0))), none⟩,⟨some 7, .mv (.cst (.int .i64 1)), none⟩]
def joineryref23_Put.k4 : LCode := .seq joineryref23_Put.k2 (.cond (.tmp 12) (.seq joineryref23_Put.k3 .ret) .skip)
def joineryref23_Put.k5 : LCode := .text [⟨some 13, .mv (.tmp 8), none⟩,⟨some 14, .mv (.tmp 2), none⟩,⟨some 15, .len .slice (.tmp 14), none⟩,⟨some 16, .bin .lss .other (.tmp 13) (.tmp 15), none⟩]
def joineryref23_Put.k6 : LCode := .text [⟨some 19, .mv (.tmp 2), none⟩,⟨some 20, .mv (.tmp 8), none⟩,⟨some 21, .iaddrS 6 (.tmp 19) (.tmp 20), none⟩,⟨some 22, .faddr 0 (.tmp 21), none⟩,⟨some 23, .load false 1 (.tmp 22), none⟩,⟨some 24, .bin .gtr .other (.tmp 23) (.cst (.int .i64 15)), none⟩,⟨some 25, .mv (.tmp 24), none⟩,⟨some 26, .mv (.tmp 2), some (25, false)⟩,⟨some 27, .mv (.tmp 8), some (25, false)⟩,⟨some 28, .iaddrS 6 (.tmp 26) (.tmp 27), some (25, false)⟩,⟨some 29, .load true 6 (.tmp 28), some (25, false)⟩,⟨some 30, .mv (.tmp 0), some (25, false)⟩,⟨some 31, .len .slice (.tmp 30), some (25, false)⟩,⟨some 32, .call (.cst (.fn (.func 34) [] [])) [.tmp 29, .tmp 31], some (25, false)⟩,⟨some 33, .bin .neq .other (.tmp 32) (.cst (.int .i64 0)), some (25, false)⟩,⟨some 34, .pick (.tmp 25) (.cst (.bool true)) (.tmp 33), none⟩]
def joineryref23_Put.k7 : LCode := .text [⟨some 6, .mv (.cst (.imm (.slice none 0 0))), none⟩,⟨some 7, .mv (.cst (.int .i64 1)), none⟩]
def joineryref23_Put.k8 : LCode := .seq joineryref23_Put.k6 (.cond (.tmp 34) (.seq joineryref23_Put.k7 .ret) .skip)
def joineryref23_Put.k9 : LCode := .text [⟨some 17, .mv (.tmp 8), none⟩,⟨some 18, .bin .add .other (.tmp 17) (.cst (.int .i64 1)), none⟩,⟨some 8, .mv (.tmp 18), none⟩]
def joineryref23_Put.k10 : LCode := .seq (.seq joineryref23_Put.k5 (.cond (.tmp 16) .skip (.exit 0))) (.seq (.block 1 joineryref23_Put.k8) joineryref23_Put.k9)
def joineryref23_Put.k11 : LCode := .seq (.text [⟨some 8, .mv (.cst (.int .i64 0)), none⟩]) (.block 0 (.loop joineryref23_Put.k10))
def joineryref23_Put.k12 : LCode := .text [⟨some 35, .mv (.tmp 0), none⟩,⟨some 36, .mv (.tmp 1), none⟩,⟨some 37, .mv (.tmp 2), none⟩,⟨some 38, .call (.cst (.fn (.func 35) [] [])) [.tmp 35, .tmp 36, .tmp 37], none⟩,⟨some 39, .extract (.tmp 38) 0, none⟩,⟨some 40, .extract (.tmp 38) 1, none⟩,⟨some 6, .mv (.tmp 39), none⟩,⟨some 7, .mv (.tmp 40), none⟩]
def joineryref23_Put.k13 : LCode := .seq joineryref23_Put.k4 (.seq joineryref23_Put.k11 (.seq joineryref23_Put.k12 .ret))
def joineryref23_Put.lc : LCode :=
 .seq joineryref23_Put.k1 joineryref23_Put.k13
theorem joineryref23_Put.low : lowFn Tryd.prog 12 = some (41, joineryref23_Put.lc, [.tmp 6, .tmp 7]) := by kernel_rfl

def asm_Check.k1 : LCode := .text [⟨some 2, .mv (.cst (.int .i64 0)), none⟩,⟨some 3, .mv (.cst (.int .i64 0)), none⟩]
def asm_Check.k2 : LCode := .text [⟨some 9, .mv (.tmp 0), none⟩,⟨some 10, .len .slice (.tmp 9), none⟩,⟨some 11, .bin .gtr .other (.tmp 10) (.cst (.int .i64 200)), none⟩,⟨some 8, .mv (.tmp 11), none⟩]
def asm_Check.k3 : LCode := .text [⟨some 2, .mv (.cst (.int .i64 0)), none⟩,⟨some 3, .mv (.cst (.int .i64 3)), none⟩]
def asm_Check.k4 : LCode := .text [⟨some 13, .mv (.tmp 0), none⟩,⟨some 14, .len .slice (.tmp 13), none⟩,⟨some 15, .bin .eql .other (.tmp 14) (.cst (.int .i64 0)), none⟩,⟨some 12, .mv (.tmp 15), none⟩]
def asm_Check.k5 : LCode := .text [⟨some 2, .mv (.cst (.int .i64 0)), none⟩,⟨some 3, .mv (.cst (.int .i64 5)), none⟩]
def asm_Check.k6 : LCode := .seq asm_Check.k4 (.cond (.tmp 12) (.seq asm_Check.k5 .ret) .skip)
def asm_Check.k7 : LCode := .seq asm_Check.k2 (.cond (.tmp 8) (.seq asm_Check.k3 .ret) asm_Check.k6)
def asm_Check.k8 : LCode := .text [⟨some 16, .mv (.tmp 0), none⟩,⟨some 17, .len .slice (.tmp 16), none⟩,⟨some 18, .mv (.cst (.int .i64 0)), none⟩]
def asm_Check.k9 : LCode := .text [⟨some 19, .bin .lss .other (.tmp 18) (.tmp 17), none⟩]
def asm_Check.k10 : LCode := .text [⟨some 20, .mv (.tmp 18), none⟩,⟨some 21, .iaddrS 6 (.tmp 16) (.tmp 18), none⟩,⟨some 22, .load true 6 (.tmp 21), none⟩,⟨some 5, .alloc [.int .i64 0, .int .i64 0, .int .i64 0, .int .i64 0, .int .i64 0, .int .i64 0], none⟩,⟨some 4, .mv (.tmp 20), none⟩,⟨none, .store 6 (.tmp 5) (.tmp 22), none⟩]
def asm_Check.k11 : LCode := .text [⟨some 23, .load true 6 (.tmp 5), none⟩,⟨some 24, .mv (.tmp 0), none⟩,⟨some 25, .len .slice (.tmp 24), none⟩,⟨some 26, .call (.cst (.fn (.func 31) [] [])) [.tmp 23, .tmp 25], none⟩,⟨some 6, .mv (.tmp 26), none⟩]
def asm_Check.k12 : LCode := .text [⟨some 27, .mv (.tmp 6), none⟩,⟨some 28, .bin .neq .other (.tmp 27) (.cst (.int .i64 0)), none⟩]
def asm_Check.k13 : LCode := .text [⟨some 29, .mv (.tmp 4), none⟩,⟨some 30, .mv (.tmp 6), none⟩,⟨some 2, .mv (.tmp 29), none⟩,⟨some 3, .mv (.tmp 30), none⟩]
def asm_Check.k14 : LCode := .seq asm_Check.k12 (.cond (.tmp 28) (.seq asm_Check.k13 .ret) .skip)
def asm_Check.k15 : LCode := .block 2 (.seq asm_Check.k10 (.seq asm_Check.k11 asm_Check.k14))
def asm_Check.k16 : LCode := .text [⟨some 31, .bin .add .other (.tmp 18) (.cst (.int .i64 1)), none⟩,⟨some 18, .mv (.tmp 31), none⟩]
def asm_Check.k17 : LCode := .seq (.cond (.tmp 19) .skip (.exit 1)) (.seq asm_Check.k15 asm_Check.k16)
def asm_Check.k18 : LCode := .seq asm_Check.k8 (.block 1 (.loop (.seq asm_Check.k9 asm_Check.k17)))
def asm_Check.k19 : LCode := .text [⟨some 32, .mv (.tmp 0), none⟩,⟨some 33, .len .slice (.tmp 32), none⟩,⟨some 34, .bin .sub .other (.tmp 33) (.cst (.int .i64 1)), none⟩,⟨some 7, .mv (.tmp 34), none⟩]
def asm_Check.k20 : LCode := .text [⟨some 35, .mv (.tmp 0), none⟩,⟨some 36, .mv (.tmp 7), none⟩,⟨some 37, .iaddrS 6 (.tmp 35) (.tmp 36), none⟩,⟨some 38, .faddr 0 (.tmp 37), none⟩,⟨some 39, .load false 1 (.tmp 38), none⟩,⟨some 40, .bin .neq .other (.tmp 39) (.cst (.int .i64 16)), none⟩,⟨some 41, .mv (.tmp 40), none⟩,⟨some 42, .mv (.tmp 0), some (41, true)⟩,⟨some 43, .mv (.tmp 7), some (41, true)⟩,⟨some 44, .iaddrS 6 (.tmp 42) (.tmp 43), some (41, true)⟩,⟨some 45, .faddr 0 (.tmp 44), some (41, true)⟩,⟨some 46, .load false 1 (.tmp 45), some (41, true)⟩,⟨some 47, .bin .neq .other (.tmp 46) (.cst (.int .i64 18)), some (41, true)⟩,⟨some 48, .pick (.tmp 41) (.tmp 47) (.cst (.bool false)), none⟩]
def asm_Check.k21 : LCode := .text [⟨some 49, .mv (.tmp 7), none⟩,⟨some 2, .mv (.tmp 49), none⟩,⟨some 3, .mv (.cst (.int .i64 5)), none⟩]
def asm_Check.k22 : LCode := .seq asm_Check.k20 (.cond (.tmp 48) (.seq asm_Check.k21 .ret) .skip)
def asm_Check.k23 : LCode := .text [⟨some 2, .mv (.cst (.int .i64 0)), none⟩,⟨some 3, .mv (.cst (.int .i64 0)), none⟩]
def asm_Check.k24 : LCode := .seq (.seq asm_Check.k19 asm_Check.k22) (.seq asm_Check.k23 .ret)
def asm_Check.k25 : LCode := .seq (.block 0 asm_Check.k7) (.seq asm_Check.k18 asm_Check.k24)
def asm_Check.lc : LCode :=
 .seq asm_Check.k1 asm_Check.k25
theorem asm_Check.low : lowFn Tryd.prog 28 = some (50, asm_Check.lc, [.tmp 2, .tmp 3]) := by kernel_rfl

def alloc_put_1.k1 : LCode := .text [⟨some 7, .mv (.tmp 0), none⟩,⟨some 8, .len .slice (.tmp 7), none⟩,⟨some 9, .mv (.cst (.int .i64 0)), none⟩]
def alloc_put_1.k2 : LCode := .text [⟨some 11, .iaddrS 6 (.tmp 7) (.tmp 9), none⟩,⟨some 12, .load true 6 (.tmp 11), none⟩,⟨some 6, .alloc [.int .i64 0, .int .i64 0, .int .i64 0, .int .i64 0, .int .i64 0, .int .i64 0], none⟩,⟨none, .store 6 (.tmp 6) (.tmp 12), none⟩]
def alloc_put_1.k3 : LCode := .text [⟨some 13, .faddr 0 (.tmp 6), none⟩,⟨some 14, .load false 1 (.tmp 13), none⟩,⟨some 15, .bin .eql .other (.tmp 14) (.cst (.int .i64 16)), none⟩,⟨some 16, .mv (.tmp 15), none⟩,⟨some 17, .faddr 0 (.tmp 6), some (16, false)⟩,⟨some 18, .load false 1 (.tmp 17), some (16, false)⟩,⟨some 19, .bin .eql .other (.tmp 18) (.cst (.int .i64 17)), some (16, false)⟩,⟨some 20, .pick (.tmp 16) (.cst (.bool true)) (.tmp 19), none⟩,⟨some 21, .mv (.tmp 20), none⟩,⟨some 22, .faddr 5 (.tmp 6), some (21, true)⟩,⟨some 23, .load false 1 (.tmp 22), some (21, true)⟩,⟨some 24, .load false 1 (.tmp 1), some (21, true)⟩,⟨some 25, .bin .gtr .other (.tmp 23) (.tmp 24), some (21, true)⟩,⟨some 26, .pick (.tmp 21) (.tmp 25) (.cst (.bool false)), none⟩]
def alloc_put_1.k4 : LCode := .text [⟨some 27, .faddr 5 (.tmp 6), none⟩,⟨some 28, .load false 1 (.tmp 27), none⟩,⟨some 29, .load false 1 (.tmp 2), none⟩,⟨some 30, .len .slice (.tmp 29), none⟩,⟨some 31, .bin .add .other (.tmp 28) (.tmp 30), none⟩,⟨some 32, .faddr 5 (.tmp 6), none⟩,⟨none, .store 1 (.tmp 32) (.tmp 31), none⟩]
def alloc_put_1.k5 : LCode := .text [⟨some 33, .load false 1 (.tmp 3), none⟩,⟨some 34, .load true 6 (.tmp 6), none⟩,⟨some 35, .bslice 6 [.int .i64 0, .int .i64 0, .int .i64 0, .int .i64 0, .int .i64 0, .int .i64 0] 1 [(0, .tmp 34)], none⟩,⟨some 36, .append 6 48 (.tmp 33) (.tmp 35), none⟩,⟨none, .store 1 (.tmp 3) (.tmp 36), none⟩]
def alloc_put_1.k6 : LCode := .seq (.seq alloc_put_1.k3 (.cond (.tmp 26) alloc_put_1.k4 .skip)) alloc_put_1.k5
def alloc_put_1.k7 : LCode := .text [⟨some 37, .bin .add .other (.tmp 9) (.cst (.int .i64 1)), none⟩,⟨some 9, .mv (.tmp 37), none⟩]
def alloc_put_1.k8 : LCode := .seq (.block 1 (.seq alloc_put_1.k2 alloc_put_1.k6)) alloc_put_1.k7
def alloc_put_1.k9 : LCode := .seq (.text [⟨some 10, .bin .lss .other (.tmp 9) (.tmp 8), none⟩]) (.seq (.cond (.tmp 10) .skip (.exit 0)) alloc_put_1.k8)
def alloc_put_1.lc : LCode :=
 .seq alloc_put_1.k1 (.block 0 (.loop alloc_put_1.k9))
theorem alloc_put_1.low : lowFn Tryd.prog 60 = some (38, alloc_put_1.lc, []) := by kernel_rfl

def loc_Text.k1 : LCode := .text [⟨some 2, .mv (.cst (.str ⟨#[]⟩)), none⟩,⟨some 3, .mv (.cst (.int .i64 0)), none⟩]
def loc_Text.k2 : LCode := .text [⟨some 5, .mv (.tmp 0), none⟩,⟨some 6, .call (.cst (.fn (.func 36) [] [])) [.tmp 5], none⟩,⟨some 7, .not (.tmp 6), none⟩]
def loc_Text.k3 : LCode := .text [⟨some 2, .mv (.cst (.str ⟨#[]⟩)), none⟩,⟨some 3, .mv (.cst (.int .i64 1)), none⟩]
def loc_Text.k4 : LCode := .seq loc_Text.k2 (.cond (.tmp 7) (.seq loc_Text.k3 .ret) .skip)
def loc_Text.k5 : LCode := .text [⟨some 8, .bslice 1 [.int .u8 0] 1 [(0, .cst (.int .u8 114))], none⟩,⟨some 4, .mv (.tmp 8), none⟩]
def loc_Text.k6 : LCode := .text [⟨some 9, .mv (.tmp 0), none⟩,⟨some 10, .call (.cst (.fn (.func 23) [] [])) [.tmp 9], none⟩,⟨some 11, .not (.tmp 10), none⟩]
def loc_Text.k7 : LCode := .text [⟨some 12, .bslice 1 [.int .u8 0] 1 [(0, .cst (.int .u8 115))], none⟩,⟨some 13, .mv (.tmp 0), none⟩,⟨some 14, .bin .sub .other (.tmp 13) (.cst (.int .i64 8)), none⟩,⟨some 4, .mv (.tmp 12), none⟩,⟨some 0, .mv (.tmp 14), none⟩]
def loc_Text.k8 : LCode := .text [⟨some 15, .mv (.tmp 0), none⟩,⟨some 16, .bin .geq .other (.tmp 15) (.cst (.int .i64 10)), none⟩]
def loc_Text.k9 : LCode := .text [⟨some 17, .mv (.tmp 4), none⟩,⟨some 18, .mv (.tmp 0), none⟩,⟨some 19, .bin .quo .other (.tmp 18) (.cst (.int .i64 10)), none⟩,⟨some 20, .bin .add .other (.cst (.int .i64 48)) (.tmp 19), none⟩,⟨some 21, .toInt .u8 (.tmp 20), none⟩,⟨some 22, .bslice 1 [.int .u8 0] 1 [(0, .tmp 21)], none⟩,⟨some 23, .append 1 1 (.tmp 17) (.tmp 22), none⟩,⟨some 4, .mv (.tmp 23), none⟩]
def loc_Text.k10 : LCode := .text [⟨some 24, .mv (.tmp 4), none⟩,⟨some 25, .mv (.tmp 0), none⟩,⟨some 26, .bin .rem .other (.tmp 25) (.cst (.int .i64 10)), none⟩,⟨some 27, .bin .add .other (.cst (.int .i64 48)) (.tmp 26), none⟩,⟨some 28, .toInt .u8 (.tmp 27), none⟩,⟨some 29, .bslice 1 [.int .u8 0] 1 [(0, .tmp 28)], none⟩,⟨some 30, .append 1 1 (.tmp 24) (.tmp 29), none⟩,⟨some 31, .toStr (.tmp 30), none⟩,⟨some 2, .mv (.tmp 31), none⟩,⟨some 3, .mv (.cst (.int .i64 0)), none⟩]
def loc_Text.k11 : LCode := .seq (.seq loc_Text.k8 (.cond (.tmp 16) loc_Text.k9 .skip)) (.seq loc_Text.k10 .ret)
def loc_Text.k12 : LCode := .seq (.seq loc_Text.k6 (.cond (.tmp 11) loc_Text.k7 .skip)) loc_Text.k11
def loc_Text.lc : LCode :=
 .seq loc_Text.k1 (.seq loc_Text.k4 (.seq loc_Text.k5 loc_Text.k12))
theorem loc_Text.low : lowFn Tryd.prog 76 = some (32, loc_Text.lc, [.tmp 2, .tmp 3]) := by kernel_rfl

def joineryref04_Same.k1 : LCode := .text [⟨some 6, .mv (.tmp 0), none⟩,⟨some 7, .len .slice (.tmp 6), none⟩,⟨some 8, .mv (.tmp 1), none⟩,⟨some 9, .len .slice (.tmp 8), none⟩,⟨some 10, .bin .neq .other (.tmp 7) (.tmp 9), none⟩]
def joineryref04_Same.k2 : LCode := .seq (.text [⟨some 4, .mv (.cst (.bool false)), none⟩]) .ret
def joineryref04_Same.k3 : LCode := .seq joineryref04_Same.k1 (.cond (.tmp 10) joineryref04_Same.k2 .skip)
def joineryref04_Same.k4 : LCode := .text [⟨some 11, .mv (.tmp 5), none⟩,⟨some 12, .mv (.tmp 0), none⟩,⟨some 13, .len .slice (.tmp 12), none⟩,⟨some 14, .bin .lss .other (.tmp 11) (.tmp 13), none⟩]
def joineryref04_Same.k5 : LCode := .any true [⟨some 17, .mv (.tmp 0), none⟩,⟨some 18, .mv (.tmp 5), none⟩,⟨some 19, .iaddrS 6 (.tmp 17) (.tmp 18), none⟩,⟨some 20, .load true 6 (.tmp 19), none⟩,⟨some 21, .mv (.tmp 1), none⟩,⟨some 22, .mv (.tmp 5), none⟩,⟨some 23, .iaddrS 6 (.tmp 21) (.tmp 22), none⟩,⟨some 24, .load true 6 (.tmp 23), none⟩,⟨some 25, .bin .neq (.cells [.i, .i, .i, .i, .i, .i]) (.tmp 20) (.tmp 24), none⟩] (.both .no .no)
def joineryref04_Same.k6 : LCode := .seq (.text [⟨some 4, .mv (.cst (.bool false)), none⟩]) .ret
def joineryref04_Same.k7 : LCode := .seq joineryref04_Same.k5 (.cond (.tmp 25) joineryref04_Same.k6 .skip)
def joineryref04_Same.k8 : LCode := .text [⟨some 15, .mv (.tmp 5), none⟩,⟨some 16, .bin .add .other (.tmp 15) (.cst (.int .i64 1)), none⟩,⟨some 5, .mv (.tmp 16), none⟩]
def joineryref04_Same.k9 : LCode := .seq (.seq joineryref04_Same.k4 (.cond (.tmp 14) .skip (.exit 0))) (.seq (.block 1 joineryref04_Same.k7) joineryref04_Same.k8)
def joineryref04_Same.k10 : LCode := .seq (.text [⟨some 5, .mv (.cst (.int .i64 0)), none⟩]) (.block 0 (.loop joineryref04_Same.k9))
def joineryref04_Same.k11 : LCode := .seq joineryref04_Same.k10 (.seq (.text [⟨some 4, .mv (.cst (.bool true)), none⟩]) .ret)
def joineryref04_Same.lc : LCode :=
 .seq (.text [⟨some 4, .mv (.cst (.bool false)), none⟩]) (.seq joineryref04_Same.k3 joineryref04_Same.k11)
theorem joineryref04_Same.low : lowFn Tryd.prog 13 = some (26, joineryref04_Same.lc, [.tmp 4]) := by kernel_rfl

def alloc_may.k1 : LCode := .text [⟨some 5, .mv (.tmp 0), none⟩,⟨some 6, .call (.cst (.fn (.func 10) [] [])) [.tmp 5], none⟩,⟨some 7, .mv (.tmp 6), none⟩,⟨some 8, .mv (.tmp 1), some (7, true)⟩,⟨some 9, .bin .geq .other (.tmp 8) (.cst (.int .i64 0)), some (7, true)⟩,⟨some 10, .pick (.tmp 7) (.tmp 9) (.cst (.bool false)), none⟩,⟨some 11, .mv (.tmp 10), none⟩,⟨some 12, .mv (.tmp 1), some (11, true)⟩,⟨some 13, .mv (.tmp 0), some (11, true)⟩,⟨some 14, .len .slice (.tmp 13), some (11, true)⟩,⟨some 15, .bin .lss .other (.tmp 12) (.tmp 14), some (11, true)⟩,⟨some 16, .pick (.tmp 11) (.tmp 15) (.cst (.bool false)), none⟩,⟨some 4, .mv (.tmp 16), none⟩]
def alloc_may.lc : LCode :=
 .seq (.text [⟨some 4, .mv (.cst (.bool false)), none⟩]) (.seq alloc_may.k1 .ret)
theorem alloc_may.low : lowFn Tryd.prog 29 = some (17, alloc_may.lc, [.tmp 4]) := by kernel_rfl

def joineryref03_only.k1 : LCode := .text [⟨some 1, .box (.tmp 0), none⟩,⟨some 2, .alloc [.int .i64 0, .int .i64 0, .int .i64 0, .int .i64 0, .int .i64 0, .int .i64 0], none⟩]
def joineryref03_only.k2 : LCode := .text [⟨some 4, .faddr 0 (.tmp 1), none⟩,⟨some 5, .load false 1 (.tmp 4), none⟩,⟨some 6, .build [.int .i64 0, .int .i64 0, .int .i64 0, .int .i64 0, .int .i64 0, .int .i64 0] [(0, 1, .tmp 5)], none⟩,⟨some 3, .alloc [.int .i64 0, .int .i64 0, .int .i64 0, .int .i64 0, .int .i64 0, .int .i64 0], none⟩,⟨none, .store 6 (.tmp 3) (.tmp 6), none⟩]
def joineryref03_only.k3 : LCode := .text [⟨some 7, .faddr 0 (.tmp 1), none⟩,⟨some 8, .load false 1 (.tmp 7), none⟩,⟨some 9, .bin .eql .other (.tmp 8) (.cst (.int .i64 1)), none⟩,⟨some 10, .mv (.tmp 9), none⟩,⟨some 11, .faddr 0 (.tmp 1), some (10, false)⟩,⟨some 12, .load false 1 (.tmp 11), some (10, false)⟩,⟨some 13, .bin .eql .other (.tmp 12) (.cst (.int .i64 15)), some (10, false)⟩,⟨some 14, .pick (.tmp 10) (.cst (.bool true)) (.tmp 13), none⟩]
def joineryref03_only.k4 : LCode := .text [⟨some 15, .faddr 4 (.tmp 1), none⟩,⟨some 16, .load false 1 (.tmp 15), none⟩,⟨some 17, .faddr 4 (.tmp 3), none⟩,⟨none, .store 1 (.tmp 17) (.tmp 16), none⟩]
def joineryref03_only.k5 : LCode := .seq joineryref03_only.k3 (.cond (.tmp 14) joineryref03_only.k4 .skip)
def joineryref03_only.k6 : LCode := .text [⟨some 18, .faddr 0 (.tmp 1), none⟩,⟨some 19, .load false 1 (.tmp 18), none⟩,⟨some 20, .bin .eql .other (.tmp 19) (.cst (.int .i64 16)), none⟩,⟨some 21, .mv (.tmp 20), none⟩,⟨some 22, .faddr 0 (.tmp 1), some (21, false)⟩,⟨some 23, .load false 1 (.tmp 22), some (21, false)⟩,⟨some 24, .bin .eql .other (.tmp 23) (.cst (.int .i64 17)), some (21, false)⟩,⟨some 25, .pick (.tmp 21) (.cst (.bool true)) (.tmp 24), none⟩]
def joineryref03_only.k7 : LCode := .text [⟨some 26, .faddr 5 (.tmp 1), none⟩,⟨some 27, .load false 1 (.tmp 26), none⟩,⟨some 28, .faddr 5 (.tmp 3), none⟩,⟨none, .store 1 (.tmp 28) (.tmp 27), none⟩]
def joineryref03_only.k8 : LCode := .seq joineryref03_only.k6 (.cond (.tmp 25) joineryref03_only.k7 .skip)
def joineryref03_only.k9 : LCode := .text [⟨some 29, .faddr 0 (.tmp 1), none⟩,⟨some 30, .load false 1 (.tmp 29), none⟩,⟨some 31, .bin .leq .other (.tmp 30) (.cst (.int .i64 13)), none⟩,⟨some 32, .mv (.tmp 31), none⟩,⟨some 33, .faddr 0 (.tmp 1), some (32, false)⟩,⟨some 34, .load false 1 (.tmp 33), some (32, false)⟩,⟨some 35, .bin .eql .other (.tmp 34) (.cst (.int .i64 15)), some (32, false)⟩,⟨some 36, .pick (.tmp 32) (.cst (.bool true)) (.tmp 35), none⟩]
def joineryref03_only.k10 : LCode := .text [⟨some 37, .faddr 1 (.tmp 1), none⟩,⟨some 38, .load false 1 (.tmp 37), none⟩,⟨some 39, .faddr 1 (.tmp 3), none⟩,⟨none, .store 1 (.tmp 39) (.tmp 38), none⟩]
def joineryref03_only.k11 : LCode := .seq joineryref03_only.k9 (.cond (.tmp 36) joineryref03_only.k10 .skip)
def joineryref03_only.k12 : LCode := .text [⟨some 40, .faddr 0 (.tmp 1), none⟩,⟨some 41, .load false 1 (.tmp 40), none⟩,⟨some 42, .bin .neq .other (.tmp 41) (.cst (.int .i64 1)), none⟩,⟨some 43, .mv (.tmp 42), none⟩,⟨some 44, .faddr 0 (.tmp 1), some (43, true)⟩,⟨some 45, .load false 1 (.tmp 44), some (43, true)⟩,⟨some 46, .bin .neq .other (.tmp 45) (.cst (.int .i64 16)), some (43, true)⟩,⟨some 47, .pick (.tmp 43) (.tmp 46) (.cst (.bool false)), none⟩]
def joineryref03_only.k13 : LCode := .text [⟨some 48, .faddr 2 (.tmp 1), none⟩,⟨some 49, .load false 1 (.tmp 48), none⟩,⟨some 50, .faddr 2 (.tmp 3), none⟩,⟨none, .store 1 (.tmp 50) (.tmp 49), none⟩]
def joineryref03_only.k14 : LCode := .seq joineryref03_only.k12 (.cond (.tmp 47) joineryref03_only.k13 .skip)
def joineryref03_only.k15 : LCode := .text [⟨some 51, .faddr 0 (.tmp 1), none⟩,⟨some 52, .load false 1 (.tmp 51), none⟩,⟨some 53, .bin .geq .other (.tmp 52) (.cst (.int .i64 4)), none⟩,⟨some 54, .mv (.tmp 53), none⟩,⟨some 55, .faddr 0 (.tmp 1), some (54, true)⟩,⟨some 56, .load false 1 (.tmp 55), some (54, true)⟩,⟨some 57, .bin .leq .other (.tmp 56) (.cst (.int .i64 12)), some (54, true)⟩,⟨some 58, .pick (.tmp 54) (.tmp 57) (.cst (.bool false)), none⟩,⟨some 59, .mv (.tmp 58), none⟩,⟨some 60, .faddr 0 (.tmp 1), some (59, false)⟩,⟨some 61, .load false 1 (.tmp 60), some (59, false)⟩,⟨some 62, .bin .eql .other (.tmp 61) (.cst (.int .i64 14)), some (59, false)⟩,⟨some 63, .pick (.tmp 59) (.cst (.bool true)) (.tmp 62), none⟩]
def joineryref03_only.k16 : LCode := .text [⟨some 64, .faddr 3 (.tmp 1), none⟩,⟨some 65, .load false 1 (.tmp 64), none⟩,⟨some 66, .faddr 3 (.tmp 3), none⟩,⟨none, .store 1 (.tmp 66) (.tmp 65), none⟩]
def joineryref03_only.k17 : LCode := .seq joineryref03_only.k15 (.cond (.tmp 63) joineryref03_only.k16 .skip)
def joineryref03_only.k18 : LCode := .text [⟨some 67, .load true 6 (.tmp 3), none⟩,⟨none, .store 6 (.tmp 2) (.tmp 67), none⟩]
def joineryref03_only.k19 : LCode := .seq joineryref03_only.k17 (.seq joineryref03_only.k18 .ret)
def joineryref03_only.k20 : LCode := .seq joineryref03_only.k11 (.seq joineryref03_only.k14 joineryref03_only.k19)
def joineryref03_only.k21 : LCode := .seq joineryref03_only.k5 (.seq joineryref03_only.k8 joineryref03_only.k20)
def joineryref03_only.lc : LCode :=
 .seq joineryref03_only.k1 (.seq joineryref03_only.k2 joineryref03_only.k21)
theorem joineryref03_only.low : lowFn Tryd.prog 61 = some (68, joineryref03_only.lc, [.cell 2 true 6]) := by kernel_rfl

def alloc_Rename.k1 : LCode := .text [⟨some 4, .box (.tmp 1), none⟩,⟨some 5, .box (.tmp 2), none⟩,⟨some 6, .mv (.cst (.imm (.slice none 0 0))), none⟩,⟨some 7, .mv (.cst (.int .i64 0)), none⟩]
def alloc_Rename.k2 : LCode := .text [⟨some 12, .mv (.tmp 0), none⟩,⟨some 13, .call (.cst (.fn (.func 10) [] [])) [.tmp 12], none⟩,⟨some 14, .not (.tmp 13), none⟩,⟨some 15, .mv (.tmp 14), none⟩,⟨some 16, .load false 1 (.tmp 4), some (15, false)⟩,⟨some 17, .call (.cst (.fn (.func 23) [] [])) [.tmp 16], some (15, false)⟩,⟨some 18, .pick (.tmp 15) (.cst (.bool true)) (.tmp 17), none⟩,⟨some 19, .mv (.tmp 18), none⟩,⟨some 20, .load false 1 (.tmp 5), some (19, false)⟩,⟨some 21, .call (.cst (.fn (.func 23) [] [])) [.tmp 20], some (19, false)⟩,⟨some 22, .pick (.tmp 19) (.cst (.bool true)) (.tmp 21), none⟩,⟨some 23, .mv (.tmp 22), none⟩,⟨some 24, .load false 1 (.tmp 4), some (23, false)⟩,⟨some 25, .call (.cst (.fn (.func 36) [] [])) [.tmp 24], some (23, false)⟩,⟨some 26, .not (.tmp 25), some (23, false)⟩,⟨some 27, .pick (.tmp 23) (.cst (.bool true)) (.tmp 26), none⟩,⟨some 28, .mv (.tmp 27), none⟩,⟨some 29, .load false 1 (.tmp 5), some (28, false)⟩,⟨some 30, .call (.cst (.fn (.func 36) [] [])) [.tmp 29], some (28, false)⟩,⟨some 31, .not (.tmp 30), some (28, false)⟩,⟨some 32, .pick (.tmp 28) (.cst (.bool true)) (.tmp 31), none⟩]
def alloc_Rename.k3 : LCode := .text [⟨some 6, .mv (.cst (.imm (.slice none 0 0))), none⟩,⟨some 7, .mv (.cst (.int .i64 1)), none⟩]
def alloc_Rename.k4 : LCode := .seq alloc_Rename.k2 (.cond (.tmp 32) (.seq alloc_Rename.k3 .ret) .skip)
def alloc_Rename.k5 : LCode := .text [⟨some 33, .mkFn (.func 37) [] [.tmp 4, .tmp 5], none⟩,⟨some 8, .mv (.tmp 33), none⟩]
def alloc_Rename.k6 : LCode := .text [⟨some 34, .bslice 6 [.int .i64 0, .int .i64 0, .int .i64 0, .int .i64 0, .int .i64 0, .int .i64 0] 0 [], none⟩,⟨some 35, .mv (.tmp 0), none⟩,⟨some 36, .append 6 48 (.tmp 34) (.tmp 35), none⟩,⟨some 9, .mv (.tmp 36), none⟩]
def alloc_Rename.k7 : LCode := .text [⟨some 37, .mv (.tmp 0), none⟩,⟨some 38, .len .slice (.tmp 37), none⟩,⟨some 39, .mv (.cst (.int .i64 0)), none⟩]
def alloc_Rename.k8 : LCode := .text [⟨some 40, .bin .lss .other (.tmp 39) (.tmp 38), none⟩]
def alloc_Rename.k9 : LCode := .text [⟨some 41, .mv (.tmp 39), none⟩,⟨some 42, .iaddrS 6 (.tmp 37) (.tmp 39), none⟩,⟨some 43, .load true 6 (.tmp 42), none⟩,⟨some 11, .alloc [.int .i64 0, .int .i64 0, .int .i64 0, .int .i64 0, .int .i64 0, .int .i64 0], none⟩,⟨some 10, .mv (.tmp 41), none⟩,⟨none, .store 6 (.tmp 11) (.tmp 43), none⟩]
def alloc_Rename.k10 : LCode := .text [⟨some 44, .load true 6 (.tmp 11), none⟩,⟨some 45, .call (.cst (.fn (.func 38) [] [])) [.tmp 44], none⟩,⟨some 46, .len .slice (.tmp 45), none⟩]
def alloc_Rename.k11 : LCode := .text [⟨some 48, .bin .eql .other (.tmp 46) (.cst (.int .i64 1)), none⟩,⟨some 47, .mv (.tmp 48), none⟩]
def alloc_Rename.k12 : LCode := .text [⟨some 49, .mv (.tmp 9), none⟩,⟨some 50, .mv (.tmp 10), none⟩,⟨some 51, .mv (.tmp 8), none⟩,⟨some 52, .faddr 1 (.tmp 11), none⟩,⟨some 53, .load false 1 (.tmp 52), none⟩,⟨some 54, .call (.tmp 51) [.tmp 53], none⟩,⟨some 55, .iaddrS 6 (.tmp 49) (.tmp 50), none⟩,⟨some 56, .faddr 1 (.tmp 55), none⟩,⟨none, .store 1 (.tmp 56) (.tmp 54), none⟩]
def alloc_Rename.k13 : LCode := .text [⟨some 58, .bin .eql .other (.tmp 46) (.cst (.int .i64 2)), none⟩,⟨some 57, .mv (.tmp 58), none⟩]
def alloc_Rename.k14 : LCode := .any false [⟨some 59, .mv (.tmp 9), none⟩,⟨some 60, .mv (.tmp 10), none⟩,⟨some 61, .mv (.tmp 9), none⟩,⟨some 62, .mv (.tmp 10), none⟩,⟨some 63, .mv (.tmp 8), none⟩,⟨some 64, .faddr 1 (.tmp 11), none⟩,⟨some 65, .load false 1 (.tmp 64), none⟩,⟨some 66, .call (.tmp 63) [.tmp 65], none⟩,⟨some 67, .mv (.tmp 8), none⟩,⟨some 68, .faddr 2 (.tmp 11), none⟩,⟨some 69, .load false 1 (.tmp 68), none⟩,⟨some 70, .call (.tmp 67) [.tmp 69], none⟩,⟨some 71, .iaddrS 6 (.tmp 59) (.tmp 60), none⟩,⟨some 72, .faddr 1 (.tmp 71), none⟩,⟨none, .store 1 (.tmp 72) (.tmp 66), none⟩,⟨some 73, .iaddrS 6 (.tmp 61) (.tmp 62), none⟩,⟨some 74, .faddr 2 (.tmp 73), none⟩,⟨none, .store 1 (.tmp 74) (.tmp 70), none⟩] (.both (.take 0 (.take 1 (.take 2 (.take 3 (.take 4 (.take 5 (.take 8 (.take 9 (.all [(6, .all [(7, .all [(10, .all [(11, .take 12 (.take 13 (.all [(14, .take 15 (.take 16 (.all [(17, .done)])))])))])]), (10, .all [(7, .all [(11, .take 12 (.take 13 (.all [(14, .take 15 (.take 16 (.all [(17, .done)])))])))])])]), (10, .all [(6, .all [(7, .all [(11, .take 12 (.take 13 (.all [(14, .take 15 (.take 16 (.all [(17, .done)])))])))])])])]))))))))) (.front 0 (.front 1 (.front 2 (.front 3 (.front 4 (.front 5 (.front 6 (.front 7 (.front 8 (.front 9 (.front 10 (.front 11 (.front 12 (.front 13 (.front 14 (.front 15 (.front 16 (.front 17 .done)))))))))))))))))))
def alloc_Rename.k15 : LCode := .seq alloc_Rename.k13 (.cond (.tmp 57) alloc_Rename.k14 .skip)
def alloc_Rename.k16 : LCode := .seq alloc_Rename.k11 (.cond (.tmp 47) alloc_Rename.k12 alloc_Rename.k15)
def alloc_Rename.k17 : LCode := .seq alloc_Rename.k9 (.seq alloc_Rename.k10 (.block 2 alloc_Rename.k16))
def alloc_Rename.k18 : LCode := .text [⟨some 75, .bin .add .other (.tmp 39) (.cst (.int .i64 1)), none⟩,⟨some 39, .mv (.tmp 75), none⟩]
def alloc_Rename.k19 : LCode := .seq (.cond (.tmp 40) .skip (.exit 0)) (.seq (.block 1 alloc_Rename.k17) alloc_Rename.k18)
def alloc_Rename.k20 : LCode := .seq alloc_Rename.k7 (.block 0 (.loop (.seq alloc_Rename.k8 alloc_Rename.k19)))
def alloc_Rename.k21 : LCode := .text [⟨some 76, .mv (.tmp 9), none⟩,⟨some 6, .mv (.tmp 76), none⟩,⟨some 7, .mv (.cst (.int .i64 0)), none⟩]
def alloc_Rename.k22 : LCode := .seq alloc_Rename.k6 (.seq alloc_Rename.k20 (.seq alloc_Rename.k21 .ret))
def alloc_Rename.k23 : LCode := .seq alloc_Rename.k4 (.seq alloc_Rename.k5 alloc_Rename.k22)
def alloc_Rename.lc : LCode :=
 .seq alloc_Rename.k1 alloc_Rename.k23
theorem alloc_Rename.low : lowFn Tryd.prog 14 = some (77, alloc_Rename.lc, [.tmp 6, .tmp 7]) := by kernel_rfl

def alloc_jumps.k1 : LCode := .text [⟨some 1, .box (.tmp 0), none⟩,⟨some 2, .mv (.cst (.bool false)), none⟩]
def alloc_jumps.k2 : LCode := .text [⟨some 3, .faddr 0 (.tmp 1), none⟩,⟨some 4, .load false 1 (.tmp 3), none⟩,⟨some 5, .bin .geq .other (.tmp 4) (.cst (.int .i64 16)), none⟩,⟨some 2, .mv (.tmp 5), none⟩]
def alloc_jumps.lc : LCode :=
 .seq alloc_jumps.k1 (.seq alloc_jumps.k2 .ret)
theorem alloc_jumps.low : lowFn Tryd.prog 30 = some (6, alloc_jumps.lc, [.tmp 2]) := by kernel_rfl

def joineryref03_place.k1 : LCode := .text [⟨some 3, .mv (.tmp 0), none⟩,⟨some 4, .bin .geq .other (.tmp 3) (.cst (.int .i64 0)), none⟩,⟨some 5, .mv (.tmp 4), none⟩,⟨some 6, .mv (.tmp 0), some (5, true)⟩,⟨some 7, .bin .lss .other (.tmp 6) (.cst (.int .i64 24)), some (5, true)⟩,⟨some 8, .pick (.tmp 5) (.tmp 7) (.cst (.bool false)), none⟩,⟨some 2, .mv (.tmp 8), none⟩]
def joineryref03_place.lc : LCode :=
 .seq (.text [⟨some 2, .mv (.cst (.bool false)), none⟩]) (.seq joineryref03_place.k1 .ret)
theorem joineryref03_place.low : lowFn Tryd.prog 62 = some (9, joineryref03_place.lc, [.tmp 2]) := by kernel_rfl

def joineryref04_Right.k1 : LCode := .text [⟨some 6, .mv (.tmp 0), none⟩,⟨some 7, .call (.cst (.fn (.func 39) [] [])) [.tmp 6], none⟩,⟨some 5, .mv (.tmp 7), none⟩,⟨some 8, .extract (.tmp 5) 0, none⟩,⟨some 9, .extract (.tmp 5) 1, none⟩,⟨some 3, .mv (.tmp 8), none⟩,⟨some 4, .mv (.tmp 9), none⟩]
def joineryref04_Right.k2 : LCode := .text [⟨some 10, .mv (.tmp 4), none⟩,⟨some 11, .bin .eql .other (.tmp 10) (.cst (.int .i64 0)), none⟩,⟨some 2, .mv (.tmp 11), none⟩]
def joineryref04_Right.k3 : LCode := .seq joineryref04_Right.k1 (.seq joineryref04_Right.k2 .ret)
def joineryref04_Right.lc : LCode :=
 .seq (.text [⟨some 2, .mv (.cst (.bool false)), none⟩]) joineryref04_Right.k3
theorem joineryref04_Right.low : lowFn Tryd.prog 15 = some (12, joineryref04_Right.lc, [.tmp 2]) := by kernel_rfl

def ins_Check.k1 : LCode := .text [⟨some 2, .box (.tmp 0), none⟩,⟨some 4, .mv (.cst (.int .i64 0)), none⟩]
def ins_Check.k2 : LCode := .text [⟨some 11, .faddr 0 (.tmp 2), none⟩,⟨some 12, .load false 1 (.tmp 11), none⟩,⟨some 13, .call (.cst (.fn (.func 57) [] [])) [.tmp 12], none⟩,⟨some 10, .mv (.tmp 13), none⟩,⟨some 14, .extract (.tmp 10) 0, none⟩,⟨some 15, .extract (.tmp 10) 1, none⟩,⟨some 5, .alloc [.str ⟨#[]⟩, .str ⟨#[]⟩], none⟩,⟨none, .store 2 (.tmp 5) (.tmp 14), none⟩,⟨some 6, .mv (.tmp 15), none⟩]
def ins_Check.k3 : LCode := .text [⟨some 16, .mv (.tmp 6), none⟩,⟨some 17, .not (.tmp 16), none⟩,⟨some 18, .mv (.tmp 17), none⟩,⟨some 19, .load true 6 (.tmp 2), some (18, false)⟩,⟨some 20, .load true 2 (.tmp 5), some (18, false)⟩,⟨some 21, .call (.cst (.fn (.func 58) [] [])) [.tmp 19, .tmp 20], some (18, false)⟩,⟨some 22, .build [.int .i64 0, .int .i64 0, .int .i64 0, .int .i64 0, .int .i64 0, .int .i64 0] [], some (18, false)⟩,⟨some 23, .bin .neq (.cells [.i, .i, .i, .i, .i, .i]) (.tmp 21) (.tmp 22), some (18, false)⟩,⟨some 24, .pick (.tmp 18) (.cst (.bool true)) (.tmp 23), none⟩,⟨some 25, .mv (.tmp 24), none⟩,⟨some 26, .faddr 0 (.tmp 2), some (25, false)⟩,⟨some 27, .load false 1 (.tmp 26), some (25, false)⟩,⟨some 28, .bin .eql .other (.tmp 27) (.cst (.int .i64 15)), some (25, false)⟩,⟨some 29, .mv (.tmp 28), some (25, false)⟩,⟨some 30, .faddr 4 (.tmp 2), some (29, true)⟩,⟨some 31, .load false 1 (.tmp 30), some (29, true)⟩,⟨some 32, .bin .lss .other (.tmp 31) (.cst (.int .i64 0)), some (29, true)⟩,⟨some 33, .mv (.tmp 32), some (29, true)⟩,⟨some 34, .faddr 4 (.tmp 2), some (33, false)⟩,⟨some 35, .load false 1 (.tmp 34), some (33, false)⟩,⟨some 36, .bin .gtr .other (.tmp 35) (.cst (.int .i64 99)), some (33, false)⟩,⟨some 37, .pick (.tmp 33) (.cst (.bool true)) (.tmp 36), some (29, true)⟩,⟨some 38, .pick (.tmp 29) (.tmp 37) (.cst (.bool false)), some (25, false)⟩,⟨some 39, .pick (.tmp 25) (.cst (.bool true)) (.tmp 38), none⟩]
def ins_Check.k4 : LCode := .seq (.text [⟨some 4, .mv (.cst (.int .i64 1)), none⟩]) .ret
def ins_Check.k5 : LCode := .text [⟨some 40, .faddr 1 (.tmp 5), none⟩,⟨some 41, .load false 1 (.tmp 40), none⟩,⟨some 42, .range (.tmp 41), none⟩]
def ins_Check.k6 : LCode := .text [⟨some 43, .next (.tmp 42), none⟩,⟨some 44, .extract (.tmp 43) 0, none⟩]
def ins_Check.k7 : LCode := .text [⟨some 45, .extract (.tmp 43) 2, none⟩,⟨some 9, .mv (.tmp 45), none⟩]
def ins_Check.k8 : LCode := .text [⟨some 47, .mv (.tmp 9), none⟩,⟨some 48, .bin .eql .other (.tmp 47) (.cst (.int .i32 78)), none⟩,⟨some 46, .mv (.tmp 48), none⟩]
def ins_Check.k9 : LCode := .text [⟨some 50, .mv (.tmp 9), none⟩,⟨some 51, .bin .eql .other (.tmp 50) (.cst (.int .i32 84)), none⟩,⟨some 49, .mv (.tmp 51), none⟩]
def ins_Check.k10 : LCode := .text [⟨some 52, .faddr 5 (.tmp 2), none⟩,⟨some 53, .load false 1 (.tmp 52), none⟩,⟨some 54, .bin .lss .other (.tmp 53) (.cst (.int .i64 0)), none⟩,⟨some 55, .mv (.tmp 54), none⟩,⟨some 56, .faddr 5 (.tmp 2), some (55, false)⟩,⟨some 57, .load false 1 (.tmp 56), some (55, false)⟩,⟨some 58, .mv (.tmp 1), some (55, false)⟩,⟨some 59, .bin .geq .other (.tmp 57) (.tmp 58), some (55, false)⟩,⟨some 60, .pick (.tmp 55) (.cst (.bool true)) (.tmp 59), none⟩,⟨some 7, .mv (.tmp 60), none⟩]
def ins_Check.k11 : LCode := .text [⟨some 62, .mv (.tmp 9), none⟩,⟨some 63, .bin .geq .other (.tmp 62) (.cst (.int .i32 97)), none⟩,⟨some 64, .mv (.tmp 63), none⟩,⟨some 65, .mv (.tmp 9), some (64, true)⟩,⟨some 66, .call (.cst (.fn (.func 59) [] [])) [.tmp 2, .tmp 65], some (64, true)⟩,⟨some 67, .nilc (.tmp 66), some (64, true)⟩,⟨some 68, .load false 1 (.tmp 67), some (64, true)⟩,⟨some 69, .call (.cst (.fn (.func 36) [] [])) [.tmp 68], some (64, true)⟩,⟨some 70, .not (.tmp 69), some (64, true)⟩,⟨some 71, .pick (.tmp 64) (.tmp 70) (.cst (.bool false)), none⟩,⟨some 61, .mv (.tmp 71), none⟩]
def ins_Check.k12 : LCode := .text [⟨some 72, .mv (.tmp 9), none⟩,⟨some 73, .bin .lss .other (.tmp 72) (.cst (.int .i32 97)), none⟩,⟨some 74, .mv (.tmp 73), none⟩,⟨some 75, .mv (.tmp 9), some (74, true)⟩,⟨some 76, .call (.cst (.fn (.func 59) [] [])) [.tmp 2, .tmp 75], some (74, true)⟩,⟨some 77, .nilc (.tmp 76), some (74, true)⟩,⟨some 78, .load false 1 (.tmp 77), some (74, true)⟩,⟨some 79, .call (.cst (.fn (.func 23) [] [])) [.tmp 78], some (74, true)⟩,⟨some 80, .not (.tmp 79), some (74, true)⟩,⟨some 81, .pick (.tmp 74) (.tmp 80) (.cst (.bool false)), none⟩,⟨some 61, .mv (.tmp 81), none⟩]
def ins_Check.k13 : LCode := .seq (.text [⟨some 4, .mv (.cst (.int .i64 6)), none⟩]) .ret
def ins_Check.k14 : LCode := .seq (.seq ins_Check.k11 (.cond (.tmp 61) .skip ins_Check.k12)) (.cond (.tmp 61) ins_Check.k13 .skip)
def ins_Check.k15 : LCode := .seq ins_Check.k9 (.cond (.tmp 49) ins_Check.k10 ins_Check.k14)
def ins_Check.k16 : LCode := .block 2 (.seq ins_Check.k8 (.cond (.tmp 46) .skip ins_Check.k15))
def ins_Check.k17 : LCode := .seq (.cond (.tmp 44) .skip (.exit 0)) (.block 1 (.seq ins_Check.k7 ins_Check.k16))
def ins_Check.k18 : LCode := .seq ins_Check.k5 (.block 0 (.loop (.seq ins_Check.k6 ins_Check.k17)))
def ins_Check.k19 : LCode := .seq (.text [⟨some 4, .mv (.cst (.int .i64 4)), none⟩]) .ret
def ins_Check.k20 : LCode := .seq (.text [⟨some 82, .mv (.tmp 7), none⟩]) (.cond (.tmp 82) ins_Check.k19 .skip)
def ins_Check.k21 : LCode := .seq (.text [⟨some 4, .mv (.cst (.int .i64 0)), none⟩]) .ret
def ins_Check.k22 : LCode := .seq (.text [⟨some 7, .mv (.cst (.bool false)), none⟩]) (.seq ins_Check.k18 (.seq ins_Check.k20 ins_Check.k21))
def ins_Check.k23 : LCode := .seq (.seq ins_Check.k3 (.cond (.tmp 39) ins_Check.k4 .skip)) ins_Check.k22
def ins_Check.lc : LCode :=
 .seq ins_Check.k1 (.seq ins_Check.k2 ins_Check.k23)
theorem ins_Check.low : lowFn Tryd.prog 31 = some (83, ins_Check.lc, [.tmp 4]) := by kernel_rfl

def joineryref03_reg.k1 : LCode := .text [⟨some 3, .mv (.tmp 0), none⟩,⟨some 4, .bin .geq .other (.tmp 3) (.cst (.int .i64 0)), none⟩,⟨some 5, .mv (.tmp 4), none⟩,⟨some 6, .mv (.tmp 0), some (5, true)⟩,⟨some 7, .bin .lss .other (.tmp 6) (.cst (.int .i64 8)), some (5, true)⟩,⟨some 8, .pick (.tmp 5) (.tmp 7) (.cst (.bool false)), none⟩,⟨some 2, .mv (.tmp 8), none⟩]
def joineryref03_reg.lc : LCode :=
 .seq (.text [⟨some 2, .mv (.cst (.bool false)), none⟩]) (.seq joineryref03_reg.k1 .ret)
theorem joineryref03_reg.low : lowFn Tryd.prog 63 = some (9, joineryref03_reg.lc, [.tmp 2]) := by kernel_rfl

def alloc_put.k1 : LCode := .text [⟨some 4, .box (.tmp 1), none⟩,⟨some 5, .box (.tmp 2), none⟩,⟨some 6, .mv (.cst (.imm (.slice none 0 0))), none⟩,⟨some 7, .mv (.cst (.int .i64 0)), none⟩]
def alloc_put.k2 : LCode := .text [⟨some 10, .mv (.tmp 0), none⟩,⟨some 11, .len .slice (.tmp 10), none⟩,⟨some 12, .load false 1 (.tmp 5), none⟩,⟨some 13, .len .slice (.tmp 12), none⟩,⟨some 14, .bin .add .other (.tmp 11) (.tmp 13), none⟩,⟨some 15, .bin .gtr .other (.tmp 14) (.cst (.int .i64 200)), none⟩]
def alloc_put.k3 : LCode := .text [⟨some 6, .mv (.cst (.imm (.slice none 0 0))), none⟩,⟨some 7, .mv (.cst (.int .i64 3)), none⟩]
def alloc_put.k4 : LCode := .seq alloc_put.k2 (.cond (.tmp 15) (.seq alloc_put.k3 .ret) .skip)
def alloc_put.k5 : LCode := .text [⟨some 16, .mkFn (.func 60) [] [.tmp 4, .tmp 5, .tmp 8], none⟩,⟨some 9, .mv (.tmp 16), none⟩]
def alloc_put.k6 : LCode := .text [⟨some 17, .mv (.tmp 9), none⟩,⟨some 18, .mv (.tmp 0), none⟩,⟨some 19, .load false 1 (.tmp 4), none⟩,⟨some 20, .slice 6 (.tmp 18) none (some (.tmp 19)) none, none⟩,⟨some 21, .call (.tmp 17) [.tmp 20], none⟩]
def alloc_put.k7 : LCode := .text [⟨some 22, .load false 1 (.tmp 8), none⟩,⟨some 23, .load false 1 (.tmp 5), none⟩,⟨some 24, .append 6 48 (.tmp 22) (.tmp 23), none⟩,⟨none, .store 1 (.tmp 8) (.tmp 24), none⟩]
def alloc_put.k8 : LCode := .text [⟨some 25, .mv (.tmp 9), none⟩,⟨some 26, .mv (.tmp 0), none⟩,⟨some 27, .load false 1 (.tmp 4), none⟩,⟨some 28, .slice 6 (.tmp 26) (some (.tmp 27)) none none, none⟩,⟨some 29, .call (.tmp 25) [.tmp 28], none⟩]
def alloc_put.k9 : LCode := .text [⟨some 30, .load false 1 (.tmp 8), none⟩,⟨some 6, .mv (.tmp 30), none⟩,⟨some 7, .mv (.cst (.int .i64 0)), none⟩]
def alloc_put.k10 : LCode := .seq alloc_put.k7 (.seq alloc_put.k8 (.seq alloc_put.k9 .ret))
def alloc_put.k11 : LCode := .seq (.text [⟨some 8, .alloc [.imm (.slice none 0 0)], none⟩]) (.seq alloc_put.k5 (.seq alloc_put.k6 alloc_put.k10))
def alloc_put.lc : LCode :=
 .seq alloc_put.k1 (.seq alloc_put.k4 alloc_put.k11)
theorem alloc_put.low : lowFn Tryd.prog 32 = some (31, alloc_put.lc, [.tmp 6, .tmp 7]) := by kernel_rfl

def ins_Uses.k1 : LCode := .text [⟨some 1, .box (.tmp 0), none⟩,⟨some 2, .mv (.cst (.imm (.slice none 0 0))), none⟩]
def ins_Uses.k2 : LCode := .text [⟨some 9, .faddr 0 (.tmp 1), none⟩,⟨some 10, .load false 1 (.tmp 9), none⟩,⟨some 11, .call (.cst (.fn (.func 57) [] [])) [.tmp 10], none⟩,⟨some 8, .mv (.tmp 11), none⟩,⟨some 12, .extract (.tmp 8) 0, none⟩,⟨some 13, .extract (.tmp 8) 1, none⟩,⟨some 3, .alloc [.str ⟨#[]⟩, .str ⟨#[]⟩], none⟩,⟨none, .store 2 (.tmp 3) (.tmp 12), none⟩,⟨some 4, .mv (.tmp 13), none⟩]
def ins_Uses.k3 : LCode := .text [⟨some 14, .mv (.tmp 4), none⟩,⟨some 15, .not (.tmp 14), none⟩,⟨some 16, .mv (.tmp 15), none⟩,⟨some 17, .load true 6 (.tmp 1), some (16, false)⟩,⟨some 18, .call (.cst (.fn (.func 72) [] [])) [.tmp 17], some (16, false)⟩,⟨some 19, .pick (.tmp 16) (.cst (.bool true)) (.tmp 18), none⟩]
def ins_Uses.k4 : LCode := .seq (.text [⟨some 2, .mv (.cst (.imm (.slice none 0 0))), none⟩]) .ret
def ins_Uses.k5 : LCode := .text [⟨some 20, .faddr 1 (.tmp 3), none⟩,⟨some 21, .load false 1 (.tmp 20), none⟩,⟨some 22, .range (.tmp 21), none⟩]
def ins_Uses.k6 : LCode := .text [⟨some 23, .next (.tmp 22), none⟩,⟨some 24, .extract (.tmp 23) 0, none⟩]
def ins_Uses.k7 : LCode := .text [⟨some 25, .extract (.tmp 23) 2, none⟩,⟨some 7, .mv (.tmp 25), none⟩]
def ins_Uses.k8 : LCode := .text [⟨some 26, .mv (.tmp 7), none⟩,⟨some 27, .bin .eql .other (.tmp 26) (.cst (.int .i32 65)), none⟩,⟨some 28, .mv (.tmp 27), none⟩,⟨some 29, .mv (.tmp 7), some (28, false)⟩,⟨some 30, .bin .eql .other (.tmp 29) (.cst (.int .i32 66)), some (28, false)⟩,⟨some 31, .pick (.tmp 28) (.cst (.bool true)) (.tmp 30), none⟩]
def ins_Uses.k9 : LCode := .text [⟨some 32, .mv (.tmp 5), none⟩,⟨some 33, .mv (.tmp 7), none⟩,⟨some 34, .call (.cst (.fn (.func 59) [] [])) [.tmp 1, .tmp 33], none⟩,⟨some 35, .nilc (.tmp 34), none⟩,⟨some 36, .load false 1 (.tmp 35), none⟩,⟨some 37, .bslice 1 [.int .i64 0] 1 [(0, .tmp 36)], none⟩,⟨some 38, .append 1 8 (.tmp 32) (.tmp 37), none⟩,⟨some 5, .mv (.tmp 38), none⟩]
def ins_Uses.k10 : LCode := .seq ins_Uses.k7 (.seq ins_Uses.k8 (.cond (.tmp 31) ins_Uses.k9 .skip))
def ins_Uses.k11 : LCode := .seq (.cond (.tmp 24) .skip (.exit 0)) (.block 1 ins_Uses.k10)
def ins_Uses.k12 : LCode := .seq ins_Uses.k5 (.block 0 (.loop (.seq ins_Uses.k6 ins_Uses.k11)))
def ins_Uses.k13 : LCode := .text [⟨some 39, .mv (.tmp 5), none⟩,⟨some 2, .mv (.tmp 39), none⟩]
def ins_Uses.k14 : LCode := .seq (.text [⟨some 5, .mv (.cst (.imm (.slice none 0 0))), none⟩]) (.seq ins_Uses.k12 (.seq ins_Uses.k13 .ret))
def ins_Uses.k15 : LCode := .seq (.seq ins_Uses.k3 (.cond (.tmp 19) ins_Uses.k4 .skip)) ins_Uses.k14
def ins_Uses.lc : LCode :=
 .seq ins_Uses.k1 (.seq ins_Uses.k2 ins_Uses.k15)
theorem ins_Uses.low : lowFn Tryd.prog 48 = some (40, ins_Uses.lc, [.tmp 2]) := by kernel_rfl

def joineryref23_has.k1 : LCode := .text [⟨some 5, .mv (.tmp 0), none⟩,⟨some 6, .call (.cst (.fn (.func 15) [] [])) [.tmp 5], none⟩,⟨some 7, .mv (.tmp 6), none⟩,⟨some 8, .mv (.tmp 1), some (7, true)⟩,⟨some 9, .bin .geq .other (.tmp 8) (.cst (.int .i64 0)), some (7, true)⟩,⟨some 10, .pick (.tmp 7) (.tmp 9) (.cst (.bool false)), none⟩,⟨some 11, .mv (.tmp 10), none⟩,⟨some 12, .mv (.tmp 1), some (11, true)⟩,⟨some 13, .mv (.tmp 0), some (11, true)⟩,⟨some 14, .len .slice (.tmp 13), some (11, true)⟩,⟨some 15, .bin .lss .other (.tmp 12) (.tmp 14), some (11, true)⟩,⟨some 16, .pick (.tmp 11) (.tmp 15) (.cst (.bool false)), none⟩,⟨some 4, .mv (.tmp 16), none⟩]
def joineryref23_has.lc : LCode :=
 .seq (.text [⟨some 4, .mv (.cst (.bool false)), none⟩]) (.seq joineryref23_has.k1 .ret)
theorem joineryref23_has.low : lowFn Tryd.prog 33 = some (17, joineryref23_has.lc, [.tmp 4]) := by kernel_rfl

def joineryref03_Check.k1 : LCode := .text [⟨some 2, .box (.tmp 0), none⟩,⟨some 4, .mv (.cst (.int .i64 0)), none⟩]
def joineryref03_Check.k2 : LCode := .any true [⟨some 5, .faddr 0 (.tmp 2), none⟩,⟨some 6, .load false 1 (.tmp 5), none⟩,⟨some 7, .bin .lss .other (.tmp 6) (.cst (.int .i64 1)), none⟩,⟨some 8, .mv (.tmp 7), none⟩,⟨some 9, .faddr 0 (.tmp 2), some (8, false)⟩,⟨some 10, .load false 1 (.tmp 9), some (8, false)⟩,⟨some 11, .bin .gtr .other (.tmp 10) (.cst (.int .i64 18)), some (8, false)⟩,⟨some 12, .pick (.tmp 8) (.cst (.bool true)) (.tmp 11), none⟩,⟨some 13, .mv (.tmp 12), none⟩,⟨some 14, .load true 6 (.tmp 2), some (13, false)⟩,⟨some 15, .call (.cst (.fn (.func 61) [] [])) [.tmp 14], some (13, false)⟩,⟨some 16, .load true 6 (.tmp 2), some (13, false)⟩,⟨some 17, .bin .neq (.cells [.i, .i, .i, .i, .i, .i]) (.tmp 15) (.tmp 16), some (13, false)⟩,⟨some 18, .pick (.tmp 13) (.cst (.bool true)) (.tmp 17), none⟩,⟨some 19, .mv (.tmp 18), none⟩,⟨some 20, .faddr 0 (.tmp 2), some (19, false)⟩,⟨some 21, .load false 1 (.tmp 20), some (19, false)⟩,⟨some 22, .bin .eql .other (.tmp 21) (.cst (.int .i64 15)), some (19, false)⟩,⟨some 23, .mv (.tmp 22), some (19, false)⟩,⟨some 24, .faddr 4 (.tmp 2), some (23, true)⟩,⟨some 25, .load false 1 (.tmp 24), some (23, true)⟩,⟨some 26, .bin .lss .other (.tmp 25) (.cst (.int .i64 0)), some (23, true)⟩,⟨some 27, .mv (.tmp 26), some (23, true)⟩,⟨some 28, .faddr 4 (.tmp 2), some (27, false)⟩,⟨some 29, .load false 1 (.tmp 28), some (27, false)⟩,⟨some 30, .bin .gtr .other (.tmp 29) (.cst (.int .i64 99)), some (27, false)⟩,⟨some 31, .pick (.tmp 27) (.cst (.bool true)) (.tmp 30), some (23, true)⟩,⟨some 32, .pick (.tmp 23) (.tmp 31) (.cst (.bool false)), some (19, false)⟩,⟨some 33, .pick (.tmp 19) (.cst (.bool true)) (.tmp 32), none⟩] (.both (.take 0 (.all [(1, .take 2 (.take 3 (.take 4 (.all [(5, .take 6 (.take 7 (.take 8 (.all [(9, .all [(10, .all [(11, .take 12 (.take 13 (.take 14 (.take 15 (.all [(16, .take 17 (.take 18 (.take 19 (.all [(20, .take 21 (.take 22 (.take 23 (.all [(24, .take 25 (.take 26 (.take 27 (.take 28 .done))))]))))]))))])))))]), (11, .all [(10, .take 12 (.take 13 (.take 14 (.take 15 (.all [(16, .take 17 (.take 18 (.take 19 (.all [(20, .take 21 (.take 22 (.take 23 (.all [(24, .take 25 (.take 26 (.take 27 (.take 28 .done))))]))))]))))])))))])]), (11, .all [(9, .all [(10, .take 12 (.take 13 (.take 14 (.take 15 (.all [(16, .take 17 (.take 18 (.take 19 (.all [(20, .take 21 (.take 22 (.take 23 (.all [(24, .take 25 (.take 26 (.take 27 (.take 28 .done))))]))))]))))])))))])])]))))]))))])) (.front 0 (.front 1 (.front 2 (.front 3 (.front 4 (.front 5 (.front 6 (.front 7 (.front 8 (.front 9 (.front 10 (.front 11 (.front 12 (.front 13 (.front 14 (.front 15 (.front 16 (.front 17 (.front 18 (.front 19 (.front 20 (.front 21 (.front 22 (.front 23 (.front 24 (.front 25 (.front 26 (.front 27 (.front 28 .done))))))))))))))))))))))))))))))
def joineryref03_Check.k3 : LCode := .seq (.text [⟨some 4, .mv (.cst (.int .i64 1)), none⟩]) .ret
def joineryref03_Check.k4 : LCode := .seq joineryref03_Check.k2 (.cond (.tmp 33) joineryref03_Check.k3 .skip)
def joineryref03_Check.k5 : LCode := .text [⟨some 34, .faddr 0 (.tmp 2), none⟩,⟨some 35, .load false 1 (.tmp 34), none⟩,⟨some 36, .bin .leq .other (.tmp 35) (.cst (.int .i64 3)), none⟩]
def joineryref03_Check.k6 : LCode := .text [⟨some 37, .faddr 1 (.tmp 2), none⟩,⟨some 38, .load false 1 (.tmp 37), none⟩,⟨some 39, .call (.cst (.fn (.func 62) [] [])) [.tmp 38], none⟩,⟨some 40, .not (.tmp 39), none⟩,⟨some 41, .mv (.tmp 40), none⟩,⟨some 42, .faddr 2 (.tmp 2), some (41, false)⟩,⟨some 43, .load false 1 (.tmp 42), some (41, false)⟩,⟨some 44, .call (.cst (.fn (.func 62) [] [])) [.tmp 43], some (41, false)⟩,⟨some 45, .not (.tmp 44), some (41, false)⟩,⟨some 46, .pick (.tmp 41) (.cst (.bool true)) (.tmp 45), none⟩]
def joineryref03_Check.k7 : LCode := .seq (.text [⟨some 4, .mv (.cst (.int .i64 6)), none⟩]) .ret
def joineryref03_Check.k8 : LCode := .seq joineryref03_Check.k6 (.cond (.tmp 46) joineryref03_Check.k7 .skip)
def joineryref03_Check.k9 : LCode := .text [⟨some 47, .faddr 1 (.tmp 2), none⟩,⟨some 48, .load false 1 (.tmp 47), none⟩,⟨some 49, .call (.cst (.fn (.func 63) [] [])) [.tmp 48], none⟩,⟨some 50, .not (.tmp 49), none⟩,⟨some 51, .mv (.tmp 50), none⟩,⟨some 52, .faddr 2 (.tmp 2), some (51, false)⟩,⟨some 53, .load false 1 (.tmp 52), some (51, false)⟩,⟨some 54, .call (.cst (.fn (.func 63) [] [])) [.tmp 53], some (51, false)⟩,⟨some 55, .not (.tmp 54), some (51, false)⟩,⟨some 56, .pick (.tmp 51) (.cst (.bool true)) (.tmp 55), none⟩,⟨some 57, .mv (.tmp 56), none⟩,⟨some 58, .faddr 3 (.tmp 2), some (57, false)⟩,⟨some 59, .load false 1 (.tmp 58), some (57, false)⟩,⟨some 60, .call (.cst (.fn (.func 63) [] [])) [.tmp 59], some (57, false)⟩,⟨some 61, .not (.tmp 60), some (57, false)⟩,⟨some 62, .pick (.tmp 57) (.cst (.bool true)) (.tmp 61), none⟩]
def joineryref03_Check.k10 : LCode := .seq (.text [⟨some 4, .mv (.cst (.int .i64 6)), none⟩]) .ret
def joineryref03_Check.k11 : LCode := .seq joineryref03_Check.k9 (.cond (.tmp 62) joineryref03_Check.k10 .skip)
def joineryref03_Check.k12 : LCode := .cond (.tmp 36) joineryref03_Check.k8 joineryref03_Check.k11
def joineryref03_Check.k13 : LCode := .text [⟨some 63, .faddr 0 (.tmp 2), none⟩,⟨some 64, .load false 1 (.tmp 63), none⟩,⟨some 65, .bin .eql .other (.tmp 64) (.cst (.int .i64 16)), none⟩,⟨some 66, .mv (.tmp 65), none⟩,⟨some 67, .faddr 0 (.tmp 2), some (66, false)⟩,⟨some 68, .load false 1 (.tmp 67), some (66, false)⟩,⟨some 69, .bin .eql .other (.tmp 68) (.cst (.int .i64 17)), some (66, false)⟩,⟨some 70, .pick (.tmp 66) (.cst (.bool true)) (.tmp 69), none⟩,⟨some 71, .mv (.tmp 70), none⟩,⟨some 72, .faddr 5 (.tmp 2), some (71, true)⟩,⟨some 73, .load false 1 (.tmp 72), some (71, true)⟩,⟨some 74, .bin .lss .other (.tmp 73) (.cst (.int .i64 0)), some (71, true)⟩,⟨some 75, .mv (.tmp 74), some (71, true)⟩,⟨some 76, .faddr 5 (.tmp 2), some (75, false)⟩,⟨some 77, .load false 1 (.tmp 76), some (75, false)⟩,⟨some 78, .mv (.tmp 1), some (75, false)⟩,⟨some 79, .bin .geq .other (.tmp 77) (.tmp 78), some (75, false)⟩,⟨some 80, .pick (.tmp 75) (.cst (.bool true)) (.tmp 79), some (71, true)⟩,⟨some 81, .pick (.tmp 71) (.tmp 80) (.cst (.bool false)), none⟩]
def joineryref03_Check.k14 : LCode := .seq (.text [⟨some 4, .mv (.cst (.int .i64 4)), none⟩]) .ret
def joineryref03_Check.k15 : LCode := .seq joineryref03_Check.k13 (.cond (.tmp 81) joineryref03_Check.k14 .skip)
def joineryref03_Check.k16 : LCode := .seq (.text [⟨some 4, .mv (.cst (.int .i64 0)), none⟩]) .ret
def joineryref03_Check.k17 : LCode := .seq (.seq joineryref03_Check.k5 joineryref03_Check.k12) (.seq joineryref03_Check.k15 joineryref03_Check.k16)
def joineryref03_Check.lc : LCode :=
 .seq joineryref03_Check.k1 (.seq joineryref03_Check.k4 joineryref03_Check.k17)
theorem joineryref03_Check.low : lowFn Tryd.prog 34 = some (82, joineryref03_Check.lc, [.tmp 4]) := by kernel_rfl

def num_Parse.k1 : LCode := .text [⟨some 2, .mv (.cst (.int .i64 0)), none⟩,⟨some 3, .mv (.cst (.int .i64 0)), none⟩]
def num_Parse.k2 : LCode := .text [⟨some 10, .mv (.tmp 0), none⟩,⟨some 4, .mv (.tmp 10), none⟩,⟨some 5, .mv (.cst (.bool false)), none⟩]
def num_Parse.k3 : LCode := .text [⟨some 11, .mv (.tmp 0), none⟩,⟨some 12, .len .str (.tmp 11), none⟩,⟨some 13, .bin .gtr .other (.tmp 12) (.cst (.int .i64 0)), none⟩,⟨some 14, .mv (.tmp 13), none⟩,⟨some 15, .mv (.tmp 0), some (14, true)⟩,⟨some 16, .idxS (.tmp 15) (.cst (.int .i64 0)), some (14, true)⟩,⟨some 17, .bin .eql .other (.tmp 16) (.cst (.int .u8 45)), some (14, true)⟩,⟨some 18, .pick (.tmp 14) (.tmp 17) (.cst (.bool false)), none⟩]
def num_Parse.k4 : LCode := .text [⟨some 19, .mv (.tmp 0), none⟩,⟨some 20, .sliceS (.tmp 19) (some (.cst (.int .i64 1))) none, none⟩,⟨some 4, .mv (.tmp 20), none⟩,⟨some 5, .mv (.cst (.bool true)), none⟩]
def num_Parse.k5 : LCode := .text [⟨some 21, .mv (.tmp 4), none⟩,⟨some 22, .len .str (.tmp 21), none⟩,⟨some 23, .bin .eql .other (.tmp 22) (.cst (.int .i64 0)), none⟩,⟨some 24, .mv (.tmp 23), none⟩,⟨some 25, .mv (.tmp 4), some (24, false)⟩,⟨some 26, .len .str (.tmp 25), some (24, false)⟩,⟨some 27, .bin .gtr .other (.tmp 26) (.cst (.int .i64 19)), some (24, false)⟩,⟨some 28, .pick (.tmp 24) (.cst (.bool true)) (.tmp 27), none⟩,⟨some 29, .mv (.tmp 28), none⟩,⟨some 30, .mv (.tmp 4), some (29, false)⟩,⟨some 31, .idxS (.tmp 30) (.cst (.int .i64 0)), some (29, false)⟩,⟨some 32, .bin .eql .other (.tmp 31) (.cst (.int .u8 48)), some (29, false)⟩,⟨some 33, .mv (.tmp 32), some (29, false)⟩,⟨some 34, .mv (.tmp 4), some (33, true)⟩,⟨some 35, .len .str (.tmp 34), some (33, true)⟩,⟨some 36, .bin .gtr .other (.tmp 35) (.cst (.int .i64 1)), some (33, true)⟩,⟨some 37, .mv (.tmp 36), some (33, true)⟩,⟨some 38, .mv (.tmp 5), some (37, false)⟩,⟨some 39, .pick (.tmp 37) (.cst (.bool true)) (.tmp 38), some (33, true)⟩,⟨some 40, .pick (.tmp 33) (.tmp 39) (.cst (.bool false)), some (29, false)⟩,⟨some 41, .pick (.tmp 29) (.cst (.bool true)) (.tmp 40), none⟩]
def num_Parse.k6 : LCode := .text [⟨some 2, .mv (.cst (.int .i64 0)), none⟩,⟨some 3, .mv (.cst (.int .i64 2)), none⟩]
def num_Parse.k7 : LCode := .seq num_Parse.k5 (.cond (.tmp 41) (.seq num_Parse.k6 .ret) .skip)
def num_Parse.k8 : LCode := .text [⟨some 42, .mv (.tmp 4), none⟩,⟨some 43, .range (.tmp 42), none⟩]
def num_Parse.k9 : LCode := .text [⟨some 44, .next (.tmp 43), none⟩,⟨some 45, .extract (.tmp 44) 0, none⟩]
def num_Parse.k10 : LCode := .text [⟨some 46, .extract (.tmp 44) 2, none⟩,⟨some 8, .mv (.tmp 46), none⟩]
def num_Parse.k11 : LCode := .text [⟨some 47, .mv (.tmp 8), none⟩,⟨some 48, .bin .lss .other (.tmp 47) (.cst (.int .i32 48)), none⟩,⟨some 49, .mv (.tmp 48), none⟩,⟨some 50, .mv (.tmp 8), some (49, false)⟩,⟨some 51, .bin .gtr .other (.tmp 50) (.cst (.int .i32 57)), some (49, false)⟩,⟨some 52, .pick (.tmp 49) (.cst (.bool true)) (.tmp 51), none⟩]
def num_Parse.k12 : LCode := .text [⟨some 2, .mv (.cst (.int .i64 0)), none⟩,⟨some 3, .mv (.cst (.int .i64 2)), none⟩]
def num_Parse.k13 : LCode := .seq num_Parse.k11 (.cond (.tmp 52) (.seq num_Parse.k12 .ret) .skip)
def num_Parse.k14 : LCode := .text [⟨some 53, .mv (.tmp 6), none⟩,⟨some 54, .bin .mul .other (.tmp 53) (.cst (.int .u64 10)), none⟩,⟨some 55, .mv (.tmp 8), none⟩,⟨some 56, .bin .sub .other (.tmp 55) (.cst (.int .i32 48)), none⟩,⟨some 57, .toInt .u64 (.tmp 56), none⟩,⟨some 58, .bin .add .other (.tmp 54) (.tmp 57), none⟩,⟨some 6, .mv (.tmp 58), none⟩]
def num_Parse.k15 : LCode := .block 1 (.seq num_Parse.k10 (.seq num_Parse.k13 num_Parse.k14))
def num_Parse.k16 : LCode := .seq num_Parse.k9 (.seq (.cond (.tmp 45) .skip (.exit 0)) num_Parse.k15)
def num_Parse.k17 : LCode := .text [⟨some 9, .mv (.cst (.int .u64 9223372036854775807)), none⟩]
def num_Parse.k18 : LCode := .text [⟨some 60, .mv (.tmp 9), none⟩,⟨some 61, .bin .add .other (.tmp 60) (.cst (.int .u64 1)), none⟩,⟨some 9, .mv (.tmp 61), none⟩]
def num_Parse.k19 : LCode := .text [⟨some 62, .mv (.tmp 6), none⟩,⟨some 63, .neg (.tmp 62), none⟩,⟨some 64, .mv (.tmp 9), none⟩,⟨some 65, .neg (.tmp 64), none⟩,⟨some 6, .mv (.tmp 63), none⟩,⟨some 9, .mv (.tmp 65), none⟩]
def num_Parse.k20 : LCode := .text [⟨some 66, .mv (.tmp 6), none⟩,⟨some 67, .mv (.tmp 9), none⟩,⟨some 68, .bin .lss .other (.tmp 66) (.tmp 67), none⟩]
def num_Parse.k21 : LCode := .text [⟨some 2, .mv (.cst (.int .i64 0)), none⟩,⟨some 3, .mv (.cst (.int .i64 2)), none⟩]
def num_Parse.k22 : LCode := .seq num_Parse.k20 (.cond (.tmp 68) (.seq num_Parse.k21 .ret) .skip)
def num_Parse.k23 : LCode := .text [⟨some 69, .mv (.tmp 6), none⟩,⟨some 70, .toInt .i64 (.tmp 69), none⟩,⟨some 2, .mv (.tmp 70), none⟩,⟨some 3, .mv (.cst (.int .i64 0)), none⟩]
def num_Parse.k24 : LCode := .seq num_Parse.k19 (.seq num_Parse.k22 (.seq num_Parse.k23 .ret))
def num_Parse.k25 : LCode := .seq (.text [⟨some 59, .mv (.tmp 5), none⟩]) (.cond (.tmp 59) (.seq num_Parse.k18 num_Parse.k24) .skip)
def num_Parse.k26 : LCode := .text [⟨some 71, .mv (.tmp 6), none⟩,⟨some 72, .mv (.tmp 9), none⟩,⟨some 73, .bin .gtr .other (.tmp 71) (.tmp 72), none⟩]
def num_Parse.k27 : LCode := .text [⟨some 2, .mv (.cst (.int .i64 0)), none⟩,⟨some 3, .mv (.cst (.int .i64 2)), none⟩]
def num_Parse.k28 : LCode := .seq num_Parse.k26 (.cond (.tmp 73) (.seq num_Parse.k27 .ret) .skip)
def num_Parse.k29 : LCode := .text [⟨some 74, .mv (.tmp 6), none⟩,⟨some 75, .toInt .i64 (.tmp 74), none⟩,⟨some 2, .mv (.tmp 75), none⟩,⟨some 3, .mv (.cst (.int .i64 0)), none⟩]
def num_Parse.k30 : LCode := .seq num_Parse.k25 (.seq num_Parse.k28 (.seq num_Parse.k29 .ret))
def num_Parse.k31 : LCode := .seq (.seq num_Parse.k8 (.block 0 (.loop num_Parse.k16))) (.seq num_Parse.k17 num_Parse.k30)
def num_Parse.k32 : LCode := .seq (.text [⟨some 6, .mv (.cst (.int .u64 0)), none⟩]) num_Parse.k31
def num_Parse.k33 : LCode := .seq (.seq num_Parse.k3 (.cond (.tmp 18) num_Parse.k4 .skip)) (.seq num_Parse.k7 num_Parse.k32)
def num_Parse.lc : LCode :=
 .seq num_Parse.k1 (.seq num_Parse.k2 num_Parse.k33)
theorem num_Parse.low : lowFn Tryd.prog 82 = some (76, num_Parse.lc, [.tmp 2, .tmp 3]) := by kernel_rfl


end Go.Proofs.YtgdopmhgmpkahaaDoor
