/-
  The seat's functions, made plain (printed by a program of this claim; each is held against the loaded program by the kernel).
-/
import Derived.Test.YteoahfpnkbdkkaaProg
import Derived.Test.YteoahfpnkbdkkaaC4
import Derived.KernelRfl
namespace Go.Proofs.Yteoahfpnkbdkkaa
set_option maxRecDepth 100000

/-- Function 3. -/
abbrev joinerylaw17_CandRight.no : Nat := 3
def joinerylaw17_CandRight.lc : LCode :=
 .seq
 (.text [⟨some 8, .mv (.cst (.bool false)), none⟩])
 (.seq (.seq
 (.text [⟨some 9, .mv (.tmp 0), none⟩,
  ⟨some 10, .len .slice (.tmp 9), none⟩,
  ⟨some 11, .bin .gtr .other (.tmp 10) (.cst (.int .i64 300)), none⟩,
  ⟨some 12, .mv (.tmp 11), none⟩,
  ⟨some 13, .mv (.tmp 1), some (12, false)⟩,
  ⟨some 14, .len .slice (.tmp 13), some (12, false)⟩,
  ⟨some 15, .bin .gtr .other (.tmp 14) (.cst (.int .i64 300)), some (12, false)⟩,
  ⟨some 16, .pick (.tmp 12) (.cst (.bool true)) (.tmp 15), none⟩])
 (.cond (.tmp 16)
 (.seq
 (.text [⟨some 17, .call (.cst (.fn (.func 7) [] [])) [], none⟩,
  ⟨some 8, .mv (.tmp 17), none⟩]) .ret) .skip))
 (.seq
 (.text [⟨some 18, .mv (.tmp 0), none⟩,
  ⟨some 19, .mv (.tmp 1), none⟩,
  ⟨some 20, .call (.cst (.fn (.func 9) [] [])) [.tmp 18, .tmp 19], none⟩,
  ⟨some 21, .call (.cst (.fn (.func 8) [] [])) [.tmp 20], none⟩,
  ⟨some 22, .mv (.tmp 21), none⟩,
  ⟨some 23, .mv (.tmp 0), some (22, true)⟩,
  ⟨some 24, .mv (.tmp 1), some (22, true)⟩,
  ⟨some 25, .mv (.tmp 2), some (22, true)⟩,
  ⟨some 26, .mv (.tmp 3), some (22, true)⟩,
  ⟨some 27, .call (.cst (.fn (.func 10) [] [])) [.tmp 23, .tmp 24, .tmp 25, .tmp 26], some (22, true)⟩,
  ⟨some 28, .call (.cst (.fn (.func 8) [] [])) [.tmp 27], some (22, true)⟩,
  ⟨some 29, .pick (.tmp 22) (.tmp 28) (.cst (.bool false)), none⟩,
  ⟨some 30, .mv (.tmp 29), none⟩,
  ⟨some 31, .call (.cst (.fn (.func 7) [] [])) [], some (30, true)⟩,
  ⟨some 32, .pick (.tmp 30) (.tmp 31) (.cst (.bool false)), none⟩,
  ⟨some 8, .mv (.tmp 32), none⟩]) .ret))
theorem joinerylaw17_CandRight.low : lowFn Try.prog 3 = some (33, joinerylaw17_CandRight.lc, [.tmp 8]) := by kernel_rfl

/-- Function 4. -/
abbrev joinerylaw17_CandUnlike.no : Nat := 4
def joinerylaw17_CandUnlike.lc : LCode :=
 .seq
 (.text [⟨some 4, .mv (.cst (.bool false)), none⟩])
 (.seq (.seq
 (.text [⟨some 12, .mv (.tmp 0), none⟩,
  ⟨some 13, .len .slice (.tmp 12), none⟩,
  ⟨some 14, .bin .gtr .other (.tmp 13) (.cst (.int .i64 200)), none⟩,
  ⟨some 15, .mv (.tmp 14), none⟩,
  ⟨some 16, .mv (.tmp 1), some (15, false)⟩,
  ⟨some 17, .len .slice (.tmp 16), some (15, false)⟩,
  ⟨some 18, .bin .gtr .other (.tmp 17) (.cst (.int .i64 200)), some (15, false)⟩,
  ⟨some 19, .pick (.tmp 15) (.cst (.bool true)) (.tmp 18), none⟩])
 (.cond (.tmp 19)
 (.seq
 (.text [⟨some 20, .call (.cst (.fn (.func 7) [] [])) [], none⟩,
  ⟨some 4, .mv (.tmp 20), none⟩]) .ret) .skip))
 (.seq
 (.text [⟨some 21, .mv (.tmp 0), none⟩,
  ⟨some 22, .mv (.tmp 1), none⟩,
  ⟨some 23, .call (.cst (.fn (.func 9) [] [])) [.tmp 21, .tmp 22], none⟩,
  ⟨some 5, .alloc [.int .i64 0, .int .i64 0, .int .i64 0, .int .i64 0, .int .i64 0, .int .i64 0, .int .i64 0, .int .i64 0, .imm (.slice none 0 0), .imm (.slice none 0 0), .int .i64 0], none⟩,
  ⟨none, .store 11 (.tmp 5) (.tmp 23), none⟩])
 (.seq
 (.text [⟨some 6, .mv (.cst (.imm (.slice none 0 0))), none⟩])
 (.seq (.seq
 (.text [⟨some 7, .mv (.cst (.int .i64 0)), none⟩])
 (.block 0 (.loop
 (.seq (.seq
 (.text [⟨some 24, .mv (.tmp 7), none⟩,
  ⟨some 25, .bin .lss .other (.tmp 24) (.cst (.int .i64 8)), none⟩])
 (.cond (.tmp 25) .skip (.exit 0)))
 (.seq
 (.block 1
 (.text [⟨some 28, .mv (.tmp 6), none⟩,
  ⟨some 29, .mv (.tmp 7), none⟩,
  ⟨some 30, .faddr 0 (.tmp 5), none⟩,
  ⟨some 31, .iaddrA 8 1 (.tmp 30) (.tmp 29), none⟩,
  ⟨some 32, .load false 1 (.tmp 31), none⟩,
  ⟨some 33, .bslice 1 [.int .i64 0] 1 [(0, .tmp 32)], none⟩,
  ⟨some 34, .append 1 8 (.tmp 28) (.tmp 33), none⟩,
  ⟨some 6, .mv (.tmp 34), none⟩]))
 (.text [⟨some 26, .mv (.tmp 7), none⟩,
  ⟨some 27, .bin .add .other (.tmp 26) (.cst (.int .i64 1)), none⟩,
  ⟨some 7, .mv (.tmp 27), none⟩]))))))
 (.seq
 (.text [⟨some 35, .mv (.tmp 6), none⟩,
  ⟨some 36, .faddr 9 (.tmp 5), none⟩,
  ⟨some 37, .load false 1 (.tmp 36), none⟩,
  ⟨some 38, .append 1 8 (.tmp 35) (.tmp 37), none⟩,
  ⟨some 6, .mv (.tmp 38), none⟩])
 (.seq
 (.text [⟨some 39, .mv (.tmp 0), none⟩,
  ⟨some 40, .mv (.tmp 1), none⟩,
  ⟨some 41, .call (.cst (.fn (.func 11) [] [])) [.tmp 39, .tmp 40], none⟩,
  ⟨some 8, .mv (.tmp 41), none⟩])
 (.seq (.seq
 (.text [⟨some 9, .mv (.cst (.int .i64 0)), none⟩])
 (.block 2 (.loop
 (.seq (.seq
 (.text [⟨some 42, .mv (.tmp 9), none⟩,
  ⟨some 43, .mv (.tmp 6), none⟩,
  ⟨some 44, .len .slice (.tmp 43), none⟩,
  ⟨some 45, .bin .lss .other (.tmp 42) (.tmp 44), none⟩])
 (.cond (.tmp 45) .skip (.exit 2)))
 (.seq
 (.block 3
 (.seq (.seq
 (.text [⟨some 10, .mv (.cst (.int .i64 0)), none⟩])
 (.block 4 (.loop
 (.seq (.seq
 (.text [⟨some 48, .mv (.tmp 10), none⟩,
  ⟨some 49, .mv (.tmp 9), none⟩,
  ⟨some 50, .bin .lss .other (.tmp 48) (.tmp 49), none⟩])
 (.cond (.tmp 50) .skip (.exit 4)))
 (.seq
 (.block 5
 (.seq
 (.any true [⟨some 53, .mv (.tmp 6), none⟩,
  ⟨some 54, .mv (.tmp 9), none⟩,
  ⟨some 55, .iaddrS 1 (.tmp 53) (.tmp 54), none⟩,
  ⟨some 56, .load false 1 (.tmp 55), none⟩,
  ⟨some 57, .mv (.tmp 6), none⟩,
  ⟨some 58, .mv (.tmp 10), none⟩,
  ⟨some 59, .iaddrS 1 (.tmp 57) (.tmp 58), none⟩,
  ⟨some 60, .load false 1 (.tmp 59), none⟩,
  ⟨some 61, .bin .eql .other (.tmp 56) (.tmp 60), none⟩] .no)
 (.cond (.tmp 61)
 (.seq
 (.text [⟨some 4, .mv (.cst (.bool false)), none⟩]) .ret) .skip)))
 (.text [⟨some 51, .mv (.tmp 10), none⟩,
  ⟨some 52, .bin .add .other (.tmp 51) (.cst (.int .i64 1)), none⟩,
  ⟨some 10, .mv (.tmp 52), none⟩]))))))
 (.seq
 (.text [⟨some 11, .mv (.cst (.int .i64 0)), none⟩])
 (.block 6 (.loop
 (.seq (.seq
 (.text [⟨some 62, .mv (.tmp 11), none⟩,
  ⟨some 63, .mv (.tmp 8), none⟩,
  ⟨some 64, .len .slice (.tmp 63), none⟩,
  ⟨some 65, .bin .lss .other (.tmp 62) (.tmp 64), none⟩])
 (.cond (.tmp 65) .skip (.exit 6)))
 (.seq
 (.block 7
 (.seq
 (.any true [⟨some 68, .mv (.tmp 6), none⟩,
  ⟨some 69, .mv (.tmp 9), none⟩,
  ⟨some 70, .iaddrS 1 (.tmp 68) (.tmp 69), none⟩,
  ⟨some 71, .load false 1 (.tmp 70), none⟩,
  ⟨some 72, .mv (.tmp 8), none⟩,
  ⟨some 73, .mv (.tmp 11), none⟩,
  ⟨some 74, .iaddrS 1 (.tmp 72) (.tmp 73), none⟩,
  ⟨some 75, .load false 1 (.tmp 74), none⟩,
  ⟨some 76, .bin .eql .other (.tmp 71) (.tmp 75), none⟩] .no)
 (.cond (.tmp 76)
 (.seq
 (.text [⟨some 4, .mv (.cst (.bool false)), none⟩]) .ret) .skip)))
 (.text [⟨some 66, .mv (.tmp 11), none⟩,
  ⟨some 67, .bin .add .other (.tmp 66) (.cst (.int .i64 1)), none⟩,
  ⟨some 11, .mv (.tmp 67), none⟩]))))))))
 (.text [⟨some 46, .mv (.tmp 9), none⟩,
  ⟨some 47, .bin .add .other (.tmp 46) (.cst (.int .i64 1)), none⟩,
  ⟨some 9, .mv (.tmp 47), none⟩]))))))
 (.seq
 (.text [⟨some 77, .faddr 9 (.tmp 5), none⟩,
  ⟨some 78, .load false 1 (.tmp 77), none⟩,
  ⟨some 79, .len .slice (.tmp 78), none⟩,
  ⟨some 80, .mv (.tmp 0), none⟩,
  ⟨some 81, .len .slice (.tmp 80), none⟩,
  ⟨some 82, .mv (.tmp 1), none⟩,
  ⟨some 83, .len .slice (.tmp 82), none⟩,
  ⟨some 84, .bin .add .other (.tmp 81) (.tmp 83), none⟩,
  ⟨some 85, .bin .add .other (.tmp 84) (.cst (.int .i64 2)), none⟩,
  ⟨some 86, .bin .eql .other (.tmp 79) (.tmp 85), none⟩,
  ⟨some 87, .mv (.tmp 86), none⟩,
  ⟨some 88, .call (.cst (.fn (.func 7) [] [])) [], some (87, true)⟩,
  ⟨some 89, .pick (.tmp 87) (.tmp 88) (.cst (.bool false)), none⟩,
  ⟨some 4, .mv (.tmp 89), none⟩]) .ret))))))))
theorem joinerylaw17_CandUnlike.low : lowFn Try.prog 4 = some (90, joinerylaw17_CandUnlike.lc, [.tmp 4]) := by kernel_rfl

/-- Function 5. -/
abbrev joinerylaw17_CandLong.no : Nat := 5
def joinerylaw17_CandLong.lc : LCode :=
 .seq
 (.text [⟨some 8, .mv (.cst (.bool false)), none⟩])
 (.seq (.seq
 (.text [⟨some 11, .mv (.tmp 0), none⟩,
  ⟨some 12, .len .slice (.tmp 11), none⟩,
  ⟨some 13, .bin .gtr .other (.tmp 12) (.cst (.int .i64 300)), none⟩,
  ⟨some 14, .mv (.tmp 13), none⟩,
  ⟨some 15, .mv (.tmp 1), some (14, false)⟩,
  ⟨some 16, .len .slice (.tmp 15), some (14, false)⟩,
  ⟨some 17, .bin .gtr .other (.tmp 16) (.cst (.int .i64 300)), some (14, false)⟩,
  ⟨some 18, .pick (.tmp 14) (.cst (.bool true)) (.tmp 17), none⟩])
 (.cond (.tmp 18)
 (.seq
 (.text [⟨some 19, .call (.cst (.fn (.func 7) [] [])) [], none⟩,
  ⟨some 8, .mv (.tmp 19), none⟩]) .ret) .skip))
 (.seq
 (.text [⟨some 20, .mv (.tmp 0), none⟩,
  ⟨some 21, .mv (.tmp 1), none⟩,
  ⟨some 9, .mv (.tmp 20), none⟩,
  ⟨some 10, .mv (.tmp 21), none⟩])
 (.seq (.seq
 (.text [⟨some 22, .mv (.tmp 0), none⟩,
  ⟨some 23, .len .slice (.tmp 22), none⟩,
  ⟨some 24, .bin .gtr .other (.tmp 23) (.cst (.int .i64 200)), none⟩])
 (.cond (.tmp 24)
 (.text [⟨some 25, .mv (.tmp 0), none⟩,
  ⟨some 26, .slice 6 (.tmp 25) none (some (.cst (.int .i64 200))) none, none⟩,
  ⟨some 9, .mv (.tmp 26), none⟩]) .skip))
 (.seq (.seq
 (.text [⟨some 27, .mv (.tmp 1), none⟩,
  ⟨some 28, .len .slice (.tmp 27), none⟩,
  ⟨some 29, .bin .gtr .other (.tmp 28) (.cst (.int .i64 200)), none⟩])
 (.cond (.tmp 29)
 (.text [⟨some 30, .mv (.tmp 1), none⟩,
  ⟨some 31, .slice 6 (.tmp 30) none (some (.cst (.int .i64 200))) none, none⟩,
  ⟨some 10, .mv (.tmp 31), none⟩]) .skip))
 (.seq
 (.text [⟨some 32, .mv (.tmp 0), none⟩,
  ⟨some 33, .mv (.tmp 1), none⟩,
  ⟨some 34, .mv (.tmp 2), none⟩,
  ⟨some 35, .mv (.tmp 3), none⟩,
  ⟨some 36, .call (.cst (.fn (.func 10) [] [])) [.tmp 32, .tmp 33, .tmp 34, .tmp 35], none⟩,
  ⟨some 37, .mv (.tmp 9), none⟩,
  ⟨some 38, .mv (.tmp 10), none⟩,
  ⟨some 39, .mv (.tmp 2), none⟩,
  ⟨some 40, .mv (.tmp 3), none⟩,
  ⟨some 41, .call (.cst (.fn (.func 10) [] [])) [.tmp 37, .tmp 38, .tmp 39, .tmp 40], none⟩,
  ⟨some 42, .call (.cst (.fn (.func 12) [] [])) [.tmp 36, .tmp 41], none⟩,
  ⟨some 43, .mv (.tmp 42), none⟩,
  ⟨some 44, .mv (.tmp 0), some (43, true)⟩,
  ⟨some 45, .mv (.tmp 1), some (43, true)⟩,
  ⟨some 46, .call (.cst (.fn (.func 9) [] [])) [.tmp 44, .tmp 45], some (43, true)⟩,
  ⟨some 47, .mv (.tmp 9), some (43, true)⟩,
  ⟨some 48, .mv (.tmp 10), some (43, true)⟩,
  ⟨some 49, .call (.cst (.fn (.func 9) [] [])) [.tmp 47, .tmp 48], some (43, true)⟩,
  ⟨some 50, .call (.cst (.fn (.func 12) [] [])) [.tmp 46, .tmp 49], some (43, true)⟩,
  ⟨some 51, .pick (.tmp 43) (.tmp 50) (.cst (.bool false)), none⟩,
  ⟨some 52, .mv (.tmp 51), none⟩,
  ⟨some 53, .call (.cst (.fn (.func 7) [] [])) [], some (52, true)⟩,
  ⟨some 54, .pick (.tmp 52) (.tmp 53) (.cst (.bool false)), none⟩,
  ⟨some 8, .mv (.tmp 54), none⟩]) .ret)))))
theorem joinerylaw17_CandLong.low : lowFn Try.prog 5 = some (55, joinerylaw17_CandLong.lc, [.tmp 8]) := by kernel_rfl

/-- Function 6. -/
abbrev joinerylaw17_CandPools.no : Nat := 6
def joinerylaw17_CandPools.lc : LCode :=
 .seq
 (.text [⟨some 8, .mv (.cst (.bool false)), none⟩])
 (.seq (.seq
 (.text [⟨some 16, .mv (.tmp 0), none⟩,
  ⟨some 17, .len .slice (.tmp 16), none⟩,
  ⟨some 18, .bin .gtr .other (.tmp 17) (.cst (.int .i64 60)), none⟩,
  ⟨some 19, .mv (.tmp 18), none⟩,
  ⟨some 20, .mv (.tmp 1), some (19, false)⟩,
  ⟨some 21, .len .slice (.tmp 20), some (19, false)⟩,
  ⟨some 22, .bin .gtr .other (.tmp 21) (.cst (.int .i64 60)), some (19, false)⟩,
  ⟨some 23, .pick (.tmp 19) (.cst (.bool true)) (.tmp 22), none⟩,
  ⟨some 24, .mv (.tmp 23), none⟩,
  ⟨some 25, .mv (.tmp 2), some (24, false)⟩,
  ⟨some 26, .bin .lss .other (.tmp 25) (.cst (.int .i64 1)), some (24, false)⟩,
  ⟨some 27, .pick (.tmp 24) (.cst (.bool true)) (.tmp 26), none⟩])
 (.cond (.tmp 27)
 (.seq
 (.text [⟨some 28, .call (.cst (.fn (.func 7) [] [])) [], none⟩,
  ⟨some 8, .mv (.tmp 28), none⟩]) .ret) .skip))
 (.seq
 (.text [⟨some 29, .bslice 1 [.int .i64 0] 7 [(0, .cst (.int .i64 0)), (1, .cst (.int .i64 1)), (2, .cst (.int .i64 2)), (3, .cst (.int .i64 3)), (4, .cst (.int .i64 (-1))), (5, .cst (.int .i64 9223372036854775807)), (6, .cst (.int .i64 (-9223372036854775808)))], none⟩,
  ⟨some 30, .mv (.tmp 0), none⟩,
  ⟨some 31, .mv (.tmp 1), none⟩,
  ⟨some 32, .call (.cst (.fn (.func 11) [] [])) [.tmp 30, .tmp 31], none⟩,
  ⟨some 33, .append 1 8 (.tmp 29) (.tmp 32), none⟩,
  ⟨some 9, .mv (.tmp 33), none⟩])
 (.seq
 (.text [⟨some 34, .mv (.tmp 0), none⟩,
  ⟨some 35, .mv (.tmp 1), none⟩,
  ⟨some 36, .mv (.tmp 2), none⟩,
  ⟨some 37, .mv (.tmp 3), none⟩,
  ⟨some 38, .call (.cst (.fn (.func 10) [] [])) [.tmp 34, .tmp 35, .tmp 36, .tmp 37], none⟩,
  ⟨some 10, .alloc [.int .i64 0, .int .i64 0, .int .i64 0, .int .i64 0, .int .i64 0, .int .i64 0, .int .i64 0, .int .i64 0, .imm (.slice none 0 0), .imm (.slice none 0 0), .int .i64 0], none⟩,
  ⟨none, .store 11 (.tmp 10) (.tmp 38), none⟩])
 (.seq
 (.text [⟨some 11, .mv (.cst (.imm (.slice none 0 0))), none⟩])
 (.seq (.seq
 (.text [⟨some 12, .mv (.cst (.int .i64 0)), none⟩])
 (.block 0 (.loop
 (.seq (.seq
 (.text [⟨some 39, .mv (.tmp 12), none⟩,
  ⟨some 40, .bin .lss .other (.tmp 39) (.cst (.int .i64 8)), none⟩])
 (.cond (.tmp 40) .skip (.exit 0)))
 (.seq
 (.block 1
 (.text [⟨some 43, .mv (.tmp 11), none⟩,
  ⟨some 44, .mv (.tmp 12), none⟩,
  ⟨some 45, .faddr 0 (.tmp 10), none⟩,
  ⟨some 46, .iaddrA 8 1 (.tmp 45) (.tmp 44), none⟩,
  ⟨some 47, .load false 1 (.tmp 46), none⟩,
  ⟨some 48, .bslice 1 [.int .i64 0] 1 [(0, .tmp 47)], none⟩,
  ⟨some 49, .append 1 8 (.tmp 43) (.tmp 48), none⟩,
  ⟨some 11, .mv (.tmp 49), none⟩]))
 (.text [⟨some 41, .mv (.tmp 12), none⟩,
  ⟨some 42, .bin .add .other (.tmp 41) (.cst (.int .i64 1)), none⟩,
  ⟨some 12, .mv (.tmp 42), none⟩]))))))
 (.seq
 (.any false [⟨some 50, .mv (.tmp 11), none⟩,
  ⟨some 51, .faddr 8 (.tmp 10), none⟩,
  ⟨some 52, .load false 1 (.tmp 51), none⟩,
  ⟨some 53, .append 1 8 (.tmp 50) (.tmp 52), none⟩,
  ⟨some 54, .faddr 9 (.tmp 10), none⟩,
  ⟨some 55, .load false 1 (.tmp 54), none⟩,
  ⟨some 56, .append 1 8 (.tmp 53) (.tmp 55), none⟩,
  ⟨some 11, .mv (.tmp 56), none⟩] (.take 0 (.take 1 (.take 4 (.all [(2, .all [(3, .all [(5, .all [(6, .take 7 .done)])]), (5, .all [(3, .all [(6, .take 7 .done)])])]), (5, .all [(2, .all [(3, .all [(6, .take 7 .done)])])])])))))
 (.seq (.seq
 (.text [⟨some 13, .mv (.cst (.int .i64 0)), none⟩])
 (.block 2 (.loop
 (.seq (.seq
 (.text [⟨some 57, .mv (.tmp 13), none⟩,
  ⟨some 58, .mv (.tmp 11), none⟩,
  ⟨some 59, .len .slice (.tmp 58), none⟩,
  ⟨some 60, .bin .lss .other (.tmp 57) (.tmp 59), none⟩])
 (.cond (.tmp 60) .skip (.exit 2)))
 (.seq
 (.block 3
 (.seq
 (.text [⟨some 14, .mv (.cst (.bool false)), none⟩])
 (.seq (.seq
 (.text [⟨some 15, .mv (.cst (.int .i64 0)), none⟩])
 (.block 4 (.loop
 (.seq (.seq
 (.text [⟨some 63, .mv (.tmp 15), none⟩,
  ⟨some 64, .mv (.tmp 9), none⟩,
  ⟨some 65, .len .slice (.tmp 64), none⟩,
  ⟨some 66, .bin .lss .other (.tmp 63) (.tmp 65), none⟩])
 (.cond (.tmp 66) .skip (.exit 4)))
 (.seq
 (.block 5
 (.any true [⟨some 69, .mv (.tmp 14), none⟩,
  ⟨some 70, .mv (.tmp 69), none⟩,
  ⟨some 71, .mv (.tmp 9), some (70, false)⟩,
  ⟨some 72, .mv (.tmp 15), some (70, false)⟩,
  ⟨some 73, .iaddrS 1 (.tmp 71) (.tmp 72), some (70, false)⟩,
  ⟨some 74, .load false 1 (.tmp 73), some (70, false)⟩,
  ⟨some 75, .mv (.tmp 11), some (70, false)⟩,
  ⟨some 76, .mv (.tmp 13), some (70, false)⟩,
  ⟨some 77, .iaddrS 1 (.tmp 75) (.tmp 76), some (70, false)⟩,
  ⟨some 78, .load false 1 (.tmp 77), some (70, false)⟩,
  ⟨some 79, .bin .eql .other (.tmp 74) (.tmp 78), some (70, false)⟩,
  ⟨some 80, .pick (.tmp 70) (.cst (.bool true)) (.tmp 79), none⟩,
  ⟨some 14, .mv (.tmp 80), none⟩] .no))
 (.text [⟨some 67, .mv (.tmp 15), none⟩,
  ⟨some 68, .bin .add .other (.tmp 67) (.cst (.int .i64 1)), none⟩,
  ⟨some 15, .mv (.tmp 68), none⟩]))))))
 (.seq
 (.text [⟨some 81, .mv (.tmp 14), none⟩,
  ⟨some 82, .not (.tmp 81), none⟩])
 (.cond (.tmp 82)
 (.seq
 (.text [⟨some 8, .mv (.cst (.bool false)), none⟩]) .ret) .skip)))))
 (.text [⟨some 61, .mv (.tmp 13), none⟩,
  ⟨some 62, .bin .add .other (.tmp 61) (.cst (.int .i64 1)), none⟩,
  ⟨some 13, .mv (.tmp 62), none⟩]))))))
 (.seq
 (.text [⟨some 83, .faddr 8 (.tmp 10), none⟩,
  ⟨some 84, .load false 1 (.tmp 83), none⟩,
  ⟨some 85, .len .slice (.tmp 84), none⟩,
  ⟨some 86, .bin .lss .other (.tmp 85) (.cst (.int .i64 5)), none⟩,
  ⟨some 87, .mv (.tmp 86), none⟩,
  ⟨some 88, .call (.cst (.fn (.func 7) [] [])) [], some (87, true)⟩,
  ⟨some 89, .pick (.tmp 87) (.tmp 88) (.cst (.bool false)), none⟩,
  ⟨some 8, .mv (.tmp 89), none⟩]) .ret))))))))
theorem joinerylaw17_CandPools.low : lowFn Try.prog 6 = some (90, joinerylaw17_CandPools.lc, [.tmp 8]) := by kernel_rfl

/-- Function 7. -/
abbrev joinerylaw17_knows.no : Nat := 7
def joinerylaw17_knows.lc : LCode :=
 .seq
 (.text [⟨some 0, .mv (.cst (.bool false)), none⟩])
 (.seq
 (.text [⟨some 4, .build [.int .i64 0, .int .i64 0, .int .i64 0, .int .i64 0, .int .i64 0, .int .i64 0] [(0, 1, .cst (.int .i64 18))], none⟩,
  ⟨some 5, .bslice 6 [.int .i64 0, .int .i64 0, .int .i64 0, .int .i64 0, .int .i64 0, .int .i64 0] 1 [(0, .tmp 4)], none⟩,
  ⟨some 1, .mv (.tmp 5), none⟩])
 (.seq
 (.text [⟨some 6, .mv (.tmp 1), none⟩,
  ⟨some 7, .mv (.tmp 1), none⟩,
  ⟨some 8, .call (.cst (.fn (.func 9) [] [])) [.tmp 6, .tmp 7], none⟩,
  ⟨some 2, .alloc [.int .i64 0, .int .i64 0, .int .i64 0, .int .i64 0, .int .i64 0, .int .i64 0, .int .i64 0, .int .i64 0, .imm (.slice none 0 0), .imm (.slice none 0 0), .int .i64 0], none⟩,
  ⟨none, .store 11 (.tmp 2) (.tmp 8), none⟩])
 (.seq
 (.text [⟨some 9, .mv (.tmp 1), none⟩,
  ⟨some 10, .mv (.tmp 1), none⟩,
  ⟨some 11, .call (.cst (.fn (.func 10) [] [])) [.tmp 9, .tmp 10, .cst (.int .i64 3), .cst (.int .i64 9)], none⟩,
  ⟨some 3, .alloc [.int .i64 0, .int .i64 0, .int .i64 0, .int .i64 0, .int .i64 0, .int .i64 0, .int .i64 0, .int .i64 0, .imm (.slice none 0 0), .imm (.slice none 0 0), .int .i64 0], none⟩,
  ⟨none, .store 11 (.tmp 3) (.tmp 11), none⟩])
 (.seq
 (.text [⟨some 12, .faddr 0 (.tmp 2), none⟩,
  ⟨some 13, .iaddrA 8 1 (.tmp 12) (.cst (.int .i64 0)), none⟩,
  ⟨some 14, .load false 1 (.tmp 13), none⟩,
  ⟨some 15, .bin .eql .other (.tmp 14) (.cst (.int .i64 1000003)), none⟩,
  ⟨some 16, .mv (.tmp 15), none⟩,
  ⟨some 17, .faddr 0 (.tmp 2), some (16, true)⟩,
  ⟨some 18, .iaddrA 8 1 (.tmp 17) (.cst (.int .i64 7)), some (16, true)⟩,
  ⟨some 19, .load false 1 (.tmp 18), some (16, true)⟩,
  ⟨some 20, .bin .eql .other (.tmp 19) (.cst (.int .i64 1000010)), some (16, true)⟩,
  ⟨some 21, .pick (.tmp 16) (.tmp 20) (.cst (.bool false)), none⟩,
  ⟨some 22, .mv (.tmp 21), none⟩,
  ⟨some 23, .faddr 9 (.tmp 2), some (22, true)⟩,
  ⟨some 24, .load false 1 (.tmp 23), some (22, true)⟩,
  ⟨some 25, .len .slice (.tmp 24), some (22, true)⟩,
  ⟨some 26, .bin .eql .other (.tmp 25) (.cst (.int .i64 4)), some (22, true)⟩,
  ⟨some 27, .pick (.tmp 22) (.tmp 26) (.cst (.bool false)), none⟩,
  ⟨some 28, .mv (.tmp 27), none⟩,
  ⟨some 29, .faddr 9 (.tmp 2), some (28, true)⟩,
  ⟨some 30, .load false 1 (.tmp 29), some (28, true)⟩,
  ⟨some 31, .iaddrS 1 (.tmp 30) (.cst (.int .i64 0)), some (28, true)⟩,
  ⟨some 32, .load false 1 (.tmp 31), some (28, true)⟩,
  ⟨some 33, .bin .eql .other (.tmp 32) (.cst (.int .i64 1000011)), some (28, true)⟩,
  ⟨some 34, .pick (.tmp 28) (.tmp 33) (.cst (.bool false)), none⟩,
  ⟨some 35, .mv (.tmp 34), none⟩,
  ⟨some 36, .faddr 10 (.tmp 2), some (35, true)⟩,
  ⟨some 37, .load false 1 (.tmp 36), some (35, true)⟩,
  ⟨some 38, .bin .eql .other (.tmp 37) (.cst (.int .i64 4)), some (35, true)⟩,
  ⟨some 39, .pick (.tmp 35) (.tmp 38) (.cst (.bool false)), none⟩,
  ⟨some 40, .mv (.tmp 39), none⟩,
  ⟨some 41, .faddr 8 (.tmp 2), some (40, true)⟩,
  ⟨some 42, .load false 1 (.tmp 41), some (40, true)⟩,
  ⟨some 43, .len .slice (.tmp 42), some (40, true)⟩,
  ⟨some 44, .bin .eql .other (.tmp 43) (.cst (.int .i64 0)), some (40, true)⟩,
  ⟨some 45, .pick (.tmp 40) (.tmp 44) (.cst (.bool false)), none⟩,
  ⟨some 46, .mv (.tmp 45), none⟩,
  ⟨some 47, .faddr 8 (.tmp 3), some (46, true)⟩,
  ⟨some 48, .load false 1 (.tmp 47), some (46, true)⟩,
  ⟨some 49, .len .slice (.tmp 48), some (46, true)⟩,
  ⟨some 50, .bin .eql .other (.tmp 49) (.cst (.int .i64 3)), some (46, true)⟩,
  ⟨some 51, .pick (.tmp 46) (.tmp 50) (.cst (.bool false)), none⟩,
  ⟨some 52, .mv (.tmp 51), none⟩,
  ⟨some 53, .faddr 10 (.tmp 3), some (52, true)⟩,
  ⟨some 54, .load false 1 (.tmp 53), some (52, true)⟩,
  ⟨some 55, .bin .eql .other (.tmp 54) (.cst (.int .i64 9)), some (52, true)⟩,
  ⟨some 56, .pick (.tmp 52) (.tmp 55) (.cst (.bool false)), none⟩,
  ⟨some 57, .mv (.tmp 56), none⟩,
  ⟨some 58, .faddr 9 (.tmp 3), some (57, true)⟩,
  ⟨some 59, .load false 1 (.tmp 58), some (57, true)⟩,
  ⟨some 60, .len .slice (.tmp 59), some (57, true)⟩,
  ⟨some 61, .bin .eql .other (.tmp 60) (.cst (.int .i64 16)), some (57, true)⟩,
  ⟨some 62, .pick (.tmp 57) (.tmp 61) (.cst (.bool false)), none⟩,
  ⟨some 0, .mv (.tmp 62), none⟩]) .ret))))
theorem joinerylaw17_knows.low : lowFn Try.prog 7 = some (63, joinerylaw17_knows.lc, [.tmp 0]) := by kernel_rfl

/-- Function 8. -/
abbrev joineryref08_Right.no : Nat := 8
def joineryref08_Right.lc : LCode :=
 .seq
 (.text [⟨some 1, .box (.tmp 0), none⟩,
  ⟨some 2, .mv (.cst (.bool false)), none⟩])
 (.seq
 (.text [⟨some 3, .faddr 8 (.tmp 1), none⟩,
  ⟨some 4, .load false 1 (.tmp 3), none⟩,
  ⟨some 5, .len .slice (.tmp 4), none⟩,
  ⟨some 6, .bin .leq .other (.tmp 5) (.cst (.int .i64 16)), none⟩,
  ⟨some 7, .mv (.tmp 6), none⟩,
  ⟨some 8, .faddr 9 (.tmp 1), some (7, true)⟩,
  ⟨some 9, .load false 1 (.tmp 8), some (7, true)⟩,
  ⟨some 10, .len .slice (.tmp 9), some (7, true)⟩,
  ⟨some 11, .bin .leq .other (.tmp 10) (.cst (.int .i64 5000)), some (7, true)⟩,
  ⟨some 12, .pick (.tmp 7) (.tmp 11) (.cst (.bool false)), none⟩,
  ⟨some 13, .mv (.tmp 12), none⟩,
  ⟨some 14, .faddr 10 (.tmp 1), some (13, true)⟩,
  ⟨some 15, .load false 1 (.tmp 14), some (13, true)⟩,
  ⟨some 16, .bin .geq .other (.tmp 15) (.cst (.int .i64 0)), some (13, true)⟩,
  ⟨some 17, .pick (.tmp 13) (.tmp 16) (.cst (.bool false)), none⟩,
  ⟨some 18, .mv (.tmp 17), none⟩,
  ⟨some 19, .faddr 10 (.tmp 1), some (18, true)⟩,
  ⟨some 20, .load false 1 (.tmp 19), some (18, true)⟩,
  ⟨some 21, .bin .leq .other (.tmp 20) (.cst (.int .i64 5000)), some (18, true)⟩,
  ⟨some 22, .pick (.tmp 18) (.tmp 21) (.cst (.bool false)), none⟩,
  ⟨some 2, .mv (.tmp 22), none⟩]) .ret)
theorem joineryref08_Right.low : lowFn Try.prog 8 = some (23, joineryref08_Right.lc, [.tmp 2]) := by kernel_rfl

/-- Function 9. -/
abbrev cand_First.no : Nat := 9
def cand_First.lc : LCode :=
 .seq
 (.text [⟨some 4, .alloc [.int .i64 0, .int .i64 0, .int .i64 0, .int .i64 0, .int .i64 0, .int .i64 0, .int .i64 0, .int .i64 0, .imm (.slice none 0 0), .imm (.slice none 0 0), .int .i64 0], none⟩])
 (.seq
 (.text [⟨some 12, .mkMap, none⟩,
  ⟨some 5, .alloc [.imm (.map none)], none⟩,
  ⟨none, .store 1 (.tmp 5) (.tmp 12), none⟩])
 (.seq (.seq
 (.text [⟨some 13, .mv (.tmp 0), none⟩,
  ⟨some 14, .mv (.tmp 1), none⟩,
  ⟨some 15, .call (.cst (.fn (.func 13) [] [])) [.tmp 13, .tmp 14], none⟩,
  ⟨some 16, .len .slice (.tmp 15), none⟩,
  ⟨some 17, .mv (.cst (.int .i64 0)), none⟩])
 (.block 0 (.loop
 (.seq
 (.text [⟨some 18, .bin .lss .other (.tmp 17) (.tmp 16), none⟩])
 (.seq
 (.cond (.tmp 18) .skip (.exit 0))
 (.seq
 (.block 1
 (.seq
 (.text [⟨some 19, .iaddrS 1 (.tmp 15) (.tmp 17), none⟩,
  ⟨some 20, .load false 1 (.tmp 19), none⟩,
  ⟨some 7, .mv (.tmp 20), none⟩])
 (.text [⟨some 21, .load false 1 (.tmp 5), none⟩,
  ⟨some 22, .mv (.tmp 7), none⟩,
  ⟨none, .mapSet (.tmp 21) (.tmp 22) (.cst (.bool true)), none⟩])))
 (.text [⟨some 23, .bin .add .other (.tmp 17) (.cst (.int .i64 1)), none⟩,
  ⟨some 17, .mv (.tmp 23), none⟩])))))))
 (.seq
 (.text [⟨some 8, .alloc [.int .i64 0], none⟩,
  ⟨none, .store 1 (.tmp 8) (.cst (.int .i64 1000003)), none⟩])
 (.seq
 (.text [⟨some 24, .mkFn (.func 14) [] [.tmp 5, .tmp 8], none⟩,
  ⟨some 9, .mv (.tmp 24), none⟩])
 (.seq
 (.text [⟨some 25, .mv (.tmp 0), none⟩,
  ⟨some 26, .mv (.tmp 1), none⟩,
  ⟨some 27, .call (.cst (.fn (.func 15) [] [])) [.tmp 25, .tmp 26], none⟩,
  ⟨some 28, .bin .add .other (.tmp 27) (.cst (.int .i64 2)), none⟩,
  ⟨some 29, .build [.int .i64 0, .int .i64 0, .int .i64 0, .int .i64 0, .int .i64 0, .int .i64 0, .int .i64 0, .int .i64 0, .imm (.slice none 0 0), .imm (.slice none 0 0), .int .i64 0] [(10, 1, .tmp 28)], none⟩,
  ⟨some 10, .alloc [.int .i64 0, .int .i64 0, .int .i64 0, .int .i64 0, .int .i64 0, .int .i64 0, .int .i64 0, .int .i64 0, .imm (.slice none 0 0), .imm (.slice none 0 0), .int .i64 0], none⟩,
  ⟨none, .store 11 (.tmp 10) (.tmp 29), none⟩])
 (.seq (.seq
 (.text [⟨some 30, .mv (.cst (.int .i64 0)), none⟩])
 (.block 2 (.loop
 (.seq
 (.text [⟨some 31, .bin .lss .other (.tmp 30) (.cst (.int .i64 8)), none⟩])
 (.seq
 (.cond (.tmp 31) .skip (.exit 2))
 (.seq
 (.block 3
 (.seq
 (.text [⟨some 32, .mv (.tmp 30), none⟩,
  ⟨some 11, .mv (.tmp 32), none⟩])
 (.text [⟨some 33, .mv (.tmp 11), none⟩,
  ⟨some 34, .mv (.tmp 9), none⟩,
  ⟨some 35, .call (.tmp 34) [], none⟩,
  ⟨some 36, .faddr 0 (.tmp 10), none⟩,
  ⟨some 37, .iaddrA 8 1 (.tmp 36) (.tmp 33), none⟩,
  ⟨none, .store 1 (.tmp 37) (.tmp 35), none⟩])))
 (.text [⟨some 38, .bin .add .other (.tmp 30) (.cst (.int .i64 1)), none⟩,
  ⟨some 30, .mv (.tmp 38), none⟩])))))))
 (.seq (.seq
 (.text [⟨some 39, .faddr 10 (.tmp 10), none⟩,
  ⟨some 40, .load false 1 (.tmp 39), none⟩,
  ⟨some 41, .mv (.cst (.int .i64 0)), none⟩])
 (.block 4 (.loop
 (.seq
 (.text [⟨some 42, .bin .lss .other (.tmp 41) (.tmp 40), none⟩])
 (.seq
 (.cond (.tmp 42) .skip (.exit 4))
 (.seq
 (.block 5
 (.any false [⟨some 43, .faddr 9 (.tmp 10), none⟩,
  ⟨some 44, .load false 1 (.tmp 43), none⟩,
  ⟨some 45, .mv (.tmp 9), none⟩,
  ⟨some 46, .call (.tmp 45) [], none⟩,
  ⟨some 47, .bslice 1 [.int .i64 0] 1 [(0, .tmp 46)], none⟩,
  ⟨some 48, .append 1 8 (.tmp 44) (.tmp 47), none⟩,
  ⟨some 49, .faddr 9 (.tmp 10), none⟩,
  ⟨none, .store 1 (.tmp 49) (.tmp 48), none⟩] (.take 0 (.take 2 (.all [(1, .all [(3, .all [(4, .all [(5, .take 6 (.all [(7, .done)]))])])]), (3, .all [(1, .all [(4, .all [(5, .take 6 (.all [(7, .done)]))])]), (4, .all [(1, .all [(5, .take 6 (.all [(7, .done)]))])])])])))))
 (.text [⟨some 50, .bin .add .other (.tmp 41) (.cst (.int .i64 1)), none⟩,
  ⟨some 41, .mv (.tmp 50), none⟩])))))))
 (.seq
 (.text [⟨some 51, .load true 11 (.tmp 10), none⟩,
  ⟨none, .store 11 (.tmp 4) (.tmp 51), none⟩]) .ret))))))))
theorem cand_First.low : lowFn Try.prog 9 = some (52, cand_First.lc, [.cell 4 true 11]) := by kernel_rfl

/-- Function 10. -/
abbrev cand_At.no : Nat := 10
def cand_At.lc : LCode :=
 .seq
 (.text [⟨some 8, .alloc [.int .i64 0, .int .i64 0, .int .i64 0, .int .i64 0, .int .i64 0, .int .i64 0, .int .i64 0, .int .i64 0, .imm (.slice none 0 0), .imm (.slice none 0 0), .int .i64 0], none⟩])
 (.seq (.seq
 (.text [⟨some 15, .mv (.tmp 2), none⟩,
  ⟨some 16, .bin .leq .other (.tmp 15) (.cst (.int .i64 0)), none⟩])
 (.cond (.tmp 16)
 (.seq
 (.text [⟨some 17, .mv (.tmp 0), none⟩,
  ⟨some 18, .mv (.tmp 1), none⟩,
  ⟨some 19, .call (.cst (.fn (.func 9) [] [])) [.tmp 17, .tmp 18], none⟩,
  ⟨none, .store 11 (.tmp 8) (.tmp 19), none⟩]) .ret) .skip))
 (.seq
 (.text [⟨some 20, .mv (.tmp 2), none⟩,
  ⟨some 21, .bin .rem .other (.tmp 20) (.cst (.int .i64 1000)), none⟩,
  ⟨some 2, .mv (.tmp 21), none⟩])
 (.seq
 (.text [⟨some 22, .bslice 1 [.int .i64 0] 7 [(0, .cst (.int .i64 0)), (1, .cst (.int .i64 1)), (2, .cst (.int .i64 2)), (3, .cst (.int .i64 3)), (4, .cst (.int .i64 (-1))), (5, .cst (.int .i64 9223372036854775807)), (6, .cst (.int .i64 (-9223372036854775808)))], none⟩,
  ⟨some 23, .mv (.tmp 0), none⟩,
  ⟨some 24, .mv (.tmp 1), none⟩,
  ⟨some 25, .call (.cst (.fn (.func 13) [] [])) [.tmp 23, .tmp 24], none⟩,
  ⟨some 26, .append 1 8 (.tmp 22) (.tmp 25), none⟩,
  ⟨some 9, .alloc [.imm (.slice none 0 0)], none⟩,
  ⟨none, .store 1 (.tmp 9) (.tmp 26), none⟩])
 (.seq
 (.text [⟨some 27, .mkFn (.func 16) [] [.tmp 9], none⟩,
  ⟨some 10, .mv (.tmp 27), none⟩])
 (.seq
 (.text [⟨some 28, .mv (.tmp 3), none⟩,
  ⟨some 29, .min [.tmp 28, .cst (.int .i64 5000)], none⟩,
  ⟨some 30, .max [.cst (.int .i64 0), .tmp 29], none⟩,
  ⟨some 31, .build [.int .i64 0, .int .i64 0, .int .i64 0, .int .i64 0, .int .i64 0, .int .i64 0, .int .i64 0, .int .i64 0, .imm (.slice none 0 0), .imm (.slice none 0 0), .int .i64 0] [(10, 1, .tmp 30)], none⟩,
  ⟨some 11, .alloc [.int .i64 0, .int .i64 0, .int .i64 0, .int .i64 0, .int .i64 0, .int .i64 0, .int .i64 0, .int .i64 0, .imm (.slice none 0 0), .imm (.slice none 0 0), .int .i64 0], none⟩,
  ⟨none, .store 11 (.tmp 11) (.tmp 31), none⟩])
 (.seq (.seq
 (.text [⟨some 32, .mv (.cst (.int .i64 0)), none⟩])
 (.block 0 (.loop
 (.seq
 (.text [⟨some 33, .bin .lss .other (.tmp 32) (.cst (.int .i64 8)), none⟩])
 (.seq
 (.cond (.tmp 33) .skip (.exit 0))
 (.seq
 (.block 1
 (.seq
 (.text [⟨some 34, .mv (.tmp 32), none⟩,
  ⟨some 12, .mv (.tmp 34), none⟩])
 (.text [⟨some 35, .mv (.tmp 12), none⟩,
  ⟨some 36, .mv (.tmp 10), none⟩,
  ⟨some 37, .mv (.tmp 2), none⟩,
  ⟨some 38, .mv (.tmp 12), none⟩,
  ⟨some 39, .bin .add .other (.tmp 38) (.cst (.int .i64 1)), none⟩,
  ⟨some 40, .bin .mul .other (.tmp 37) (.tmp 39), none⟩,
  ⟨some 41, .mv (.tmp 12), none⟩,
  ⟨some 42, .mv (.tmp 12), none⟩,
  ⟨some 43, .bin .mul .other (.tmp 41) (.tmp 42), none⟩,
  ⟨some 44, .bin .add .other (.tmp 40) (.tmp 43), none⟩,
  ⟨some 45, .call (.tmp 36) [.tmp 44], none⟩,
  ⟨some 46, .faddr 0 (.tmp 11), none⟩,
  ⟨some 47, .iaddrA 8 1 (.tmp 46) (.tmp 35), none⟩,
  ⟨none, .store 1 (.tmp 47) (.tmp 45), none⟩])))
 (.text [⟨some 48, .bin .add .other (.tmp 32) (.cst (.int .i64 1)), none⟩,
  ⟨some 32, .mv (.tmp 48), none⟩])))))))
 (.seq (.seq
 (.text [⟨some 49, .mv (.tmp 2), none⟩,
  ⟨some 50, .bin .rem .other (.tmp 49) (.cst (.int .i64 5)), none⟩,
  ⟨some 51, .mv (.cst (.int .i64 0)), none⟩])
 (.block 2 (.loop
 (.seq
 (.text [⟨some 52, .bin .lss .other (.tmp 51) (.tmp 50), none⟩])
 (.seq
 (.cond (.tmp 52) .skip (.exit 2))
 (.seq
 (.block 3
 (.seq
 (.text [⟨some 53, .mv (.tmp 51), none⟩,
  ⟨some 13, .mv (.tmp 53), none⟩])
 (.any false [⟨some 54, .faddr 8 (.tmp 11), none⟩,
  ⟨some 55, .load false 1 (.tmp 54), none⟩,
  ⟨some 56, .mv (.tmp 10), none⟩,
  ⟨some 57, .mv (.tmp 2), none⟩,
  ⟨some 58, .mv (.tmp 13), none⟩,
  ⟨some 59, .bin .add .other (.tmp 57) (.tmp 58), none⟩,
  ⟨some 60, .call (.tmp 56) [.tmp 59], none⟩,
  ⟨some 61, .bslice 1 [.int .i64 0] 1 [(0, .tmp 60)], none⟩,
  ⟨some 62, .append 1 8 (.tmp 55) (.tmp 61), none⟩,
  ⟨some 63, .faddr 8 (.tmp 11), none⟩,
  ⟨none, .store 1 (.tmp 63) (.tmp 62), none⟩] (.take 0 (.take 2 (.take 3 (.take 4 (.take 5 (.all [(1, .all [(6, .all [(7, .all [(8, .take 9 (.all [(10, .done)]))])])]), (6, .all [(1, .all [(7, .all [(8, .take 9 (.all [(10, .done)]))])]), (7, .all [(1, .all [(8, .take 9 (.all [(10, .done)]))])])])])))))))))
 (.text [⟨some 64, .bin .add .other (.tmp 51) (.cst (.int .i64 1)), none⟩,
  ⟨some 51, .mv (.tmp 64), none⟩])))))))
 (.seq (.seq
 (.text [⟨some 65, .mv (.tmp 0), none⟩,
  ⟨some 66, .mv (.tmp 1), none⟩,
  ⟨some 67, .call (.cst (.fn (.func 15) [] [])) [.tmp 65, .tmp 66], none⟩,
  ⟨some 68, .bin .mul .other (.cst (.int .i64 8)) (.tmp 67), none⟩,
  ⟨some 69, .min [.tmp 68, .cst (.int .i64 5000)], none⟩,
  ⟨some 70, .mv (.cst (.int .i64 0)), none⟩])
 (.block 4 (.loop
 (.seq
 (.text [⟨some 71, .bin .lss .other (.tmp 70) (.tmp 69), none⟩])
 (.seq
 (.cond (.tmp 71) .skip (.exit 4))
 (.seq
 (.block 5
 (.seq
 (.text [⟨some 72, .mv (.tmp 70), none⟩,
  ⟨some 14, .mv (.tmp 72), none⟩])
 (.any false [⟨some 73, .faddr 9 (.tmp 11), none⟩,
  ⟨some 74, .load false 1 (.tmp 73), none⟩,
  ⟨some 75, .mv (.tmp 10), none⟩,
  ⟨some 76, .mv (.tmp 2), none⟩,
  ⟨some 77, .mv (.tmp 14), none⟩,
  ⟨some 78, .bin .mul .other (.cst (.int .i64 3)) (.tmp 77), none⟩,
  ⟨some 79, .bin .add .other (.tmp 76) (.tmp 78), none⟩,
  ⟨some 80, .call (.tmp 75) [.tmp 79], none⟩,
  ⟨some 81, .bslice 1 [.int .i64 0] 1 [(0, .tmp 80)], none⟩,
  ⟨some 82, .append 1 8 (.tmp 74) (.tmp 81), none⟩,
  ⟨some 83, .faddr 9 (.tmp 11), none⟩,
  ⟨none, .store 1 (.tmp 83) (.tmp 82), none⟩] (.take 0 (.take 2 (.take 3 (.take 4 (.take 5 (.take 6 (.all [(1, .all [(7, .all [(8, .all [(9, .take 10 (.all [(11, .done)]))])])]), (7, .all [(1, .all [(8, .all [(9, .take 10 (.all [(11, .done)]))])]), (8, .all [(1, .all [(9, .take 10 (.all [(11, .done)]))])])])]))))))))))
 (.text [⟨some 84, .bin .add .other (.tmp 70) (.cst (.int .i64 1)), none⟩,
  ⟨some 70, .mv (.tmp 84), none⟩])))))))
 (.seq
 (.text [⟨some 85, .load true 11 (.tmp 11), none⟩,
  ⟨none, .store 11 (.tmp 8) (.tmp 85), none⟩]) .ret)))))))))
theorem cand_At.low : lowFn Try.prog 10 = some (86, cand_At.lc, [.cell 8 true 11]) := by kernel_rfl

/-- Function 11. -/
abbrev joineryref17_Constants.no : Nat := 11
def joineryref17_Constants.lc : LCode :=
 .seq
 (.text [⟨some 4, .mv (.cst (.imm (.slice none 0 0))), none⟩])
 (.seq
 (.text [⟨some 8, .bslice 6 [.int .i64 0, .int .i64 0, .int .i64 0, .int .i64 0, .int .i64 0, .int .i64 0] 0 [], none⟩,
  ⟨some 9, .mv (.tmp 0), none⟩,
  ⟨some 10, .call (.cst (.fn (.func 17) [] [])) [.tmp 9], none⟩,
  ⟨some 11, .append 6 48 (.tmp 8) (.tmp 10), none⟩,
  ⟨some 12, .mv (.tmp 1), none⟩,
  ⟨some 13, .call (.cst (.fn (.func 17) [] [])) [.tmp 12], none⟩,
  ⟨some 14, .append 6 48 (.tmp 11) (.tmp 13), none⟩,
  ⟨some 5, .mv (.tmp 14), none⟩])
 (.seq
 (.text [⟨some 6, .mv (.cst (.imm (.slice none 0 0))), none⟩])
 (.seq (.seq
 (.text [⟨some 7, .mv (.cst (.int .i64 0)), none⟩])
 (.block 0 (.loop
 (.seq (.seq
 (.text [⟨some 15, .mv (.tmp 7), none⟩,
  ⟨some 16, .mv (.tmp 5), none⟩,
  ⟨some 17, .len .slice (.tmp 16), none⟩,
  ⟨some 18, .bin .lss .other (.tmp 15) (.tmp 17), none⟩])
 (.cond (.tmp 18) .skip (.exit 0)))
 (.seq
 (.block 1
 (.seq
 (.text [⟨some 21, .mv (.tmp 5), none⟩,
  ⟨some 22, .mv (.tmp 7), none⟩,
  ⟨some 23, .iaddrS 6 (.tmp 21) (.tmp 22), none⟩,
  ⟨some 24, .faddr 0 (.tmp 23), none⟩,
  ⟨some 25, .load false 1 (.tmp 24), none⟩,
  ⟨some 26, .bin .eql .other (.tmp 25) (.cst (.int .i64 1)), none⟩])
 (.cond (.tmp 26)
 (.text [⟨some 27, .mv (.tmp 6), none⟩,
  ⟨some 28, .mv (.tmp 5), none⟩,
  ⟨some 29, .mv (.tmp 7), none⟩,
  ⟨some 30, .iaddrS 6 (.tmp 28) (.tmp 29), none⟩,
  ⟨some 31, .faddr 4 (.tmp 30), none⟩,
  ⟨some 32, .load false 1 (.tmp 31), none⟩,
  ⟨some 33, .bslice 1 [.int .i64 0] 1 [(0, .tmp 32)], none⟩,
  ⟨some 34, .append 1 8 (.tmp 27) (.tmp 33), none⟩,
  ⟨some 6, .mv (.tmp 34), none⟩]) .skip)))
 (.text [⟨some 19, .mv (.tmp 7), none⟩,
  ⟨some 20, .bin .add .other (.tmp 19) (.cst (.int .i64 1)), none⟩,
  ⟨some 7, .mv (.tmp 20), none⟩]))))))
 (.seq
 (.text [⟨some 35, .mv (.tmp 6), none⟩,
  ⟨some 4, .mv (.tmp 35), none⟩]) .ret))))
theorem joineryref17_Constants.low : lowFn Try.prog 11 = some (36, joineryref17_Constants.lc, [.tmp 4]) := by kernel_rfl

/-- Function 12. -/
abbrev joineryref17_Same.no : Nat := 12
def joineryref17_Same.lc : LCode :=
 .seq
 (.text [⟨some 2, .box (.tmp 0), none⟩,
  ⟨some 3, .box (.tmp 1), none⟩,
  ⟨some 4, .mv (.cst (.bool false)), none⟩])
 (.seq (.seq
 (.text [⟨some 5, .mv (.cst (.int .i64 0)), none⟩])
 (.block 0 (.loop
 (.seq (.seq
 (.text [⟨some 6, .mv (.tmp 5), none⟩,
  ⟨some 7, .bin .lss .other (.tmp 6) (.cst (.int .i64 8)), none⟩])
 (.cond (.tmp 7) .skip (.exit 0)))
 (.seq
 (.block 1
 (.seq
 (.any true [⟨some 10, .mv (.tmp 5), none⟩,
  ⟨some 11, .faddr 0 (.tmp 2), none⟩,
  ⟨some 12, .iaddrA 8 1 (.tmp 11) (.tmp 10), none⟩,
  ⟨some 13, .load false 1 (.tmp 12), none⟩,
  ⟨some 14, .mv (.tmp 5), none⟩,
  ⟨some 15, .faddr 0 (.tmp 3), none⟩,
  ⟨some 16, .iaddrA 8 1 (.tmp 15) (.tmp 14), none⟩,
  ⟨some 17, .load false 1 (.tmp 16), none⟩,
  ⟨some 18, .bin .neq .other (.tmp 13) (.tmp 17), none⟩] .no)
 (.cond (.tmp 18)
 (.seq
 (.text [⟨some 4, .mv (.cst (.bool false)), none⟩]) .ret) .skip)))
 (.text [⟨some 8, .mv (.tmp 5), none⟩,
  ⟨some 9, .bin .add .other (.tmp 8) (.cst (.int .i64 1)), none⟩,
  ⟨some 5, .mv (.tmp 9), none⟩]))))))
 (.seq
 (.text [⟨some 19, .faddr 8 (.tmp 2), none⟩,
  ⟨some 20, .load false 1 (.tmp 19), none⟩,
  ⟨some 21, .faddr 8 (.tmp 3), none⟩,
  ⟨some 22, .load false 1 (.tmp 21), none⟩,
  ⟨some 23, .call (.cst (.fn (.func 18) [] [])) [.tmp 20, .tmp 22], none⟩,
  ⟨some 24, .mv (.tmp 23), none⟩,
  ⟨some 25, .faddr 9 (.tmp 2), some (24, true)⟩,
  ⟨some 26, .load false 1 (.tmp 25), some (24, true)⟩,
  ⟨some 27, .faddr 9 (.tmp 3), some (24, true)⟩,
  ⟨some 28, .load false 1 (.tmp 27), some (24, true)⟩,
  ⟨some 29, .call (.cst (.fn (.func 18) [] [])) [.tmp 26, .tmp 28], some (24, true)⟩,
  ⟨some 30, .pick (.tmp 24) (.tmp 29) (.cst (.bool false)), none⟩,
  ⟨some 31, .mv (.tmp 30), none⟩,
  ⟨some 32, .faddr 10 (.tmp 2), some (31, true)⟩,
  ⟨some 33, .load false 1 (.tmp 32), some (31, true)⟩,
  ⟨some 34, .faddr 10 (.tmp 3), some (31, true)⟩,
  ⟨some 35, .load false 1 (.tmp 34), some (31, true)⟩,
  ⟨some 36, .bin .eql .other (.tmp 33) (.tmp 35), some (31, true)⟩,
  ⟨some 37, .pick (.tmp 31) (.tmp 36) (.cst (.bool false)), none⟩,
  ⟨some 4, .mv (.tmp 37), none⟩]) .ret))
theorem joineryref17_Same.low : lowFn Try.prog 12 = some (38, joineryref17_Same.lc, [.tmp 4]) := by kernel_rfl

/-- Function 13. -/
abbrev cand_constants.no : Nat := 13
def cand_constants.lc : LCode :=
 .seq
 (.text [⟨some 4, .mv (.cst (.imm (.slice none 0 0))), none⟩])
 (.seq
 (.text [⟨some 5, .mv (.cst (.imm (.slice none 0 0))), none⟩])
 (.seq (.seq
 (.text [⟨some 10, .mv (.tmp 0), none⟩,
  ⟨some 11, .call (.cst (.fn (.func 19) [] [])) [.tmp 10], none⟩,
  ⟨some 12, .mv (.tmp 1), none⟩,
  ⟨some 13, .call (.cst (.fn (.func 19) [] [])) [.tmp 12], none⟩,
  ⟨some 14, .build [.imm (.slice none 0 0), .imm (.slice none 0 0)] [(0, 1, .tmp 11), (1, 1, .tmp 13)], none⟩,
  ⟨some 15, .mv (.cst (.int .i64 0)), none⟩])
 (.block 0 (.loop
 (.seq
 (.text [⟨some 16, .bin .lss .other (.tmp 15) (.cst (.int .i64 2)), none⟩])
 (.seq
 (.cond (.tmp 16) .skip (.exit 0))
 (.seq
 (.block 1
 (.seq
 (.text [⟨some 17, .idxA 2 false 1 (.tmp 14) (.tmp 15), none⟩,
  ⟨some 7, .mv (.tmp 17), none⟩])
 (.seq
 (.text [⟨some 18, .mv (.tmp 7), none⟩,
  ⟨some 19, .len .slice (.tmp 18), none⟩,
  ⟨some 20, .mv (.cst (.int .i64 0)), none⟩])
 (.block 2 (.loop
 (.seq
 (.text [⟨some 21, .bin .lss .other (.tmp 20) (.tmp 19), none⟩])
 (.seq
 (.cond (.tmp 21) .skip (.exit 2))
 (.seq
 (.block 3
 (.seq
 (.text [⟨some 22, .iaddrS 6 (.tmp 18) (.tmp 20), none⟩,
  ⟨some 23, .load true 6 (.tmp 22), none⟩,
  ⟨some 9, .alloc [.int .i64 0, .int .i64 0, .int .i64 0, .int .i64 0, .int .i64 0, .int .i64 0], none⟩,
  ⟨none, .store 6 (.tmp 9) (.tmp 23), none⟩])
 (.seq
 (.text [⟨some 24, .faddr 0 (.tmp 9), none⟩,
  ⟨some 25, .load false 1 (.tmp 24), none⟩,
  ⟨some 26, .bin .eql .other (.tmp 25) (.cst (.int .i64 1)), none⟩])
 (.cond (.tmp 26)
 (.text [⟨some 27, .mv (.tmp 5), none⟩,
  ⟨some 28, .faddr 4 (.tmp 9), none⟩,
  ⟨some 29, .load false 1 (.tmp 28), none⟩,
  ⟨some 30, .bslice 1 [.int .i64 0] 1 [(0, .tmp 29)], none⟩,
  ⟨some 31, .append 1 8 (.tmp 27) (.tmp 30), none⟩,
  ⟨some 5, .mv (.tmp 31), none⟩]) .skip))))
 (.text [⟨some 32, .bin .add .other (.tmp 20) (.cst (.int .i64 1)), none⟩,
  ⟨some 20, .mv (.tmp 32), none⟩])))))))))
 (.text [⟨some 33, .bin .add .other (.tmp 15) (.cst (.int .i64 1)), none⟩,
  ⟨some 15, .mv (.tmp 33), none⟩])))))))
 (.seq
 (.text [⟨some 34, .mv (.tmp 5), none⟩,
  ⟨some 4, .mv (.tmp 34), none⟩]) .ret)))
theorem cand_constants.low : lowFn Try.prog 13 = some (35, cand_constants.lc, [.tmp 4]) := by kernel_rfl

/-- Function 14. -/
abbrev cand_First_1.no : Nat := 14
def cand_First_1.lc : LCode :=
 .seq
 (.text [⟨some 2, .mv (.cst (.int .i64 0)), none⟩])
 (.seq
 (.block 0 (.loop
 (.seq (.seq
 (.text [⟨some 3, .load false 1 (.tmp 0), none⟩,
  ⟨some 4, .load false 1 (.tmp 1), none⟩,
  ⟨some 5, .lookup (.bool false) (.tmp 3) (.tmp 4) false, none⟩])
 (.cond (.tmp 5) .skip (.exit 0)))
 (.block 1
 (.text [⟨some 6, .load false 1 (.tmp 1), none⟩,
  ⟨some 7, .bin .add .other (.tmp 6) (.cst (.int .i64 1)), none⟩,
  ⟨none, .store 1 (.tmp 1) (.tmp 7), none⟩])))))
 (.seq
 (.text [⟨some 8, .load false 1 (.tmp 1), none⟩,
  ⟨some 9, .bin .add .other (.tmp 8) (.cst (.int .i64 1)), none⟩,
  ⟨none, .store 1 (.tmp 1) (.tmp 9), none⟩])
 (.seq
 (.text [⟨some 10, .load false 1 (.tmp 1), none⟩,
  ⟨some 11, .bin .sub .other (.tmp 10) (.cst (.int .i64 1)), none⟩,
  ⟨some 2, .mv (.tmp 11), none⟩]) .ret)))
theorem cand_First_1.low : lowFn Try.prog 14 = some (12, cand_First_1.lc, [.tmp 2]) := by kernel_rfl

/-- Function 15. -/
abbrev cand_many.no : Nat := 15
def cand_many.lc : LCode :=
 .seq
 (.text [⟨some 4, .mv (.cst (.int .i64 0)), none⟩])
 (.seq
 (.text [⟨some 5, .mv (.tmp 0), none⟩,
  ⟨some 6, .call (.cst (.fn (.func 19) [] [])) [.tmp 5], none⟩,
  ⟨some 7, .len .slice (.tmp 6), none⟩,
  ⟨some 8, .mv (.tmp 1), none⟩,
  ⟨some 9, .call (.cst (.fn (.func 19) [] [])) [.tmp 8], none⟩,
  ⟨some 10, .len .slice (.tmp 9), none⟩,
  ⟨some 11, .bin .add .other (.tmp 7) (.tmp 10), none⟩,
  ⟨some 4, .mv (.tmp 11), none⟩]) .ret)
theorem cand_many.low : lowFn Try.prog 15 = some (12, cand_many.lc, [.tmp 4]) := by kernel_rfl

/-- Function 16. -/
abbrev cand_At_1.no : Nat := 16
def cand_At_1.lc : LCode :=
 .seq
 (.text [⟨some 3, .mv (.cst (.int .i64 0)), none⟩])
 (.seq
 (.any true [⟨some 4, .load false 1 (.tmp 1), none⟩,
  ⟨some 5, .mv (.tmp 0), none⟩,
  ⟨some 6, .load false 1 (.tmp 1), none⟩,
  ⟨some 7, .len .slice (.tmp 6), none⟩,
  ⟨some 8, .bin .rem .other (.tmp 5) (.tmp 7), none⟩,
  ⟨some 9, .iaddrS 1 (.tmp 4) (.tmp 8), none⟩,
  ⟨some 10, .load false 1 (.tmp 9), none⟩,
  ⟨some 3, .mv (.tmp 10), none⟩] .no) .ret)
theorem cand_At_1.low : lowFn Try.prog 16 = some (11, cand_At_1.lc, [.tmp 3]) := by kernel_rfl

/-- Function 17. -/
abbrev joineryref17_part.no : Nat := 17
def joineryref17_part.lc : LCode :=
 .seq
 (.text [⟨some 2, .mv (.cst (.imm (.slice none 0 0))), none⟩])
 (.seq (.seq
 (.text [⟨some 3, .mv (.tmp 0), none⟩,
  ⟨some 4, .len .slice (.tmp 3), none⟩,
  ⟨some 5, .bin .gtr .other (.tmp 4) (.cst (.int .i64 200)), none⟩])
 (.cond (.tmp 5)
 (.seq
 (.text [⟨some 6, .mv (.tmp 0), none⟩,
  ⟨some 7, .slice 6 (.tmp 6) none (some (.cst (.int .i64 200))) none, none⟩,
  ⟨some 2, .mv (.tmp 7), none⟩]) .ret) .skip))
 (.seq
 (.text [⟨some 8, .mv (.tmp 0), none⟩,
  ⟨some 2, .mv (.tmp 8), none⟩]) .ret))
theorem joineryref17_part.low : lowFn Try.prog 17 = some (9, joineryref17_part.lc, [.tmp 2]) := by kernel_rfl

/-- Function 18. -/
abbrev joineryref06_Same.no : Nat := 18
def joineryref06_Same.lc : LCode :=
 .seq
 (.text [⟨some 4, .mv (.cst (.bool false)), none⟩])
 (.seq (.seq
 (.text [⟨some 5, .mv (.cst (.int .i64 0)), none⟩])
 (.block 0 (.loop
 (.seq (.seq
 (.text [⟨some 6, .mv (.tmp 5), none⟩,
  ⟨some 7, .mv (.tmp 0), none⟩,
  ⟨some 8, .len .slice (.tmp 7), none⟩,
  ⟨some 9, .bin .lss .other (.tmp 6) (.tmp 8), none⟩,
  ⟨some 10, .mv (.tmp 9), none⟩,
  ⟨some 11, .mv (.tmp 5), some (10, true)⟩,
  ⟨some 12, .mv (.tmp 1), some (10, true)⟩,
  ⟨some 13, .len .slice (.tmp 12), some (10, true)⟩,
  ⟨some 14, .bin .lss .other (.tmp 11) (.tmp 13), some (10, true)⟩,
  ⟨some 15, .pick (.tmp 10) (.tmp 14) (.cst (.bool false)), none⟩])
 (.cond (.tmp 15) .skip (.exit 0)))
 (.seq
 (.block 1
 (.seq
 (.any true [⟨some 18, .mv (.tmp 0), none⟩,
  ⟨some 19, .mv (.tmp 5), none⟩,
  ⟨some 20, .iaddrS 1 (.tmp 18) (.tmp 19), none⟩,
  ⟨some 21, .load false 1 (.tmp 20), none⟩,
  ⟨some 22, .mv (.tmp 1), none⟩,
  ⟨some 23, .mv (.tmp 5), none⟩,
  ⟨some 24, .iaddrS 1 (.tmp 22) (.tmp 23), none⟩,
  ⟨some 25, .load false 1 (.tmp 24), none⟩,
  ⟨some 26, .bin .neq .other (.tmp 21) (.tmp 25), none⟩] .no)
 (.cond (.tmp 26)
 (.seq
 (.text [⟨some 4, .mv (.cst (.bool false)), none⟩]) .ret) .skip)))
 (.text [⟨some 16, .mv (.tmp 5), none⟩,
  ⟨some 17, .bin .add .other (.tmp 16) (.cst (.int .i64 1)), none⟩,
  ⟨some 5, .mv (.tmp 17), none⟩]))))))
 (.seq
 (.text [⟨some 27, .mv (.tmp 0), none⟩,
  ⟨some 28, .len .slice (.tmp 27), none⟩,
  ⟨some 29, .mv (.tmp 1), none⟩,
  ⟨some 30, .len .slice (.tmp 29), none⟩,
  ⟨some 31, .bin .eql .other (.tmp 28) (.tmp 30), none⟩,
  ⟨some 4, .mv (.tmp 31), none⟩]) .ret))
theorem joineryref06_Same.low : lowFn Try.prog 18 = some (32, joineryref06_Same.lc, [.tmp 4]) := by kernel_rfl

/-- Function 19. -/
abbrev cand_head.no : Nat := 19
def cand_head.lc : LCode :=
 .seq
 (.text [⟨some 2, .mv (.cst (.imm (.slice none 0 0))), none⟩])
 (.seq
 (.text [⟨some 3, .mv (.tmp 0), none⟩,
  ⟨some 4, .mv (.tmp 0), none⟩,
  ⟨some 5, .len .slice (.tmp 4), none⟩,
  ⟨some 6, .min [.tmp 5, .cst (.int .i64 200)], none⟩,
  ⟨some 7, .slice 6 (.tmp 3) none (some (.tmp 6)) none, none⟩,
  ⟨some 2, .mv (.tmp 7), none⟩]) .ret)
theorem cand_head.low : lowFn Try.prog 19 = some (8, cand_head.lc, [.tmp 2]) := by kernel_rfl

end Go.Proofs.Yteoahfpnkbdkkaa
