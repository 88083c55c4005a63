/-
  The seat's functions, made plain (printed by a program of this claim; each is held against the loaded program by the kernel).
-/
import Derived.Test.YtoiceinjademgaaDoorProg
import Derived.Test.YtoiceinjademgaaDoorC4
import Derived.KernelRfl
namespace Go.Proofs.YtoiceinjademgaaDoor
set_option maxRecDepth 100000

def joinerylaw04_AsmChecks.k1 : LCode := .text [⟨some 7, .mv (.tmp 0), none⟩,
  ⟨some 8, .len .slice (.tmp 7), none⟩,
  ⟨some 9, .bin .gtr .other (.tmp 8) (.cst (.int .i64 300)), none⟩]
def joinerylaw04_AsmChecks.k2 : LCode := .text [⟨some 10, .call (.cst (.fn (.func 10) [] [])) [], none⟩,
  ⟨some 2, .mv (.tmp 10), none⟩]
def joinerylaw04_AsmChecks.k3 : LCode := .seq joinerylaw04_AsmChecks.k1 (.cond (.tmp 9) (.seq joinerylaw04_AsmChecks.k2 .ret) .skip)
def joinerylaw04_AsmChecks.k4 : LCode := .text [⟨some 12, .mv (.tmp 0), none⟩,
  ⟨some 13, .call (.cst (.fn (.func 11) [] [])) [.tmp 12], none⟩,
  ⟨some 11, .mv (.tmp 13), none⟩,
  ⟨some 14, .extract (.tmp 11) 0, none⟩,
  ⟨some 15, .extract (.tmp 11) 1, none⟩,
  ⟨some 3, .mv (.tmp 14), none⟩,
  ⟨some 4, .mv (.tmp 15), none⟩]
def joinerylaw04_AsmChecks.k5 : LCode := .text [⟨some 17, .mv (.tmp 0), none⟩,
  ⟨some 18, .call (.cst (.fn (.func 12) [] [])) [.tmp 17], none⟩,
  ⟨some 16, .mv (.tmp 18), none⟩,
  ⟨some 19, .extract (.tmp 16) 0, none⟩,
  ⟨some 20, .extract (.tmp 16) 1, none⟩,
  ⟨some 5, .mv (.tmp 19), none⟩,
  ⟨some 6, .mv (.tmp 20), none⟩]
def joinerylaw04_AsmChecks.k6 : LCode := .text [⟨some 21, .mv (.tmp 3), none⟩,
  ⟨some 22, .mv (.tmp 5), none⟩,
  ⟨some 23, .bin .eql .other (.tmp 21) (.tmp 22), none⟩,
  ⟨some 24, .mv (.tmp 23), none⟩,
  ⟨some 25, .mv (.tmp 4), some (24, true)⟩,
  ⟨some 26, .mv (.tmp 6), some (24, true)⟩,
  ⟨some 27, .bin .eql .other (.tmp 25) (.tmp 26), some (24, true)⟩,
  ⟨some 28, .pick (.tmp 24) (.tmp 27) (.cst (.bool false)), none⟩,
  ⟨some 29, .mv (.tmp 28), none⟩,
  ⟨some 30, .mv (.tmp 0), some (29, true)⟩,
  ⟨some 31, .call (.cst (.fn (.func 13) [] [])) [.tmp 30], some (29, true)⟩,
  ⟨some 32, .mv (.tmp 6), some (29, true)⟩,
  ⟨some 33, .bin .eql .other (.tmp 32) (.cst (.int .i64 0)), some (29, true)⟩,
  ⟨some 34, .bin .eql .bool (.tmp 31) (.tmp 33), some (29, true)⟩,
  ⟨some 35, .pick (.tmp 29) (.tmp 34) (.cst (.bool false)), none⟩,
  ⟨some 36, .mv (.tmp 35), none⟩,
  ⟨some 37, .call (.cst (.fn (.func 10) [] [])) [], some (36, true)⟩,
  ⟨some 38, .pick (.tmp 36) (.tmp 37) (.cst (.bool false)), none⟩,
  ⟨some 2, .mv (.tmp 38), none⟩]
def joinerylaw04_AsmChecks.k7 : LCode := .seq joinerylaw04_AsmChecks.k5 (.seq joinerylaw04_AsmChecks.k6 .ret)
def joinerylaw04_AsmChecks.k8 : LCode := .seq joinerylaw04_AsmChecks.k3 (.seq joinerylaw04_AsmChecks.k4 joinerylaw04_AsmChecks.k7)
/-- Function 3. -/
abbrev joinerylaw04_AsmChecks.no : Nat := 3
def joinerylaw04_AsmChecks.lc : LCode :=
 .seq (.text [⟨some 2, .mv (.cst (.bool false)), none⟩]) joinerylaw04_AsmChecks.k8
theorem joinerylaw04_AsmChecks.low : lowFn Tryd.prog 3 = some (39, joinerylaw04_AsmChecks.lc, [.tmp 2]) := by kernel_rfl

def joinerylaw04_AsmPrints.k1 : LCode := .text [⟨some 5, .mv (.tmp 0), none⟩,
  ⟨some 6, .len .slice (.tmp 5), none⟩,
  ⟨some 7, .bin .gtr .other (.tmp 6) (.cst (.int .i64 300)), none⟩]
def joinerylaw04_AsmPrints.k2 : LCode := .text [⟨some 8, .call (.cst (.fn (.func 10) [] [])) [], none⟩,
  ⟨some 2, .mv (.tmp 8), none⟩]
def joinerylaw04_AsmPrints.k3 : LCode := .seq joinerylaw04_AsmPrints.k1 (.cond (.tmp 7) (.seq joinerylaw04_AsmPrints.k2 .ret) .skip)
def joinerylaw04_AsmPrints.k4 : LCode := .text [⟨some 10, .mv (.tmp 0), none⟩,
  ⟨some 11, .call (.cst (.fn (.func 14) [] [])) [.tmp 10], none⟩,
  ⟨some 9, .mv (.tmp 11), none⟩,
  ⟨some 12, .extract (.tmp 9) 0, none⟩,
  ⟨some 13, .extract (.tmp 9) 1, none⟩,
  ⟨some 3, .mv (.tmp 12), none⟩,
  ⟨some 4, .mv (.tmp 13), none⟩]
def joinerylaw04_AsmPrints.k5 : LCode := .text [⟨some 14, .mv (.tmp 0), none⟩,
  ⟨some 15, .call (.cst (.fn (.func 15) [] [])) [.tmp 14], none⟩,
  ⟨some 16, .not (.tmp 15), none⟩]
def joinerylaw04_AsmPrints.k6 : LCode := .text [⟨some 17, .mv (.tmp 3), none⟩,
  ⟨some 18, .bin .eql .other (.tmp 17) (.cst (.str ⟨#[]⟩)), none⟩,
  ⟨some 19, .mv (.tmp 18), none⟩,
  ⟨some 20, .mv (.tmp 4), some (19, true)⟩,
  ⟨some 21, .bin .eql .other (.tmp 20) (.cst (.int .i64 1)), some (19, true)⟩,
  ⟨some 22, .pick (.tmp 19) (.tmp 21) (.cst (.bool false)), none⟩,
  ⟨some 23, .mv (.tmp 22), none⟩,
  ⟨some 24, .call (.cst (.fn (.func 10) [] [])) [], some (23, true)⟩,
  ⟨some 25, .pick (.tmp 23) (.tmp 24) (.cst (.bool false)), none⟩,
  ⟨some 2, .mv (.tmp 25), none⟩]
def joinerylaw04_AsmPrints.k7 : LCode := .seq joinerylaw04_AsmPrints.k5 (.cond (.tmp 16) (.seq joinerylaw04_AsmPrints.k6 .ret) .skip)
def joinerylaw04_AsmPrints.k8 : LCode := .text [⟨some 26, .mv (.tmp 3), none⟩,
  ⟨some 27, .mv (.tmp 0), none⟩,
  ⟨some 28, .call (.cst (.fn (.func 16) [] [])) [.tmp 27], none⟩,
  ⟨some 29, .bin .eql .other (.tmp 26) (.tmp 28), none⟩,
  ⟨some 30, .mv (.tmp 29), none⟩,
  ⟨some 31, .mv (.tmp 4), some (30, true)⟩,
  ⟨some 32, .bin .eql .other (.tmp 31) (.cst (.int .i64 0)), some (30, true)⟩,
  ⟨some 33, .pick (.tmp 30) (.tmp 32) (.cst (.bool false)), none⟩,
  ⟨some 34, .mv (.tmp 33), none⟩,
  ⟨some 35, .call (.cst (.fn (.func 10) [] [])) [], some (34, true)⟩,
  ⟨some 36, .pick (.tmp 34) (.tmp 35) (.cst (.bool false)), none⟩,
  ⟨some 2, .mv (.tmp 36), none⟩]
def joinerylaw04_AsmPrints.k9 : LCode := .seq joinerylaw04_AsmPrints.k7 (.seq joinerylaw04_AsmPrints.k8 .ret)
def joinerylaw04_AsmPrints.k10 : LCode := .seq joinerylaw04_AsmPrints.k3 (.seq joinerylaw04_AsmPrints.k4 joinerylaw04_AsmPrints.k9)
/-- Function 4. -/
abbrev joinerylaw04_AsmPrints.no : Nat := 4
def joinerylaw04_AsmPrints.lc : LCode :=
 .seq (.text [⟨some 2, .mv (.cst (.bool false)), none⟩]) joinerylaw04_AsmPrints.k10
theorem joinerylaw04_AsmPrints.low : lowFn Tryd.prog 4 = some (37, joinerylaw04_AsmPrints.lc, [.tmp 2]) := by kernel_rfl

def joinerylaw04_AsmParses.k1 : LCode := .text [⟨some 9, .mv (.tmp 0), none⟩,
  ⟨some 10, .len .str (.tmp 9), none⟩,
  ⟨some 11, .bin .gtr .other (.tmp 10) (.cst (.int .i64 25000)), none⟩]
def joinerylaw04_AsmParses.k2 : LCode := .text [⟨some 12, .call (.cst (.fn (.func 10) [] [])) [], none⟩,
  ⟨some 2, .mv (.tmp 12), none⟩]
def joinerylaw04_AsmParses.k3 : LCode := .seq joinerylaw04_AsmParses.k1 (.cond (.tmp 11) (.seq joinerylaw04_AsmParses.k2 .ret) .skip)
def joinerylaw04_AsmParses.k4 : LCode := .text [⟨some 14, .mv (.tmp 0), none⟩,
  ⟨some 15, .call (.cst (.fn (.func 17) [] [])) [.tmp 14], none⟩,
  ⟨some 13, .mv (.tmp 15), none⟩,
  ⟨some 16, .extract (.tmp 13) 0, none⟩,
  ⟨some 17, .extract (.tmp 13) 1, none⟩,
  ⟨some 18, .extract (.tmp 13) 2, none⟩,
  ⟨some 3, .mv (.tmp 16), none⟩,
  ⟨some 4, .mv (.tmp 17), none⟩,
  ⟨some 5, .mv (.tmp 18), none⟩]
def joinerylaw04_AsmParses.k5 : LCode := .text [⟨some 20, .mv (.tmp 0), none⟩,
  ⟨some 21, .call (.cst (.fn (.func 18) [] [])) [.tmp 20], none⟩,
  ⟨some 19, .mv (.tmp 21), none⟩,
  ⟨some 22, .extract (.tmp 19) 0, none⟩,
  ⟨some 23, .extract (.tmp 19) 1, none⟩,
  ⟨some 24, .extract (.tmp 19) 2, none⟩,
  ⟨some 6, .mv (.tmp 22), none⟩,
  ⟨some 7, .mv (.tmp 23), none⟩,
  ⟨some 8, .mv (.tmp 24), none⟩]
def joinerylaw04_AsmParses.k6 : LCode := .text [⟨some 25, .mv (.tmp 3), none⟩,
  ⟨some 26, .mv (.tmp 6), none⟩,
  ⟨some 27, .call (.cst (.fn (.func 19) [] [])) [.tmp 25, .tmp 26], none⟩,
  ⟨some 28, .mv (.tmp 27), none⟩,
  ⟨some 29, .mv (.tmp 4), some (28, true)⟩,
  ⟨some 30, .mv (.tmp 7), some (28, true)⟩,
  ⟨some 31, .bin .eql .other (.tmp 29) (.tmp 30), some (28, true)⟩,
  ⟨some 32, .pick (.tmp 28) (.tmp 31) (.cst (.bool false)), none⟩,
  ⟨some 33, .mv (.tmp 32), none⟩,
  ⟨some 34, .mv (.tmp 5), some (33, true)⟩,
  ⟨some 35, .mv (.tmp 8), some (33, true)⟩,
  ⟨some 36, .bin .eql .other (.tmp 34) (.tmp 35), some (33, true)⟩,
  ⟨some 37, .pick (.tmp 33) (.tmp 36) (.cst (.bool false)), none⟩,
  ⟨some 38, .mv (.tmp 37), none⟩,
  ⟨some 39, .mv (.tmp 4), some (38, true)⟩,
  ⟨some 40, .bin .geq .other (.tmp 39) (.cst (.int .i64 0)), some (38, true)⟩,
  ⟨some 41, .pick (.tmp 38) (.tmp 40) (.cst (.bool false)), none⟩,
  ⟨some 42, .mv (.tmp 41), none⟩,
  ⟨some 43, .mv (.tmp 4), some (42, true)⟩,
  ⟨some 44, .mv (.tmp 0), some (42, true)⟩,
  ⟨some 45, .len .str (.tmp 44), some (42, true)⟩,
  ⟨some 46, .bin .leq .other (.tmp 43) (.tmp 45), some (42, true)⟩,
  ⟨some 47, .pick (.tmp 42) (.tmp 46) (.cst (.bool false)), none⟩,
  ⟨some 48, .mv (.tmp 47), none⟩,
  ⟨some 49, .call (.cst (.fn (.func 10) [] [])) [], some (48, true)⟩,
  ⟨some 50, .pick (.tmp 48) (.tmp 49) (.cst (.bool false)), none⟩,
  ⟨some 2, .mv (.tmp 50), none⟩]
def joinerylaw04_AsmParses.k7 : LCode := .seq joinerylaw04_AsmParses.k5 (.seq joinerylaw04_AsmParses.k6 .ret)
def joinerylaw04_AsmParses.k8 : LCode := .seq joinerylaw04_AsmParses.k3 (.seq joinerylaw04_AsmParses.k4 joinerylaw04_AsmParses.k7)
/-- Function 5. -/
abbrev joinerylaw04_AsmParses.no : Nat := 5
def joinerylaw04_AsmParses.lc : LCode :=
 .seq (.text [⟨some 2, .mv (.cst (.bool false)), none⟩]) joinerylaw04_AsmParses.k8
theorem joinerylaw04_AsmParses.low : lowFn Tryd.prog 5 = some (51, joinerylaw04_AsmParses.lc, [.tmp 2]) := by kernel_rfl

def joinerylaw04_AsmBack.k1 : LCode := .text [⟨some 15, .mv (.tmp 0), none⟩,
  ⟨some 16, .len .slice (.tmp 15), none⟩,
  ⟨some 17, .bin .gtr .other (.tmp 16) (.cst (.int .i64 300)), none⟩,
  ⟨some 18, .mv (.tmp 17), none⟩,
  ⟨some 19, .mv (.tmp 1), some (18, false)⟩,
  ⟨some 20, .len .str (.tmp 19), some (18, false)⟩,
  ⟨some 21, .bin .gtr .other (.tmp 20) (.cst (.int .i64 25000)), some (18, false)⟩,
  ⟨some 22, .pick (.tmp 18) (.cst (.bool true)) (.tmp 21), none⟩]
def joinerylaw04_AsmBack.k2 : LCode := .text [⟨some 23, .call (.cst (.fn (.func 10) [] [])) [], none⟩,
  ⟨some 4, .mv (.tmp 23), none⟩]
def joinerylaw04_AsmBack.k3 : LCode := .seq joinerylaw04_AsmBack.k1 (.cond (.tmp 22) (.seq joinerylaw04_AsmBack.k2 .ret) .skip)
def joinerylaw04_AsmBack.k4 : LCode := .text [⟨some 25, .mv (.tmp 0), none⟩,
  ⟨some 26, .call (.cst (.fn (.func 14) [] [])) [.tmp 25], none⟩,
  ⟨some 24, .mv (.tmp 26), none⟩,
  ⟨some 27, .extract (.tmp 24) 0, none⟩,
  ⟨some 28, .extract (.tmp 24) 1, none⟩,
  ⟨some 5, .mv (.tmp 27), none⟩,
  ⟨some 6, .mv (.tmp 28), none⟩]
def joinerylaw04_AsmBack.k5 : LCode := .text [⟨some 29, .mv (.tmp 6), none⟩,
  ⟨some 30, .bin .eql .other (.tmp 29) (.cst (.int .i64 0)), none⟩]
def joinerylaw04_AsmBack.k6 : LCode := .text [⟨some 32, .mv (.tmp 5), none⟩,
  ⟨some 33, .call (.cst (.fn (.func 17) [] [])) [.tmp 32], none⟩,
  ⟨some 31, .mv (.tmp 33), none⟩,
  ⟨some 34, .extract (.tmp 31) 0, none⟩,
  ⟨some 35, .extract (.tmp 31) 1, none⟩,
  ⟨some 36, .extract (.tmp 31) 2, none⟩,
  ⟨some 7, .mv (.tmp 34), none⟩,
  ⟨some 8, .mv (.tmp 35), none⟩,
  ⟨some 9, .mv (.tmp 36), none⟩]
def joinerylaw04_AsmBack.k7 : LCode := .text [⟨some 37, .mv (.tmp 0), none⟩,
  ⟨some 38, .mv (.tmp 7), none⟩,
  ⟨some 39, .call (.cst (.fn (.func 19) [] [])) [.tmp 37, .tmp 38], none⟩,
  ⟨some 40, .not (.tmp 39), none⟩,
  ⟨some 41, .mv (.tmp 40), none⟩,
  ⟨some 42, .mv (.tmp 9), some (41, false)⟩,
  ⟨some 43, .bin .neq .other (.tmp 42) (.cst (.int .i64 0)), some (41, false)⟩,
  ⟨some 44, .pick (.tmp 41) (.cst (.bool true)) (.tmp 43), none⟩]
def joinerylaw04_AsmBack.k8 : LCode := .seq (.text [⟨some 4, .mv (.cst (.bool false)), none⟩]) .ret
def joinerylaw04_AsmBack.k9 : LCode := .seq joinerylaw04_AsmBack.k7 (.cond (.tmp 44) joinerylaw04_AsmBack.k8 .skip)
def joinerylaw04_AsmBack.k10 : LCode := .cond (.tmp 30) (.seq joinerylaw04_AsmBack.k6 joinerylaw04_AsmBack.k9) .skip
def joinerylaw04_AsmBack.k11 : LCode := .text [⟨some 46, .mv (.tmp 1), none⟩,
  ⟨some 47, .call (.cst (.fn (.func 17) [] [])) [.tmp 46], none⟩,
  ⟨some 45, .mv (.tmp 47), none⟩,
  ⟨some 48, .extract (.tmp 45) 0, none⟩,
  ⟨some 49, .extract (.tmp 45) 1, none⟩,
  ⟨some 50, .extract (.tmp 45) 2, none⟩,
  ⟨some 10, .mv (.tmp 48), none⟩,
  ⟨some 11, .mv (.tmp 49), none⟩,
  ⟨some 12, .mv (.tmp 50), none⟩]
def joinerylaw04_AsmBack.k12 : LCode := .text [⟨some 51, .mv (.tmp 12), none⟩,
  ⟨some 52, .bin .neq .other (.tmp 51) (.cst (.int .i64 0)), none⟩]
def joinerylaw04_AsmBack.k13 : LCode := .text [⟨some 53, .mv (.tmp 10), none⟩,
  ⟨some 54, .len .slice (.tmp 53), none⟩,
  ⟨some 55, .bin .eql .other (.tmp 54) (.cst (.int .i64 0)), none⟩,
  ⟨some 56, .mv (.tmp 55), none⟩,
  ⟨some 57, .call (.cst (.fn (.func 10) [] [])) [], some (56, true)⟩,
  ⟨some 58, .pick (.tmp 56) (.tmp 57) (.cst (.bool false)), none⟩,
  ⟨some 4, .mv (.tmp 58), none⟩]
def joinerylaw04_AsmBack.k14 : LCode := .seq joinerylaw04_AsmBack.k12 (.cond (.tmp 52) (.seq joinerylaw04_AsmBack.k13 .ret) .skip)
def joinerylaw04_AsmBack.k15 : LCode := .text [⟨some 60, .mv (.tmp 10), none⟩,
  ⟨some 61, .call (.cst (.fn (.func 14) [] [])) [.tmp 60], none⟩,
  ⟨some 59, .mv (.tmp 61), none⟩,
  ⟨some 62, .extract (.tmp 59) 0, none⟩,
  ⟨some 63, .extract (.tmp 59) 1, none⟩,
  ⟨some 13, .mv (.tmp 62), none⟩,
  ⟨some 14, .mv (.tmp 63), none⟩]
def joinerylaw04_AsmBack.k16 : LCode := .text [⟨some 64, .mv (.tmp 13), none⟩,
  ⟨some 65, .mv (.tmp 1), none⟩,
  ⟨some 66, .bin .eql .other (.tmp 64) (.tmp 65), none⟩,
  ⟨some 67, .mv (.tmp 66), none⟩,
  ⟨some 68, .mv (.tmp 14), some (67, true)⟩,
  ⟨some 69, .bin .eql .other (.tmp 68) (.cst (.int .i64 0)), some (67, true)⟩,
  ⟨some 70, .pick (.tmp 67) (.tmp 69) (.cst (.bool false)), none⟩,
  ⟨some 71, .mv (.tmp 70), none⟩,
  ⟨some 72, .mv (.tmp 10), some (71, true)⟩,
  ⟨some 73, .call (.cst (.fn (.func 13) [] [])) [.tmp 72], some (71, true)⟩,
  ⟨some 74, .pick (.tmp 71) (.tmp 73) (.cst (.bool false)), none⟩,
  ⟨some 75, .mv (.tmp 74), none⟩,
  ⟨some 76, .call (.cst (.fn (.func 10) [] [])) [], some (75, true)⟩,
  ⟨some 77, .pick (.tmp 75) (.tmp 76) (.cst (.bool false)), none⟩,
  ⟨some 4, .mv (.tmp 77), none⟩]
def joinerylaw04_AsmBack.k17 : LCode := .seq joinerylaw04_AsmBack.k15 (.seq joinerylaw04_AsmBack.k16 .ret)
def joinerylaw04_AsmBack.k18 : LCode := .seq joinerylaw04_AsmBack.k11 (.seq joinerylaw04_AsmBack.k14 joinerylaw04_AsmBack.k17)
def joinerylaw04_AsmBack.k19 : LCode := .seq (.seq joinerylaw04_AsmBack.k5 joinerylaw04_AsmBack.k10) joinerylaw04_AsmBack.k18
def joinerylaw04_AsmBack.k20 : LCode := .seq joinerylaw04_AsmBack.k3 (.seq joinerylaw04_AsmBack.k4 joinerylaw04_AsmBack.k19)
/-- Function 6. -/
abbrev joinerylaw04_AsmBack.no : Nat := 6
def joinerylaw04_AsmBack.lc : LCode :=
 .seq (.text [⟨some 4, .mv (.cst (.bool false)), none⟩]) joinerylaw04_AsmBack.k20
theorem joinerylaw04_AsmBack.low : lowFn Tryd.prog 6 = some (78, joinerylaw04_AsmBack.lc, [.tmp 4]) := by kernel_rfl

def joinerylaw04_AsmApart.k1 : LCode := .text [⟨some 9, .mv (.tmp 0), none⟩,
  ⟨some 10, .len .slice (.tmp 9), none⟩,
  ⟨some 11, .bin .gtr .other (.tmp 10) (.cst (.int .i64 300)), none⟩,
  ⟨some 12, .mv (.tmp 11), none⟩,
  ⟨some 13, .mv (.tmp 1), some (12, false)⟩,
  ⟨some 14, .len .slice (.tmp 13), some (12, false)⟩,
  ⟨some 15, .bin .gtr .other (.tmp 14) (.cst (.int .i64 300)), some (12, false)⟩,
  ⟨some 16, .pick (.tmp 12) (.cst (.bool true)) (.tmp 15), none⟩]
def joinerylaw04_AsmApart.k2 : LCode := .text [⟨some 17, .call (.cst (.fn (.func 10) [] [])) [], none⟩,
  ⟨some 4, .mv (.tmp 17), none⟩]
def joinerylaw04_AsmApart.k3 : LCode := .seq joinerylaw04_AsmApart.k1 (.cond (.tmp 16) (.seq joinerylaw04_AsmApart.k2 .ret) .skip)
def joinerylaw04_AsmApart.k4 : LCode := .text [⟨some 19, .mv (.tmp 0), none⟩,
  ⟨some 20, .call (.cst (.fn (.func 14) [] [])) [.tmp 19], none⟩,
  ⟨some 18, .mv (.tmp 20), none⟩,
  ⟨some 21, .extract (.tmp 18) 0, none⟩,
  ⟨some 22, .extract (.tmp 18) 1, none⟩,
  ⟨some 5, .mv (.tmp 21), none⟩,
  ⟨some 6, .mv (.tmp 22), none⟩]
def joinerylaw04_AsmApart.k5 : LCode := .text [⟨some 24, .mv (.tmp 1), none⟩,
  ⟨some 25, .call (.cst (.fn (.func 14) [] [])) [.tmp 24], none⟩,
  ⟨some 23, .mv (.tmp 25), none⟩,
  ⟨some 26, .extract (.tmp 23) 0, none⟩,
  ⟨some 27, .extract (.tmp 23) 1, none⟩,
  ⟨some 7, .mv (.tmp 26), none⟩,
  ⟨some 8, .mv (.tmp 27), none⟩]
def joinerylaw04_AsmApart.k6 : LCode := .text [⟨some 28, .mv (.tmp 6), none⟩,
  ⟨some 29, .bin .neq .other (.tmp 28) (.cst (.int .i64 0)), none⟩,
  ⟨some 30, .mv (.tmp 29), none⟩,
  ⟨some 31, .mv (.tmp 8), some (30, false)⟩,
  ⟨some 32, .bin .neq .other (.tmp 31) (.cst (.int .i64 0)), some (30, false)⟩,
  ⟨some 33, .pick (.tmp 30) (.cst (.bool true)) (.tmp 32), none⟩]
def joinerylaw04_AsmApart.k7 : LCode := .text [⟨some 34, .call (.cst (.fn (.func 10) [] [])) [], none⟩,
  ⟨some 4, .mv (.tmp 34), none⟩]
def joinerylaw04_AsmApart.k8 : LCode := .seq joinerylaw04_AsmApart.k6 (.cond (.tmp 33) (.seq joinerylaw04_AsmApart.k7 .ret) .skip)
def joinerylaw04_AsmApart.k9 : LCode := .text [⟨some 35, .mv (.tmp 5), none⟩,
  ⟨some 36, .mv (.tmp 7), none⟩,
  ⟨some 37, .bin .eql .other (.tmp 35) (.tmp 36), none⟩,
  ⟨some 38, .mv (.tmp 0), none⟩,
  ⟨some 39, .mv (.tmp 1), none⟩,
  ⟨some 40, .call (.cst (.fn (.func 19) [] [])) [.tmp 38, .tmp 39], none⟩,
  ⟨some 41, .bin .eql .bool (.tmp 37) (.tmp 40), none⟩,
  ⟨some 42, .mv (.tmp 41), none⟩,
  ⟨some 43, .call (.cst (.fn (.func 10) [] [])) [], some (42, true)⟩,
  ⟨some 44, .pick (.tmp 42) (.tmp 43) (.cst (.bool false)), none⟩,
  ⟨some 4, .mv (.tmp 44), none⟩]
def joinerylaw04_AsmApart.k10 : LCode := .seq joinerylaw04_AsmApart.k8 (.seq joinerylaw04_AsmApart.k9 .ret)
def joinerylaw04_AsmApart.k11 : LCode := .seq joinerylaw04_AsmApart.k4 (.seq joinerylaw04_AsmApart.k5 joinerylaw04_AsmApart.k10)
/-- Function 7. -/
abbrev joinerylaw04_AsmApart.no : Nat := 7
def joinerylaw04_AsmApart.lc : LCode :=
 .seq (.text [⟨some 4, .mv (.cst (.bool false)), none⟩]) (.seq joinerylaw04_AsmApart.k3 joinerylaw04_AsmApart.k11)
theorem joinerylaw04_AsmApart.low : lowFn Tryd.prog 7 = some (45, joinerylaw04_AsmApart.lc, [.tmp 4]) := by kernel_rfl

def joinerylaw04_AsmCut.k1 : LCode := .text [⟨some 10, .mv (.tmp 0), none⟩,
  ⟨some 11, .len .slice (.tmp 10), none⟩,
  ⟨some 12, .bin .gtr .other (.tmp 11) (.cst (.int .i64 300)), none⟩]
def joinerylaw04_AsmCut.k2 : LCode := .text [⟨some 13, .call (.cst (.fn (.func 10) [] [])) [], none⟩,
  ⟨some 2, .mv (.tmp 13), none⟩]
def joinerylaw04_AsmCut.k3 : LCode := .seq joinerylaw04_AsmCut.k1 (.cond (.tmp 12) (.seq joinerylaw04_AsmCut.k2 .ret) .skip)
def joinerylaw04_AsmCut.k4 : LCode := .text [⟨some 15, .mv (.tmp 0), none⟩,
  ⟨some 16, .call (.cst (.fn (.func 14) [] [])) [.tmp 15], none⟩,
  ⟨some 14, .mv (.tmp 16), none⟩,
  ⟨some 17, .extract (.tmp 14) 0, none⟩,
  ⟨some 18, .extract (.tmp 14) 1, none⟩,
  ⟨some 3, .mv (.tmp 17), none⟩,
  ⟨some 4, .mv (.tmp 18), none⟩]
def joinerylaw04_AsmCut.k5 : LCode := .text [⟨some 19, .mv (.tmp 4), none⟩,
  ⟨some 20, .bin .neq .other (.tmp 19) (.cst (.int .i64 0)), none⟩,
  ⟨some 21, .mv (.tmp 20), none⟩,
  ⟨some 22, .mv (.tmp 3), some (21, false)⟩,
  ⟨some 23, .len .str (.tmp 22), some (21, false)⟩,
  ⟨some 24, .bin .eql .other (.tmp 23) (.cst (.int .i64 0)), some (21, false)⟩,
  ⟨some 25, .pick (.tmp 21) (.cst (.bool true)) (.tmp 24), none⟩]
def joinerylaw04_AsmCut.k6 : LCode := .text [⟨some 26, .mv (.tmp 4), none⟩,
  ⟨some 27, .bin .neq .other (.tmp 26) (.cst (.int .i64 0)), none⟩,
  ⟨some 28, .mv (.tmp 27), none⟩,
  ⟨some 29, .call (.cst (.fn (.func 10) [] [])) [], some (28, true)⟩,
  ⟨some 30, .pick (.tmp 28) (.tmp 29) (.cst (.bool false)), none⟩,
  ⟨some 2, .mv (.tmp 30), none⟩]
def joinerylaw04_AsmCut.k7 : LCode := .seq joinerylaw04_AsmCut.k5 (.cond (.tmp 25) (.seq joinerylaw04_AsmCut.k6 .ret) .skip)
def joinerylaw04_AsmCut.k8 : LCode := .text [⟨some 31, .mv (.tmp 6), none⟩,
  ⟨some 32, .bin .add .other (.tmp 31) (.cst (.int .i64 1)), none⟩,
  ⟨some 33, .mv (.tmp 3), none⟩,
  ⟨some 34, .len .str (.tmp 33), none⟩,
  ⟨some 35, .bin .lss .other (.tmp 32) (.tmp 34), none⟩]
def joinerylaw04_AsmCut.k9 : LCode := .seq joinerylaw04_AsmCut.k8 (.cond (.tmp 35) .skip (.exit 0))
def joinerylaw04_AsmCut.k10 : LCode := .text [⟨some 38, .mv (.tmp 3), none⟩,
  ⟨some 39, .mv (.tmp 6), none⟩,
  ⟨some 40, .idxS (.tmp 38) (.tmp 39), none⟩,
  ⟨some 41, .bin .eql .other (.tmp 40) (.cst (.int .u8 10)), none⟩]
def joinerylaw04_AsmCut.k11 : LCode := .text [⟨some 42, .mv (.tmp 6), none⟩,
  ⟨some 43, .bin .add .other (.tmp 42) (.cst (.int .i64 1)), none⟩,
  ⟨some 5, .mv (.tmp 43), none⟩]
def joinerylaw04_AsmCut.k12 : LCode := .seq joinerylaw04_AsmCut.k10 (.cond (.tmp 41) joinerylaw04_AsmCut.k11 .skip)
def joinerylaw04_AsmCut.k13 : LCode := .text [⟨some 36, .mv (.tmp 6), none⟩,
  ⟨some 37, .bin .add .other (.tmp 36) (.cst (.int .i64 1)), none⟩,
  ⟨some 6, .mv (.tmp 37), none⟩]
def joinerylaw04_AsmCut.k14 : LCode := .seq (.block 1 joinerylaw04_AsmCut.k12) joinerylaw04_AsmCut.k13
def joinerylaw04_AsmCut.k15 : LCode := .block 0 (.loop (.seq joinerylaw04_AsmCut.k9 joinerylaw04_AsmCut.k14))
def joinerylaw04_AsmCut.k16 : LCode := .seq (.text [⟨some 6, .mv (.cst (.int .i64 0)), none⟩]) joinerylaw04_AsmCut.k15
def joinerylaw04_AsmCut.k17 : LCode := .text [⟨some 45, .mv (.tmp 3), none⟩,
  ⟨some 46, .mv (.tmp 3), none⟩,
  ⟨some 47, .len .str (.tmp 46), none⟩,
  ⟨some 48, .bin .sub .other (.tmp 47) (.cst (.int .i64 1)), none⟩,
  ⟨some 49, .sliceS (.tmp 45) none (some (.tmp 48)), none⟩,
  ⟨some 50, .call (.cst (.fn (.func 17) [] [])) [.tmp 49], none⟩,
  ⟨some 44, .mv (.tmp 50), none⟩,
  ⟨some 51, .extract (.tmp 44) 0, none⟩,
  ⟨some 52, .extract (.tmp 44) 1, none⟩,
  ⟨some 53, .extract (.tmp 44) 2, none⟩,
  ⟨some 7, .mv (.tmp 51), none⟩,
  ⟨some 8, .mv (.tmp 52), none⟩,
  ⟨some 9, .mv (.tmp 53), none⟩]
def joinerylaw04_AsmCut.k18 : LCode := .text [⟨some 54, .mv (.tmp 7), none⟩,
  ⟨some 55, .len .slice (.tmp 54), none⟩,
  ⟨some 56, .bin .eql .other (.tmp 55) (.cst (.int .i64 0)), none⟩,
  ⟨some 57, .mv (.tmp 56), none⟩,
  ⟨some 58, .mv (.tmp 8), some (57, true)⟩,
  ⟨some 59, .mv (.tmp 5), some (57, true)⟩,
  ⟨some 60, .bin .eql .other (.tmp 58) (.tmp 59), some (57, true)⟩,
  ⟨some 61, .pick (.tmp 57) (.tmp 60) (.cst (.bool false)), none⟩,
  ⟨some 62, .mv (.tmp 61), none⟩,
  ⟨some 63, .mv (.tmp 9), some (62, true)⟩,
  ⟨some 64, .bin .eql .other (.tmp 63) (.cst (.int .i64 2)), some (62, true)⟩,
  ⟨some 65, .pick (.tmp 62) (.tmp 64) (.cst (.bool false)), none⟩,
  ⟨some 66, .mv (.tmp 65), none⟩,
  ⟨some 67, .call (.cst (.fn (.func 10) [] [])) [], some (66, true)⟩,
  ⟨some 68, .pick (.tmp 66) (.tmp 67) (.cst (.bool false)), none⟩,
  ⟨some 2, .mv (.tmp 68), none⟩]
def joinerylaw04_AsmCut.k19 : LCode := .seq joinerylaw04_AsmCut.k17 (.seq joinerylaw04_AsmCut.k18 .ret)
def joinerylaw04_AsmCut.k20 : LCode := .seq (.text [⟨some 5, .mv (.cst (.int .i64 0)), none⟩]) (.seq joinerylaw04_AsmCut.k16 joinerylaw04_AsmCut.k19)
def joinerylaw04_AsmCut.k21 : LCode := .seq joinerylaw04_AsmCut.k4 (.seq joinerylaw04_AsmCut.k7 joinerylaw04_AsmCut.k20)
/-- Function 8. -/
abbrev joinerylaw04_AsmCut.no : Nat := 8
def joinerylaw04_AsmCut.lc : LCode :=
 .seq (.text [⟨some 2, .mv (.cst (.bool false)), none⟩]) (.seq joinerylaw04_AsmCut.k3 joinerylaw04_AsmCut.k21)
theorem joinerylaw04_AsmCut.low : lowFn Tryd.prog 8 = some (69, joinerylaw04_AsmCut.lc, [.tmp 2]) := by kernel_rfl

def joinerylaw04_AsmBehind.k1 : LCode := .text [⟨some 3, .box (.tmp 1), none⟩,
  ⟨some 4, .mv (.cst (.bool false)), none⟩]
def joinerylaw04_AsmBehind.k2 : LCode := .text [⟨some 6, .mv (.tmp 0), none⟩,
  ⟨some 7, .len .slice (.tmp 6), none⟩,
  ⟨some 8, .bin .gtr .other (.tmp 7) (.cst (.int .i64 199)), none⟩,
  ⟨some 9, .mv (.tmp 8), none⟩,
  ⟨some 10, .mv (.tmp 0), some (9, false)⟩,
  ⟨some 11, .call (.cst (.fn (.func 15) [] [])) [.tmp 10], some (9, false)⟩,
  ⟨some 12, .not (.tmp 11), some (9, false)⟩,
  ⟨some 13, .pick (.tmp 9) (.cst (.bool true)) (.tmp 12), none⟩]
def joinerylaw04_AsmBehind.k3 : LCode := .text [⟨some 14, .call (.cst (.fn (.func 10) [] [])) [], none⟩,
  ⟨some 4, .mv (.tmp 14), none⟩]
def joinerylaw04_AsmBehind.k4 : LCode := .seq joinerylaw04_AsmBehind.k2 (.cond (.tmp 13) (.seq joinerylaw04_AsmBehind.k3 .ret) .skip)
def joinerylaw04_AsmBehind.k5 : LCode := .any false [⟨some 15, .bslice 6 [.int .i64 0, .int .i64 0, .int .i64 0, .int .i64 0, .int .i64 0, .int .i64 0] 0 [], none⟩,
  ⟨some 16, .mv (.tmp 0), none⟩,
  ⟨some 17, .append 6 48 (.tmp 15) (.tmp 16), none⟩,
  ⟨some 18, .load true 6 (.tmp 3), none⟩,
  ⟨some 19, .bslice 6 [.int .i64 0, .int .i64 0, .int .i64 0, .int .i64 0, .int .i64 0, .int .i64 0] 1 [(0, .tmp 18)], none⟩,
  ⟨some 20, .append 6 48 (.tmp 17) (.tmp 19), none⟩,
  ⟨some 5, .mv (.tmp 20), none⟩] (.take 1 (.all [(0, .all [(2, .all [(3, .all [(4, .all [(5, .take 6 .done)])])]), (3, .all [(2, .all [(4, .all [(5, .take 6 .done)])]), (4, .all [(2, .all [(5, .take 6 .done)])])])]), (3, .all [(0, .all [(2, .all [(4, .all [(5, .take 6 .done)])]), (4, .all [(2, .all [(5, .take 6 .done)])])]), (4, .all [(0, .all [(2, .all [(5, .take 6 .done)])])])])]))
def joinerylaw04_AsmBehind.k6 : LCode := .any false [⟨some 21, .mv (.tmp 5), none⟩,
  ⟨some 22, .call (.cst (.fn (.func 13) [] [])) [.tmp 21], none⟩,
  ⟨some 23, .load true 6 (.tmp 3), none⟩,
  ⟨some 24, .bslice 6 [.int .i64 0, .int .i64 0, .int .i64 0, .int .i64 0, .int .i64 0, .int .i64 0] 1 [(0, .tmp 23)], none⟩,
  ⟨some 25, .call (.cst (.fn (.func 15) [] [])) [.tmp 24], none⟩,
  ⟨some 26, .mv (.tmp 25), none⟩,
  ⟨some 27, .faddr 0 (.tmp 3), some (26, false)⟩,
  ⟨some 28, .load false 1 (.tmp 27), some (26, false)⟩,
  ⟨some 29, .bin .eql .other (.tmp 28) (.cst (.int .i64 16)), some (26, false)⟩,
  ⟨some 30, .mv (.tmp 29), some (26, false)⟩,
  ⟨some 31, .load true 6 (.tmp 3), some (30, true)⟩,
  ⟨some 32, .faddr 5 (.tmp 3), some (30, true)⟩,
  ⟨some 33, .load false 1 (.tmp 32), some (30, true)⟩,
  ⟨some 34, .build [.int .i64 0, .int .i64 0, .int .i64 0, .int .i64 0, .int .i64 0, .int .i64 0] [(0, 1, .cst (.int .i64 16)), (5, 1, .tmp 33)], some (30, true)⟩,
  ⟨some 35, .bin .eql (.cells [.i, .i, .i, .i, .i, .i]) (.tmp 31) (.tmp 34), some (30, true)⟩,
  ⟨some 36, .pick (.tmp 30) (.tmp 35) (.cst (.bool false)), some (26, false)⟩,
  ⟨some 37, .mv (.tmp 36), some (26, false)⟩,
  ⟨some 38, .faddr 5 (.tmp 3), some (37, true)⟩,
  ⟨some 39, .load false 1 (.tmp 38), some (37, true)⟩,
  ⟨some 40, .bin .geq .other (.tmp 39) (.cst (.int .i64 0)), some (37, true)⟩,
  ⟨some 41, .pick (.tmp 37) (.tmp 40) (.cst (.bool false)), some (26, false)⟩,
  ⟨some 42, .mv (.tmp 41), some (26, false)⟩,
  ⟨some 43, .faddr 5 (.tmp 3), some (42, true)⟩,
  ⟨some 44, .load false 1 (.tmp 43), some (42, true)⟩,
  ⟨some 45, .mv (.tmp 0), some (42, true)⟩,
  ⟨some 46, .len .slice (.tmp 45), some (42, true)⟩,
  ⟨some 47, .bin .leq .other (.tmp 44) (.tmp 46), some (42, true)⟩,
  ⟨some 48, .pick (.tmp 42) (.tmp 47) (.cst (.bool false)), some (26, false)⟩,
  ⟨some 49, .pick (.tmp 26) (.cst (.bool true)) (.tmp 48), none⟩,
  ⟨some 50, .bin .eql .bool (.tmp 22) (.tmp 49), none⟩,
  ⟨some 51, .mv (.tmp 50), none⟩,
  ⟨some 52, .call (.cst (.fn (.func 10) [] [])) [], some (51, true)⟩,
  ⟨some 53, .pick (.tmp 51) (.tmp 52) (.cst (.bool false)), none⟩,
  ⟨some 4, .mv (.tmp 53), none⟩] (.take 0 (.all [(1, .all [(2, .all [(3, .all [(4, .take 5 (.take 6 (.all [(7, .take 8 (.take 9 (.take 11 (.all [(10, .all [(12, .take 13 (.take 14 (.take 15 (.take 16 (.take 17 (.all [(18, .take 19 (.take 20 (.take 21 (.take 22 (.take 24 (.take 25 (.all [(23, .take 26 (.take 27 (.take 28 (.take 29 (.take 30 (.all [(31, .take 32 (.take 33 .done))]))))))])))))))]))))))]), (12, .take 13 (.all [(10, .take 14 (.take 15 (.take 16 (.take 17 (.all [(18, .take 19 (.take 20 (.take 21 (.take 22 (.take 24 (.take 25 (.all [(23, .take 26 (.take 27 (.take 28 (.take 29 (.take 30 (.all [(31, .take 32 (.take 33 .done))]))))))])))))))])))))]))]))))])))])])]), (2, .all [(1, .all [(3, .all [(4, .take 5 (.take 6 (.all [(7, .take 8 (.take 9 (.take 11 (.all [(10, .all [(12, .take 13 (.take 14 (.take 15 (.take 16 (.take 17 (.all [(18, .take 19 (.take 20 (.take 21 (.take 22 (.take 24 (.take 25 (.all [(23, .take 26 (.take 27 (.take 28 (.take 29 (.take 30 (.all [(31, .take 32 (.take 33 .done))]))))))])))))))]))))))]), (12, .take 13 (.all [(10, .take 14 (.take 15 (.take 16 (.take 17 (.all [(18, .take 19 (.take 20 (.take 21 (.take 22 (.take 24 (.take 25 (.all [(23, .take 26 (.take 27 (.take 28 (.take 29 (.take 30 (.all [(31, .take 32 (.take 33 .done))]))))))])))))))])))))]))]))))])))])]), (3, .all [(1, .all [(4, .take 5 (.take 6 (.all [(7, .take 8 (.take 9 (.take 11 (.all [(10, .all [(12, .take 13 (.take 14 (.take 15 (.take 16 (.take 17 (.all [(18, .take 19 (.take 20 (.take 21 (.take 22 (.take 24 (.take 25 (.all [(23, .take 26 (.take 27 (.take 28 (.take 29 (.take 30 (.all [(31, .take 32 (.take 33 .done))]))))))])))))))]))))))]), (12, .take 13 (.all [(10, .take 14 (.take 15 (.take 16 (.take 17 (.all [(18, .take 19 (.take 20 (.take 21 (.take 22 (.take 24 (.take 25 (.all [(23, .take 26 (.take 27 (.take 28 (.take 29 (.take 30 (.all [(31, .take 32 (.take 33 .done))]))))))])))))))])))))]))]))))])))])])])]))
def joinerylaw04_AsmBehind.k7 : LCode := .seq joinerylaw04_AsmBehind.k5 (.seq joinerylaw04_AsmBehind.k6 .ret)
/-- Function 9. -/
abbrev joinerylaw04_AsmBehind.no : Nat := 9
def joinerylaw04_AsmBehind.lc : LCode :=
 .seq joinerylaw04_AsmBehind.k1 (.seq joinerylaw04_AsmBehind.k4 joinerylaw04_AsmBehind.k7)
theorem joinerylaw04_AsmBehind.low : lowFn Tryd.prog 9 = some (54, joinerylaw04_AsmBehind.lc, [.tmp 4]) := by kernel_rfl

def joinerylaw04_knows.k1 : LCode := .text [⟨some 13, .call (.cst (.fn (.func 17) [] [])) [.cst (.str ⟨#[109, 111, 118, 32, 114, 49, 32, 114, 48, 10, 114, 101, 116, 32, 114, 49, 10]⟩)], none⟩,
  ⟨some 12, .mv (.tmp 13), none⟩,
  ⟨some 14, .extract (.tmp 12) 0, none⟩,
  ⟨some 15, .extract (.tmp 12) 1, none⟩,
  ⟨some 16, .extract (.tmp 12) 2, none⟩,
  ⟨some 1, .mv (.tmp 14), none⟩,
  ⟨some 2, .mv (.tmp 15), none⟩,
  ⟨some 3, .mv (.tmp 16), none⟩]
def joinerylaw04_knows.k2 : LCode := .text [⟨some 18, .mv (.tmp 1), none⟩,
  ⟨some 19, .call (.cst (.fn (.func 14) [] [])) [.tmp 18], none⟩,
  ⟨some 17, .mv (.tmp 19), none⟩,
  ⟨some 20, .extract (.tmp 17) 0, none⟩,
  ⟨some 21, .extract (.tmp 17) 1, none⟩,
  ⟨some 4, .mv (.tmp 20), none⟩,
  ⟨some 5, .mv (.tmp 21), none⟩]
def joinerylaw04_knows.k3 : LCode := .text [⟨some 23, .call (.cst (.fn (.func 17) [] [])) [.cst (.str ⟨#[109, 111, 118, 32, 114, 49, 32, 114, 48, 10, 114, 101, 116, 32, 114, 56, 10]⟩)], none⟩,
  ⟨some 22, .mv (.tmp 23), none⟩,
  ⟨some 24, .extract (.tmp 22) 0, none⟩,
  ⟨some 25, .extract (.tmp 22) 1, none⟩,
  ⟨some 26, .extract (.tmp 22) 2, none⟩,
  ⟨some 6, .mv (.tmp 24), none⟩,
  ⟨some 7, .mv (.tmp 25), none⟩,
  ⟨some 8, .mv (.tmp 26), none⟩]
def joinerylaw04_knows.k4 : LCode := .text [⟨some 28, .call (.cst (.fn (.func 17) [] [])) [.cst (.str ⟨#[109, 111, 118, 32, 114, 49, 32, 114, 48, 10]⟩)], none⟩,
  ⟨some 27, .mv (.tmp 28), none⟩,
  ⟨some 29, .extract (.tmp 27) 0, none⟩,
  ⟨some 30, .extract (.tmp 27) 1, none⟩,
  ⟨some 31, .extract (.tmp 27) 2, none⟩,
  ⟨some 9, .mv (.tmp 29), none⟩,
  ⟨some 10, .mv (.tmp 30), none⟩,
  ⟨some 11, .mv (.tmp 31), none⟩]
def joinerylaw04_knows.k5 : LCode := .text [⟨some 32, .mv (.tmp 1), none⟩,
  ⟨some 33, .len .slice (.tmp 32), none⟩,
  ⟨some 34, .bin .eql .other (.tmp 33) (.cst (.int .i64 2)), none⟩,
  ⟨some 35, .mv (.tmp 34), none⟩,
  ⟨some 36, .mv (.tmp 3), some (35, true)⟩,
  ⟨some 37, .bin .eql .other (.tmp 36) (.cst (.int .i64 0)), some (35, true)⟩,
  ⟨some 38, .pick (.tmp 35) (.tmp 37) (.cst (.bool false)), none⟩,
  ⟨some 39, .mv (.tmp 38), none⟩,
  ⟨some 40, .mv (.tmp 4), some (39, true)⟩,
  ⟨some 41, .bin .eql .other (.tmp 40) (.cst (.str ⟨#[109, 111, 118, 32, 114, 49, 32, 114, 48, 10, 114, 101, 116, 32, 114, 49, 10]⟩)), some (39, true)⟩,
  ⟨some 42, .pick (.tmp 39) (.tmp 41) (.cst (.bool false)), none⟩,
  ⟨some 43, .mv (.tmp 42), none⟩,
  ⟨some 44, .mv (.tmp 5), some (43, true)⟩,
  ⟨some 45, .bin .eql .other (.tmp 44) (.cst (.int .i64 0)), some (43, true)⟩,
  ⟨some 46, .pick (.tmp 43) (.tmp 45) (.cst (.bool false)), none⟩,
  ⟨some 47, .mv (.tmp 46), none⟩,
  ⟨some 48, .mv (.tmp 7), some (47, true)⟩,
  ⟨some 49, .bin .eql .other (.tmp 48) (.cst (.int .i64 10)), some (47, true)⟩,
  ⟨some 50, .pick (.tmp 47) (.tmp 49) (.cst (.bool false)), none⟩,
  ⟨some 51, .mv (.tmp 50), none⟩,
  ⟨some 52, .mv (.tmp 8), some (51, true)⟩,
  ⟨some 53, .bin .eql .other (.tmp 52) (.cst (.int .i64 2)), some (51, true)⟩,
  ⟨some 54, .pick (.tmp 51) (.tmp 53) (.cst (.bool false)), none⟩,
  ⟨some 55, .mv (.tmp 54), none⟩,
  ⟨some 56, .mv (.tmp 10), some (55, true)⟩,
  ⟨some 57, .bin .eql .other (.tmp 56) (.cst (.int .i64 0)), some (55, true)⟩,
  ⟨some 58, .pick (.tmp 55) (.tmp 57) (.cst (.bool false)), none⟩,
  ⟨some 59, .mv (.tmp 58), none⟩,
  ⟨some 60, .mv (.tmp 11), some (59, true)⟩,
  ⟨some 61, .bin .eql .other (.tmp 60) (.cst (.int .i64 5)), some (59, true)⟩,
  ⟨some 62, .pick (.tmp 59) (.tmp 61) (.cst (.bool false)), none⟩,
  ⟨some 63, .mv (.tmp 62), none⟩,
  ⟨some 64, .mv (.tmp 1), some (63, true)⟩,
  ⟨some 65, .call (.cst (.fn (.func 13) [] [])) [.tmp 64], some (63, true)⟩,
  ⟨some 66, .pick (.tmp 63) (.tmp 65) (.cst (.bool false)), none⟩,
  ⟨some 0, .mv (.tmp 66), none⟩]
def joinerylaw04_knows.k6 : LCode := .seq joinerylaw04_knows.k4 (.seq joinerylaw04_knows.k5 .ret)
def joinerylaw04_knows.k7 : LCode := .seq joinerylaw04_knows.k2 (.seq joinerylaw04_knows.k3 joinerylaw04_knows.k6)
/-- Function 10. -/
abbrev joinerylaw04_knows.no : Nat := 10
def joinerylaw04_knows.lc : LCode :=
 .seq (.text [⟨some 0, .mv (.cst (.bool false)), none⟩]) (.seq joinerylaw04_knows.k1 joinerylaw04_knows.k7)
theorem joinerylaw04_knows.low : lowFn Tryd.prog 10 = some (67, joinerylaw04_knows.lc, [.tmp 0]) := by kernel_rfl

def asm_Check.k1 : LCode := .text [⟨some 2, .mv (.cst (.int .i64 0)), none⟩,
  ⟨some 3, .mv (.cst (.int .i64 0)), none⟩]
def asm_Check.k2 : LCode := .text [⟨some 9, .mv (.tmp 0), none⟩,
  ⟨some 10, .len .slice (.tmp 9), none⟩,
  ⟨some 11, .bin .gtr .other (.tmp 10) (.cst (.int .i64 200)), none⟩,
  ⟨some 8, .mv (.tmp 11), none⟩]
def asm_Check.k3 : LCode := .text [⟨some 2, .mv (.cst (.int .i64 0)), none⟩,
  ⟨some 3, .mv (.cst (.int .i64 3)), none⟩]
def asm_Check.k4 : LCode := .text [⟨some 13, .mv (.tmp 0), none⟩,
  ⟨some 14, .len .slice (.tmp 13), none⟩,
  ⟨some 15, .bin .eql .other (.tmp 14) (.cst (.int .i64 0)), none⟩,
  ⟨some 12, .mv (.tmp 15), none⟩]
def asm_Check.k5 : LCode := .text [⟨some 2, .mv (.cst (.int .i64 0)), none⟩,
  ⟨some 3, .mv (.cst (.int .i64 5)), none⟩]
def asm_Check.k6 : LCode := .seq asm_Check.k4 (.cond (.tmp 12) (.seq asm_Check.k5 .ret) .skip)
def asm_Check.k7 : LCode := .seq asm_Check.k2 (.cond (.tmp 8) (.seq asm_Check.k3 .ret) asm_Check.k6)
def asm_Check.k8 : LCode := .text [⟨some 16, .mv (.tmp 0), none⟩,
  ⟨some 17, .len .slice (.tmp 16), none⟩,
  ⟨some 18, .mv (.cst (.int .i64 0)), none⟩]
def asm_Check.k9 : LCode := .text [⟨some 19, .bin .lss .other (.tmp 18) (.tmp 17), none⟩]
def asm_Check.k10 : LCode := .text [⟨some 20, .mv (.tmp 18), none⟩,
  ⟨some 21, .iaddrS 6 (.tmp 16) (.tmp 18), none⟩,
  ⟨some 22, .load true 6 (.tmp 21), none⟩,
  ⟨some 5, .alloc [.int .i64 0, .int .i64 0, .int .i64 0, .int .i64 0, .int .i64 0, .int .i64 0], none⟩,
  ⟨some 4, .mv (.tmp 20), none⟩,
  ⟨none, .store 6 (.tmp 5) (.tmp 22), none⟩]
def asm_Check.k11 : LCode := .text [⟨some 23, .load true 6 (.tmp 5), none⟩,
  ⟨some 24, .mv (.tmp 0), none⟩,
  ⟨some 25, .len .slice (.tmp 24), none⟩,
  ⟨some 26, .call (.cst (.fn (.func 20) [] [])) [.tmp 23, .tmp 25], none⟩,
  ⟨some 6, .mv (.tmp 26), none⟩]
def asm_Check.k12 : LCode := .text [⟨some 27, .mv (.tmp 6), none⟩,
  ⟨some 28, .bin .neq .other (.tmp 27) (.cst (.int .i64 0)), none⟩]
def asm_Check.k13 : LCode := .text [⟨some 29, .mv (.tmp 4), none⟩,
  ⟨some 30, .mv (.tmp 6), none⟩,
  ⟨some 2, .mv (.tmp 29), none⟩,
  ⟨some 3, .mv (.tmp 30), none⟩]
def asm_Check.k14 : LCode := .seq asm_Check.k12 (.cond (.tmp 28) (.seq asm_Check.k13 .ret) .skip)
def asm_Check.k15 : LCode := .block 2 (.seq asm_Check.k10 (.seq asm_Check.k11 asm_Check.k14))
def asm_Check.k16 : LCode := .text [⟨some 31, .bin .add .other (.tmp 18) (.cst (.int .i64 1)), none⟩,
  ⟨some 18, .mv (.tmp 31), none⟩]
def asm_Check.k17 : LCode := .seq (.cond (.tmp 19) .skip (.exit 1)) (.seq asm_Check.k15 asm_Check.k16)
def asm_Check.k18 : LCode := .seq asm_Check.k8 (.block 1 (.loop (.seq asm_Check.k9 asm_Check.k17)))
def asm_Check.k19 : LCode := .text [⟨some 32, .mv (.tmp 0), none⟩,
  ⟨some 33, .len .slice (.tmp 32), none⟩,
  ⟨some 34, .bin .sub .other (.tmp 33) (.cst (.int .i64 1)), none⟩,
  ⟨some 7, .mv (.tmp 34), none⟩]
def asm_Check.k20 : LCode := .text [⟨some 35, .mv (.tmp 0), none⟩,
  ⟨some 36, .mv (.tmp 7), none⟩,
  ⟨some 37, .iaddrS 6 (.tmp 35) (.tmp 36), none⟩,
  ⟨some 38, .faddr 0 (.tmp 37), none⟩,
  ⟨some 39, .load false 1 (.tmp 38), none⟩,
  ⟨some 40, .bin .neq .other (.tmp 39) (.cst (.int .i64 16)), none⟩,
  ⟨some 41, .mv (.tmp 40), none⟩,
  ⟨some 42, .mv (.tmp 0), some (41, true)⟩,
  ⟨some 43, .mv (.tmp 7), some (41, true)⟩,
  ⟨some 44, .iaddrS 6 (.tmp 42) (.tmp 43), some (41, true)⟩,
  ⟨some 45, .faddr 0 (.tmp 44), some (41, true)⟩,
  ⟨some 46, .load false 1 (.tmp 45), some (41, true)⟩,
  ⟨some 47, .bin .neq .other (.tmp 46) (.cst (.int .i64 18)), some (41, true)⟩,
  ⟨some 48, .pick (.tmp 41) (.tmp 47) (.cst (.bool false)), none⟩]
def asm_Check.k21 : LCode := .text [⟨some 49, .mv (.tmp 7), none⟩,
  ⟨some 2, .mv (.tmp 49), none⟩,
  ⟨some 3, .mv (.cst (.int .i64 5)), none⟩]
def asm_Check.k22 : LCode := .seq asm_Check.k20 (.cond (.tmp 48) (.seq asm_Check.k21 .ret) .skip)
def asm_Check.k23 : LCode := .text [⟨some 2, .mv (.cst (.int .i64 0)), none⟩,
  ⟨some 3, .mv (.cst (.int .i64 0)), none⟩]
def asm_Check.k24 : LCode := .seq (.seq asm_Check.k19 asm_Check.k22) (.seq asm_Check.k23 .ret)
def asm_Check.k25 : LCode := .seq (.block 0 asm_Check.k7) (.seq asm_Check.k18 asm_Check.k24)
/-- Function 11. -/
abbrev asm_Check.no : Nat := 11
def asm_Check.lc : LCode :=
 .seq asm_Check.k1 asm_Check.k25
theorem asm_Check.low : lowFn Tryd.prog 11 = some (50, asm_Check.lc, [.tmp 2, .tmp 3]) := by kernel_rfl

def joineryref04_Check.k1 : LCode := .text [⟨some 2, .mv (.cst (.int .i64 0)), none⟩,
  ⟨some 3, .mv (.cst (.int .i64 0)), none⟩]
def joineryref04_Check.k2 : LCode := .text [⟨some 7, .mv (.tmp 0), none⟩,
  ⟨some 8, .len .slice (.tmp 7), none⟩,
  ⟨some 9, .bin .gtr .other (.tmp 8) (.cst (.int .i64 200)), none⟩]
def joineryref04_Check.k3 : LCode := .text [⟨some 2, .mv (.cst (.int .i64 0)), none⟩,
  ⟨some 3, .mv (.cst (.int .i64 3)), none⟩]
def joineryref04_Check.k4 : LCode := .seq joineryref04_Check.k2 (.cond (.tmp 9) (.seq joineryref04_Check.k3 .ret) .skip)
def joineryref04_Check.k5 : LCode := .text [⟨some 10, .mv (.tmp 0), none⟩,
  ⟨some 11, .len .slice (.tmp 10), none⟩,
  ⟨some 12, .bin .eql .other (.tmp 11) (.cst (.int .i64 0)), none⟩]
def joineryref04_Check.k6 : LCode := .text [⟨some 2, .mv (.cst (.int .i64 0)), none⟩,
  ⟨some 3, .mv (.cst (.int .i64 5)), none⟩]
def joineryref04_Check.k7 : LCode := .seq joineryref04_Check.k5 (.cond (.tmp 12) (.seq joineryref04_Check.k6 .ret) .skip)
def joineryref04_Check.k8 : LCode := .text [⟨some 13, .mv (.tmp 4), none⟩,
  ⟨some 14, .mv (.tmp 0), none⟩,
  ⟨some 15, .len .slice (.tmp 14), none⟩,
  ⟨some 16, .bin .lss .other (.tmp 13) (.tmp 15), none⟩]
def joineryref04_Check.k9 : LCode := .seq joineryref04_Check.k8 (.cond (.tmp 16) .skip (.exit 0))
def joineryref04_Check.k10 : LCode := .text [⟨some 19, .mv (.tmp 0), none⟩,
  ⟨some 20, .mv (.tmp 4), none⟩,
  ⟨some 21, .iaddrS 6 (.tmp 19) (.tmp 20), none⟩,
  ⟨some 22, .load true 6 (.tmp 21), none⟩,
  ⟨some 23, .mv (.tmp 0), none⟩,
  ⟨some 24, .len .slice (.tmp 23), none⟩,
  ⟨some 25, .call (.cst (.fn (.func 21) [] [])) [.tmp 22, .tmp 24], none⟩,
  ⟨some 5, .mv (.tmp 25), none⟩]
def joineryref04_Check.k11 : LCode := .text [⟨some 26, .mv (.tmp 5), none⟩,
  ⟨some 27, .bin .neq .other (.tmp 26) (.cst (.int .i64 0)), none⟩]
def joineryref04_Check.k12 : LCode := .text [⟨some 28, .mv (.tmp 4), none⟩,
  ⟨some 29, .mv (.tmp 5), none⟩,
  ⟨some 2, .mv (.tmp 28), none⟩,
  ⟨some 3, .mv (.tmp 29), none⟩]
def joineryref04_Check.k13 : LCode := .seq joineryref04_Check.k11 (.cond (.tmp 27) (.seq joineryref04_Check.k12 .ret) .skip)
def joineryref04_Check.k14 : LCode := .block 1 (.seq joineryref04_Check.k10 joineryref04_Check.k13)
def joineryref04_Check.k15 : LCode := .text [⟨some 17, .mv (.tmp 4), none⟩,
  ⟨some 18, .bin .add .other (.tmp 17) (.cst (.int .i64 1)), none⟩,
  ⟨some 4, .mv (.tmp 18), none⟩]
def joineryref04_Check.k16 : LCode := .seq joineryref04_Check.k9 (.seq joineryref04_Check.k14 joineryref04_Check.k15)
def joineryref04_Check.k17 : LCode := .seq (.text [⟨some 4, .mv (.cst (.int .i64 0)), none⟩]) (.block 0 (.loop joineryref04_Check.k16))
def joineryref04_Check.k18 : LCode := .text [⟨some 30, .mv (.tmp 0), none⟩,
  ⟨some 31, .mv (.tmp 0), none⟩,
  ⟨some 32, .len .slice (.tmp 31), none⟩,
  ⟨some 33, .bin .sub .other (.tmp 32) (.cst (.int .i64 1)), none⟩,
  ⟨some 34, .iaddrS 6 (.tmp 30) (.tmp 33), none⟩,
  ⟨some 35, .faddr 0 (.tmp 34), none⟩,
  ⟨some 36, .load false 1 (.tmp 35), none⟩,
  ⟨some 6, .mv (.tmp 36), none⟩]
def joineryref04_Check.k19 : LCode := .text [⟨some 37, .mv (.tmp 6), none⟩,
  ⟨some 38, .bin .eql .other (.tmp 37) (.cst (.int .i64 16)), none⟩,
  ⟨some 39, .mv (.tmp 38), none⟩,
  ⟨some 40, .mv (.tmp 6), some (39, false)⟩,
  ⟨some 41, .bin .eql .other (.tmp 40) (.cst (.int .i64 18)), some (39, false)⟩,
  ⟨some 42, .pick (.tmp 39) (.cst (.bool true)) (.tmp 41), none⟩]
def joineryref04_Check.k20 : LCode := .text [⟨some 2, .mv (.cst (.int .i64 0)), none⟩,
  ⟨some 3, .mv (.cst (.int .i64 0)), none⟩]
def joineryref04_Check.k21 : LCode := .seq joineryref04_Check.k19 (.cond (.tmp 42) (.seq joineryref04_Check.k20 .ret) .skip)
def joineryref04_Check.k22 : LCode := .text [⟨some 43, .mv (.tmp 0), none⟩,
  ⟨some 44, .len .slice (.tmp 43), none⟩,
  ⟨some 45, .bin .sub .other (.tmp 44) (.cst (.int .i64 1)), none⟩,
  ⟨some 2, .mv (.tmp 45), none⟩,
  ⟨some 3, .mv (.cst (.int .i64 5)), none⟩]
def joineryref04_Check.k23 : LCode := .seq joineryref04_Check.k21 (.seq joineryref04_Check.k22 .ret)
def joineryref04_Check.k24 : LCode := .seq joineryref04_Check.k17 (.seq joineryref04_Check.k18 joineryref04_Check.k23)
def joineryref04_Check.k25 : LCode := .seq joineryref04_Check.k4 (.seq joineryref04_Check.k7 joineryref04_Check.k24)
/-- Function 12. -/
abbrev joineryref04_Check.no : Nat := 12
def joineryref04_Check.lc : LCode :=
 .seq joineryref04_Check.k1 joineryref04_Check.k25
theorem joineryref04_Check.low : lowFn Tryd.prog 12 = some (46, joineryref04_Check.lc, [.tmp 2, .tmp 3]) := by kernel_rfl

def asm_Right.k1 : LCode := .text [⟨some 6, .mv (.tmp 0), none⟩,
  ⟨some 7, .call (.cst (.fn (.func 11) [] [])) [.tmp 6], none⟩,
  ⟨some 5, .mv (.tmp 7), none⟩,
  ⟨some 8, .extract (.tmp 5) 0, none⟩,
  ⟨some 9, .extract (.tmp 5) 1, none⟩,
  ⟨some 3, .mv (.tmp 8), none⟩,
  ⟨some 4, .mv (.tmp 9), none⟩]
def asm_Right.k2 : LCode := .text [⟨some 10, .mv (.tmp 4), none⟩,
  ⟨some 11, .bin .eql .other (.tmp 10) (.cst (.int .i64 0)), none⟩,
  ⟨some 2, .mv (.tmp 11), none⟩]
/-- Function 13. -/
abbrev asm_Right.no : Nat := 13
def asm_Right.lc : LCode :=
 .seq (.text [⟨some 2, .mv (.cst (.bool false)), none⟩]) (.seq asm_Right.k1 (.seq asm_Right.k2 .ret))
theorem asm_Right.low : lowFn Tryd.prog 13 = some (12, asm_Right.lc, [.tmp 2]) := by kernel_rfl

def asm_Print.k1 : LCode := .text [⟨some 2, .mv (.cst (.str ⟨#[]⟩)), none⟩,
  ⟨some 3, .mv (.cst (.int .i64 0)), none⟩]
def asm_Print.k2 : LCode := .text [⟨some 9, .mv (.tmp 0), none⟩,
  ⟨some 10, .call (.cst (.fn (.func 13) [] [])) [.tmp 9], none⟩,
  ⟨some 11, .not (.tmp 10), none⟩]
def asm_Print.k3 : LCode := .text [⟨some 2, .mv (.cst (.str ⟨#[]⟩)), none⟩,
  ⟨some 3, .mv (.cst (.int .i64 1)), none⟩]
def asm_Print.k4 : LCode := .seq asm_Print.k2 (.cond (.tmp 11) (.seq asm_Print.k3 .ret) .skip)
def asm_Print.k5 : LCode := .text [⟨some 12, .mv (.tmp 0), none⟩,
  ⟨some 13, .len .slice (.tmp 12), none⟩,
  ⟨some 14, .mv (.cst (.int .i64 0)), none⟩]
def asm_Print.k6 : LCode := .text [⟨some 15, .bin .lss .other (.tmp 14) (.tmp 13), none⟩]
def asm_Print.k7 : LCode := .text [⟨some 16, .iaddrS 6 (.tmp 12) (.tmp 14), none⟩,
  ⟨some 17, .load true 6 (.tmp 16), none⟩,
  ⟨some 6, .alloc [.int .i64 0, .int .i64 0, .int .i64 0, .int .i64 0, .int .i64 0, .int .i64 0], none⟩,
  ⟨none, .store 6 (.tmp 6) (.tmp 17), none⟩]
def asm_Print.k8 : LCode := .text [⟨some 19, .load true 6 (.tmp 6), none⟩,
  ⟨some 20, .call (.cst (.fn (.func 22) [] [])) [.tmp 19], none⟩,
  ⟨some 18, .mv (.tmp 20), none⟩,
  ⟨some 21, .extract (.tmp 18) 0, none⟩,
  ⟨some 22, .extract (.tmp 18) 1, none⟩,
  ⟨some 7, .mv (.tmp 21), none⟩,
  ⟨some 8, .mv (.tmp 22), none⟩]
def asm_Print.k9 : LCode := .text [⟨some 23, .mv (.tmp 4), none⟩,
  ⟨some 24, .mv (.tmp 7), none⟩,
  ⟨some 25, .appendS (.tmp 23) (.tmp 24), none⟩,
  ⟨some 26, .bslice 1 [.int .u8 0] 1 [(0, .cst (.int .u8 10))], none⟩,
  ⟨some 27, .append 1 1 (.tmp 25) (.tmp 26), none⟩,
  ⟨some 4, .mv (.tmp 27), none⟩]
def asm_Print.k10 : LCode := .block 1 (.seq asm_Print.k7 (.seq asm_Print.k8 asm_Print.k9))
def asm_Print.k11 : LCode := .text [⟨some 28, .bin .add .other (.tmp 14) (.cst (.int .i64 1)), none⟩,
  ⟨some 14, .mv (.tmp 28), none⟩]
def asm_Print.k12 : LCode := .seq (.cond (.tmp 15) .skip (.exit 0)) (.seq asm_Print.k10 asm_Print.k11)
def asm_Print.k13 : LCode := .seq asm_Print.k5 (.block 0 (.loop (.seq asm_Print.k6 asm_Print.k12)))
def asm_Print.k14 : LCode := .text [⟨some 29, .mv (.tmp 4), none⟩,
  ⟨some 30, .toStr (.tmp 29), none⟩,
  ⟨some 2, .mv (.tmp 30), none⟩,
  ⟨some 3, .mv (.cst (.int .i64 0)), none⟩]
def asm_Print.k15 : LCode := .seq (.text [⟨some 4, .mv (.cst (.imm (.slice none 0 0))), none⟩]) (.seq asm_Print.k13 (.seq asm_Print.k14 .ret))
/-- Function 14. -/
abbrev asm_Print.no : Nat := 14
def asm_Print.lc : LCode :=
 .seq asm_Print.k1 (.seq asm_Print.k4 asm_Print.k15)
theorem asm_Print.low : lowFn Tryd.prog 14 = some (31, asm_Print.lc, [.tmp 2, .tmp 3]) := by kernel_rfl

def joineryref04_Right.k1 : LCode := .text [⟨some 6, .mv (.tmp 0), none⟩,
  ⟨some 7, .call (.cst (.fn (.func 12) [] [])) [.tmp 6], none⟩,
  ⟨some 5, .mv (.tmp 7), none⟩,
  ⟨some 8, .extract (.tmp 5) 0, none⟩,
  ⟨some 9, .extract (.tmp 5) 1, none⟩,
  ⟨some 3, .mv (.tmp 8), none⟩,
  ⟨some 4, .mv (.tmp 9), none⟩]
def joineryref04_Right.k2 : LCode := .text [⟨some 10, .mv (.tmp 4), none⟩,
  ⟨some 11, .bin .eql .other (.tmp 10) (.cst (.int .i64 0)), none⟩,
  ⟨some 2, .mv (.tmp 11), none⟩]
def joineryref04_Right.k3 : LCode := .seq joineryref04_Right.k1 (.seq joineryref04_Right.k2 .ret)
/-- Function 15. -/
abbrev joineryref04_Right.no : Nat := 15
def joineryref04_Right.lc : LCode :=
 .seq (.text [⟨some 2, .mv (.cst (.bool false)), none⟩]) joineryref04_Right.k3
theorem joineryref04_Right.low : lowFn Tryd.prog 15 = some (12, joineryref04_Right.lc, [.tmp 2]) := by kernel_rfl

def joineryref04_Print.k1 : LCode := .text [⟨some 5, .mv (.tmp 4), none⟩,
  ⟨some 6, .mv (.tmp 0), none⟩,
  ⟨some 7, .len .slice (.tmp 6), none⟩,
  ⟨some 8, .bin .lss .other (.tmp 5) (.tmp 7), none⟩]
def joineryref04_Print.k2 : LCode := .text [⟨some 11, .mv (.tmp 3), none⟩,
  ⟨some 12, .mv (.tmp 0), none⟩,
  ⟨some 13, .mv (.tmp 4), none⟩,
  ⟨some 14, .iaddrS 6 (.tmp 12) (.tmp 13), none⟩,
  ⟨some 15, .load true 6 (.tmp 14), none⟩,
  ⟨some 16, .call (.cst (.fn (.func 23) [] [])) [.tmp 15], none⟩,
  ⟨some 17, .bin .add .other (.tmp 11) (.tmp 16), none⟩,
  ⟨some 18, .bin .add .other (.tmp 17) (.cst (.str ⟨#[10]⟩)), none⟩,
  ⟨some 3, .mv (.tmp 18), none⟩]
def joineryref04_Print.k3 : LCode := .text [⟨some 9, .mv (.tmp 4), none⟩,
  ⟨some 10, .bin .add .other (.tmp 9) (.cst (.int .i64 1)), none⟩,
  ⟨some 4, .mv (.tmp 10), none⟩]
def joineryref04_Print.k4 : LCode := .seq (.seq joineryref04_Print.k1 (.cond (.tmp 8) .skip (.exit 0))) (.seq (.block 1 joineryref04_Print.k2) joineryref04_Print.k3)
def joineryref04_Print.k5 : LCode := .seq (.text [⟨some 4, .mv (.cst (.int .i64 0)), none⟩]) (.block 0 (.loop joineryref04_Print.k4))
def joineryref04_Print.k6 : LCode := .text [⟨some 19, .mv (.tmp 3), none⟩,
  ⟨some 2, .mv (.tmp 19), none⟩]
def joineryref04_Print.k7 : LCode := .seq joineryref04_Print.k5 (.seq joineryref04_Print.k6 .ret)
def joineryref04_Print.k8 : LCode := .seq (.text [⟨some 3, .mv (.cst (.str ⟨#[]⟩)), none⟩]) joineryref04_Print.k7
/-- Function 16. -/
abbrev joineryref04_Print.no : Nat := 16
def joineryref04_Print.lc : LCode :=
 .seq (.text [⟨some 2, .mv (.cst (.str ⟨#[]⟩)), none⟩]) joineryref04_Print.k8
theorem joineryref04_Print.low : lowFn Tryd.prog 16 = some (20, joineryref04_Print.lc, [.tmp 2]) := by kernel_rfl

def asm_Parse.k1 : LCode := .text [⟨some 1, .box (.tmp 0), none⟩,
  ⟨some 2, .mv (.cst (.imm (.slice none 0 0))), none⟩,
  ⟨some 3, .mv (.cst (.int .i64 0)), none⟩,
  ⟨some 4, .mv (.cst (.int .i64 0)), none⟩]
def asm_Parse.k2 : LCode := .text [⟨some 13, .load false 1 (.tmp 1), none⟩,
  ⟨some 14, .len .str (.tmp 13), none⟩,
  ⟨some 15, .bin .gtr .other (.tmp 14) (.cst (.int .i64 20000)), none⟩]
def asm_Parse.k3 : LCode := .text [⟨some 2, .mv (.cst (.imm (.slice none 0 0))), none⟩,
  ⟨some 3, .mv (.cst (.int .i64 0)), none⟩,
  ⟨some 4, .mv (.cst (.int .i64 3)), none⟩]
def asm_Parse.k4 : LCode := .seq asm_Parse.k2 (.cond (.tmp 15) (.seq asm_Parse.k3 .ret) .skip)
def asm_Parse.k5 : LCode := .text [⟨some 7, .alloc [.int .i64 0], none⟩,
  ⟨none, .store 1 (.tmp 7) (.cst (.int .i64 0)), none⟩]
def asm_Parse.k6 : LCode := .text [⟨some 16, .mkFn (.func 24) [] [.tmp 1, .tmp 7, .tmp 5, .tmp 6], none⟩,
  ⟨some 8, .mv (.tmp 16), none⟩]
def asm_Parse.k7 : LCode := .text [⟨some 17, .load false 1 (.tmp 1), none⟩,
  ⟨some 18, .range (.tmp 17), none⟩]
def asm_Parse.k8 : LCode := .text [⟨some 19, .next (.tmp 18), none⟩,
  ⟨some 20, .extract (.tmp 19) 0, none⟩]
def asm_Parse.k9 : LCode := .text [⟨some 21, .extract (.tmp 19) 1, none⟩,
  ⟨some 22, .extract (.tmp 19) 2, none⟩,
  ⟨some 9, .mv (.tmp 21), none⟩,
  ⟨some 10, .mv (.tmp 22), none⟩]
def asm_Parse.k10 : LCode := .text [⟨some 23, .mv (.tmp 10), none⟩,
  ⟨some 24, .bin .neq .other (.tmp 23) (.cst (.int .i32 10)), none⟩]
def asm_Parse.k11 : LCode := .text [⟨some 25, .mv (.tmp 8), none⟩,
  ⟨some 26, .mv (.tmp 9), none⟩,
  ⟨some 27, .call (.tmp 25) [.tmp 26], none⟩,
  ⟨some 28, .not (.tmp 27), none⟩]
def asm_Parse.k12 : LCode := .any true [⟨some 29, .load false 1 (.tmp 7), none⟩,
  ⟨some 2, .mv (.cst (.imm (.slice none 0 0))), none⟩,
  ⟨some 3, .mv (.tmp 29), none⟩,
  ⟨some 4, .mv (.cst (.int .i64 2)), none⟩] .no
def asm_Parse.k13 : LCode := .seq asm_Parse.k11 (.cond (.tmp 28) (.seq asm_Parse.k12 .ret) .skip)
def asm_Parse.k14 : LCode := .text [⟨some 30, .mv (.tmp 9), none⟩,
  ⟨some 31, .bin .add .other (.tmp 30) (.cst (.int .i64 1)), none⟩,
  ⟨none, .store 1 (.tmp 7) (.tmp 31), none⟩]
def asm_Parse.k15 : LCode := .seq (.seq asm_Parse.k10 (.cond (.tmp 24) (.exit 1) .skip)) (.seq asm_Parse.k13 asm_Parse.k14)
def asm_Parse.k16 : LCode := .seq (.cond (.tmp 20) .skip (.exit 0)) (.block 1 (.seq asm_Parse.k9 asm_Parse.k15))
def asm_Parse.k17 : LCode := .seq asm_Parse.k7 (.block 0 (.loop (.seq asm_Parse.k8 asm_Parse.k16)))
def asm_Parse.k18 : LCode := .text [⟨some 32, .load false 1 (.tmp 7), none⟩,
  ⟨some 33, .load false 1 (.tmp 1), none⟩,
  ⟨some 34, .len .str (.tmp 33), none⟩,
  ⟨some 35, .bin .lss .other (.tmp 32) (.tmp 34), none⟩]
def asm_Parse.k19 : LCode := .any true [⟨some 36, .load false 1 (.tmp 7), none⟩,
  ⟨some 2, .mv (.cst (.imm (.slice none 0 0))), none⟩,
  ⟨some 3, .mv (.tmp 36), none⟩,
  ⟨some 4, .mv (.cst (.int .i64 2)), none⟩] .no
def asm_Parse.k20 : LCode := .seq asm_Parse.k18 (.cond (.tmp 35) (.seq asm_Parse.k19 .ret) .skip)
def asm_Parse.k21 : LCode := .text [⟨some 38, .load false 1 (.tmp 5), none⟩,
  ⟨some 39, .call (.cst (.fn (.func 11) [] [])) [.tmp 38], none⟩,
  ⟨some 37, .mv (.tmp 39), none⟩,
  ⟨some 40, .extract (.tmp 37) 0, none⟩,
  ⟨some 41, .extract (.tmp 37) 1, none⟩,
  ⟨some 11, .mv (.tmp 40), none⟩,
  ⟨some 12, .mv (.tmp 41), none⟩]
def asm_Parse.k22 : LCode := .text [⟨some 42, .mv (.tmp 12), none⟩,
  ⟨some 43, .bin .eql .other (.tmp 42) (.cst (.int .i64 0)), none⟩]
def asm_Parse.k23 : LCode := .text [⟨some 44, .load false 1 (.tmp 5), none⟩,
  ⟨some 2, .mv (.tmp 44), none⟩,
  ⟨some 3, .mv (.cst (.int .i64 0)), none⟩,
  ⟨some 4, .mv (.cst (.int .i64 0)), none⟩]
def asm_Parse.k24 : LCode := .seq asm_Parse.k22 (.cond (.tmp 43) (.seq asm_Parse.k23 .ret) .skip)
def asm_Parse.k25 : LCode := .text [⟨some 45, .mv (.tmp 11), none⟩,
  ⟨some 46, .load false 1 (.tmp 6), none⟩,
  ⟨some 47, .len .slice (.tmp 46), none⟩,
  ⟨some 48, .bin .lss .other (.tmp 45) (.tmp 47), none⟩]
def asm_Parse.k26 : LCode := .text [⟨some 49, .load false 1 (.tmp 6), none⟩,
  ⟨some 50, .mv (.tmp 11), none⟩,
  ⟨some 51, .iaddrS 1 (.tmp 49) (.tmp 50), none⟩,
  ⟨some 52, .load false 1 (.tmp 51), none⟩,
  ⟨some 11, .mv (.tmp 52), none⟩]
def asm_Parse.k27 : LCode := .text [⟨some 53, .mv (.tmp 11), none⟩,
  ⟨some 54, .mv (.tmp 12), none⟩,
  ⟨some 2, .mv (.cst (.imm (.slice none 0 0))), none⟩,
  ⟨some 3, .mv (.tmp 53), none⟩,
  ⟨some 4, .mv (.tmp 54), none⟩]
def asm_Parse.k28 : LCode := .seq (.seq asm_Parse.k25 (.cond (.tmp 48) asm_Parse.k26 .skip)) (.seq asm_Parse.k27 .ret)
def asm_Parse.k29 : LCode := .seq asm_Parse.k20 (.seq asm_Parse.k21 (.seq asm_Parse.k24 asm_Parse.k28))
def asm_Parse.k30 : LCode := .seq asm_Parse.k5 (.seq asm_Parse.k6 (.seq asm_Parse.k17 asm_Parse.k29))
def asm_Parse.k31 : LCode := .seq (.text [⟨some 6, .alloc [.imm (.slice none 0 0)], none⟩]) asm_Parse.k30
def asm_Parse.k32 : LCode := .seq (.text [⟨some 5, .alloc [.imm (.slice none 0 0)], none⟩]) asm_Parse.k31
/-- Function 17. -/
abbrev asm_Parse.no : Nat := 17
def asm_Parse.lc : LCode :=
 .seq asm_Parse.k1 (.seq asm_Parse.k4 asm_Parse.k32)
theorem asm_Parse.low : lowFn Tryd.prog 17 = some (55, asm_Parse.lc, [.tmp 2, .tmp 3, .tmp 4]) := by kernel_rfl

def joineryref04_Parse.k1 : LCode := .text [⟨some 2, .mv (.cst (.imm (.slice none 0 0))), none⟩,
  ⟨some 3, .mv (.cst (.int .i64 0)), none⟩,
  ⟨some 4, .mv (.cst (.int .i64 0)), none⟩]
def joineryref04_Parse.k2 : LCode := .text [⟨some 15, .mv (.tmp 0), none⟩,
  ⟨some 16, .len .str (.tmp 15), none⟩,
  ⟨some 17, .bin .gtr .other (.tmp 16) (.cst (.int .i64 20000)), none⟩]
def joineryref04_Parse.k3 : LCode := .text [⟨some 2, .mv (.cst (.imm (.slice none 0 0))), none⟩,
  ⟨some 3, .mv (.cst (.int .i64 0)), none⟩,
  ⟨some 4, .mv (.cst (.int .i64 3)), none⟩]
def joineryref04_Parse.k4 : LCode := .seq joineryref04_Parse.k2 (.cond (.tmp 17) (.seq joineryref04_Parse.k3 .ret) .skip)
def joineryref04_Parse.k5 : LCode := .text [⟨some 18, .mv (.tmp 0), none⟩,
  ⟨some 19, .call (.cst (.fn (.func 26) [] [])) [.tmp 18], none⟩,
  ⟨some 5, .mv (.tmp 19), none⟩]
def joineryref04_Parse.k6 : LCode := .text [⟨some 20, .mv (.tmp 9), none⟩,
  ⟨some 21, .mv (.tmp 5), none⟩,
  ⟨some 22, .len .slice (.tmp 21), none⟩,
  ⟨some 23, .bin .lss .other (.tmp 20) (.tmp 22), none⟩]
def joineryref04_Parse.k7 : LCode := .seq joineryref04_Parse.k6 (.cond (.tmp 23) .skip (.exit 0))
def joineryref04_Parse.k8 : LCode := .text [⟨some 26, .mv (.tmp 5), none⟩,
  ⟨some 27, .mv (.tmp 9), none⟩,
  ⟨some 28, .iaddrS 1 (.tmp 26) (.tmp 27), none⟩,
  ⟨some 29, .load false 1 (.tmp 28), none⟩,
  ⟨some 30, .len .str (.tmp 29), none⟩,
  ⟨some 31, .bin .sub .other (.tmp 30) (.cst (.int .i64 1)), none⟩,
  ⟨some 10, .mv (.tmp 31), none⟩]
def joineryref04_Parse.k9 : LCode := .text [⟨some 32, .mv (.tmp 5), none⟩,
  ⟨some 33, .mv (.tmp 9), none⟩,
  ⟨some 34, .iaddrS 1 (.tmp 32) (.tmp 33), none⟩,
  ⟨some 35, .load false 1 (.tmp 34), none⟩,
  ⟨some 36, .mv (.tmp 10), none⟩,
  ⟨some 37, .idxS (.tmp 35) (.tmp 36), none⟩,
  ⟨some 38, .bin .neq .other (.tmp 37) (.cst (.int .u8 10)), none⟩]
def joineryref04_Parse.k10 : LCode := .text [⟨some 39, .mv (.tmp 8), none⟩,
  ⟨some 2, .mv (.cst (.imm (.slice none 0 0))), none⟩,
  ⟨some 3, .mv (.tmp 39), none⟩,
  ⟨some 4, .mv (.cst (.int .i64 2)), none⟩]
def joineryref04_Parse.k11 : LCode := .seq joineryref04_Parse.k9 (.cond (.tmp 38) (.seq joineryref04_Parse.k10 .ret) .skip)
def joineryref04_Parse.k12 : LCode := .text [⟨some 41, .mv (.tmp 5), none⟩,
  ⟨some 42, .mv (.tmp 9), none⟩,
  ⟨some 43, .iaddrS 1 (.tmp 41) (.tmp 42), none⟩,
  ⟨some 44, .load false 1 (.tmp 43), none⟩,
  ⟨some 45, .mv (.tmp 10), none⟩,
  ⟨some 46, .sliceS (.tmp 44) none (some (.tmp 45)), none⟩,
  ⟨some 47, .call (.cst (.fn (.func 27) [] [])) [.tmp 46], none⟩,
  ⟨some 40, .mv (.tmp 47), none⟩,
  ⟨some 48, .extract (.tmp 40) 0, none⟩,
  ⟨some 49, .extract (.tmp 40) 1, none⟩,
  ⟨some 11, .alloc [.int .i64 0, .int .i64 0, .int .i64 0, .int .i64 0, .int .i64 0, .int .i64 0], none⟩,
  ⟨none, .store 6 (.tmp 11) (.tmp 48), none⟩,
  ⟨some 12, .mv (.tmp 49), none⟩]
def joineryref04_Parse.k13 : LCode := .text [⟨some 50, .mv (.tmp 12), none⟩,
  ⟨some 51, .not (.tmp 50), none⟩]
def joineryref04_Parse.k14 : LCode := .text [⟨some 52, .mv (.tmp 8), none⟩,
  ⟨some 2, .mv (.cst (.imm (.slice none 0 0))), none⟩,
  ⟨some 3, .mv (.tmp 52), none⟩,
  ⟨some 4, .mv (.cst (.int .i64 2)), none⟩]
def joineryref04_Parse.k15 : LCode := .seq joineryref04_Parse.k13 (.cond (.tmp 51) (.seq joineryref04_Parse.k14 .ret) .skip)
def joineryref04_Parse.k16 : LCode := .text [⟨some 53, .mv (.tmp 6), none⟩,
  ⟨some 54, .load true 6 (.tmp 11), none⟩,
  ⟨some 55, .bslice 6 [.int .i64 0, .int .i64 0, .int .i64 0, .int .i64 0, .int .i64 0, .int .i64 0] 1 [(0, .tmp 54)], none⟩,
  ⟨some 56, .append 6 48 (.tmp 53) (.tmp 55), none⟩,
  ⟨some 6, .mv (.tmp 56), none⟩]
def joineryref04_Parse.k17 : LCode := .text [⟨some 57, .mv (.tmp 7), none⟩,
  ⟨some 58, .mv (.tmp 8), none⟩,
  ⟨some 59, .bslice 1 [.int .i64 0] 1 [(0, .tmp 58)], none⟩,
  ⟨some 60, .append 1 8 (.tmp 57) (.tmp 59), none⟩,
  ⟨some 7, .mv (.tmp 60), none⟩]
def joineryref04_Parse.k18 : LCode := .text [⟨some 61, .mv (.tmp 8), none⟩,
  ⟨some 62, .mv (.tmp 10), none⟩,
  ⟨some 63, .bin .add .other (.tmp 61) (.tmp 62), none⟩,
  ⟨some 64, .bin .add .other (.tmp 63) (.cst (.int .i64 1)), none⟩,
  ⟨some 8, .mv (.tmp 64), none⟩]
def joineryref04_Parse.k19 : LCode := .seq joineryref04_Parse.k16 (.seq joineryref04_Parse.k17 joineryref04_Parse.k18)
def joineryref04_Parse.k20 : LCode := .seq joineryref04_Parse.k12 (.seq joineryref04_Parse.k15 joineryref04_Parse.k19)
def joineryref04_Parse.k21 : LCode := .seq joineryref04_Parse.k8 (.seq joineryref04_Parse.k11 joineryref04_Parse.k20)
def joineryref04_Parse.k22 : LCode := .text [⟨some 24, .mv (.tmp 9), none⟩,
  ⟨some 25, .bin .add .other (.tmp 24) (.cst (.int .i64 1)), none⟩,
  ⟨some 9, .mv (.tmp 25), none⟩]
def joineryref04_Parse.k23 : LCode := .seq (.block 1 joineryref04_Parse.k21) joineryref04_Parse.k22
def joineryref04_Parse.k24 : LCode := .block 0 (.loop (.seq joineryref04_Parse.k7 joineryref04_Parse.k23))
def joineryref04_Parse.k25 : LCode := .seq (.text [⟨some 9, .mv (.cst (.int .i64 0)), none⟩]) joineryref04_Parse.k24
def joineryref04_Parse.k26 : LCode := .text [⟨some 66, .mv (.tmp 6), none⟩,
  ⟨some 67, .call (.cst (.fn (.func 12) [] [])) [.tmp 66], none⟩,
  ⟨some 65, .mv (.tmp 67), none⟩,
  ⟨some 68, .extract (.tmp 65) 0, none⟩,
  ⟨some 69, .extract (.tmp 65) 1, none⟩,
  ⟨some 13, .mv (.tmp 68), none⟩,
  ⟨some 14, .mv (.tmp 69), none⟩]
def joineryref04_Parse.k27 : LCode := .text [⟨some 70, .mv (.tmp 14), none⟩,
  ⟨some 71, .bin .eql .other (.tmp 70) (.cst (.int .i64 0)), none⟩]
def joineryref04_Parse.k28 : LCode := .text [⟨some 72, .mv (.tmp 6), none⟩,
  ⟨some 2, .mv (.tmp 72), none⟩,
  ⟨some 3, .mv (.cst (.int .i64 0)), none⟩,
  ⟨some 4, .mv (.cst (.int .i64 0)), none⟩]
def joineryref04_Parse.k29 : LCode := .seq joineryref04_Parse.k27 (.cond (.tmp 71) (.seq joineryref04_Parse.k28 .ret) .skip)
def joineryref04_Parse.k30 : LCode := .text [⟨some 73, .mv (.tmp 6), none⟩,
  ⟨some 74, .len .slice (.tmp 73), none⟩,
  ⟨some 75, .bin .eql .other (.tmp 74) (.cst (.int .i64 0)), none⟩]
def joineryref04_Parse.k31 : LCode := .text [⟨some 76, .mv (.tmp 14), none⟩,
  ⟨some 2, .mv (.cst (.imm (.slice none 0 0))), none⟩,
  ⟨some 3, .mv (.cst (.int .i64 0)), none⟩,
  ⟨some 4, .mv (.tmp 76), none⟩]
def joineryref04_Parse.k32 : LCode := .seq joineryref04_Parse.k30 (.cond (.tmp 75) (.seq joineryref04_Parse.k31 .ret) .skip)
def joineryref04_Parse.k33 : LCode := .any true [⟨some 77, .mv (.tmp 7), none⟩,
  ⟨some 78, .mv (.tmp 13), none⟩,
  ⟨some 79, .iaddrS 1 (.tmp 77) (.tmp 78), none⟩,
  ⟨some 80, .load false 1 (.tmp 79), none⟩,
  ⟨some 81, .mv (.tmp 14), none⟩,
  ⟨some 2, .mv (.cst (.imm (.slice none 0 0))), none⟩,
  ⟨some 3, .mv (.tmp 80), none⟩,
  ⟨some 4, .mv (.tmp 81), none⟩] .no
def joineryref04_Parse.k34 : LCode := .seq joineryref04_Parse.k32 (.seq joineryref04_Parse.k33 .ret)
def joineryref04_Parse.k35 : LCode := .seq joineryref04_Parse.k26 (.seq joineryref04_Parse.k29 joineryref04_Parse.k34)
def joineryref04_Parse.k36 : LCode := .seq (.text [⟨some 8, .mv (.cst (.int .i64 0)), none⟩]) (.seq joineryref04_Parse.k25 joineryref04_Parse.k35)
def joineryref04_Parse.k37 : LCode := .seq (.text [⟨some 7, .mv (.cst (.imm (.slice none 0 0))), none⟩]) joineryref04_Parse.k36
def joineryref04_Parse.k38 : LCode := .seq (.text [⟨some 6, .mv (.cst (.imm (.slice none 0 0))), none⟩]) joineryref04_Parse.k37
def joineryref04_Parse.k39 : LCode := .seq joineryref04_Parse.k4 (.seq joineryref04_Parse.k5 joineryref04_Parse.k38)
/-- Function 18. -/
abbrev joineryref04_Parse.no : Nat := 18
def joineryref04_Parse.lc : LCode :=
 .seq joineryref04_Parse.k1 joineryref04_Parse.k39
theorem joineryref04_Parse.low : lowFn Tryd.prog 18 = some (82, joineryref04_Parse.lc, [.tmp 2, .tmp 3, .tmp 4]) := by kernel_rfl

def joineryref04_Same.k1 : LCode := .text [⟨some 6, .mv (.tmp 0), none⟩,
  ⟨some 7, .len .slice (.tmp 6), none⟩,
  ⟨some 8, .mv (.tmp 1), none⟩,
  ⟨some 9, .len .slice (.tmp 8), none⟩,
  ⟨some 10, .bin .neq .other (.tmp 7) (.tmp 9), none⟩]
def joineryref04_Same.k2 : LCode := .seq (.text [⟨some 4, .mv (.cst (.bool false)), none⟩]) .ret
def joineryref04_Same.k3 : LCode := .seq joineryref04_Same.k1 (.cond (.tmp 10) joineryref04_Same.k2 .skip)
def joineryref04_Same.k4 : LCode := .text [⟨some 11, .mv (.tmp 5), none⟩,
  ⟨some 12, .mv (.tmp 0), none⟩,
  ⟨some 13, .len .slice (.tmp 12), none⟩,
  ⟨some 14, .bin .lss .other (.tmp 11) (.tmp 13), none⟩]
def joineryref04_Same.k5 : LCode := .any true [⟨some 17, .mv (.tmp 0), none⟩,
  ⟨some 18, .mv (.tmp 5), none⟩,
  ⟨some 19, .iaddrS 6 (.tmp 17) (.tmp 18), none⟩,
  ⟨some 20, .load true 6 (.tmp 19), none⟩,
  ⟨some 21, .mv (.tmp 1), none⟩,
  ⟨some 22, .mv (.tmp 5), none⟩,
  ⟨some 23, .iaddrS 6 (.tmp 21) (.tmp 22), none⟩,
  ⟨some 24, .load true 6 (.tmp 23), none⟩,
  ⟨some 25, .bin .neq (.cells [.i, .i, .i, .i, .i, .i]) (.tmp 20) (.tmp 24), none⟩] .no
def joineryref04_Same.k6 : LCode := .seq (.text [⟨some 4, .mv (.cst (.bool false)), none⟩]) .ret
def joineryref04_Same.k7 : LCode := .seq joineryref04_Same.k5 (.cond (.tmp 25) joineryref04_Same.k6 .skip)
def joineryref04_Same.k8 : LCode := .text [⟨some 15, .mv (.tmp 5), none⟩,
  ⟨some 16, .bin .add .other (.tmp 15) (.cst (.int .i64 1)), none⟩,
  ⟨some 5, .mv (.tmp 16), none⟩]
def joineryref04_Same.k9 : LCode := .seq (.seq joineryref04_Same.k4 (.cond (.tmp 14) .skip (.exit 0))) (.seq (.block 1 joineryref04_Same.k7) joineryref04_Same.k8)
def joineryref04_Same.k10 : LCode := .seq (.text [⟨some 5, .mv (.cst (.int .i64 0)), none⟩]) (.block 0 (.loop joineryref04_Same.k9))
def joineryref04_Same.k11 : LCode := .seq joineryref04_Same.k10 (.seq (.text [⟨some 4, .mv (.cst (.bool true)), none⟩]) .ret)
/-- Function 19. -/
abbrev joineryref04_Same.no : Nat := 19
def joineryref04_Same.lc : LCode :=
 .seq (.text [⟨some 4, .mv (.cst (.bool false)), none⟩]) (.seq joineryref04_Same.k3 joineryref04_Same.k11)
theorem joineryref04_Same.low : lowFn Tryd.prog 19 = some (26, joineryref04_Same.lc, [.tmp 4]) := by kernel_rfl

def ins_Check.k1 : LCode := .text [⟨some 2, .box (.tmp 0), none⟩,
  ⟨some 4, .mv (.cst (.int .i64 0)), none⟩]
def ins_Check.k2 : LCode := .text [⟨some 11, .faddr 0 (.tmp 2), none⟩,
  ⟨some 12, .load false 1 (.tmp 11), none⟩,
  ⟨some 13, .call (.cst (.fn (.func 28) [] [])) [.tmp 12], none⟩,
  ⟨some 10, .mv (.tmp 13), none⟩,
  ⟨some 14, .extract (.tmp 10) 0, none⟩,
  ⟨some 15, .extract (.tmp 10) 1, none⟩,
  ⟨some 5, .alloc [.str ⟨#[]⟩, .str ⟨#[]⟩], none⟩,
  ⟨none, .store 2 (.tmp 5) (.tmp 14), none⟩,
  ⟨some 6, .mv (.tmp 15), none⟩]
def ins_Check.k3 : LCode := .text [⟨some 16, .mv (.tmp 6), none⟩,
  ⟨some 17, .not (.tmp 16), none⟩,
  ⟨some 18, .mv (.tmp 17), none⟩,
  ⟨some 19, .load true 6 (.tmp 2), some (18, false)⟩,
  ⟨some 20, .load true 2 (.tmp 5), some (18, false)⟩,
  ⟨some 21, .call (.cst (.fn (.func 29) [] [])) [.tmp 19, .tmp 20], some (18, false)⟩,
  ⟨some 22, .build [.int .i64 0, .int .i64 0, .int .i64 0, .int .i64 0, .int .i64 0, .int .i64 0] [], some (18, false)⟩,
  ⟨some 23, .bin .neq (.cells [.i, .i, .i, .i, .i, .i]) (.tmp 21) (.tmp 22), some (18, false)⟩,
  ⟨some 24, .pick (.tmp 18) (.cst (.bool true)) (.tmp 23), none⟩,
  ⟨some 25, .mv (.tmp 24), none⟩,
  ⟨some 26, .faddr 0 (.tmp 2), some (25, false)⟩,
  ⟨some 27, .load false 1 (.tmp 26), some (25, false)⟩,
  ⟨some 28, .bin .eql .other (.tmp 27) (.cst (.int .i64 15)), some (25, false)⟩,
  ⟨some 29, .mv (.tmp 28), some (25, false)⟩,
  ⟨some 30, .faddr 4 (.tmp 2), some (29, true)⟩,
  ⟨some 31, .load false 1 (.tmp 30), some (29, true)⟩,
  ⟨some 32, .bin .lss .other (.tmp 31) (.cst (.int .i64 0)), some (29, true)⟩,
  ⟨some 33, .mv (.tmp 32), some (29, true)⟩,
  ⟨some 34, .faddr 4 (.tmp 2), some (33, false)⟩,
  ⟨some 35, .load false 1 (.tmp 34), some (33, false)⟩,
  ⟨some 36, .bin .gtr .other (.tmp 35) (.cst (.int .i64 99)), some (33, false)⟩,
  ⟨some 37, .pick (.tmp 33) (.cst (.bool true)) (.tmp 36), some (29, true)⟩,
  ⟨some 38, .pick (.tmp 29) (.tmp 37) (.cst (.bool false)), some (25, false)⟩,
  ⟨some 39, .pick (.tmp 25) (.cst (.bool true)) (.tmp 38), none⟩]
def ins_Check.k4 : LCode := .seq (.text [⟨some 4, .mv (.cst (.int .i64 1)), none⟩]) .ret
def ins_Check.k5 : LCode := .text [⟨some 40, .faddr 1 (.tmp 5), none⟩,
  ⟨some 41, .load false 1 (.tmp 40), none⟩,
  ⟨some 42, .range (.tmp 41), none⟩]
def ins_Check.k6 : LCode := .text [⟨some 43, .next (.tmp 42), none⟩,
  ⟨some 44, .extract (.tmp 43) 0, none⟩]
def ins_Check.k7 : LCode := .text [⟨some 45, .extract (.tmp 43) 2, none⟩,
  ⟨some 9, .mv (.tmp 45), none⟩]
def ins_Check.k8 : LCode := .text [⟨some 47, .mv (.tmp 9), none⟩,
  ⟨some 48, .bin .eql .other (.tmp 47) (.cst (.int .i32 78)), none⟩,
  ⟨some 46, .mv (.tmp 48), none⟩]
def ins_Check.k9 : LCode := .text [⟨some 50, .mv (.tmp 9), none⟩,
  ⟨some 51, .bin .eql .other (.tmp 50) (.cst (.int .i32 84)), none⟩,
  ⟨some 49, .mv (.tmp 51), none⟩]
def ins_Check.k10 : LCode := .text [⟨some 52, .faddr 5 (.tmp 2), none⟩,
  ⟨some 53, .load false 1 (.tmp 52), none⟩,
  ⟨some 54, .bin .lss .other (.tmp 53) (.cst (.int .i64 0)), none⟩,
  ⟨some 55, .mv (.tmp 54), none⟩,
  ⟨some 56, .faddr 5 (.tmp 2), some (55, false)⟩,
  ⟨some 57, .load false 1 (.tmp 56), some (55, false)⟩,
  ⟨some 58, .mv (.tmp 1), some (55, false)⟩,
  ⟨some 59, .bin .geq .other (.tmp 57) (.tmp 58), some (55, false)⟩,
  ⟨some 60, .pick (.tmp 55) (.cst (.bool true)) (.tmp 59), none⟩,
  ⟨some 7, .mv (.tmp 60), none⟩]
def ins_Check.k11 : LCode := .text [⟨some 62, .mv (.tmp 9), none⟩,
  ⟨some 63, .bin .geq .other (.tmp 62) (.cst (.int .i32 97)), none⟩,
  ⟨some 64, .mv (.tmp 63), none⟩,
  ⟨some 65, .mv (.tmp 9), some (64, true)⟩,
  ⟨some 66, .call (.cst (.fn (.func 31) [] [])) [.tmp 2, .tmp 65], some (64, true)⟩,
  ⟨some 67, .nilc (.tmp 66), some (64, true)⟩,
  ⟨some 68, .load false 1 (.tmp 67), some (64, true)⟩,
  ⟨some 69, .call (.cst (.fn (.func 30) [] [])) [.tmp 68], some (64, true)⟩,
  ⟨some 70, .not (.tmp 69), some (64, true)⟩,
  ⟨some 71, .pick (.tmp 64) (.tmp 70) (.cst (.bool false)), none⟩,
  ⟨some 61, .mv (.tmp 71), none⟩]
def ins_Check.k12 : LCode := .text [⟨some 72, .mv (.tmp 9), none⟩,
  ⟨some 73, .bin .lss .other (.tmp 72) (.cst (.int .i32 97)), none⟩,
  ⟨some 74, .mv (.tmp 73), none⟩,
  ⟨some 75, .mv (.tmp 9), some (74, true)⟩,
  ⟨some 76, .call (.cst (.fn (.func 31) [] [])) [.tmp 2, .tmp 75], some (74, true)⟩,
  ⟨some 77, .nilc (.tmp 76), some (74, true)⟩,
  ⟨some 78, .load false 1 (.tmp 77), some (74, true)⟩,
  ⟨some 79, .call (.cst (.fn (.func 32) [] [])) [.tmp 78], some (74, true)⟩,
  ⟨some 80, .not (.tmp 79), some (74, true)⟩,
  ⟨some 81, .pick (.tmp 74) (.tmp 80) (.cst (.bool false)), none⟩,
  ⟨some 61, .mv (.tmp 81), none⟩]
def ins_Check.k13 : LCode := .seq (.text [⟨some 4, .mv (.cst (.int .i64 6)), none⟩]) .ret
def ins_Check.k14 : LCode := .seq (.seq ins_Check.k11 (.cond (.tmp 61) .skip ins_Check.k12)) (.cond (.tmp 61) ins_Check.k13 .skip)
def ins_Check.k15 : LCode := .seq ins_Check.k9 (.cond (.tmp 49) ins_Check.k10 ins_Check.k14)
def ins_Check.k16 : LCode := .block 2 (.seq ins_Check.k8 (.cond (.tmp 46) .skip ins_Check.k15))
def ins_Check.k17 : LCode := .seq (.cond (.tmp 44) .skip (.exit 0)) (.block 1 (.seq ins_Check.k7 ins_Check.k16))
def ins_Check.k18 : LCode := .seq ins_Check.k5 (.block 0 (.loop (.seq ins_Check.k6 ins_Check.k17)))
def ins_Check.k19 : LCode := .seq (.text [⟨some 4, .mv (.cst (.int .i64 4)), none⟩]) .ret
def ins_Check.k20 : LCode := .seq (.text [⟨some 82, .mv (.tmp 7), none⟩]) (.cond (.tmp 82) ins_Check.k19 .skip)
def ins_Check.k21 : LCode := .seq (.text [⟨some 4, .mv (.cst (.int .i64 0)), none⟩]) .ret
def ins_Check.k22 : LCode := .seq (.text [⟨some 7, .mv (.cst (.bool false)), none⟩]) (.seq ins_Check.k18 (.seq ins_Check.k20 ins_Check.k21))
def ins_Check.k23 : LCode := .seq (.seq ins_Check.k3 (.cond (.tmp 39) ins_Check.k4 .skip)) ins_Check.k22
/-- Function 20. -/
abbrev ins_Check.no : Nat := 20
def ins_Check.lc : LCode :=
 .seq ins_Check.k1 (.seq ins_Check.k2 ins_Check.k23)
theorem ins_Check.low : lowFn Tryd.prog 20 = some (83, ins_Check.lc, [.tmp 4]) := by kernel_rfl

def joineryref03_Check.k1 : LCode := .text [⟨some 2, .box (.tmp 0), none⟩,
  ⟨some 4, .mv (.cst (.int .i64 0)), none⟩]
def joineryref03_Check.k2 : LCode := .any true [⟨some 5, .faddr 0 (.tmp 2), none⟩,
  ⟨some 6, .load false 1 (.tmp 5), none⟩,
  ⟨some 7, .bin .lss .other (.tmp 6) (.cst (.int .i64 1)), none⟩,
  ⟨some 8, .mv (.tmp 7), none⟩,
  ⟨some 9, .faddr 0 (.tmp 2), some (8, false)⟩,
  ⟨some 10, .load false 1 (.tmp 9), some (8, false)⟩,
  ⟨some 11, .bin .gtr .other (.tmp 10) (.cst (.int .i64 18)), some (8, false)⟩,
  ⟨some 12, .pick (.tmp 8) (.cst (.bool true)) (.tmp 11), none⟩,
  ⟨some 13, .mv (.tmp 12), none⟩,
  ⟨some 14, .load true 6 (.tmp 2), some (13, false)⟩,
  ⟨some 15, .call (.cst (.fn (.func 33) [] [])) [.tmp 14], some (13, false)⟩,
  ⟨some 16, .load true 6 (.tmp 2), some (13, false)⟩,
  ⟨some 17, .bin .neq (.cells [.i, .i, .i, .i, .i, .i]) (.tmp 15) (.tmp 16), some (13, false)⟩,
  ⟨some 18, .pick (.tmp 13) (.cst (.bool true)) (.tmp 17), none⟩,
  ⟨some 19, .mv (.tmp 18), none⟩,
  ⟨some 20, .faddr 0 (.tmp 2), some (19, false)⟩,
  ⟨some 21, .load false 1 (.tmp 20), some (19, false)⟩,
  ⟨some 22, .bin .eql .other (.tmp 21) (.cst (.int .i64 15)), some (19, false)⟩,
  ⟨some 23, .mv (.tmp 22), some (19, false)⟩,
  ⟨some 24, .faddr 4 (.tmp 2), some (23, true)⟩,
  ⟨some 25, .load false 1 (.tmp 24), some (23, true)⟩,
  ⟨some 26, .bin .lss .other (.tmp 25) (.cst (.int .i64 0)), some (23, true)⟩,
  ⟨some 27, .mv (.tmp 26), some (23, true)⟩,
  ⟨some 28, .faddr 4 (.tmp 2), some (27, false)⟩,
  ⟨some 29, .load false 1 (.tmp 28), some (27, false)⟩,
  ⟨some 30, .bin .gtr .other (.tmp 29) (.cst (.int .i64 99)), some (27, false)⟩,
  ⟨some 31, .pick (.tmp 27) (.cst (.bool true)) (.tmp 30), some (23, true)⟩,
  ⟨some 32, .pick (.tmp 23) (.tmp 31) (.cst (.bool false)), some (19, false)⟩,
  ⟨some 33, .pick (.tmp 19) (.cst (.bool true)) (.tmp 32), none⟩] (.take 0 (.all [(1, .take 2 (.take 3 (.take 4 (.all [(5, .take 6 (.take 7 (.take 8 (.all [(9, .all [(10, .all [(11, .take 12 (.take 13 (.take 14 (.take 15 (.all [(16, .take 17 (.take 18 (.take 19 (.all [(20, .take 21 (.take 22 (.take 23 (.all [(24, .take 25 (.take 26 (.take 27 (.take 28 .done))))]))))]))))])))))]), (11, .all [(10, .take 12 (.take 13 (.take 14 (.take 15 (.all [(16, .take 17 (.take 18 (.take 19 (.all [(20, .take 21 (.take 22 (.take 23 (.all [(24, .take 25 (.take 26 (.take 27 (.take 28 .done))))]))))]))))])))))])]), (11, .all [(9, .all [(10, .take 12 (.take 13 (.take 14 (.take 15 (.all [(16, .take 17 (.take 18 (.take 19 (.all [(20, .take 21 (.take 22 (.take 23 (.all [(24, .take 25 (.take 26 (.take 27 (.take 28 .done))))]))))]))))])))))])])]))))]))))]))
def joineryref03_Check.k3 : LCode := .seq (.text [⟨some 4, .mv (.cst (.int .i64 1)), none⟩]) .ret
def joineryref03_Check.k4 : LCode := .seq joineryref03_Check.k2 (.cond (.tmp 33) joineryref03_Check.k3 .skip)
def joineryref03_Check.k5 : LCode := .text [⟨some 34, .faddr 0 (.tmp 2), none⟩,
  ⟨some 35, .load false 1 (.tmp 34), none⟩,
  ⟨some 36, .bin .leq .other (.tmp 35) (.cst (.int .i64 3)), none⟩]
def joineryref03_Check.k6 : LCode := .text [⟨some 37, .faddr 1 (.tmp 2), none⟩,
  ⟨some 38, .load false 1 (.tmp 37), none⟩,
  ⟨some 39, .call (.cst (.fn (.func 34) [] [])) [.tmp 38], none⟩,
  ⟨some 40, .not (.tmp 39), none⟩,
  ⟨some 41, .mv (.tmp 40), none⟩,
  ⟨some 42, .faddr 2 (.tmp 2), some (41, false)⟩,
  ⟨some 43, .load false 1 (.tmp 42), some (41, false)⟩,
  ⟨some 44, .call (.cst (.fn (.func 34) [] [])) [.tmp 43], some (41, false)⟩,
  ⟨some 45, .not (.tmp 44), some (41, false)⟩,
  ⟨some 46, .pick (.tmp 41) (.cst (.bool true)) (.tmp 45), none⟩]
def joineryref03_Check.k7 : LCode := .seq (.text [⟨some 4, .mv (.cst (.int .i64 6)), none⟩]) .ret
def joineryref03_Check.k8 : LCode := .seq joineryref03_Check.k6 (.cond (.tmp 46) joineryref03_Check.k7 .skip)
def joineryref03_Check.k9 : LCode := .text [⟨some 47, .faddr 1 (.tmp 2), none⟩,
  ⟨some 48, .load false 1 (.tmp 47), none⟩,
  ⟨some 49, .call (.cst (.fn (.func 35) [] [])) [.tmp 48], none⟩,
  ⟨some 50, .not (.tmp 49), none⟩,
  ⟨some 51, .mv (.tmp 50), none⟩,
  ⟨some 52, .faddr 2 (.tmp 2), some (51, false)⟩,
  ⟨some 53, .load false 1 (.tmp 52), some (51, false)⟩,
  ⟨some 54, .call (.cst (.fn (.func 35) [] [])) [.tmp 53], some (51, false)⟩,
  ⟨some 55, .not (.tmp 54), some (51, false)⟩,
  ⟨some 56, .pick (.tmp 51) (.cst (.bool true)) (.tmp 55), none⟩,
  ⟨some 57, .mv (.tmp 56), none⟩,
  ⟨some 58, .faddr 3 (.tmp 2), some (57, false)⟩,
  ⟨some 59, .load false 1 (.tmp 58), some (57, false)⟩,
  ⟨some 60, .call (.cst (.fn (.func 35) [] [])) [.tmp 59], some (57, false)⟩,
  ⟨some 61, .not (.tmp 60), some (57, false)⟩,
  ⟨some 62, .pick (.tmp 57) (.cst (.bool true)) (.tmp 61), none⟩]
def joineryref03_Check.k10 : LCode := .seq (.text [⟨some 4, .mv (.cst (.int .i64 6)), none⟩]) .ret
def joineryref03_Check.k11 : LCode := .seq joineryref03_Check.k9 (.cond (.tmp 62) joineryref03_Check.k10 .skip)
def joineryref03_Check.k12 : LCode := .cond (.tmp 36) joineryref03_Check.k8 joineryref03_Check.k11
def joineryref03_Check.k13 : LCode := .text [⟨some 63, .faddr 0 (.tmp 2), none⟩,
  ⟨some 64, .load false 1 (.tmp 63), none⟩,
  ⟨some 65, .bin .eql .other (.tmp 64) (.cst (.int .i64 16)), none⟩,
  ⟨some 66, .mv (.tmp 65), none⟩,
  ⟨some 67, .faddr 0 (.tmp 2), some (66, false)⟩,
  ⟨some 68, .load false 1 (.tmp 67), some (66, false)⟩,
  ⟨some 69, .bin .eql .other (.tmp 68) (.cst (.int .i64 17)), some (66, false)⟩,
  ⟨some 70, .pick (.tmp 66) (.cst (.bool true)) (.tmp 69), none⟩,
  ⟨some 71, .mv (.tmp 70), none⟩,
  ⟨some 72, .faddr 5 (.tmp 2), some (71, true)⟩,
  ⟨some 73, .load false 1 (.tmp 72), some (71, true)⟩,
  ⟨some 74, .bin .lss .other (.tmp 73) (.cst (.int .i64 0)), some (71, true)⟩,
  ⟨some 75, .mv (.tmp 74), some (71, true)⟩,
  ⟨some 76, .faddr 5 (.tmp 2), some (75, false)⟩,
  ⟨some 77, .load false 1 (.tmp 76), some (75, false)⟩,
  ⟨some 78, .mv (.tmp 1), some (75, false)⟩,
  ⟨some 79, .bin .geq .other (.tmp 77) (.tmp 78), some (75, false)⟩,
  ⟨some 80, .pick (.tmp 75) (.cst (.bool true)) (.tmp 79), some (71, true)⟩,
  ⟨some 81, .pick (.tmp 71) (.tmp 80) (.cst (.bool false)), none⟩]
def joineryref03_Check.k14 : LCode := .seq (.text [⟨some 4, .mv (.cst (.int .i64 4)), none⟩]) .ret
def joineryref03_Check.k15 : LCode := .seq joineryref03_Check.k13 (.cond (.tmp 81) joineryref03_Check.k14 .skip)
def joineryref03_Check.k16 : LCode := .seq (.text [⟨some 4, .mv (.cst (.int .i64 0)), none⟩]) .ret
def joineryref03_Check.k17 : LCode := .seq (.seq joineryref03_Check.k5 joineryref03_Check.k12) (.seq joineryref03_Check.k15 joineryref03_Check.k16)
/-- Function 21. -/
abbrev joineryref03_Check.no : Nat := 21
def joineryref03_Check.lc : LCode :=
 .seq joineryref03_Check.k1 (.seq joineryref03_Check.k4 joineryref03_Check.k17)
theorem joineryref03_Check.low : lowFn Tryd.prog 21 = some (82, joineryref03_Check.lc, [.tmp 4]) := by kernel_rfl

def ins_Print.k1 : LCode := .text [⟨some 1, .box (.tmp 0), none⟩,
  ⟨some 2, .mv (.cst (.str ⟨#[]⟩)), none⟩,
  ⟨some 3, .mv (.cst (.int .i64 0)), none⟩]
def ins_Print.k2 : LCode := .text [⟨some 10, .load true 6 (.tmp 1), none⟩,
  ⟨some 11, .call (.cst (.fn (.func 20) [] [])) [.tmp 10, .cst (.int .i64 200)], none⟩,
  ⟨some 12, .bin .neq .other (.tmp 11) (.cst (.int .i64 0)), none⟩]
def ins_Print.k3 : LCode := .text [⟨some 2, .mv (.cst (.str ⟨#[]⟩)), none⟩,
  ⟨some 3, .mv (.cst (.int .i64 1)), none⟩]
def ins_Print.k4 : LCode := .seq ins_Print.k2 (.cond (.tmp 12) (.seq ins_Print.k3 .ret) .skip)
def ins_Print.k5 : LCode := .text [⟨some 14, .faddr 0 (.tmp 1), none⟩,
  ⟨some 15, .load false 1 (.tmp 14), none⟩,
  ⟨some 16, .call (.cst (.fn (.func 28) [] [])) [.tmp 15], none⟩,
  ⟨some 13, .mv (.tmp 16), none⟩,
  ⟨some 17, .extract (.tmp 13) 0, none⟩,
  ⟨some 18, .extract (.tmp 13) 1, none⟩,
  ⟨some 4, .alloc [.str ⟨#[]⟩, .str ⟨#[]⟩], none⟩,
  ⟨none, .store 2 (.tmp 4) (.tmp 17), none⟩,
  ⟨some 5, .mv (.tmp 18), none⟩]
def ins_Print.k6 : LCode := .text [⟨some 19, .faddr 0 (.tmp 4), none⟩,
  ⟨some 20, .load false 1 (.tmp 19), none⟩,
  ⟨some 6, .mv (.tmp 20), none⟩]
def ins_Print.k7 : LCode := .text [⟨some 21, .faddr 1 (.tmp 4), none⟩,
  ⟨some 22, .load false 1 (.tmp 21), none⟩,
  ⟨some 23, .range (.tmp 22), none⟩]
def ins_Print.k8 : LCode := .text [⟨some 24, .next (.tmp 23), none⟩,
  ⟨some 25, .extract (.tmp 24) 0, none⟩]
def ins_Print.k9 : LCode := .text [⟨some 26, .extract (.tmp 24) 2, none⟩,
  ⟨some 8, .mv (.tmp 26), none⟩]
def ins_Print.k10 : LCode := .text [⟨some 37, .bin .eql .other (.tmp 27) (.cst (.int .i32 78)), none⟩,
  ⟨some 36, .mv (.tmp 37), none⟩]
def ins_Print.k11 : LCode := .text [⟨some 38, .faddr 4 (.tmp 1), none⟩,
  ⟨some 39, .load false 1 (.tmp 38), none⟩,
  ⟨some 40, .call (.cst (.fn (.func 36) [] [])) [.tmp 39], none⟩,
  ⟨some 9, .mv (.tmp 40), none⟩]
def ins_Print.k12 : LCode := .text [⟨some 42, .bin .eql .other (.tmp 27) (.cst (.int .i32 84)), none⟩,
  ⟨some 41, .mv (.tmp 42), none⟩]
def ins_Print.k13 : LCode := .text [⟨some 43, .faddr 5 (.tmp 1), none⟩,
  ⟨some 44, .load false 1 (.tmp 43), none⟩,
  ⟨some 45, .call (.cst (.fn (.func 36) [] [])) [.tmp 44], none⟩,
  ⟨some 9, .mv (.tmp 45), none⟩]
def ins_Print.k14 : LCode := .text [⟨some 29, .mv (.tmp 8), none⟩,
  ⟨some 30, .call (.cst (.fn (.func 31) [] [])) [.tmp 1, .tmp 29], none⟩,
  ⟨some 31, .nilc (.tmp 30), none⟩,
  ⟨some 32, .load false 1 (.tmp 31), none⟩,
  ⟨some 33, .call (.cst (.fn (.func 37) [] [])) [.tmp 32], none⟩,
  ⟨some 28, .mv (.tmp 33), none⟩,
  ⟨some 34, .extract (.tmp 28) 0, none⟩,
  ⟨some 35, .extract (.tmp 28) 1, none⟩,
  ⟨some 9, .mv (.tmp 34), none⟩]
def ins_Print.k15 : LCode := .seq ins_Print.k12 (.cond (.tmp 41) ins_Print.k13 ins_Print.k14)
def ins_Print.k16 : LCode := .seq ins_Print.k10 (.cond (.tmp 36) ins_Print.k11 ins_Print.k15)
def ins_Print.k17 : LCode := .seq (.text [⟨some 27, .mv (.tmp 8), none⟩]) (.block 2 ins_Print.k16)
def ins_Print.k18 : LCode := .text [⟨some 46, .mv (.tmp 6), none⟩,
  ⟨some 47, .mv (.tmp 9), none⟩,
  ⟨some 48, .bin .add .other (.cst (.str ⟨#[32]⟩)) (.tmp 47), none⟩,
  ⟨some 49, .bin .add .other (.tmp 46) (.tmp 48), none⟩,
  ⟨some 6, .mv (.tmp 49), none⟩]
def ins_Print.k19 : LCode := .seq (.text [⟨some 9, .mv (.cst (.str ⟨#[]⟩)), none⟩]) (.seq ins_Print.k17 ins_Print.k18)
def ins_Print.k20 : LCode := .seq (.cond (.tmp 25) .skip (.exit 0)) (.block 1 (.seq ins_Print.k9 ins_Print.k19))
def ins_Print.k21 : LCode := .seq ins_Print.k7 (.block 0 (.loop (.seq ins_Print.k8 ins_Print.k20)))
def ins_Print.k22 : LCode := .text [⟨some 50, .mv (.tmp 6), none⟩,
  ⟨some 2, .mv (.tmp 50), none⟩,
  ⟨some 3, .mv (.cst (.int .i64 0)), none⟩]
def ins_Print.k23 : LCode := .seq ins_Print.k6 (.seq ins_Print.k21 (.seq ins_Print.k22 .ret))
/-- Function 22. -/
abbrev ins_Print.no : Nat := 22
def ins_Print.lc : LCode :=
 .seq ins_Print.k1 (.seq ins_Print.k4 (.seq ins_Print.k5 ins_Print.k23))
theorem ins_Print.low : lowFn Tryd.prog 22 = some (51, ins_Print.lc, [.tmp 2, .tmp 3]) := by kernel_rfl

def joineryref03_Print.k1 : LCode := .text [⟨some 1, .box (.tmp 0), none⟩,
  ⟨some 2, .mv (.cst (.str ⟨#[]⟩)), none⟩]
def joineryref03_Print.k2 : LCode := .any true [⟨some 9, .faddr 1 (.tmp 1), none⟩,
  ⟨some 10, .load false 1 (.tmp 9), none⟩,
  ⟨some 11, .call (.cst (.fn (.func 38) [] [])) [.tmp 10], none⟩,
  ⟨some 12, .faddr 2 (.tmp 1), none⟩,
  ⟨some 13, .load false 1 (.tmp 12), none⟩,
  ⟨some 14, .call (.cst (.fn (.func 38) [] [])) [.tmp 13], none⟩,
  ⟨some 15, .faddr 3 (.tmp 1), none⟩,
  ⟨some 16, .load false 1 (.tmp 15), none⟩,
  ⟨some 17, .call (.cst (.fn (.func 38) [] [])) [.tmp 16], none⟩,
  ⟨some 3, .mv (.tmp 11), none⟩,
  ⟨some 4, .mv (.tmp 14), none⟩,
  ⟨some 5, .mv (.tmp 17), none⟩] (.take 0 (.take 3 (.take 6 (.all [(1, .all [(2, .all [(4, .all [(5, .all [(7, .all [(8, .take 9 (.take 10 (.take 11 .done)))])]), (7, .all [(5, .all [(8, .take 9 (.take 10 (.take 11 .done)))])])]), (7, .all [(4, .all [(5, .all [(8, .take 9 (.take 10 (.take 11 .done)))])])])]), (4, .all [(2, .all [(5, .all [(7, .all [(8, .take 9 (.take 10 (.take 11 .done)))])]), (7, .all [(5, .all [(8, .take 9 (.take 10 (.take 11 .done)))])])]), (7, .all [(2, .all [(5, .all [(8, .take 9 (.take 10 (.take 11 .done)))])])])]), (7, .all [(2, .all [(4, .all [(5, .all [(8, .take 9 (.take 10 (.take 11 .done)))])])]), (4, .all [(2, .all [(5, .all [(8, .take 9 (.take 10 (.take 11 .done)))])])])])]), (4, .all [(1, .all [(2, .all [(5, .all [(7, .all [(8, .take 9 (.take 10 (.take 11 .done)))])]), (7, .all [(5, .all [(8, .take 9 (.take 10 (.take 11 .done)))])])]), (7, .all [(2, .all [(5, .all [(8, .take 9 (.take 10 (.take 11 .done)))])])])]), (7, .all [(1, .all [(2, .all [(5, .all [(8, .take 9 (.take 10 (.take 11 .done)))])])])])]), (7, .all [(1, .all [(2, .all [(4, .all [(5, .all [(8, .take 9 (.take 10 (.take 11 .done)))])])]), (4, .all [(2, .all [(5, .all [(8, .take 9 (.take 10 (.take 11 .done)))])])])]), (4, .all [(1, .all [(2, .all [(5, .all [(8, .take 9 (.take 10 (.take 11 .done)))])])])])])]))))
def joineryref03_Print.k3 : LCode := .any true [⟨some 18, .faddr 4 (.tmp 1), none⟩,
  ⟨some 19, .load false 1 (.tmp 18), none⟩,
  ⟨some 20, .call (.cst (.fn (.func 39) [] [])) [.tmp 19], none⟩,
  ⟨some 21, .faddr 5 (.tmp 1), none⟩,
  ⟨some 22, .load false 1 (.tmp 21), none⟩,
  ⟨some 23, .call (.cst (.fn (.func 39) [] [])) [.tmp 22], none⟩,
  ⟨some 6, .mv (.tmp 20), none⟩,
  ⟨some 7, .mv (.tmp 23), none⟩] (.take 0 (.take 3 (.all [(1, .all [(2, .all [(4, .all [(5, .take 6 (.take 7 .done))])]), (4, .all [(2, .all [(5, .take 6 (.take 7 .done))])])]), (4, .all [(1, .all [(2, .all [(5, .take 6 (.take 7 .done))])])])])))
def joineryref03_Print.k4 : LCode := .text [⟨some 24, .faddr 0 (.tmp 1), none⟩,
  ⟨some 25, .load false 1 (.tmp 24), none⟩,
  ⟨some 26, .call (.cst (.fn (.func 40) [] [])) [.tmp 25], none⟩,
  ⟨some 27, .bin .add .other (.tmp 26) (.cst (.str ⟨#[32]⟩)), none⟩,
  ⟨some 8, .mv (.tmp 27), none⟩]
def joineryref03_Print.k5 : LCode := .text [⟨some 28, .faddr 0 (.tmp 1), none⟩,
  ⟨some 29, .load false 1 (.tmp 28), none⟩]
def joineryref03_Print.k6 : LCode := .text [⟨some 31, .bin .eql .other (.tmp 29) (.cst (.int .i64 1)), none⟩,
  ⟨some 30, .mv (.tmp 31), none⟩]
def joineryref03_Print.k7 : LCode := .text [⟨some 32, .mv (.tmp 8), none⟩,
  ⟨some 33, .mv (.tmp 3), none⟩,
  ⟨some 34, .bin .add .other (.tmp 32) (.tmp 33), none⟩,
  ⟨some 35, .bin .add .other (.tmp 34) (.cst (.str ⟨#[32]⟩)), none⟩,
  ⟨some 36, .mv (.tmp 6), none⟩,
  ⟨some 37, .bin .add .other (.tmp 35) (.tmp 36), none⟩,
  ⟨some 2, .mv (.tmp 37), none⟩]
def joineryref03_Print.k8 : LCode := .text [⟨some 39, .bin .eql .other (.tmp 29) (.cst (.int .i64 2)), none⟩,
  ⟨some 38, .mv (.tmp 39), none⟩]
def joineryref03_Print.k9 : LCode := .text [⟨some 40, .bin .eql .other (.tmp 29) (.cst (.int .i64 3)), none⟩,
  ⟨some 38, .mv (.tmp 40), none⟩]
def joineryref03_Print.k10 : LCode := .text [⟨some 41, .bin .eql .other (.tmp 29) (.cst (.int .i64 13)), none⟩,
  ⟨some 38, .mv (.tmp 41), none⟩]
def joineryref03_Print.k11 : LCode := .seq joineryref03_Print.k9 (.cond (.tmp 38) .skip joineryref03_Print.k10)
def joineryref03_Print.k12 : LCode := .seq joineryref03_Print.k8 (.cond (.tmp 38) .skip joineryref03_Print.k11)
def joineryref03_Print.k13 : LCode := .text [⟨some 42, .mv (.tmp 8), none⟩,
  ⟨some 43, .mv (.tmp 3), none⟩,
  ⟨some 44, .bin .add .other (.tmp 42) (.tmp 43), none⟩,
  ⟨some 45, .bin .add .other (.tmp 44) (.cst (.str ⟨#[32]⟩)), none⟩,
  ⟨some 46, .mv (.tmp 4), none⟩,
  ⟨some 47, .bin .add .other (.tmp 45) (.tmp 46), none⟩,
  ⟨some 2, .mv (.tmp 47), none⟩]
def joineryref03_Print.k14 : LCode := .text [⟨some 49, .bin .eql .other (.tmp 29) (.cst (.int .i64 14)), none⟩,
  ⟨some 48, .mv (.tmp 49), none⟩]
def joineryref03_Print.k15 : LCode := .text [⟨some 50, .mv (.tmp 8), none⟩,
  ⟨some 51, .mv (.tmp 4), none⟩,
  ⟨some 52, .bin .add .other (.tmp 50) (.tmp 51), none⟩,
  ⟨some 53, .bin .add .other (.tmp 52) (.cst (.str ⟨#[32]⟩)), none⟩,
  ⟨some 54, .mv (.tmp 5), none⟩,
  ⟨some 55, .bin .add .other (.tmp 53) (.tmp 54), none⟩,
  ⟨some 2, .mv (.tmp 55), none⟩]
def joineryref03_Print.k16 : LCode := .text [⟨some 57, .bin .eql .other (.tmp 29) (.cst (.int .i64 15)), none⟩,
  ⟨some 56, .mv (.tmp 57), none⟩]
def joineryref03_Print.k17 : LCode := .text [⟨some 58, .mv (.tmp 8), none⟩,
  ⟨some 59, .mv (.tmp 3), none⟩,
  ⟨some 60, .bin .add .other (.tmp 58) (.tmp 59), none⟩,
  ⟨some 61, .bin .add .other (.tmp 60) (.cst (.str ⟨#[32]⟩)), none⟩,
  ⟨some 62, .mv (.tmp 4), none⟩,
  ⟨some 63, .bin .add .other (.tmp 61) (.tmp 62), none⟩,
  ⟨some 64, .bin .add .other (.tmp 63) (.cst (.str ⟨#[32]⟩)), none⟩,
  ⟨some 65, .mv (.tmp 6), none⟩,
  ⟨some 66, .bin .add .other (.tmp 64) (.tmp 65), none⟩,
  ⟨some 2, .mv (.tmp 66), none⟩]
def joineryref03_Print.k18 : LCode := .text [⟨some 68, .bin .eql .other (.tmp 29) (.cst (.int .i64 16)), none⟩,
  ⟨some 67, .mv (.tmp 68), none⟩]
def joineryref03_Print.k19 : LCode := .text [⟨some 69, .mv (.tmp 8), none⟩,
  ⟨some 70, .mv (.tmp 7), none⟩,
  ⟨some 71, .bin .add .other (.tmp 69) (.tmp 70), none⟩,
  ⟨some 2, .mv (.tmp 71), none⟩]
def joineryref03_Print.k20 : LCode := .text [⟨some 73, .bin .eql .other (.tmp 29) (.cst (.int .i64 17)), none⟩,
  ⟨some 72, .mv (.tmp 73), none⟩]
def joineryref03_Print.k21 : LCode := .text [⟨some 74, .mv (.tmp 8), none⟩,
  ⟨some 75, .mv (.tmp 4), none⟩,
  ⟨some 76, .bin .add .other (.tmp 74) (.tmp 75), none⟩,
  ⟨some 77, .bin .add .other (.tmp 76) (.cst (.str ⟨#[32]⟩)), none⟩,
  ⟨some 78, .mv (.tmp 7), none⟩,
  ⟨some 79, .bin .add .other (.tmp 77) (.tmp 78), none⟩,
  ⟨some 2, .mv (.tmp 79), none⟩]
def joineryref03_Print.k22 : LCode := .text [⟨some 81, .bin .eql .other (.tmp 29) (.cst (.int .i64 18)), none⟩,
  ⟨some 80, .mv (.tmp 81), none⟩]
def joineryref03_Print.k23 : LCode := .text [⟨some 82, .mv (.tmp 8), none⟩,
  ⟨some 83, .mv (.tmp 4), none⟩,
  ⟨some 84, .bin .add .other (.tmp 82) (.tmp 83), none⟩,
  ⟨some 2, .mv (.tmp 84), none⟩]
def joineryref03_Print.k24 : LCode := .seq joineryref03_Print.k22 (.cond (.tmp 80) (.seq joineryref03_Print.k23 .ret) .skip)
def joineryref03_Print.k25 : LCode := .cond (.tmp 72) (.seq joineryref03_Print.k21 .ret) joineryref03_Print.k24
def joineryref03_Print.k26 : LCode := .cond (.tmp 67) (.seq joineryref03_Print.k19 .ret) (.seq joineryref03_Print.k20 joineryref03_Print.k25)
def joineryref03_Print.k27 : LCode := .cond (.tmp 56) (.seq joineryref03_Print.k17 .ret) (.seq joineryref03_Print.k18 joineryref03_Print.k26)
def joineryref03_Print.k28 : LCode := .cond (.tmp 48) (.seq joineryref03_Print.k15 .ret) (.seq joineryref03_Print.k16 joineryref03_Print.k27)
def joineryref03_Print.k29 : LCode := .cond (.tmp 38) (.seq joineryref03_Print.k13 .ret) (.seq joineryref03_Print.k14 joineryref03_Print.k28)
def joineryref03_Print.k30 : LCode := .cond (.tmp 30) (.seq joineryref03_Print.k7 .ret) (.seq joineryref03_Print.k12 joineryref03_Print.k29)
def joineryref03_Print.k31 : LCode := .block 0 (.seq joineryref03_Print.k6 joineryref03_Print.k30)
def joineryref03_Print.k32 : LCode := .text [⟨some 85, .mv (.tmp 8), none⟩,
  ⟨some 86, .mv (.tmp 3), none⟩,
  ⟨some 87, .bin .add .other (.tmp 85) (.tmp 86), none⟩,
  ⟨some 88, .bin .add .other (.tmp 87) (.cst (.str ⟨#[32]⟩)), none⟩,
  ⟨some 89, .mv (.tmp 4), none⟩,
  ⟨some 90, .bin .add .other (.tmp 88) (.tmp 89), none⟩,
  ⟨some 91, .bin .add .other (.tmp 90) (.cst (.str ⟨#[32]⟩)), none⟩,
  ⟨some 92, .mv (.tmp 5), none⟩,
  ⟨some 93, .bin .add .other (.tmp 91) (.tmp 92), none⟩,
  ⟨some 2, .mv (.tmp 93), none⟩]
def joineryref03_Print.k33 : LCode := .seq (.seq joineryref03_Print.k5 joineryref03_Print.k31) (.seq joineryref03_Print.k32 .ret)
def joineryref03_Print.k34 : LCode := .seq joineryref03_Print.k3 (.seq joineryref03_Print.k4 joineryref03_Print.k33)
/-- Function 23. -/
abbrev joineryref03_Print.no : Nat := 23
def joineryref03_Print.lc : LCode :=
 .seq joineryref03_Print.k1 (.seq joineryref03_Print.k2 joineryref03_Print.k34)
theorem joineryref03_Print.low : lowFn Tryd.prog 23 = some (94, joineryref03_Print.lc, [.tmp 2]) := by kernel_rfl

def asm_Parse_1.k1 : LCode := .text [⟨some 10, .load false 1 (.tmp 1), none⟩,
  ⟨some 11, .load false 1 (.tmp 2), none⟩,
  ⟨some 12, .mv (.tmp 0), none⟩,
  ⟨some 13, .sliceS (.tmp 10) (some (.tmp 11)) (some (.tmp 12)), none⟩,
  ⟨some 14, .call (.cst (.fn (.func 25) [] [])) [.tmp 13], none⟩,
  ⟨some 9, .mv (.tmp 14), none⟩,
  ⟨some 15, .extract (.tmp 9) 0, none⟩,
  ⟨some 16, .extract (.tmp 9) 1, none⟩,
  ⟨some 7, .alloc [.int .i64 0, .int .i64 0, .int .i64 0, .int .i64 0, .int .i64 0, .int .i64 0], none⟩,
  ⟨none, .store 6 (.tmp 7) (.tmp 15), none⟩,
  ⟨some 8, .mv (.tmp 16), none⟩]
def asm_Parse_1.k2 : LCode := .any false [⟨some 17, .load false 1 (.tmp 3), none⟩,
  ⟨some 18, .load true 6 (.tmp 7), none⟩,
  ⟨some 19, .bslice 6 [.int .i64 0, .int .i64 0, .int .i64 0, .int .i64 0, .int .i64 0, .int .i64 0] 1 [(0, .tmp 18)], none⟩,
  ⟨some 20, .append 6 48 (.tmp 17) (.tmp 19), none⟩,
  ⟨some 21, .load false 1 (.tmp 4), none⟩,
  ⟨some 22, .load false 1 (.tmp 2), none⟩,
  ⟨some 23, .bslice 1 [.int .i64 0] 1 [(0, .tmp 22)], none⟩,
  ⟨some 24, .append 1 8 (.tmp 21) (.tmp 23), none⟩,
  ⟨none, .store 1 (.tmp 3) (.tmp 20), none⟩,
  ⟨none, .store 1 (.tmp 4) (.tmp 24), none⟩] (.all [(0, .all [(1, .all [(2, .all [(3, .all [(4, .all [(5, .all [(6, .all [(7, .all [(8, .all [(9, .done)])])])])]), (5, .all [(4, .all [(6, .all [(7, .all [(8, .all [(9, .done)])])])]), (6, .all [(4, .all [(7, .all [(8, .all [(9, .done)])])])])])]), (4, .all [(3, .all [(5, .all [(6, .all [(7, .all [(8, .all [(9, .done)])])])])]), (5, .all [(3, .all [(6, .all [(7, .all [(8, .all [(9, .done)])])])]), (6, .all [(3, .all [(7, .all [(8, .all [(9, .done)])])])])])]), (5, .all [(3, .all [(4, .all [(6, .all [(7, .all [(8, .all [(9, .done)])])])]), (6, .all [(4, .all [(7, .all [(8, .all [(9, .done)])])])])]), (4, .all [(3, .all [(6, .all [(7, .all [(8, .all [(9, .done)])])])]), (6, .all [(3, .all [(7, .all [(8, .all [(9, .done)])])])])]), (6, .all [(3, .all [(4, .all [(7, .all [(8, .all [(9, .done)])])])]), (4, .all [(3, .all [(7, .all [(8, .all [(9, .done)])])])])])])]), (4, .all [(2, .all [(3, .all [(5, .all [(6, .all [(7, .all [(8, .all [(9, .done)])])])])]), (5, .all [(3, .all [(6, .all [(7, .all [(8, .all [(9, .done)])])])]), (6, .all [(3, .all [(7, .all [(8, .all [(9, .done)])])])])])]), (5, .all [(2, .all [(3, .all [(6, .all [(7, .all [(8, .all [(9, .done)])])])]), (6, .all [(3, .all [(7, .all [(8, .all [(9, .done)])])])])]), (6, .all [(2, .all [(3, .all [(7, .all [(8, .all [(9, .done)])])])])])])]), (5, .all [(2, .all [(3, .all [(4, .all [(6, .all [(7, .all [(8, .all [(9, .done)])])])]), (6, .all [(4, .all [(7, .all [(8, .all [(9, .done)])])])])]), (4, .all [(3, .all [(6, .all [(7, .all [(8, .all [(9, .done)])])])]), (6, .all [(3, .all [(7, .all [(8, .all [(9, .done)])])])])]), (6, .all [(3, .all [(4, .all [(7, .all [(8, .all [(9, .done)])])])]), (4, .all [(3, .all [(7, .all [(8, .all [(9, .done)])])])])])]), (4, .all [(2, .all [(3, .all [(6, .all [(7, .all [(8, .all [(9, .done)])])])]), (6, .all [(3, .all [(7, .all [(8, .all [(9, .done)])])])])]), (6, .all [(2, .all [(3, .all [(7, .all [(8, .all [(9, .done)])])])])])]), (6, .all [(2, .all [(3, .all [(4, .all [(7, .all [(8, .all [(9, .done)])])])]), (4, .all [(3, .all [(7, .all [(8, .all [(9, .done)])])])])]), (4, .all [(2, .all [(3, .all [(7, .all [(8, .all [(9, .done)])])])])])])])]), (4, .all [(1, .all [(2, .all [(3, .all [(5, .all [(6, .all [(7, .all [(8, .all [(9, .done)])])])])]), (5, .all [(3, .all [(6, .all [(7, .all [(8, .all [(9, .done)])])])]), (6, .all [(3, .all [(7, .all [(8, .all [(9, .done)])])])])])]), (5, .all [(2, .all [(3, .all [(6, .all [(7, .all [(8, .all [(9, .done)])])])]), (6, .all [(3, .all [(7, .all [(8, .all [(9, .done)])])])])]), (6, .all [(2, .all [(3, .all [(7, .all [(8, .all [(9, .done)])])])])])])]), (5, .all [(1, .all [(2, .all [(3, .all [(6, .all [(7, .all [(8, .all [(9, .done)])])])]), (6, .all [(3, .all [(7, .all [(8, .all [(9, .done)])])])])]), (6, .all [(2, .all [(3, .all [(7, .all [(8, .all [(9, .done)])])])])])]), (6, .all [(1, .all [(2, .all [(3, .all [(7, .all [(8, .all [(9, .done)])])])])])])])]), (5, .all [(1, .all [(2, .all [(3, .all [(4, .all [(6, .all [(7, .all [(8, .all [(9, .done)])])])]), (6, .all [(4, .all [(7, .all [(8, .all [(9, .done)])])])])]), (4, .all [(3, .all [(6, .all [(7, .all [(8, .all [(9, .done)])])])]), (6, .all [(3, .all [(7, .all [(8, .all [(9, .done)])])])])]), (6, .all [(3, .all [(4, .all [(7, .all [(8, .all [(9, .done)])])])]), (4, .all [(3, .all [(7, .all [(8, .all [(9, .done)])])])])])]), (4, .all [(2, .all [(3, .all [(6, .all [(7, .all [(8, .all [(9, .done)])])])]), (6, .all [(3, .all [(7, .all [(8, .all [(9, .done)])])])])]), (6, .all [(2, .all [(3, .all [(7, .all [(8, .all [(9, .done)])])])])])]), (6, .all [(2, .all [(3, .all [(4, .all [(7, .all [(8, .all [(9, .done)])])])]), (4, .all [(3, .all [(7, .all [(8, .all [(9, .done)])])])])]), (4, .all [(2, .all [(3, .all [(7, .all [(8, .all [(9, .done)])])])])])])]), (4, .all [(1, .all [(2, .all [(3, .all [(6, .all [(7, .all [(8, .all [(9, .done)])])])]), (6, .all [(3, .all [(7, .all [(8, .all [(9, .done)])])])])]), (6, .all [(2, .all [(3, .all [(7, .all [(8, .all [(9, .done)])])])])])]), (6, .all [(1, .all [(2, .all [(3, .all [(7, .all [(8, .all [(9, .done)])])])])])])]), (6, .all [(1, .all [(2, .all [(3, .all [(4, .all [(7, .all [(8, .all [(9, .done)])])])]), (4, .all [(3, .all [(7, .all [(8, .all [(9, .done)])])])])]), (4, .all [(2, .all [(3, .all [(7, .all [(8, .all [(9, .done)])])])])])]), (4, .all [(1, .all [(2, .all [(3, .all [(7, .all [(8, .all [(9, .done)])])])])])])])])]), (1, .all [(0, .all [(2, .all [(3, .all [(4, .all [(5, .all [(6, .all [(7, .all [(8, .all [(9, .done)])])])])]), (5, .all [(4, .all [(6, .all [(7, .all [(8, .all [(9, .done)])])])]), (6, .all [(4, .all [(7, .all [(8, .all [(9, .done)])])])])])]), (4, .all [(3, .all [(5, .all [(6, .all [(7, .all [(8, .all [(9, .done)])])])])]), (5, .all [(3, .all [(6, .all [(7, .all [(8, .all [(9, .done)])])])]), (6, .all [(3, .all [(7, .all [(8, .all [(9, .done)])])])])])]), (5, .all [(3, .all [(4, .all [(6, .all [(7, .all [(8, .all [(9, .done)])])])]), (6, .all [(4, .all [(7, .all [(8, .all [(9, .done)])])])])]), (4, .all [(3, .all [(6, .all [(7, .all [(8, .all [(9, .done)])])])]), (6, .all [(3, .all [(7, .all [(8, .all [(9, .done)])])])])]), (6, .all [(3, .all [(4, .all [(7, .all [(8, .all [(9, .done)])])])]), (4, .all [(3, .all [(7, .all [(8, .all [(9, .done)])])])])])])]), (4, .all [(2, .all [(3, .all [(5, .all [(6, .all [(7, .all [(8, .all [(9, .done)])])])])]), (5, .all [(3, .all [(6, .all [(7, .all [(8, .all [(9, .done)])])])]), (6, .all [(3, .all [(7, .all [(8, .all [(9, .done)])])])])])]), (5, .all [(2, .all [(3, .all [(6, .all [(7, .all [(8, .all [(9, .done)])])])]), (6, .all [(3, .all [(7, .all [(8, .all [(9, .done)])])])])]), (6, .all [(2, .all [(3, .all [(7, .all [(8, .all [(9, .done)])])])])])])]), (5, .all [(2, .all [(3, .all [(4, .all [(6, .all [(7, .all [(8, .all [(9, .done)])])])]), (6, .all [(4, .all [(7, .all [(8, .all [(9, .done)])])])])]), (4, .all [(3, .all [(6, .all [(7, .all [(8, .all [(9, .done)])])])]), (6, .all [(3, .all [(7, .all [(8, .all [(9, .done)])])])])]), (6, .all [(3, .all [(4, .all [(7, .all [(8, .all [(9, .done)])])])]), (4, .all [(3, .all [(7, .all [(8, .all [(9, .done)])])])])])]), (4, .all [(2, .all [(3, .all [(6, .all [(7, .all [(8, .all [(9, .done)])])])]), (6, .all [(3, .all [(7, .all [(8, .all [(9, .done)])])])])]), (6, .all [(2, .all [(3, .all [(7, .all [(8, .all [(9, .done)])])])])])]), (6, .all [(2, .all [(3, .all [(4, .all [(7, .all [(8, .all [(9, .done)])])])]), (4, .all [(3, .all [(7, .all [(8, .all [(9, .done)])])])])]), (4, .all [(2, .all [(3, .all [(7, .all [(8, .all [(9, .done)])])])])])])])]), (2, .all [(0, .all [(3, .all [(4, .all [(5, .all [(6, .all [(7, .all [(8, .all [(9, .done)])])])])]), (5, .all [(4, .all [(6, .all [(7, .all [(8, .all [(9, .done)])])])]), (6, .all [(4, .all [(7, .all [(8, .all [(9, .done)])])])])])]), (4, .all [(3, .all [(5, .all [(6, .all [(7, .all [(8, .all [(9, .done)])])])])]), (5, .all [(3, .all [(6, .all [(7, .all [(8, .all [(9, .done)])])])]), (6, .all [(3, .all [(7, .all [(8, .all [(9, .done)])])])])])]), (5, .all [(3, .all [(4, .all [(6, .all [(7, .all [(8, .all [(9, .done)])])])]), (6, .all [(4, .all [(7, .all [(8, .all [(9, .done)])])])])]), (4, .all [(3, .all [(6, .all [(7, .all [(8, .all [(9, .done)])])])]), (6, .all [(3, .all [(7, .all [(8, .all [(9, .done)])])])])]), (6, .all [(3, .all [(4, .all [(7, .all [(8, .all [(9, .done)])])])]), (4, .all [(3, .all [(7, .all [(8, .all [(9, .done)])])])])])])]), (4, .all [(0, .all [(3, .all [(5, .all [(6, .all [(7, .all [(8, .all [(9, .done)])])])])]), (5, .all [(3, .all [(6, .all [(7, .all [(8, .all [(9, .done)])])])]), (6, .all [(3, .all [(7, .all [(8, .all [(9, .done)])])])])])]), (5, .all [(0, .all [(3, .all [(6, .all [(7, .all [(8, .all [(9, .done)])])])]), (6, .all [(3, .all [(7, .all [(8, .all [(9, .done)])])])])]), (6, .all [(0, .all [(3, .all [(7, .all [(8, .all [(9, .done)])])])])])])]), (5, .all [(0, .all [(3, .all [(4, .all [(6, .all [(7, .all [(8, .all [(9, .done)])])])]), (6, .all [(4, .all [(7, .all [(8, .all [(9, .done)])])])])]), (4, .all [(3, .all [(6, .all [(7, .all [(8, .all [(9, .done)])])])]), (6, .all [(3, .all [(7, .all [(8, .all [(9, .done)])])])])]), (6, .all [(3, .all [(4, .all [(7, .all [(8, .all [(9, .done)])])])]), (4, .all [(3, .all [(7, .all [(8, .all [(9, .done)])])])])])]), (4, .all [(0, .all [(3, .all [(6, .all [(7, .all [(8, .all [(9, .done)])])])]), (6, .all [(3, .all [(7, .all [(8, .all [(9, .done)])])])])]), (6, .all [(0, .all [(3, .all [(7, .all [(8, .all [(9, .done)])])])])])]), (6, .all [(0, .all [(3, .all [(4, .all [(7, .all [(8, .all [(9, .done)])])])]), (4, .all [(3, .all [(7, .all [(8, .all [(9, .done)])])])])]), (4, .all [(0, .all [(3, .all [(7, .all [(8, .all [(9, .done)])])])])])])])]), (4, .all [(0, .all [(2, .all [(3, .all [(5, .all [(6, .all [(7, .all [(8, .all [(9, .done)])])])])]), (5, .all [(3, .all [(6, .all [(7, .all [(8, .all [(9, .done)])])])]), (6, .all [(3, .all [(7, .all [(8, .all [(9, .done)])])])])])]), (5, .all [(2, .all [(3, .all [(6, .all [(7, .all [(8, .all [(9, .done)])])])]), (6, .all [(3, .all [(7, .all [(8, .all [(9, .done)])])])])]), (6, .all [(2, .all [(3, .all [(7, .all [(8, .all [(9, .done)])])])])])])]), (2, .all [(0, .all [(3, .all [(5, .all [(6, .all [(7, .all [(8, .all [(9, .done)])])])])]), (5, .all [(3, .all [(6, .all [(7, .all [(8, .all [(9, .done)])])])]), (6, .all [(3, .all [(7, .all [(8, .all [(9, .done)])])])])])]), (5, .all [(0, .all [(3, .all [(6, .all [(7, .all [(8, .all [(9, .done)])])])]), (6, .all [(3, .all [(7, .all [(8, .all [(9, .done)])])])])]), (6, .all [(0, .all [(3, .all [(7, .all [(8, .all [(9, .done)])])])])])])]), (5, .all [(0, .all [(2, .all [(3, .all [(6, .all [(7, .all [(8, .all [(9, .done)])])])]), (6, .all [(3, .all [(7, .all [(8, .all [(9, .done)])])])])]), (6, .all [(2, .all [(3, .all [(7, .all [(8, .all [(9, .done)])])])])])]), (2, .all [(0, .all [(3, .all [(6, .all [(7, .all [(8, .all [(9, .done)])])])]), (6, .all [(3, .all [(7, .all [(8, .all [(9, .done)])])])])]), (6, .all [(0, .all [(3, .all [(7, .all [(8, .all [(9, .done)])])])])])]), (6, .all [(0, .all [(2, .all [(3, .all [(7, .all [(8, .all [(9, .done)])])])])]), (2, .all [(0, .all [(3, .all [(7, .all [(8, .all [(9, .done)])])])])])])])]), (5, .all [(0, .all [(2, .all [(3, .all [(4, .all [(6, .all [(7, .all [(8, .all [(9, .done)])])])]), (6, .all [(4, .all [(7, .all [(8, .all [(9, .done)])])])])]), (4, .all [(3, .all [(6, .all [(7, .all [(8, .all [(9, .done)])])])]), (6, .all [(3, .all [(7, .all [(8, .all [(9, .done)])])])])]), (6, .all [(3, .all [(4, .all [(7, .all [(8, .all [(9, .done)])])])]), (4, .all [(3, .all [(7, .all [(8, .all [(9, .done)])])])])])]), (4, .all [(2, .all [(3, .all [(6, .all [(7, .all [(8, .all [(9, .done)])])])]), (6, .all [(3, .all [(7, .all [(8, .all [(9, .done)])])])])]), (6, .all [(2, .all [(3, .all [(7, .all [(8, .all [(9, .done)])])])])])]), (6, .all [(2, .all [(3, .all [(4, .all [(7, .all [(8, .all [(9, .done)])])])]), (4, .all [(3, .all [(7, .all [(8, .all [(9, .done)])])])])]), (4, .all [(2, .all [(3, .all [(7, .all [(8, .all [(9, .done)])])])])])])]), (2, .all [(0, .all [(3, .all [(4, .all [(6, .all [(7, .all [(8, .all [(9, .done)])])])]), (6, .all [(4, .all [(7, .all [(8, .all [(9, .done)])])])])]), (4, .all [(3, .all [(6, .all [(7, .all [(8, .all [(9, .done)])])])]), (6, .all [(3, .all [(7, .all [(8, .all [(9, .done)])])])])]), (6, .all [(3, .all [(4, .all [(7, .all [(8, .all [(9, .done)])])])]), (4, .all [(3, .all [(7, .all [(8, .all [(9, .done)])])])])])]), (4, .all [(0, .all [(3, .all [(6, .all [(7, .all [(8, .all [(9, .done)])])])]), (6, .all [(3, .all [(7, .all [(8, .all [(9, .done)])])])])]), (6, .all [(0, .all [(3, .all [(7, .all [(8, .all [(9, .done)])])])])])]), (6, .all [(0, .all [(3, .all [(4, .all [(7, .all [(8, .all [(9, .done)])])])]), (4, .all [(3, .all [(7, .all [(8, .all [(9, .done)])])])])]), (4, .all [(0, .all [(3, .all [(7, .all [(8, .all [(9, .done)])])])])])])]), (4, .all [(0, .all [(2, .all [(3, .all [(6, .all [(7, .all [(8, .all [(9, .done)])])])]), (6, .all [(3, .all [(7, .all [(8, .all [(9, .done)])])])])]), (6, .all [(2, .all [(3, .all [(7, .all [(8, .all [(9, .done)])])])])])]), (2, .all [(0, .all [(3, .all [(6, .all [(7, .all [(8, .all [(9, .done)])])])]), (6, .all [(3, .all [(7, .all [(8, .all [(9, .done)])])])])]), (6, .all [(0, .all [(3, .all [(7, .all [(8, .all [(9, .done)])])])])])]), (6, .all [(0, .all [(2, .all [(3, .all [(7, .all [(8, .all [(9, .done)])])])])]), (2, .all [(0, .all [(3, .all [(7, .all [(8, .all [(9, .done)])])])])])])]), (6, .all [(0, .all [(2, .all [(3, .all [(4, .all [(7, .all [(8, .all [(9, .done)])])])]), (4, .all [(3, .all [(7, .all [(8, .all [(9, .done)])])])])]), (4, .all [(2, .all [(3, .all [(7, .all [(8, .all [(9, .done)])])])])])]), (2, .all [(0, .all [(3, .all [(4, .all [(7, .all [(8, .all [(9, .done)])])])]), (4, .all [(3, .all [(7, .all [(8, .all [(9, .done)])])])])]), (4, .all [(0, .all [(3, .all [(7, .all [(8, .all [(9, .done)])])])])])]), (4, .all [(0, .all [(2, .all [(3, .all [(7, .all [(8, .all [(9, .done)])])])])]), (2, .all [(0, .all [(3, .all [(7, .all [(8, .all [(9, .done)])])])])])])])])]), (4, .all [(0, .all [(1, .all [(2, .all [(3, .all [(5, .all [(6, .all [(7, .all [(8, .all [(9, .done)])])])])]), (5, .all [(3, .all [(6, .all [(7, .all [(8, .all [(9, .done)])])])]), (6, .all [(3, .all [(7, .all [(8, .all [(9, .done)])])])])])]), (5, .all [(2, .all [(3, .all [(6, .all [(7, .all [(8, .all [(9, .done)])])])]), (6, .all [(3, .all [(7, .all [(8, .all [(9, .done)])])])])]), (6, .all [(2, .all [(3, .all [(7, .all [(8, .all [(9, .done)])])])])])])]), (5, .all [(1, .all [(2, .all [(3, .all [(6, .all [(7, .all [(8, .all [(9, .done)])])])]), (6, .all [(3, .all [(7, .all [(8, .all [(9, .done)])])])])]), (6, .all [(2, .all [(3, .all [(7, .all [(8, .all [(9, .done)])])])])])]), (6, .all [(1, .all [(2, .all [(3, .all [(7, .all [(8, .all [(9, .done)])])])])])])])]), (1, .all [(0, .all [(2, .all [(3, .all [(5, .all [(6, .all [(7, .all [(8, .all [(9, .done)])])])])]), (5, .all [(3, .all [(6, .all [(7, .all [(8, .all [(9, .done)])])])]), (6, .all [(3, .all [(7, .all [(8, .all [(9, .done)])])])])])]), (5, .all [(2, .all [(3, .all [(6, .all [(7, .all [(8, .all [(9, .done)])])])]), (6, .all [(3, .all [(7, .all [(8, .all [(9, .done)])])])])]), (6, .all [(2, .all [(3, .all [(7, .all [(8, .all [(9, .done)])])])])])])]), (2, .all [(0, .all [(3, .all [(5, .all [(6, .all [(7, .all [(8, .all [(9, .done)])])])])]), (5, .all [(3, .all [(6, .all [(7, .all [(8, .all [(9, .done)])])])]), (6, .all [(3, .all [(7, .all [(8, .all [(9, .done)])])])])])]), (5, .all [(0, .all [(3, .all [(6, .all [(7, .all [(8, .all [(9, .done)])])])]), (6, .all [(3, .all [(7, .all [(8, .all [(9, .done)])])])])]), (6, .all [(0, .all [(3, .all [(7, .all [(8, .all [(9, .done)])])])])])])]), (5, .all [(0, .all [(2, .all [(3, .all [(6, .all [(7, .all [(8, .all [(9, .done)])])])]), (6, .all [(3, .all [(7, .all [(8, .all [(9, .done)])])])])]), (6, .all [(2, .all [(3, .all [(7, .all [(8, .all [(9, .done)])])])])])]), (2, .all [(0, .all [(3, .all [(6, .all [(7, .all [(8, .all [(9, .done)])])])]), (6, .all [(3, .all [(7, .all [(8, .all [(9, .done)])])])])]), (6, .all [(0, .all [(3, .all [(7, .all [(8, .all [(9, .done)])])])])])]), (6, .all [(0, .all [(2, .all [(3, .all [(7, .all [(8, .all [(9, .done)])])])])]), (2, .all [(0, .all [(3, .all [(7, .all [(8, .all [(9, .done)])])])])])])])]), (5, .all [(0, .all [(1, .all [(2, .all [(3, .all [(6, .all [(7, .all [(8, .all [(9, .done)])])])]), (6, .all [(3, .all [(7, .all [(8, .all [(9, .done)])])])])]), (6, .all [(2, .all [(3, .all [(7, .all [(8, .all [(9, .done)])])])])])]), (6, .all [(1, .all [(2, .all [(3, .all [(7, .all [(8, .all [(9, .done)])])])])])])]), (1, .all [(0, .all [(2, .all [(3, .all [(6, .all [(7, .all [(8, .all [(9, .done)])])])]), (6, .all [(3, .all [(7, .all [(8, .all [(9, .done)])])])])]), (6, .all [(2, .all [(3, .all [(7, .all [(8, .all [(9, .done)])])])])])]), (2, .all [(0, .all [(3, .all [(6, .all [(7, .all [(8, .all [(9, .done)])])])]), (6, .all [(3, .all [(7, .all [(8, .all [(9, .done)])])])])]), (6, .all [(0, .all [(3, .all [(7, .all [(8, .all [(9, .done)])])])])])]), (6, .all [(0, .all [(2, .all [(3, .all [(7, .all [(8, .all [(9, .done)])])])])]), (2, .all [(0, .all [(3, .all [(7, .all [(8, .all [(9, .done)])])])])])])]), (6, .all [(0, .all [(1, .all [(2, .all [(3, .all [(7, .all [(8, .all [(9, .done)])])])])])]), (1, .all [(0, .all [(2, .all [(3, .all [(7, .all [(8, .all [(9, .done)])])])])]), (2, .all [(0, .all [(3, .all [(7, .all [(8, .all [(9, .done)])])])])])])])])]), (5, .all [(0, .all [(1, .all [(2, .all [(3, .all [(4, .all [(6, .all [(7, .all [(8, .all [(9, .done)])])])]), (6, .all [(4, .all [(7, .all [(8, .all [(9, .done)])])])])]), (4, .all [(3, .all [(6, .all [(7, .all [(8, .all [(9, .done)])])])]), (6, .all [(3, .all [(7, .all [(8, .all [(9, .done)])])])])]), (6, .all [(3, .all [(4, .all [(7, .all [(8, .all [(9, .done)])])])]), (4, .all [(3, .all [(7, .all [(8, .all [(9, .done)])])])])])]), (4, .all [(2, .all [(3, .all [(6, .all [(7, .all [(8, .all [(9, .done)])])])]), (6, .all [(3, .all [(7, .all [(8, .all [(9, .done)])])])])]), (6, .all [(2, .all [(3, .all [(7, .all [(8, .all [(9, .done)])])])])])]), (6, .all [(2, .all [(3, .all [(4, .all [(7, .all [(8, .all [(9, .done)])])])]), (4, .all [(3, .all [(7, .all [(8, .all [(9, .done)])])])])]), (4, .all [(2, .all [(3, .all [(7, .all [(8, .all [(9, .done)])])])])])])]), (4, .all [(1, .all [(2, .all [(3, .all [(6, .all [(7, .all [(8, .all [(9, .done)])])])]), (6, .all [(3, .all [(7, .all [(8, .all [(9, .done)])])])])]), (6, .all [(2, .all [(3, .all [(7, .all [(8, .all [(9, .done)])])])])])]), (6, .all [(1, .all [(2, .all [(3, .all [(7, .all [(8, .all [(9, .done)])])])])])])]), (6, .all [(1, .all [(2, .all [(3, .all [(4, .all [(7, .all [(8, .all [(9, .done)])])])]), (4, .all [(3, .all [(7, .all [(8, .all [(9, .done)])])])])]), (4, .all [(2, .all [(3, .all [(7, .all [(8, .all [(9, .done)])])])])])]), (4, .all [(1, .all [(2, .all [(3, .all [(7, .all [(8, .all [(9, .done)])])])])])])])]), (1, .all [(0, .all [(2, .all [(3, .all [(4, .all [(6, .all [(7, .all [(8, .all [(9, .done)])])])]), (6, .all [(4, .all [(7, .all [(8, .all [(9, .done)])])])])]), (4, .all [(3, .all [(6, .all [(7, .all [(8, .all [(9, .done)])])])]), (6, .all [(3, .all [(7, .all [(8, .all [(9, .done)])])])])]), (6, .all [(3, .all [(4, .all [(7, .all [(8, .all [(9, .done)])])])]), (4, .all [(3, .all [(7, .all [(8, .all [(9, .done)])])])])])]), (4, .all [(2, .all [(3, .all [(6, .all [(7, .all [(8, .all [(9, .done)])])])]), (6, .all [(3, .all [(7, .all [(8, .all [(9, .done)])])])])]), (6, .all [(2, .all [(3, .all [(7, .all [(8, .all [(9, .done)])])])])])]), (6, .all [(2, .all [(3, .all [(4, .all [(7, .all [(8, .all [(9, .done)])])])]), (4, .all [(3, .all [(7, .all [(8, .all [(9, .done)])])])])]), (4, .all [(2, .all [(3, .all [(7, .all [(8, .all [(9, .done)])])])])])])]), (2, .all [(0, .all [(3, .all [(4, .all [(6, .all [(7, .all [(8, .all [(9, .done)])])])]), (6, .all [(4, .all [(7, .all [(8, .all [(9, .done)])])])])]), (4, .all [(3, .all [(6, .all [(7, .all [(8, .all [(9, .done)])])])]), (6, .all [(3, .all [(7, .all [(8, .all [(9, .done)])])])])]), (6, .all [(3, .all [(4, .all [(7, .all [(8, .all [(9, .done)])])])]), (4, .all [(3, .all [(7, .all [(8, .all [(9, .done)])])])])])]), (4, .all [(0, .all [(3, .all [(6, .all [(7, .all [(8, .all [(9, .done)])])])]), (6, .all [(3, .all [(7, .all [(8, .all [(9, .done)])])])])]), (6, .all [(0, .all [(3, .all [(7, .all [(8, .all [(9, .done)])])])])])]), (6, .all [(0, .all [(3, .all [(4, .all [(7, .all [(8, .all [(9, .done)])])])]), (4, .all [(3, .all [(7, .all [(8, .all [(9, .done)])])])])]), (4, .all [(0, .all [(3, .all [(7, .all [(8, .all [(9, .done)])])])])])])]), (4, .all [(0, .all [(2, .all [(3, .all [(6, .all [(7, .all [(8, .all [(9, .done)])])])]), (6, .all [(3, .all [(7, .all [(8, .all [(9, .done)])])])])]), (6, .all [(2, .all [(3, .all [(7, .all [(8, .all [(9, .done)])])])])])]), (2, .all [(0, .all [(3, .all [(6, .all [(7, .all [(8, .all [(9, .done)])])])]), (6, .all [(3, .all [(7, .all [(8, .all [(9, .done)])])])])]), (6, .all [(0, .all [(3, .all [(7, .all [(8, .all [(9, .done)])])])])])]), (6, .all [(0, .all [(2, .all [(3, .all [(7, .all [(8, .all [(9, .done)])])])])]), (2, .all [(0, .all [(3, .all [(7, .all [(8, .all [(9, .done)])])])])])])]), (6, .all [(0, .all [(2, .all [(3, .all [(4, .all [(7, .all [(8, .all [(9, .done)])])])]), (4, .all [(3, .all [(7, .all [(8, .all [(9, .done)])])])])]), (4, .all [(2, .all [(3, .all [(7, .all [(8, .all [(9, .done)])])])])])]), (2, .all [(0, .all [(3, .all [(4, .all [(7, .all [(8, .all [(9, .done)])])])]), (4, .all [(3, .all [(7, .all [(8, .all [(9, .done)])])])])]), (4, .all [(0, .all [(3, .all [(7, .all [(8, .all [(9, .done)])])])])])]), (4, .all [(0, .all [(2, .all [(3, .all [(7, .all [(8, .all [(9, .done)])])])])]), (2, .all [(0, .all [(3, .all [(7, .all [(8, .all [(9, .done)])])])])])])])]), (4, .all [(0, .all [(1, .all [(2, .all [(3, .all [(6, .all [(7, .all [(8, .all [(9, .done)])])])]), (6, .all [(3, .all [(7, .all [(8, .all [(9, .done)])])])])]), (6, .all [(2, .all [(3, .all [(7, .all [(8, .all [(9, .done)])])])])])]), (6, .all [(1, .all [(2, .all [(3, .all [(7, .all [(8, .all [(9, .done)])])])])])])]), (1, .all [(0, .all [(2, .all [(3, .all [(6, .all [(7, .all [(8, .all [(9, .done)])])])]), (6, .all [(3, .all [(7, .all [(8, .all [(9, .done)])])])])]), (6, .all [(2, .all [(3, .all [(7, .all [(8, .all [(9, .done)])])])])])]), (2, .all [(0, .all [(3, .all [(6, .all [(7, .all [(8, .all [(9, .done)])])])]), (6, .all [(3, .all [(7, .all [(8, .all [(9, .done)])])])])]), (6, .all [(0, .all [(3, .all [(7, .all [(8, .all [(9, .done)])])])])])]), (6, .all [(0, .all [(2, .all [(3, .all [(7, .all [(8, .all [(9, .done)])])])])]), (2, .all [(0, .all [(3, .all [(7, .all [(8, .all [(9, .done)])])])])])])]), (6, .all [(0, .all [(1, .all [(2, .all [(3, .all [(7, .all [(8, .all [(9, .done)])])])])])]), (1, .all [(0, .all [(2, .all [(3, .all [(7, .all [(8, .all [(9, .done)])])])])]), (2, .all [(0, .all [(3, .all [(7, .all [(8, .all [(9, .done)])])])])])])])]), (6, .all [(0, .all [(1, .all [(2, .all [(3, .all [(4, .all [(7, .all [(8, .all [(9, .done)])])])]), (4, .all [(3, .all [(7, .all [(8, .all [(9, .done)])])])])]), (4, .all [(2, .all [(3, .all [(7, .all [(8, .all [(9, .done)])])])])])]), (4, .all [(1, .all [(2, .all [(3, .all [(7, .all [(8, .all [(9, .done)])])])])])])]), (1, .all [(0, .all [(2, .all [(3, .all [(4, .all [(7, .all [(8, .all [(9, .done)])])])]), (4, .all [(3, .all [(7, .all [(8, .all [(9, .done)])])])])]), (4, .all [(2, .all [(3, .all [(7, .all [(8, .all [(9, .done)])])])])])]), (2, .all [(0, .all [(3, .all [(4, .all [(7, .all [(8, .all [(9, .done)])])])]), (4, .all [(3, .all [(7, .all [(8, .all [(9, .done)])])])])]), (4, .all [(0, .all [(3, .all [(7, .all [(8, .all [(9, .done)])])])])])]), (4, .all [(0, .all [(2, .all [(3, .all [(7, .all [(8, .all [(9, .done)])])])])]), (2, .all [(0, .all [(3, .all [(7, .all [(8, .all [(9, .done)])])])])])])]), (4, .all [(0, .all [(1, .all [(2, .all [(3, .all [(7, .all [(8, .all [(9, .done)])])])])])]), (1, .all [(0, .all [(2, .all [(3, .all [(7, .all [(8, .all [(9, .done)])])])])]), (2, .all [(0, .all [(3, .all [(7, .all [(8, .all [(9, .done)])])])])])])])])])])
def asm_Parse_1.k3 : LCode := .text [⟨some 25, .mv (.tmp 8), none⟩,
  ⟨some 26, .bin .eql .other (.tmp 25) (.cst (.int .i64 0)), none⟩,
  ⟨some 6, .mv (.tmp 26), none⟩]
def asm_Parse_1.k4 : LCode := .seq asm_Parse_1.k1 (.seq asm_Parse_1.k2 (.seq asm_Parse_1.k3 .ret))
/-- Function 24. -/
abbrev asm_Parse_1.no : Nat := 24
def asm_Parse_1.lc : LCode :=
 .seq (.text [⟨some 6, .mv (.cst (.bool false)), none⟩]) asm_Parse_1.k4
theorem asm_Parse_1.low : lowFn Tryd.prog 24 = some (27, asm_Parse_1.lc, [.tmp 6]) := by kernel_rfl

def ins_Parse.k1 : LCode := .text [⟨some 2, .alloc [.int .i64 0, .int .i64 0, .int .i64 0, .int .i64 0, .int .i64 0, .int .i64 0], none⟩,
  ⟨some 3, .mv (.cst (.int .i64 0)), none⟩]
def ins_Parse.k2 : LCode := .text [⟨some 11, .mv (.tmp 0), none⟩,
  ⟨some 12, .call (.cst (.fn (.func 41) [] [])) [.tmp 11], none⟩,
  ⟨some 4, .mv (.tmp 12), none⟩]
def ins_Parse.k3 : LCode := .text [⟨some 13, .load true 36 (.cst (.lptr (shapeTbl.flatMap fun p => [.str p.1, .str p.2]) 0)), none⟩,
  ⟨some 14, .mv (.cst (.int .i64 0)), none⟩]
def ins_Parse.k4 : LCode := .text [⟨some 15, .bin .lss .other (.tmp 14) (.cst (.int .i64 18)), none⟩]
def ins_Parse.k5 : LCode := .text [⟨some 16, .mv (.tmp 14), none⟩,
  ⟨some 17, .idxA 18 true 2 (.tmp 13) (.tmp 14), none⟩,
  ⟨some 6, .alloc [.str ⟨#[]⟩, .str ⟨#[]⟩], none⟩,
  ⟨some 5, .mv (.tmp 16), none⟩,
  ⟨none, .store 2 (.tmp 6) (.tmp 17), none⟩]
def ins_Parse.k6 : LCode := .any true [⟨some 18, .faddr 0 (.tmp 6), none⟩,
  ⟨some 19, .load false 1 (.tmp 18), none⟩,
  ⟨some 20, .mv (.tmp 4), none⟩,
  ⟨some 21, .iaddrS 1 (.tmp 20) (.cst (.int .i64 0)), none⟩,
  ⟨some 22, .load false 1 (.tmp 21), none⟩,
  ⟨some 23, .bin .neq .other (.tmp 19) (.tmp 22), none⟩,
  ⟨some 24, .mv (.tmp 23), none⟩,
  ⟨some 25, .faddr 1 (.tmp 6), some (24, false)⟩,
  ⟨some 26, .load false 1 (.tmp 25), some (24, false)⟩,
  ⟨some 27, .len .str (.tmp 26), some (24, false)⟩,
  ⟨some 28, .mv (.tmp 4), some (24, false)⟩,
  ⟨some 29, .len .slice (.tmp 28), some (24, false)⟩,
  ⟨some 30, .bin .sub .other (.tmp 29) (.cst (.int .i64 1)), some (24, false)⟩,
  ⟨some 31, .bin .neq .other (.tmp 27) (.tmp 30), some (24, false)⟩,
  ⟨some 32, .pick (.tmp 24) (.cst (.bool true)) (.tmp 31), none⟩] .no
def ins_Parse.k7 : LCode := .text [⟨some 33, .mv (.tmp 5), none⟩,
  ⟨some 34, .bin .add .other (.cst (.int .i64 1)) (.tmp 33), none⟩,
  ⟨some 35, .build [.int .i64 0, .int .i64 0, .int .i64 0, .int .i64 0, .int .i64 0, .int .i64 0] [(0, 1, .tmp 34)], none⟩,
  ⟨some 7, .alloc [.int .i64 0, .int .i64 0, .int .i64 0, .int .i64 0, .int .i64 0, .int .i64 0], none⟩,
  ⟨none, .store 6 (.tmp 7) (.tmp 35), none⟩]
def ins_Parse.k8 : LCode := .text [⟨some 36, .faddr 1 (.tmp 6), none⟩,
  ⟨some 37, .load false 1 (.tmp 36), none⟩,
  ⟨some 38, .range (.tmp 37), none⟩]
def ins_Parse.k9 : LCode := .text [⟨some 39, .next (.tmp 38), none⟩,
  ⟨some 40, .extract (.tmp 39) 0, none⟩]
def ins_Parse.k10 : LCode := .text [⟨some 41, .extract (.tmp 39) 1, none⟩,
  ⟨some 42, .extract (.tmp 39) 2, none⟩,
  ⟨some 8, .mv (.tmp 41), none⟩,
  ⟨some 9, .mv (.tmp 42), none⟩]
def ins_Parse.k11 : LCode := .text [⟨some 43, .mv (.tmp 9), none⟩,
  ⟨some 44, .mv (.tmp 4), none⟩,
  ⟨some 45, .mv (.tmp 8), none⟩,
  ⟨some 46, .bin .add .other (.tmp 45) (.cst (.int .i64 1)), none⟩,
  ⟨some 47, .iaddrS 1 (.tmp 44) (.tmp 46), none⟩,
  ⟨some 48, .load false 1 (.tmp 47), none⟩,
  ⟨some 49, .call (.cst (.fn (.func 42) [] [])) [.tmp 7, .tmp 43, .tmp 48], none⟩,
  ⟨some 10, .mv (.tmp 49), none⟩]
def ins_Parse.k12 : LCode := .text [⟨some 50, .mv (.tmp 10), none⟩,
  ⟨some 51, .bin .neq .other (.tmp 50) (.cst (.int .i64 0)), none⟩]
def ins_Parse.k13 : LCode := .text [⟨some 52, .build [.int .i64 0, .int .i64 0, .int .i64 0, .int .i64 0, .int .i64 0, .int .i64 0] [], none⟩,
  ⟨none, .store 6 (.tmp 2) (.tmp 52), none⟩,
  ⟨some 3, .mv (.cst (.int .i64 2)), none⟩]
def ins_Parse.k14 : LCode := .seq ins_Parse.k12 (.cond (.tmp 51) (.seq ins_Parse.k13 .ret) .skip)
def ins_Parse.k15 : LCode := .block 3 (.seq ins_Parse.k10 (.seq ins_Parse.k11 ins_Parse.k14))
def ins_Parse.k16 : LCode := .seq ins_Parse.k9 (.seq (.cond (.tmp 40) .skip (.exit 2)) ins_Parse.k15)
def ins_Parse.k17 : LCode := .text [⟨some 53, .load true 6 (.tmp 7), none⟩,
  ⟨some 54, .call (.cst (.fn (.func 20) [] [])) [.tmp 53, .cst (.int .i64 200)], none⟩,
  ⟨some 55, .bin .neq .other (.tmp 54) (.cst (.int .i64 0)), none⟩]
def ins_Parse.k18 : LCode := .text [⟨some 56, .load true 6 (.tmp 7), none⟩,
  ⟨none, .store 6 (.tmp 2) (.tmp 56), none⟩,
  ⟨some 3, .mv (.cst (.int .i64 0)), none⟩]
def ins_Parse.k19 : LCode := .seq (.seq ins_Parse.k17 (.cond (.tmp 55) (.exit 0) .skip)) (.seq ins_Parse.k18 .ret)
def ins_Parse.k20 : LCode := .seq (.seq ins_Parse.k8 (.block 2 (.loop ins_Parse.k16))) ins_Parse.k19
def ins_Parse.k21 : LCode := .seq (.seq ins_Parse.k6 (.cond (.tmp 32) (.exit 1) .skip)) (.seq ins_Parse.k7 ins_Parse.k20)
def ins_Parse.k22 : LCode := .text [⟨some 57, .bin .add .other (.tmp 14) (.cst (.int .i64 1)), none⟩,
  ⟨some 14, .mv (.tmp 57), none⟩]
def ins_Parse.k23 : LCode := .seq (.block 1 (.seq ins_Parse.k5 ins_Parse.k21)) ins_Parse.k22
def ins_Parse.k24 : LCode := .seq ins_Parse.k4 (.seq (.cond (.tmp 15) .skip (.exit 0)) ins_Parse.k23)
def ins_Parse.k25 : LCode := .text [⟨some 58, .build [.int .i64 0, .int .i64 0, .int .i64 0, .int .i64 0, .int .i64 0, .int .i64 0] [], none⟩,
  ⟨none, .store 6 (.tmp 2) (.tmp 58), none⟩,
  ⟨some 3, .mv (.cst (.int .i64 2)), none⟩]
def ins_Parse.k26 : LCode := .seq (.seq ins_Parse.k3 (.block 0 (.loop ins_Parse.k24))) (.seq ins_Parse.k25 .ret)
/-- Function 25. -/
abbrev ins_Parse.no : Nat := 25
def ins_Parse.lc : LCode :=
 .seq ins_Parse.k1 (.seq ins_Parse.k2 ins_Parse.k26)
theorem ins_Parse.low : lowFn Tryd.prog 25 = some (59, ins_Parse.lc, [.cell 2 true 6, .tmp 3]) := by kernel_rfl

def joineryref04_lines.k1 : LCode := .text [⟨some 6, .mv (.tmp 5), none⟩,
  ⟨some 7, .mv (.tmp 0), none⟩,
  ⟨some 8, .len .str (.tmp 7), none⟩,
  ⟨some 9, .bin .lss .other (.tmp 6) (.tmp 8), none⟩]
def joineryref04_lines.k2 : LCode := .text [⟨some 12, .mv (.tmp 0), none⟩,
  ⟨some 13, .mv (.tmp 5), none⟩,
  ⟨some 14, .idxS (.tmp 12) (.tmp 13), none⟩,
  ⟨some 15, .bin .eql .other (.tmp 14) (.cst (.int .u8 10)), none⟩]
def joineryref04_lines.k3 : LCode := .text [⟨some 16, .mv (.tmp 3), none⟩,
  ⟨some 17, .mv (.tmp 0), none⟩,
  ⟨some 18, .mv (.tmp 4), none⟩,
  ⟨some 19, .mv (.tmp 5), none⟩,
  ⟨some 20, .bin .add .other (.tmp 19) (.cst (.int .i64 1)), none⟩,
  ⟨some 21, .sliceS (.tmp 17) (some (.tmp 18)) (some (.tmp 20)), none⟩,
  ⟨some 22, .bslice 1 [.str ⟨#[]⟩] 1 [(0, .tmp 21)], none⟩,
  ⟨some 23, .append 1 16 (.tmp 16) (.tmp 22), none⟩,
  ⟨some 3, .mv (.tmp 23), none⟩]
def joineryref04_lines.k4 : LCode := .text [⟨some 24, .mv (.tmp 5), none⟩,
  ⟨some 25, .bin .add .other (.tmp 24) (.cst (.int .i64 1)), none⟩,
  ⟨some 4, .mv (.tmp 25), none⟩]
def joineryref04_lines.k5 : LCode := .cond (.tmp 15) (.seq joineryref04_lines.k3 joineryref04_lines.k4) .skip
def joineryref04_lines.k6 : LCode := .text [⟨some 10, .mv (.tmp 5), none⟩,
  ⟨some 11, .bin .add .other (.tmp 10) (.cst (.int .i64 1)), none⟩,
  ⟨some 5, .mv (.tmp 11), none⟩]
def joineryref04_lines.k7 : LCode := .seq (.block 1 (.seq joineryref04_lines.k2 joineryref04_lines.k5)) joineryref04_lines.k6
def joineryref04_lines.k8 : LCode := .seq (.seq joineryref04_lines.k1 (.cond (.tmp 9) .skip (.exit 0))) joineryref04_lines.k7
def joineryref04_lines.k9 : LCode := .seq (.text [⟨some 5, .mv (.cst (.int .i64 0)), none⟩]) (.block 0 (.loop joineryref04_lines.k8))
def joineryref04_lines.k10 : LCode := .text [⟨some 26, .mv (.tmp 4), none⟩,
  ⟨some 27, .mv (.tmp 0), none⟩,
  ⟨some 28, .len .str (.tmp 27), none⟩,
  ⟨some 29, .bin .lss .other (.tmp 26) (.tmp 28), none⟩]
def joineryref04_lines.k11 : LCode := .text [⟨some 30, .mv (.tmp 3), none⟩,
  ⟨some 31, .mv (.tmp 0), none⟩,
  ⟨some 32, .mv (.tmp 4), none⟩,
  ⟨some 33, .sliceS (.tmp 31) (some (.tmp 32)) none, none⟩,
  ⟨some 34, .bslice 1 [.str ⟨#[]⟩] 1 [(0, .tmp 33)], none⟩,
  ⟨some 35, .append 1 16 (.tmp 30) (.tmp 34), none⟩,
  ⟨some 3, .mv (.tmp 35), none⟩]
def joineryref04_lines.k12 : LCode := .seq joineryref04_lines.k10 (.cond (.tmp 29) joineryref04_lines.k11 .skip)
def joineryref04_lines.k13 : LCode := .text [⟨some 36, .mv (.tmp 3), none⟩,
  ⟨some 2, .mv (.tmp 36), none⟩]
def joineryref04_lines.k14 : LCode := .seq joineryref04_lines.k12 (.seq joineryref04_lines.k13 .ret)
def joineryref04_lines.k15 : LCode := .seq (.text [⟨some 4, .mv (.cst (.int .i64 0)), none⟩]) (.seq joineryref04_lines.k9 joineryref04_lines.k14)
def joineryref04_lines.k16 : LCode := .seq (.text [⟨some 3, .mv (.cst (.imm (.slice none 0 0))), none⟩]) joineryref04_lines.k15
/-- Function 26. -/
abbrev joineryref04_lines.no : Nat := 26
def joineryref04_lines.lc : LCode :=
 .seq (.text [⟨some 2, .mv (.cst (.imm (.slice none 0 0))), none⟩]) joineryref04_lines.k16
theorem joineryref04_lines.low : lowFn Tryd.prog 26 = some (37, joineryref04_lines.lc, [.tmp 2]) := by kernel_rfl

def joineryref03_Parse.k1 : LCode := .text [⟨some 2, .alloc [.int .i64 0, .int .i64 0, .int .i64 0, .int .i64 0, .int .i64 0, .int .i64 0], none⟩,
  ⟨some 3, .mv (.cst (.bool false)), none⟩]
def joineryref03_Parse.k2 : LCode := .text [⟨some 13, .mv (.tmp 0), none⟩,
  ⟨some 14, .call (.cst (.fn (.func 43) [] [])) [.tmp 13], none⟩,
  ⟨some 4, .mv (.tmp 14), none⟩]
def joineryref03_Parse.k3 : LCode := .text [⟨some 15, .mv (.tmp 5), none⟩,
  ⟨some 16, .bin .leq .other (.tmp 15) (.cst (.int .i64 18)), none⟩]
def joineryref03_Parse.k4 : LCode := .seq joineryref03_Parse.k3 (.cond (.tmp 16) .skip (.exit 0))
def joineryref03_Parse.k5 : LCode := .any true [⟨some 19, .mv (.tmp 5), none⟩,
  ⟨some 20, .call (.cst (.fn (.func 40) [] [])) [.tmp 19], none⟩,
  ⟨some 21, .mv (.tmp 4), none⟩,
  ⟨some 22, .iaddrS 1 (.tmp 21) (.cst (.int .i64 0)), none⟩,
  ⟨some 23, .load false 1 (.tmp 22), none⟩,
  ⟨some 24, .bin .neq .other (.tmp 20) (.tmp 23), none⟩,
  ⟨some 25, .mv (.tmp 24), none⟩,
  ⟨some 26, .mv (.tmp 4), some (25, false)⟩,
  ⟨some 27, .len .slice (.tmp 26), some (25, false)⟩,
  ⟨some 28, .bin .gtr .other (.tmp 27) (.cst (.int .i64 4)), some (25, false)⟩,
  ⟨some 29, .pick (.tmp 25) (.cst (.bool true)) (.tmp 28), none⟩] (.take 0 (.take 2 (.take 3 (.all [(1, .all [(4, .take 5 (.take 6 (.take 7 (.take 8 (.take 9 (.take 10 .done))))))]), (4, .all [(1, .take 5 (.take 6 (.take 7 (.take 8 (.take 9 (.take 10 .done))))))])]))))
def joineryref03_Parse.k6 : LCode := .seq joineryref03_Parse.k5 (.cond (.tmp 29) (.exit 1) .skip)
def joineryref03_Parse.k7 : LCode := .text [⟨some 30, .mv (.tmp 5), none⟩,
  ⟨some 31, .build [.int .i64 0, .int .i64 0, .int .i64 0, .int .i64 0, .int .i64 0, .int .i64 0] [(0, 1, .tmp 30)], none⟩,
  ⟨some 6, .alloc [.int .i64 0, .int .i64 0, .int .i64 0, .int .i64 0, .int .i64 0, .int .i64 0], none⟩,
  ⟨none, .store 6 (.tmp 6) (.tmp 31), none⟩]
def joineryref03_Parse.k8 : LCode := .text [⟨some 32, .mv (.tmp 7), none⟩,
  ⟨some 33, .mv (.tmp 4), none⟩,
  ⟨some 34, .len .slice (.tmp 33), none⟩,
  ⟨some 35, .bin .lss .other (.tmp 32) (.tmp 34), none⟩]
def joineryref03_Parse.k9 : LCode := .seq joineryref03_Parse.k8 (.cond (.tmp 35) .skip (.exit 2))
def joineryref03_Parse.k10 : LCode := .text [⟨some 39, .mv (.tmp 4), none⟩,
  ⟨some 40, .mv (.tmp 7), none⟩,
  ⟨some 41, .iaddrS 1 (.tmp 39) (.tmp 40), none⟩,
  ⟨some 42, .load false 1 (.tmp 41), none⟩,
  ⟨some 43, .call (.cst (.fn (.func 44) [] [])) [.tmp 42], none⟩,
  ⟨some 38, .mv (.tmp 43), none⟩,
  ⟨some 44, .extract (.tmp 38) 0, none⟩,
  ⟨some 45, .extract (.tmp 38) 1, none⟩,
  ⟨some 8, .mv (.tmp 44), none⟩,
  ⟨some 9, .mv (.tmp 45), none⟩]
def joineryref03_Parse.k11 : LCode := .text [⟨some 47, .mv (.tmp 4), none⟩,
  ⟨some 48, .mv (.tmp 7), none⟩,
  ⟨some 49, .iaddrS 1 (.tmp 47) (.tmp 48), none⟩,
  ⟨some 50, .load false 1 (.tmp 49), none⟩,
  ⟨some 51, .call (.cst (.fn (.func 45) [] [])) [.tmp 50], none⟩,
  ⟨some 46, .mv (.tmp 51), none⟩,
  ⟨some 52, .extract (.tmp 46) 0, none⟩,
  ⟨some 53, .extract (.tmp 46) 1, none⟩,
  ⟨some 10, .mv (.tmp 52), none⟩,
  ⟨some 11, .mv (.tmp 53), none⟩]
def joineryref03_Parse.k12 : LCode := .text [⟨some 54, .mv (.tmp 7), none⟩,
  ⟨some 12, .mv (.tmp 54), none⟩]
def joineryref03_Parse.k13 : LCode := .text [⟨some 55, .mv (.tmp 5), none⟩,
  ⟨some 56, .bin .eql .other (.tmp 55) (.cst (.int .i64 14)), none⟩,
  ⟨some 57, .mv (.tmp 56), none⟩,
  ⟨some 58, .mv (.tmp 5), some (57, false)⟩,
  ⟨some 59, .bin .eql .other (.tmp 58) (.cst (.int .i64 17)), some (57, false)⟩,
  ⟨some 60, .pick (.tmp 57) (.cst (.bool true)) (.tmp 59), none⟩,
  ⟨some 61, .mv (.tmp 60), none⟩,
  ⟨some 62, .mv (.tmp 5), some (61, false)⟩,
  ⟨some 63, .bin .eql .other (.tmp 62) (.cst (.int .i64 18)), some (61, false)⟩,
  ⟨some 64, .pick (.tmp 61) (.cst (.bool true)) (.tmp 63), none⟩]
def joineryref03_Parse.k14 : LCode := .text [⟨some 65, .mv (.tmp 7), none⟩,
  ⟨some 66, .bin .add .other (.tmp 65) (.cst (.int .i64 1)), none⟩,
  ⟨some 12, .mv (.tmp 66), none⟩]
def joineryref03_Parse.k15 : LCode := .seq joineryref03_Parse.k13 (.cond (.tmp 64) joineryref03_Parse.k14 .skip)
def joineryref03_Parse.k16 : LCode := .text [⟨some 67, .mv (.tmp 9), none⟩,
  ⟨some 68, .mv (.tmp 67), none⟩,
  ⟨some 69, .mv (.tmp 12), some (68, true)⟩,
  ⟨some 70, .bin .eql .other (.tmp 69) (.cst (.int .i64 1)), some (68, true)⟩,
  ⟨some 71, .pick (.tmp 68) (.tmp 70) (.cst (.bool false)), none⟩]
def joineryref03_Parse.k17 : LCode := .text [⟨some 72, .mv (.tmp 8), none⟩,
  ⟨some 73, .faddr 1 (.tmp 6), none⟩,
  ⟨none, .store 1 (.tmp 73) (.tmp 72), none⟩]
def joineryref03_Parse.k18 : LCode := .text [⟨some 74, .mv (.tmp 9), none⟩,
  ⟨some 75, .mv (.tmp 74), none⟩,
  ⟨some 76, .mv (.tmp 12), some (75, true)⟩,
  ⟨some 77, .bin .eql .other (.tmp 76) (.cst (.int .i64 2)), some (75, true)⟩,
  ⟨some 78, .pick (.tmp 75) (.tmp 77) (.cst (.bool false)), none⟩]
def joineryref03_Parse.k19 : LCode := .text [⟨some 79, .mv (.tmp 8), none⟩,
  ⟨some 80, .faddr 2 (.tmp 6), none⟩,
  ⟨none, .store 1 (.tmp 80) (.tmp 79), none⟩]
def joineryref03_Parse.k20 : LCode := .text [⟨some 82, .mv (.tmp 8), none⟩,
  ⟨some 83, .faddr 3 (.tmp 6), none⟩,
  ⟨none, .store 1 (.tmp 83) (.tmp 82), none⟩]
def joineryref03_Parse.k21 : LCode := .text [⟨some 84, .mv (.tmp 11), none⟩,
  ⟨some 85, .mv (.tmp 84), none⟩,
  ⟨some 86, .mv (.tmp 5), some (85, true)⟩,
  ⟨some 87, .bin .eql .other (.tmp 86) (.cst (.int .i64 16)), some (85, true)⟩,
  ⟨some 88, .mv (.tmp 87), some (85, true)⟩,
  ⟨some 89, .mv (.tmp 5), some (88, false)⟩,
  ⟨some 90, .bin .eql .other (.tmp 89) (.cst (.int .i64 17)), some (88, false)⟩,
  ⟨some 91, .pick (.tmp 88) (.cst (.bool true)) (.tmp 90), some (85, true)⟩,
  ⟨some 92, .pick (.tmp 85) (.tmp 91) (.cst (.bool false)), none⟩]
def joineryref03_Parse.k22 : LCode := .text [⟨some 93, .mv (.tmp 10), none⟩,
  ⟨some 94, .faddr 5 (.tmp 6), none⟩,
  ⟨none, .store 1 (.tmp 94) (.tmp 93), none⟩]
def joineryref03_Parse.k23 : LCode := .text [⟨some 96, .mv (.tmp 10), none⟩,
  ⟨some 97, .faddr 4 (.tmp 6), none⟩,
  ⟨none, .store 1 (.tmp 97) (.tmp 96), none⟩]
def joineryref03_Parse.k24 : LCode := .seq (.text [⟨some 95, .mv (.tmp 11), none⟩]) (.cond (.tmp 95) joineryref03_Parse.k23 .skip)
def joineryref03_Parse.k25 : LCode := .cond (.tmp 92) joineryref03_Parse.k22 joineryref03_Parse.k24
def joineryref03_Parse.k26 : LCode := .cond (.tmp 81) joineryref03_Parse.k20 (.seq joineryref03_Parse.k21 joineryref03_Parse.k25)
def joineryref03_Parse.k27 : LCode := .seq (.text [⟨some 81, .mv (.tmp 9), none⟩]) joineryref03_Parse.k26
def joineryref03_Parse.k28 : LCode := .cond (.tmp 78) joineryref03_Parse.k19 joineryref03_Parse.k27
def joineryref03_Parse.k29 : LCode := .cond (.tmp 71) joineryref03_Parse.k17 (.seq joineryref03_Parse.k18 joineryref03_Parse.k28)
def joineryref03_Parse.k30 : LCode := .seq joineryref03_Parse.k15 (.seq joineryref03_Parse.k16 joineryref03_Parse.k29)
def joineryref03_Parse.k31 : LCode := .seq joineryref03_Parse.k11 (.seq joineryref03_Parse.k12 joineryref03_Parse.k30)
def joineryref03_Parse.k32 : LCode := .block 3 (.seq joineryref03_Parse.k10 joineryref03_Parse.k31)
def joineryref03_Parse.k33 : LCode := .text [⟨some 36, .mv (.tmp 7), none⟩,
  ⟨some 37, .bin .add .other (.tmp 36) (.cst (.int .i64 1)), none⟩,
  ⟨some 7, .mv (.tmp 37), none⟩]
def joineryref03_Parse.k34 : LCode := .seq joineryref03_Parse.k9 (.seq joineryref03_Parse.k32 joineryref03_Parse.k33)
def joineryref03_Parse.k35 : LCode := .seq (.text [⟨some 7, .mv (.cst (.int .i64 1)), none⟩]) (.block 2 (.loop joineryref03_Parse.k34))
def joineryref03_Parse.k36 : LCode := .text [⟨some 98, .load true 6 (.tmp 6), none⟩,
  ⟨some 99, .call (.cst (.fn (.func 21) [] [])) [.tmp 98, .cst (.int .i64 200)], none⟩,
  ⟨some 100, .bin .eql .other (.tmp 99) (.cst (.int .i64 0)), none⟩,
  ⟨some 101, .mv (.tmp 100), none⟩,
  ⟨some 102, .load true 6 (.tmp 6), some (101, true)⟩,
  ⟨some 103, .call (.cst (.fn (.func 23) [] [])) [.tmp 102], some (101, true)⟩,
  ⟨some 104, .mv (.tmp 0), some (101, true)⟩,
  ⟨some 105, .bin .eql .other (.tmp 103) (.tmp 104), some (101, true)⟩,
  ⟨some 106, .pick (.tmp 101) (.tmp 105) (.cst (.bool false)), none⟩]
def joineryref03_Parse.k37 : LCode := .text [⟨some 107, .load true 6 (.tmp 6), none⟩,
  ⟨none, .store 6 (.tmp 2) (.tmp 107), none⟩,
  ⟨some 3, .mv (.cst (.bool true)), none⟩]
def joineryref03_Parse.k38 : LCode := .seq joineryref03_Parse.k36 (.cond (.tmp 106) (.seq joineryref03_Parse.k37 .ret) .skip)
def joineryref03_Parse.k39 : LCode := .seq joineryref03_Parse.k7 (.seq joineryref03_Parse.k35 joineryref03_Parse.k38)
def joineryref03_Parse.k40 : LCode := .block 1 (.seq joineryref03_Parse.k6 joineryref03_Parse.k39)
def joineryref03_Parse.k41 : LCode := .text [⟨some 17, .mv (.tmp 5), none⟩,
  ⟨some 18, .bin .add .other (.tmp 17) (.cst (.int .i64 1)), none⟩,
  ⟨some 5, .mv (.tmp 18), none⟩]
def joineryref03_Parse.k42 : LCode := .seq joineryref03_Parse.k4 (.seq joineryref03_Parse.k40 joineryref03_Parse.k41)
def joineryref03_Parse.k43 : LCode := .seq (.text [⟨some 5, .mv (.cst (.int .i64 1)), none⟩]) (.block 0 (.loop joineryref03_Parse.k42))
def joineryref03_Parse.k44 : LCode := .text [⟨some 108, .build [.int .i64 0, .int .i64 0, .int .i64 0, .int .i64 0, .int .i64 0, .int .i64 0] [], none⟩,
  ⟨none, .store 6 (.tmp 2) (.tmp 108), none⟩,
  ⟨some 3, .mv (.cst (.bool false)), none⟩]
def joineryref03_Parse.k45 : LCode := .seq joineryref03_Parse.k43 (.seq joineryref03_Parse.k44 .ret)
/-- Function 27. -/
abbrev joineryref03_Parse.no : Nat := 27
def joineryref03_Parse.lc : LCode :=
 .seq joineryref03_Parse.k1 (.seq joineryref03_Parse.k2 joineryref03_Parse.k45)
theorem joineryref03_Parse.low : lowFn Tryd.prog 27 = some (109, joineryref03_Parse.lc, [.cell 2 true 6, .tmp 3]) := by kernel_rfl

def ins_of.k1 : LCode := .text [⟨some 2, .alloc [.str ⟨#[]⟩, .str ⟨#[]⟩], none⟩,
  ⟨some 3, .mv (.cst (.bool false)), none⟩]
def ins_of.k2 : LCode := .text [⟨some 4, .mv (.tmp 0), none⟩,
  ⟨some 5, .bin .lss .other (.tmp 4) (.cst (.int .i64 1)), none⟩,
  ⟨some 6, .mv (.tmp 5), none⟩,
  ⟨some 7, .mv (.tmp 0), some (6, false)⟩,
  ⟨some 8, .bin .gtr .other (.tmp 7) (.cst (.int .i64 18)), some (6, false)⟩,
  ⟨some 9, .pick (.tmp 6) (.cst (.bool true)) (.tmp 8), none⟩]
def ins_of.k3 : LCode := .text [⟨some 10, .build [.str ⟨#[]⟩, .str ⟨#[]⟩] [], none⟩,
  ⟨none, .store 2 (.tmp 2) (.tmp 10), none⟩,
  ⟨some 3, .mv (.cst (.bool false)), none⟩]
def ins_of.k4 : LCode := .text [⟨some 11, .mv (.tmp 0), none⟩,
  ⟨some 12, .bin .sub .other (.tmp 11) (.cst (.int .i64 1)), none⟩,
  ⟨some 13, .iaddrA 18 2 (.cst (.lptr (shapeTbl.flatMap fun p => [.str p.1, .str p.2]) 0)) (.tmp 12), none⟩,
  ⟨some 14, .load true 2 (.tmp 13), none⟩,
  ⟨none, .store 2 (.tmp 2) (.tmp 14), none⟩,
  ⟨some 3, .mv (.cst (.bool true)), none⟩]
def ins_of.k5 : LCode := .seq (.seq ins_of.k2 (.cond (.tmp 9) (.seq ins_of.k3 .ret) .skip)) (.seq ins_of.k4 .ret)
/-- Function 28. -/
abbrev ins_of.no : Nat := 28
def ins_of.lc : LCode :=
 .seq ins_of.k1 ins_of.k5
theorem ins_of.low : lowFn Tryd.prog 28 = some (15, ins_of.lc, [.cell 2 true 2, .tmp 3]) := by kernel_rfl

def ins_rest.k1 : LCode := .text [⟨some 2, .box (.tmp 0), none⟩,
  ⟨some 3, .box (.tmp 1), none⟩,
  ⟨some 4, .alloc [.int .i64 0, .int .i64 0, .int .i64 0, .int .i64 0, .int .i64 0, .int .i64 0], none⟩]
def ins_rest.k2 : LCode := .text [⟨some 7, .faddr 0 (.tmp 2), none⟩,
  ⟨none, .store 1 (.tmp 7) (.cst (.int .i64 0)), none⟩]
def ins_rest.k3 : LCode := .text [⟨some 8, .faddr 1 (.tmp 3), none⟩,
  ⟨some 9, .load false 1 (.tmp 8), none⟩,
  ⟨some 10, .range (.tmp 9), none⟩]
def ins_rest.k4 : LCode := .text [⟨some 11, .next (.tmp 10), none⟩,
  ⟨some 12, .extract (.tmp 11) 0, none⟩]
def ins_rest.k5 : LCode := .text [⟨some 13, .extract (.tmp 11) 2, none⟩,
  ⟨some 6, .mv (.tmp 13), none⟩]
def ins_rest.k6 : LCode := .text [⟨some 19, .bin .eql .other (.tmp 14) (.cst (.int .i32 78)), none⟩,
  ⟨some 18, .mv (.tmp 19), none⟩]
def ins_rest.k7 : LCode := .text [⟨some 20, .faddr 4 (.tmp 2), none⟩,
  ⟨none, .store 1 (.tmp 20) (.cst (.int .i64 0)), none⟩]
def ins_rest.k8 : LCode := .text [⟨some 22, .bin .eql .other (.tmp 14) (.cst (.int .i32 84)), none⟩,
  ⟨some 21, .mv (.tmp 22), none⟩]
def ins_rest.k9 : LCode := .text [⟨some 23, .faddr 5 (.tmp 2), none⟩,
  ⟨none, .store 1 (.tmp 23) (.cst (.int .i64 0)), none⟩]
def ins_rest.k10 : LCode := .text [⟨some 15, .mv (.tmp 6), none⟩,
  ⟨some 16, .call (.cst (.fn (.func 31) [] [])) [.tmp 2, .tmp 15], none⟩,
  ⟨some 17, .nilc (.tmp 16), none⟩,
  ⟨none, .store 1 (.tmp 17) (.cst (.int .i64 0)), none⟩]
def ins_rest.k11 : LCode := .cond (.tmp 18) ins_rest.k7 (.seq ins_rest.k8 (.cond (.tmp 21) ins_rest.k9 ins_rest.k10))
def ins_rest.k12 : LCode := .seq (.text [⟨some 14, .mv (.tmp 6), none⟩]) (.block 2 (.seq ins_rest.k6 ins_rest.k11))
def ins_rest.k13 : LCode := .seq (.cond (.tmp 12) .skip (.exit 0)) (.block 1 (.seq ins_rest.k5 ins_rest.k12))
def ins_rest.k14 : LCode := .seq ins_rest.k3 (.block 0 (.loop (.seq ins_rest.k4 ins_rest.k13)))
def ins_rest.k15 : LCode := .text [⟨some 24, .load true 6 (.tmp 2), none⟩,
  ⟨none, .store 6 (.tmp 4) (.tmp 24), none⟩]
def ins_rest.k16 : LCode := .seq ins_rest.k2 (.seq ins_rest.k14 (.seq ins_rest.k15 .ret))
/-- Function 29. -/
abbrev ins_rest.no : Nat := 29
def ins_rest.lc : LCode :=
 .seq ins_rest.k1 ins_rest.k16
theorem ins_rest.low : lowFn Tryd.prog 29 = some (25, ins_rest.lc, [.cell 4 true 6]) := by kernel_rfl

def loc_Right.k1 : LCode := .text [⟨some 3, .mv (.tmp 0), none⟩,
  ⟨some 4, .bin .geq .other (.tmp 3) (.cst (.int .i64 0)), none⟩,
  ⟨some 5, .mv (.tmp 4), none⟩,
  ⟨some 6, .mv (.tmp 0), some (5, true)⟩,
  ⟨some 7, .bin .lss .other (.tmp 6) (.cst (.int .i64 24)), some (5, true)⟩,
  ⟨some 8, .pick (.tmp 5) (.tmp 7) (.cst (.bool false)), none⟩,
  ⟨some 2, .mv (.tmp 8), none⟩]
/-- Function 30. -/
abbrev loc_Right.no : Nat := 30
def loc_Right.lc : LCode :=
 .seq (.text [⟨some 2, .mv (.cst (.bool false)), none⟩]) (.seq loc_Right.k1 .ret)
theorem loc_Right.low : lowFn Tryd.prog 30 = some (9, loc_Right.lc, [.tmp 2]) := by kernel_rfl

def ins_field.k1 : LCode := .text [⟨some 7, .bin .eql .other (.tmp 5) (.cst (.int .i32 68)), none⟩,
  ⟨some 6, .mv (.tmp 7), none⟩]
def ins_field.k2 : LCode := .text [⟨some 8, .bin .eql .other (.tmp 5) (.cst (.int .i32 100)), none⟩,
  ⟨some 6, .mv (.tmp 8), none⟩]
def ins_field.k3 : LCode := .text [⟨some 9, .mv (.tmp 0), none⟩,
  ⟨some 10, .nilc (.tmp 9), none⟩,
  ⟨some 11, .faddr 1 (.tmp 10), none⟩,
  ⟨some 4, .mv (.tmp 11), none⟩]
def ins_field.k4 : LCode := .text [⟨some 13, .bin .eql .other (.tmp 5) (.cst (.int .i32 65)), none⟩,
  ⟨some 12, .mv (.tmp 13), none⟩]
def ins_field.k5 : LCode := .text [⟨some 14, .bin .eql .other (.tmp 5) (.cst (.int .i32 97)), none⟩,
  ⟨some 12, .mv (.tmp 14), none⟩]
def ins_field.k6 : LCode := .text [⟨some 15, .mv (.tmp 0), none⟩,
  ⟨some 16, .nilc (.tmp 15), none⟩,
  ⟨some 17, .faddr 2 (.tmp 16), none⟩,
  ⟨some 4, .mv (.tmp 17), none⟩]
def ins_field.k7 : LCode := .seq (.seq ins_field.k4 (.cond (.tmp 12) .skip ins_field.k5)) (.cond (.tmp 12) (.seq ins_field.k6 .ret) .skip)
def ins_field.k8 : LCode := .seq (.seq ins_field.k1 (.cond (.tmp 6) .skip ins_field.k2)) (.cond (.tmp 6) (.seq ins_field.k3 .ret) ins_field.k7)
def ins_field.k9 : LCode := .seq (.text [⟨some 5, .mv (.tmp 1), none⟩]) (.block 0 ins_field.k8)
def ins_field.k10 : LCode := .text [⟨some 18, .mv (.tmp 0), none⟩,
  ⟨some 19, .nilc (.tmp 18), none⟩,
  ⟨some 20, .faddr 3 (.tmp 19), none⟩,
  ⟨some 4, .mv (.tmp 20), none⟩]
/-- Function 31. -/
abbrev ins_field.no : Nat := 31
def ins_field.lc : LCode :=
 .seq (.text [⟨some 4, .mv (.cst (.imm (.pointer none))), none⟩]) (.seq ins_field.k9 (.seq ins_field.k10 .ret))
theorem ins_field.low : lowFn Tryd.prog 31 = some (21, ins_field.lc, [.tmp 4]) := by kernel_rfl

def loc_Reg.k1 : LCode := .text [⟨some 3, .mv (.tmp 0), none⟩,
  ⟨some 4, .bin .geq .other (.tmp 3) (.cst (.int .i64 0)), none⟩,
  ⟨some 5, .mv (.tmp 4), none⟩,
  ⟨some 6, .mv (.tmp 0), some (5, true)⟩,
  ⟨some 7, .bin .lss .other (.tmp 6) (.cst (.int .i64 8)), some (5, true)⟩,
  ⟨some 8, .pick (.tmp 5) (.tmp 7) (.cst (.bool false)), none⟩,
  ⟨some 2, .mv (.tmp 8), none⟩]
/-- Function 32. -/
abbrev loc_Reg.no : Nat := 32
def loc_Reg.lc : LCode :=
 .seq (.text [⟨some 2, .mv (.cst (.bool false)), none⟩]) (.seq loc_Reg.k1 .ret)
theorem loc_Reg.low : lowFn Tryd.prog 32 = some (9, loc_Reg.lc, [.tmp 2]) := by kernel_rfl

def joineryref03_only.k1 : LCode := .text [⟨some 1, .box (.tmp 0), none⟩,
  ⟨some 2, .alloc [.int .i64 0, .int .i64 0, .int .i64 0, .int .i64 0, .int .i64 0, .int .i64 0], none⟩]
def joineryref03_only.k2 : LCode := .text [⟨some 4, .faddr 0 (.tmp 1), none⟩,
  ⟨some 5, .load false 1 (.tmp 4), none⟩,
  ⟨some 6, .build [.int .i64 0, .int .i64 0, .int .i64 0, .int .i64 0, .int .i64 0, .int .i64 0] [(0, 1, .tmp 5)], none⟩,
  ⟨some 3, .alloc [.int .i64 0, .int .i64 0, .int .i64 0, .int .i64 0, .int .i64 0, .int .i64 0], none⟩,
  ⟨none, .store 6 (.tmp 3) (.tmp 6), none⟩]
def joineryref03_only.k3 : LCode := .text [⟨some 7, .faddr 0 (.tmp 1), none⟩,
  ⟨some 8, .load false 1 (.tmp 7), none⟩,
  ⟨some 9, .bin .eql .other (.tmp 8) (.cst (.int .i64 1)), none⟩,
  ⟨some 10, .mv (.tmp 9), none⟩,
  ⟨some 11, .faddr 0 (.tmp 1), some (10, false)⟩,
  ⟨some 12, .load false 1 (.tmp 11), some (10, false)⟩,
  ⟨some 13, .bin .eql .other (.tmp 12) (.cst (.int .i64 15)), some (10, false)⟩,
  ⟨some 14, .pick (.tmp 10) (.cst (.bool true)) (.tmp 13), none⟩]
def joineryref03_only.k4 : LCode := .text [⟨some 15, .faddr 4 (.tmp 1), none⟩,
  ⟨some 16, .load false 1 (.tmp 15), none⟩,
  ⟨some 17, .faddr 4 (.tmp 3), none⟩,
  ⟨none, .store 1 (.tmp 17) (.tmp 16), none⟩]
def joineryref03_only.k5 : LCode := .seq joineryref03_only.k3 (.cond (.tmp 14) joineryref03_only.k4 .skip)
def joineryref03_only.k6 : LCode := .text [⟨some 18, .faddr 0 (.tmp 1), none⟩,
  ⟨some 19, .load false 1 (.tmp 18), none⟩,
  ⟨some 20, .bin .eql .other (.tmp 19) (.cst (.int .i64 16)), none⟩,
  ⟨some 21, .mv (.tmp 20), none⟩,
  ⟨some 22, .faddr 0 (.tmp 1), some (21, false)⟩,
  ⟨some 23, .load false 1 (.tmp 22), some (21, false)⟩,
  ⟨some 24, .bin .eql .other (.tmp 23) (.cst (.int .i64 17)), some (21, false)⟩,
  ⟨some 25, .pick (.tmp 21) (.cst (.bool true)) (.tmp 24), none⟩]
def joineryref03_only.k7 : LCode := .text [⟨some 26, .faddr 5 (.tmp 1), none⟩,
  ⟨some 27, .load false 1 (.tmp 26), none⟩,
  ⟨some 28, .faddr 5 (.tmp 3), none⟩,
  ⟨none, .store 1 (.tmp 28) (.tmp 27), none⟩]
def joineryref03_only.k8 : LCode := .seq joineryref03_only.k6 (.cond (.tmp 25) joineryref03_only.k7 .skip)
def joineryref03_only.k9 : LCode := .text [⟨some 29, .faddr 0 (.tmp 1), none⟩,
  ⟨some 30, .load false 1 (.tmp 29), none⟩,
  ⟨some 31, .bin .leq .other (.tmp 30) (.cst (.int .i64 13)), none⟩,
  ⟨some 32, .mv (.tmp 31), none⟩,
  ⟨some 33, .faddr 0 (.tmp 1), some (32, false)⟩,
  ⟨some 34, .load false 1 (.tmp 33), some (32, false)⟩,
  ⟨some 35, .bin .eql .other (.tmp 34) (.cst (.int .i64 15)), some (32, false)⟩,
  ⟨some 36, .pick (.tmp 32) (.cst (.bool true)) (.tmp 35), none⟩]
def joineryref03_only.k10 : LCode := .text [⟨some 37, .faddr 1 (.tmp 1), none⟩,
  ⟨some 38, .load false 1 (.tmp 37), none⟩,
  ⟨some 39, .faddr 1 (.tmp 3), none⟩,
  ⟨none, .store 1 (.tmp 39) (.tmp 38), none⟩]
def joineryref03_only.k11 : LCode := .seq joineryref03_only.k9 (.cond (.tmp 36) joineryref03_only.k10 .skip)
def joineryref03_only.k12 : LCode := .text [⟨some 40, .faddr 0 (.tmp 1), none⟩,
  ⟨some 41, .load false 1 (.tmp 40), none⟩,
  ⟨some 42, .bin .neq .other (.tmp 41) (.cst (.int .i64 1)), none⟩,
  ⟨some 43, .mv (.tmp 42), none⟩,
  ⟨some 44, .faddr 0 (.tmp 1), some (43, true)⟩,
  ⟨some 45, .load false 1 (.tmp 44), some (43, true)⟩,
  ⟨some 46, .bin .neq .other (.tmp 45) (.cst (.int .i64 16)), some (43, true)⟩,
  ⟨some 47, .pick (.tmp 43) (.tmp 46) (.cst (.bool false)), none⟩]
def joineryref03_only.k13 : LCode := .text [⟨some 48, .faddr 2 (.tmp 1), none⟩,
  ⟨some 49, .load false 1 (.tmp 48), none⟩,
  ⟨some 50, .faddr 2 (.tmp 3), none⟩,
  ⟨none, .store 1 (.tmp 50) (.tmp 49), none⟩]
def joineryref03_only.k14 : LCode := .seq joineryref03_only.k12 (.cond (.tmp 47) joineryref03_only.k13 .skip)
def joineryref03_only.k15 : LCode := .text [⟨some 51, .faddr 0 (.tmp 1), none⟩,
  ⟨some 52, .load false 1 (.tmp 51), none⟩,
  ⟨some 53, .bin .geq .other (.tmp 52) (.cst (.int .i64 4)), none⟩,
  ⟨some 54, .mv (.tmp 53), none⟩,
  ⟨some 55, .faddr 0 (.tmp 1), some (54, true)⟩,
  ⟨some 56, .load false 1 (.tmp 55), some (54, true)⟩,
  ⟨some 57, .bin .leq .other (.tmp 56) (.cst (.int .i64 12)), some (54, true)⟩,
  ⟨some 58, .pick (.tmp 54) (.tmp 57) (.cst (.bool false)), none⟩,
  ⟨some 59, .mv (.tmp 58), none⟩,
  ⟨some 60, .faddr 0 (.tmp 1), some (59, false)⟩,
  ⟨some 61, .load false 1 (.tmp 60), some (59, false)⟩,
  ⟨some 62, .bin .eql .other (.tmp 61) (.cst (.int .i64 14)), some (59, false)⟩,
  ⟨some 63, .pick (.tmp 59) (.cst (.bool true)) (.tmp 62), none⟩]
def joineryref03_only.k16 : LCode := .text [⟨some 64, .faddr 3 (.tmp 1), none⟩,
  ⟨some 65, .load false 1 (.tmp 64), none⟩,
  ⟨some 66, .faddr 3 (.tmp 3), none⟩,
  ⟨none, .store 1 (.tmp 66) (.tmp 65), none⟩]
def joineryref03_only.k17 : LCode := .seq joineryref03_only.k15 (.cond (.tmp 63) joineryref03_only.k16 .skip)
def joineryref03_only.k18 : LCode := .text [⟨some 67, .load true 6 (.tmp 3), none⟩,
  ⟨none, .store 6 (.tmp 2) (.tmp 67), none⟩]
def joineryref03_only.k19 : LCode := .seq joineryref03_only.k17 (.seq joineryref03_only.k18 .ret)
def joineryref03_only.k20 : LCode := .seq joineryref03_only.k11 (.seq joineryref03_only.k14 joineryref03_only.k19)
def joineryref03_only.k21 : LCode := .seq joineryref03_only.k5 (.seq joineryref03_only.k8 joineryref03_only.k20)
/-- Function 33. -/
abbrev joineryref03_only.no : Nat := 33
def joineryref03_only.lc : LCode :=
 .seq joineryref03_only.k1 (.seq joineryref03_only.k2 joineryref03_only.k21)
theorem joineryref03_only.low : lowFn Tryd.prog 33 = some (68, joineryref03_only.lc, [.cell 2 true 6]) := by kernel_rfl

def joineryref03_place.k1 : LCode := .text [⟨some 3, .mv (.tmp 0), none⟩,
  ⟨some 4, .bin .geq .other (.tmp 3) (.cst (.int .i64 0)), none⟩,
  ⟨some 5, .mv (.tmp 4), none⟩,
  ⟨some 6, .mv (.tmp 0), some (5, true)⟩,
  ⟨some 7, .bin .lss .other (.tmp 6) (.cst (.int .i64 24)), some (5, true)⟩,
  ⟨some 8, .pick (.tmp 5) (.tmp 7) (.cst (.bool false)), none⟩,
  ⟨some 2, .mv (.tmp 8), none⟩]
/-- Function 34. -/
abbrev joineryref03_place.no : Nat := 34
def joineryref03_place.lc : LCode :=
 .seq (.text [⟨some 2, .mv (.cst (.bool false)), none⟩]) (.seq joineryref03_place.k1 .ret)
theorem joineryref03_place.low : lowFn Tryd.prog 34 = some (9, joineryref03_place.lc, [.tmp 2]) := by kernel_rfl

def joineryref03_reg.k1 : LCode := .text [⟨some 3, .mv (.tmp 0), none⟩,
  ⟨some 4, .bin .geq .other (.tmp 3) (.cst (.int .i64 0)), none⟩,
  ⟨some 5, .mv (.tmp 4), none⟩,
  ⟨some 6, .mv (.tmp 0), some (5, true)⟩,
  ⟨some 7, .bin .lss .other (.tmp 6) (.cst (.int .i64 8)), some (5, true)⟩,
  ⟨some 8, .pick (.tmp 5) (.tmp 7) (.cst (.bool false)), none⟩,
  ⟨some 2, .mv (.tmp 8), none⟩]
/-- Function 35. -/
abbrev joineryref03_reg.no : Nat := 35
def joineryref03_reg.lc : LCode :=
 .seq (.text [⟨some 2, .mv (.cst (.bool false)), none⟩]) (.seq joineryref03_reg.k1 .ret)
theorem joineryref03_reg.low : lowFn Tryd.prog 35 = some (9, joineryref03_reg.lc, [.tmp 2]) := by kernel_rfl

def num_Text.k1 : LCode := .text [⟨some 9, .mv (.tmp 0), none⟩,
  ⟨some 10, .toInt .u64 (.tmp 9), none⟩,
  ⟨some 3, .mv (.tmp 10), none⟩]
def num_Text.k2 : LCode := .text [⟨some 11, .mv (.tmp 0), none⟩,
  ⟨some 12, .bin .lss .other (.tmp 11) (.cst (.int .i64 0)), none⟩]
def num_Text.k3 : LCode := .text [⟨some 13, .mv (.tmp 3), none⟩,
  ⟨some 14, .neg (.tmp 13), none⟩,
  ⟨some 3, .mv (.tmp 14), none⟩]
def num_Text.k4 : LCode := .seq (.text [⟨some 15, .mv (.tmp 5), none⟩]) (.cond (.tmp 15) .skip (.exit 0))
def num_Text.k5 : LCode := .text [⟨some 18, .mv (.tmp 4), none⟩,
  ⟨some 19, .mv (.tmp 3), none⟩,
  ⟨some 20, .bin .rem .other (.tmp 19) (.cst (.int .u64 10)), none⟩,
  ⟨some 21, .bin .add .other (.cst (.int .u64 48)) (.tmp 20), none⟩,
  ⟨some 22, .toInt .u8 (.tmp 21), none⟩,
  ⟨some 23, .bslice 1 [.int .u8 0] 1 [(0, .tmp 22)], none⟩,
  ⟨some 24, .append 1 1 (.tmp 18) (.tmp 23), none⟩,
  ⟨some 4, .mv (.tmp 24), none⟩]
def num_Text.k6 : LCode := .text [⟨some 25, .mv (.tmp 3), none⟩,
  ⟨some 26, .bin .quo .other (.tmp 25) (.cst (.int .u64 10)), none⟩,
  ⟨some 3, .mv (.tmp 26), none⟩]
def num_Text.k7 : LCode := .text [⟨some 16, .mv (.tmp 3), none⟩,
  ⟨some 17, .bin .gtr .other (.tmp 16) (.cst (.int .u64 0)), none⟩,
  ⟨some 5, .mv (.tmp 17), none⟩]
def num_Text.k8 : LCode := .seq num_Text.k4 (.seq (.block 1 (.seq num_Text.k5 num_Text.k6)) num_Text.k7)
def num_Text.k9 : LCode := .seq (.text [⟨some 5, .mv (.cst (.bool true)), none⟩]) (.block 0 (.loop num_Text.k8))
def num_Text.k10 : LCode := .text [⟨some 27, .mv (.tmp 0), none⟩,
  ⟨some 28, .bin .lss .other (.tmp 27) (.cst (.int .i64 0)), none⟩]
def num_Text.k11 : LCode := .text [⟨some 29, .mv (.tmp 4), none⟩,
  ⟨some 30, .bslice 1 [.int .u8 0] 1 [(0, .cst (.int .u8 45))], none⟩,
  ⟨some 31, .append 1 1 (.tmp 29) (.tmp 30), none⟩,
  ⟨some 4, .mv (.tmp 31), none⟩]
def num_Text.k12 : LCode := .text [⟨some 32, .mv (.tmp 4), none⟩,
  ⟨some 33, .len .slice (.tmp 32), none⟩,
  ⟨some 34, .mkSlice 1 1 [.int .u8 0] (.tmp 33) (.tmp 33), none⟩,
  ⟨some 6, .mv (.tmp 34), none⟩]
def num_Text.k13 : LCode := .text [⟨some 35, .mv (.tmp 4), none⟩,
  ⟨some 36, .len .slice (.tmp 35), none⟩,
  ⟨some 37, .mv (.cst (.int .i64 0)), none⟩]
def num_Text.k14 : LCode := .text [⟨some 38, .bin .lss .other (.tmp 37) (.tmp 36), none⟩]
def num_Text.k15 : LCode := .text [⟨some 39, .mv (.tmp 37), none⟩,
  ⟨some 40, .iaddrS 1 (.tmp 35) (.tmp 37), none⟩,
  ⟨some 41, .load false 1 (.tmp 40), none⟩,
  ⟨some 7, .mv (.tmp 39), none⟩,
  ⟨some 8, .mv (.tmp 41), none⟩]
def num_Text.k16 : LCode := .text [⟨some 42, .mv (.tmp 6), none⟩,
  ⟨some 43, .mv (.tmp 4), none⟩,
  ⟨some 44, .len .slice (.tmp 43), none⟩,
  ⟨some 45, .bin .sub .other (.tmp 44) (.cst (.int .i64 1)), none⟩,
  ⟨some 46, .mv (.tmp 7), none⟩,
  ⟨some 47, .bin .sub .other (.tmp 45) (.tmp 46), none⟩,
  ⟨some 48, .mv (.tmp 8), none⟩,
  ⟨some 49, .iaddrS 1 (.tmp 42) (.tmp 47), none⟩,
  ⟨none, .store 1 (.tmp 49) (.tmp 48), none⟩]
def num_Text.k17 : LCode := .text [⟨some 50, .bin .add .other (.tmp 37) (.cst (.int .i64 1)), none⟩,
  ⟨some 37, .mv (.tmp 50), none⟩]
def num_Text.k18 : LCode := .seq (.block 3 (.seq num_Text.k15 num_Text.k16)) num_Text.k17
def num_Text.k19 : LCode := .seq num_Text.k14 (.seq (.cond (.tmp 38) .skip (.exit 2)) num_Text.k18)
def num_Text.k20 : LCode := .text [⟨some 51, .mv (.tmp 6), none⟩,
  ⟨some 52, .toStr (.tmp 51), none⟩,
  ⟨some 2, .mv (.tmp 52), none⟩]
def num_Text.k21 : LCode := .seq (.seq num_Text.k13 (.block 2 (.loop num_Text.k19))) (.seq num_Text.k20 .ret)
def num_Text.k22 : LCode := .seq (.seq num_Text.k10 (.cond (.tmp 28) num_Text.k11 .skip)) (.seq num_Text.k12 num_Text.k21)
def num_Text.k23 : LCode := .seq (.seq num_Text.k2 (.cond (.tmp 12) num_Text.k3 .skip)) (.seq num_Text.k9 num_Text.k22)
def num_Text.k24 : LCode := .seq (.text [⟨some 4, .mv (.cst (.imm (.slice none 0 0))), none⟩]) num_Text.k23
/-- Function 36. -/
abbrev num_Text.no : Nat := 36
def num_Text.lc : LCode :=
 .seq (.text [⟨some 2, .mv (.cst (.str ⟨#[]⟩)), none⟩]) (.seq num_Text.k1 num_Text.k24)
theorem num_Text.low : lowFn Tryd.prog 36 = some (53, num_Text.lc, [.tmp 2]) := by kernel_rfl

def loc_Text.k1 : LCode := .text [⟨some 2, .mv (.cst (.str ⟨#[]⟩)), none⟩,
  ⟨some 3, .mv (.cst (.int .i64 0)), none⟩]
def loc_Text.k2 : LCode := .text [⟨some 5, .mv (.tmp 0), none⟩,
  ⟨some 6, .call (.cst (.fn (.func 30) [] [])) [.tmp 5], none⟩,
  ⟨some 7, .not (.tmp 6), none⟩]
def loc_Text.k3 : LCode := .text [⟨some 2, .mv (.cst (.str ⟨#[]⟩)), none⟩,
  ⟨some 3, .mv (.cst (.int .i64 1)), none⟩]
def loc_Text.k4 : LCode := .seq loc_Text.k2 (.cond (.tmp 7) (.seq loc_Text.k3 .ret) .skip)
def loc_Text.k5 : LCode := .text [⟨some 8, .bslice 1 [.int .u8 0] 1 [(0, .cst (.int .u8 114))], none⟩,
  ⟨some 4, .mv (.tmp 8), none⟩]
def loc_Text.k6 : LCode := .text [⟨some 9, .mv (.tmp 0), none⟩,
  ⟨some 10, .call (.cst (.fn (.func 32) [] [])) [.tmp 9], none⟩,
  ⟨some 11, .not (.tmp 10), none⟩]
def loc_Text.k7 : LCode := .text [⟨some 12, .bslice 1 [.int .u8 0] 1 [(0, .cst (.int .u8 115))], none⟩,
  ⟨some 13, .mv (.tmp 0), none⟩,
  ⟨some 14, .bin .sub .other (.tmp 13) (.cst (.int .i64 8)), none⟩,
  ⟨some 4, .mv (.tmp 12), none⟩,
  ⟨some 0, .mv (.tmp 14), none⟩]
def loc_Text.k8 : LCode := .text [⟨some 15, .mv (.tmp 0), none⟩,
  ⟨some 16, .bin .geq .other (.tmp 15) (.cst (.int .i64 10)), none⟩]
def loc_Text.k9 : LCode := .text [⟨some 17, .mv (.tmp 4), none⟩,
  ⟨some 18, .mv (.tmp 0), none⟩,
  ⟨some 19, .bin .quo .other (.tmp 18) (.cst (.int .i64 10)), none⟩,
  ⟨some 20, .bin .add .other (.cst (.int .i64 48)) (.tmp 19), none⟩,
  ⟨some 21, .toInt .u8 (.tmp 20), none⟩,
  ⟨some 22, .bslice 1 [.int .u8 0] 1 [(0, .tmp 21)], none⟩,
  ⟨some 23, .append 1 1 (.tmp 17) (.tmp 22), none⟩,
  ⟨some 4, .mv (.tmp 23), none⟩]
def loc_Text.k10 : LCode := .text [⟨some 24, .mv (.tmp 4), none⟩,
  ⟨some 25, .mv (.tmp 0), none⟩,
  ⟨some 26, .bin .rem .other (.tmp 25) (.cst (.int .i64 10)), none⟩,
  ⟨some 27, .bin .add .other (.cst (.int .i64 48)) (.tmp 26), none⟩,
  ⟨some 28, .toInt .u8 (.tmp 27), none⟩,
  ⟨some 29, .bslice 1 [.int .u8 0] 1 [(0, .tmp 28)], none⟩,
  ⟨some 30, .append 1 1 (.tmp 24) (.tmp 29), none⟩,
  ⟨some 31, .toStr (.tmp 30), none⟩,
  ⟨some 2, .mv (.tmp 31), none⟩,
  ⟨some 3, .mv (.cst (.int .i64 0)), none⟩]
def loc_Text.k11 : LCode := .seq (.seq loc_Text.k8 (.cond (.tmp 16) loc_Text.k9 .skip)) (.seq loc_Text.k10 .ret)
def loc_Text.k12 : LCode := .seq (.seq loc_Text.k6 (.cond (.tmp 11) loc_Text.k7 .skip)) loc_Text.k11
/-- Function 37. -/
abbrev loc_Text.no : Nat := 37
def loc_Text.lc : LCode :=
 .seq loc_Text.k1 (.seq loc_Text.k4 (.seq loc_Text.k5 loc_Text.k12))
theorem loc_Text.low : lowFn Tryd.prog 37 = some (32, loc_Text.lc, [.tmp 2, .tmp 3]) := by kernel_rfl

def joineryref02_Text.k1 : LCode := .text [⟨some 3, .mv (.tmp 0), none⟩,
  ⟨some 4, .bin .lss .other (.tmp 3) (.cst (.int .i64 8)), none⟩]
def joineryref02_Text.k2 : LCode := .text [⟨some 5, .mv (.tmp 0), none⟩,
  ⟨some 6, .call (.cst (.fn (.func 39) [] [])) [.tmp 5], none⟩,
  ⟨some 7, .bin .add .other (.cst (.str ⟨#[114]⟩)) (.tmp 6), none⟩,
  ⟨some 2, .mv (.tmp 7), none⟩]
def joineryref02_Text.k3 : LCode := .seq joineryref02_Text.k1 (.cond (.tmp 4) (.seq joineryref02_Text.k2 .ret) .skip)
def joineryref02_Text.k4 : LCode := .text [⟨some 8, .mv (.tmp 0), none⟩,
  ⟨some 9, .bin .sub .other (.tmp 8) (.cst (.int .i64 8)), none⟩,
  ⟨some 10, .call (.cst (.fn (.func 39) [] [])) [.tmp 9], none⟩,
  ⟨some 11, .bin .add .other (.cst (.str ⟨#[115]⟩)) (.tmp 10), none⟩,
  ⟨some 2, .mv (.tmp 11), none⟩]
/-- Function 38. -/
abbrev joineryref02_Text.no : Nat := 38
def joineryref02_Text.lc : LCode :=
 .seq (.text [⟨some 2, .mv (.cst (.str ⟨#[]⟩)), none⟩]) (.seq joineryref02_Text.k3 (.seq joineryref02_Text.k4 .ret))
theorem joineryref02_Text.low : lowFn Tryd.prog 38 = some (12, joineryref02_Text.lc, [.tmp 2]) := by kernel_rfl

def joineryref01_Text.k1 : LCode := .text [⟨some 3, .mv (.tmp 0), none⟩,
  ⟨some 4, .bin .lss .other (.tmp 3) (.cst (.int .i64 0)), none⟩]
def joineryref01_Text.k2 : LCode := .text [⟨some 5, .mv (.tmp 0), none⟩,
  ⟨some 6, .call (.cst (.fn (.func 46) [] [])) [.tmp 5], none⟩,
  ⟨some 7, .bin .add .other (.cst (.str ⟨#[45]⟩)) (.tmp 6), none⟩,
  ⟨some 2, .mv (.tmp 7), none⟩]
def joineryref01_Text.k3 : LCode := .seq joineryref01_Text.k1 (.cond (.tmp 4) (.seq joineryref01_Text.k2 .ret) .skip)
def joineryref01_Text.k4 : LCode := .text [⟨some 8, .mv (.tmp 0), none⟩,
  ⟨some 9, .bin .sub .other (.cst (.int .i64 0)) (.tmp 8), none⟩,
  ⟨some 10, .call (.cst (.fn (.func 46) [] [])) [.tmp 9], none⟩,
  ⟨some 2, .mv (.tmp 10), none⟩]
/-- Function 39. -/
abbrev joineryref01_Text.no : Nat := 39
def joineryref01_Text.lc : LCode :=
 .seq (.text [⟨some 2, .mv (.cst (.str ⟨#[]⟩)), none⟩]) (.seq joineryref01_Text.k3 (.seq joineryref01_Text.k4 .ret))
theorem joineryref01_Text.low : lowFn Tryd.prog 39 = some (11, joineryref01_Text.lc, [.tmp 2]) := by kernel_rfl

def joineryref03_word.k1 : LCode := .text [⟨some 4, .bslice 1 [.str ⟨#[]⟩] 18 [(0, .cst (.str ⟨#[99, 111, 110, 115, 116]⟩)), (1, .cst (.str ⟨#[109, 111, 118]⟩)), (2, .cst (.str ⟨#[115, 119, 97, 112]⟩)), (3, .cst (.str ⟨#[97, 100, 100]⟩)), (4, .cst (.str ⟨#[115, 117, 98]⟩)), (5, .cst (.str ⟨#[109, 117, 108]⟩)), (6, .cst (.str ⟨#[100, 105, 118]⟩)), (7, .cst (.str ⟨#[97, 110, 100]⟩)), (8, .cst (.str ⟨#[111, 114]⟩)), (9, .cst (.str ⟨#[120, 111, 114]⟩)), (10, .cst (.str ⟨#[108, 101, 115, 115]⟩)), (11, .cst (.str ⟨#[115, 97, 109, 101]⟩)), (12, .cst (.str ⟨#[108, 111, 97, 100]⟩)), (13, .cst (.str ⟨#[115, 116, 111, 114, 101]⟩)), (14, .cst (.str ⟨#[99, 97, 108, 108]⟩)), (15, .cst (.str ⟨#[106, 117, 109, 112]⟩)), (16, .cst (.str ⟨#[122, 101, 114, 111]⟩)), (17, .cst (.str ⟨#[114, 101, 116]⟩))], none⟩,
  ⟨some 3, .mv (.tmp 4), none⟩]
def joineryref03_word.k2 : LCode := .text [⟨some 5, .mv (.tmp 3), none⟩,
  ⟨some 6, .mv (.tmp 0), none⟩,
  ⟨some 7, .bin .sub .other (.tmp 6) (.cst (.int .i64 1)), none⟩,
  ⟨some 8, .iaddrS 1 (.tmp 5) (.tmp 7), none⟩,
  ⟨some 9, .load false 1 (.tmp 8), none⟩,
  ⟨some 2, .mv (.tmp 9), none⟩]
/-- Function 40. -/
abbrev joineryref03_word.no : Nat := 40
def joineryref03_word.lc : LCode :=
 .seq (.text [⟨some 2, .mv (.cst (.str ⟨#[]⟩)), none⟩]) (.seq joineryref03_word.k1 (.seq joineryref03_word.k2 .ret))
theorem joineryref03_word.low : lowFn Tryd.prog 40 = some (10, joineryref03_word.lc, [.tmp 2]) := by kernel_rfl

def ins_words.k1 : LCode := .text [⟨some 7, .mv (.tmp 0), none⟩,
  ⟨some 8, .range (.tmp 7), none⟩]
def ins_words.k2 : LCode := .text [⟨some 9, .next (.tmp 8), none⟩,
  ⟨some 10, .extract (.tmp 9) 0, none⟩]
def ins_words.k3 : LCode := .text [⟨some 11, .extract (.tmp 9) 1, none⟩,
  ⟨some 12, .extract (.tmp 9) 2, none⟩,
  ⟨some 5, .mv (.tmp 11), none⟩,
  ⟨some 6, .mv (.tmp 12), none⟩]
def ins_words.k4 : LCode := .text [⟨some 13, .mv (.tmp 6), none⟩,
  ⟨some 14, .bin .eql .other (.tmp 13) (.cst (.int .i32 32)), none⟩]
def ins_words.k5 : LCode := .text [⟨some 15, .mv (.tmp 3), none⟩,
  ⟨some 16, .mv (.tmp 0), none⟩,
  ⟨some 17, .mv (.tmp 4), none⟩,
  ⟨some 18, .mv (.tmp 5), none⟩,
  ⟨some 19, .sliceS (.tmp 16) (some (.tmp 17)) (some (.tmp 18)), none⟩,
  ⟨some 20, .bslice 1 [.str ⟨#[]⟩] 1 [(0, .tmp 19)], none⟩,
  ⟨some 21, .append 1 16 (.tmp 15) (.tmp 20), none⟩,
  ⟨some 3, .mv (.tmp 21), none⟩]
def ins_words.k6 : LCode := .text [⟨some 22, .mv (.tmp 5), none⟩,
  ⟨some 23, .bin .add .other (.tmp 22) (.cst (.int .i64 1)), none⟩,
  ⟨some 4, .mv (.tmp 23), none⟩]
def ins_words.k7 : LCode := .seq ins_words.k4 (.cond (.tmp 14) (.seq ins_words.k5 ins_words.k6) .skip)
def ins_words.k8 : LCode := .seq (.cond (.tmp 10) .skip (.exit 0)) (.block 1 (.seq ins_words.k3 ins_words.k7))
def ins_words.k9 : LCode := .seq ins_words.k1 (.block 0 (.loop (.seq ins_words.k2 ins_words.k8)))
def ins_words.k10 : LCode := .text [⟨some 24, .mv (.tmp 3), none⟩,
  ⟨some 25, .mv (.tmp 0), none⟩,
  ⟨some 26, .mv (.tmp 4), none⟩,
  ⟨some 27, .sliceS (.tmp 25) (some (.tmp 26)) none, none⟩,
  ⟨some 28, .bslice 1 [.str ⟨#[]⟩] 1 [(0, .tmp 27)], none⟩,
  ⟨some 29, .append 1 16 (.tmp 24) (.tmp 28), none⟩,
  ⟨some 2, .mv (.tmp 29), none⟩]
def ins_words.k11 : LCode := .seq (.text [⟨some 4, .mv (.cst (.int .i64 0)), none⟩]) (.seq ins_words.k9 (.seq ins_words.k10 .ret))
def ins_words.k12 : LCode := .seq (.text [⟨some 3, .mv (.cst (.imm (.slice none 0 0))), none⟩]) ins_words.k11
/-- Function 41. -/
abbrev ins_words.no : Nat := 41
def ins_words.lc : LCode :=
 .seq (.text [⟨some 2, .mv (.cst (.imm (.slice none 0 0))), none⟩]) ins_words.k12
theorem ins_words.low : lowFn Tryd.prog 41 = some (30, ins_words.lc, [.tmp 2]) := by kernel_rfl

def ins_fill.k1 : LCode := .text [⟨some 13, .bin .eql .other (.tmp 11) (.cst (.int .i32 78)), none⟩,
  ⟨some 12, .mv (.tmp 13), none⟩]
def ins_fill.k2 : LCode := .text [⟨some 14, .bin .eql .other (.tmp 11) (.cst (.int .i32 84)), none⟩,
  ⟨some 12, .mv (.tmp 14), none⟩]
def ins_fill.k3 : LCode := .text [⟨some 16, .mv (.tmp 2), none⟩,
  ⟨some 17, .call (.cst (.fn (.func 47) [] [])) [.tmp 16], none⟩,
  ⟨some 15, .mv (.tmp 17), none⟩,
  ⟨some 18, .extract (.tmp 15) 0, none⟩,
  ⟨some 19, .extract (.tmp 15) 1, none⟩,
  ⟨some 7, .mv (.tmp 18), none⟩,
  ⟨some 8, .mv (.tmp 19), none⟩]
def ins_fill.k4 : LCode := .text [⟨some 20, .mv (.tmp 1), none⟩,
  ⟨some 21, .bin .eql .other (.tmp 20) (.cst (.int .i32 78)), none⟩]
def ins_fill.k5 : LCode := .text [⟨some 22, .mv (.tmp 0), none⟩,
  ⟨some 23, .mv (.tmp 7), none⟩,
  ⟨some 24, .nilc (.tmp 22), none⟩,
  ⟨some 25, .faddr 4 (.tmp 24), none⟩,
  ⟨none, .store 1 (.tmp 25) (.tmp 23), none⟩]
def ins_fill.k6 : LCode := .text [⟨some 26, .mv (.tmp 0), none⟩,
  ⟨some 27, .mv (.tmp 7), none⟩,
  ⟨some 28, .nilc (.tmp 26), none⟩,
  ⟨some 29, .faddr 5 (.tmp 28), none⟩,
  ⟨none, .store 1 (.tmp 29) (.tmp 27), none⟩]
def ins_fill.k7 : LCode := .text [⟨some 30, .mv (.tmp 8), none⟩,
  ⟨some 6, .mv (.tmp 30), none⟩]
def ins_fill.k8 : LCode := .seq (.seq ins_fill.k4 (.cond (.tmp 21) ins_fill.k5 ins_fill.k6)) (.seq ins_fill.k7 .ret)
def ins_fill.k9 : LCode := .seq (.seq ins_fill.k1 (.cond (.tmp 12) .skip ins_fill.k2)) (.cond (.tmp 12) (.seq ins_fill.k3 ins_fill.k8) .skip)
def ins_fill.k10 : LCode := .seq (.text [⟨some 11, .mv (.tmp 1), none⟩]) (.block 0 ins_fill.k9)
def ins_fill.k11 : LCode := .text [⟨some 32, .mv (.tmp 2), none⟩,
  ⟨some 33, .call (.cst (.fn (.func 48) [] [])) [.tmp 32], none⟩,
  ⟨some 31, .mv (.tmp 33), none⟩,
  ⟨some 34, .extract (.tmp 31) 0, none⟩,
  ⟨some 35, .extract (.tmp 31) 1, none⟩,
  ⟨some 9, .mv (.tmp 34), none⟩,
  ⟨some 10, .mv (.tmp 35), none⟩]
def ins_fill.k12 : LCode := .text [⟨some 36, .mv (.tmp 0), none⟩,
  ⟨some 37, .mv (.tmp 1), none⟩,
  ⟨some 38, .call (.cst (.fn (.func 31) [] [])) [.tmp 36, .tmp 37], none⟩,
  ⟨some 39, .mv (.tmp 9), none⟩,
  ⟨some 40, .nilc (.tmp 38), none⟩,
  ⟨none, .store 1 (.tmp 40) (.tmp 39), none⟩]
def ins_fill.k13 : LCode := .text [⟨some 41, .mv (.tmp 10), none⟩,
  ⟨some 6, .mv (.tmp 41), none⟩]
def ins_fill.k14 : LCode := .seq ins_fill.k11 (.seq ins_fill.k12 (.seq ins_fill.k13 .ret))
/-- Function 42. -/
abbrev ins_fill.no : Nat := 42
def ins_fill.lc : LCode :=
 .seq (.text [⟨some 6, .mv (.cst (.int .i64 0)), none⟩]) (.seq ins_fill.k10 ins_fill.k14)
theorem ins_fill.low : lowFn Tryd.prog 42 = some (42, ins_fill.lc, [.tmp 6]) := by kernel_rfl

def joineryref03_Words.k1 : LCode := .text [⟨some 6, .mv (.tmp 5), none⟩,
  ⟨some 7, .mv (.tmp 0), none⟩,
  ⟨some 8, .len .str (.tmp 7), none⟩,
  ⟨some 9, .bin .lss .other (.tmp 6) (.tmp 8), none⟩]
def joineryref03_Words.k2 : LCode := .text [⟨some 12, .mv (.tmp 0), none⟩,
  ⟨some 13, .mv (.tmp 5), none⟩,
  ⟨some 14, .idxS (.tmp 12) (.tmp 13), none⟩,
  ⟨some 15, .bin .eql .other (.tmp 14) (.cst (.int .u8 32)), none⟩]
def joineryref03_Words.k3 : LCode := .text [⟨some 16, .mv (.tmp 3), none⟩,
  ⟨some 17, .mv (.tmp 4), none⟩,
  ⟨some 18, .bslice 1 [.str ⟨#[]⟩] 1 [(0, .tmp 17)], none⟩,
  ⟨some 19, .append 1 16 (.tmp 16) (.tmp 18), none⟩,
  ⟨some 3, .mv (.tmp 19), none⟩]
def joineryref03_Words.k4 : LCode := .seq joineryref03_Words.k3 (.text [⟨some 4, .mv (.cst (.str ⟨#[]⟩)), none⟩])
def joineryref03_Words.k5 : LCode := .text [⟨some 20, .mv (.tmp 4), none⟩,
  ⟨some 21, .mv (.tmp 0), none⟩,
  ⟨some 22, .mv (.tmp 5), none⟩,
  ⟨some 23, .mv (.tmp 5), none⟩,
  ⟨some 24, .bin .add .other (.tmp 23) (.cst (.int .i64 1)), none⟩,
  ⟨some 25, .sliceS (.tmp 21) (some (.tmp 22)) (some (.tmp 24)), none⟩,
  ⟨some 26, .bin .add .other (.tmp 20) (.tmp 25), none⟩,
  ⟨some 4, .mv (.tmp 26), none⟩]
def joineryref03_Words.k6 : LCode := .seq joineryref03_Words.k2 (.cond (.tmp 15) joineryref03_Words.k4 joineryref03_Words.k5)
def joineryref03_Words.k7 : LCode := .text [⟨some 10, .mv (.tmp 5), none⟩,
  ⟨some 11, .bin .add .other (.tmp 10) (.cst (.int .i64 1)), none⟩,
  ⟨some 5, .mv (.tmp 11), none⟩]
def joineryref03_Words.k8 : LCode := .seq (.seq joineryref03_Words.k1 (.cond (.tmp 9) .skip (.exit 0))) (.seq (.block 1 joineryref03_Words.k6) joineryref03_Words.k7)
def joineryref03_Words.k9 : LCode := .seq (.text [⟨some 5, .mv (.cst (.int .i64 0)), none⟩]) (.block 0 (.loop joineryref03_Words.k8))
def joineryref03_Words.k10 : LCode := .text [⟨some 27, .mv (.tmp 3), none⟩,
  ⟨some 28, .mv (.tmp 4), none⟩,
  ⟨some 29, .bslice 1 [.str ⟨#[]⟩] 1 [(0, .tmp 28)], none⟩,
  ⟨some 30, .append 1 16 (.tmp 27) (.tmp 29), none⟩,
  ⟨some 2, .mv (.tmp 30), none⟩]
def joineryref03_Words.k11 : LCode := .seq joineryref03_Words.k9 (.seq joineryref03_Words.k10 .ret)
def joineryref03_Words.k12 : LCode := .seq (.text [⟨some 4, .mv (.cst (.str ⟨#[]⟩)), none⟩]) joineryref03_Words.k11
def joineryref03_Words.k13 : LCode := .seq (.text [⟨some 3, .mv (.cst (.imm (.slice none 0 0))), none⟩]) joineryref03_Words.k12
/-- Function 43. -/
abbrev joineryref03_Words.no : Nat := 43
def joineryref03_Words.lc : LCode :=
 .seq (.text [⟨some 2, .mv (.cst (.imm (.slice none 0 0))), none⟩]) joineryref03_Words.k13
theorem joineryref03_Words.low : lowFn Tryd.prog 43 = some (31, joineryref03_Words.lc, [.tmp 2]) := by kernel_rfl

def joineryref02_Parse.k1 : LCode := .text [⟨some 2, .mv (.cst (.int .i64 0)), none⟩,
  ⟨some 3, .mv (.cst (.bool false)), none⟩]
def joineryref02_Parse.k2 : LCode := .text [⟨some 5, .mv (.tmp 4), none⟩,
  ⟨some 6, .bin .lss .other (.tmp 5) (.cst (.int .i64 24)), none⟩]
def joineryref02_Parse.k3 : LCode := .text [⟨some 9, .mv (.tmp 4), none⟩,
  ⟨some 10, .call (.cst (.fn (.func 38) [] [])) [.tmp 9], none⟩,
  ⟨some 11, .mv (.tmp 0), none⟩,
  ⟨some 12, .bin .eql .other (.tmp 10) (.tmp 11), none⟩]
def joineryref02_Parse.k4 : LCode := .text [⟨some 13, .mv (.tmp 4), none⟩,
  ⟨some 2, .mv (.tmp 13), none⟩,
  ⟨some 3, .mv (.cst (.bool true)), none⟩]
def joineryref02_Parse.k5 : LCode := .seq joineryref02_Parse.k3 (.cond (.tmp 12) (.seq joineryref02_Parse.k4 .ret) .skip)
def joineryref02_Parse.k6 : LCode := .text [⟨some 7, .mv (.tmp 4), none⟩,
  ⟨some 8, .bin .add .other (.tmp 7) (.cst (.int .i64 1)), none⟩,
  ⟨some 4, .mv (.tmp 8), none⟩]
def joineryref02_Parse.k7 : LCode := .seq (.seq joineryref02_Parse.k2 (.cond (.tmp 6) .skip (.exit 0))) (.seq (.block 1 joineryref02_Parse.k5) joineryref02_Parse.k6)
def joineryref02_Parse.k8 : LCode := .seq (.text [⟨some 4, .mv (.cst (.int .i64 0)), none⟩]) (.block 0 (.loop joineryref02_Parse.k7))
def joineryref02_Parse.k9 : LCode := .text [⟨some 2, .mv (.cst (.int .i64 0)), none⟩,
  ⟨some 3, .mv (.cst (.bool false)), none⟩]
def joineryref02_Parse.k10 : LCode := .seq joineryref02_Parse.k8 (.seq joineryref02_Parse.k9 .ret)
/-- Function 44. -/
abbrev joineryref02_Parse.no : Nat := 44
def joineryref02_Parse.lc : LCode :=
 .seq joineryref02_Parse.k1 joineryref02_Parse.k10
theorem joineryref02_Parse.low : lowFn Tryd.prog 44 = some (14, joineryref02_Parse.lc, [.tmp 2, .tmp 3]) := by kernel_rfl

def joineryref01_Parse.k1 : LCode := .text [⟨some 2, .mv (.cst (.int .i64 0)), none⟩,
  ⟨some 3, .mv (.cst (.bool false)), none⟩]
def joineryref01_Parse.k2 : LCode := .text [⟨some 7, .mv (.tmp 0), none⟩,
  ⟨some 8, .len .str (.tmp 7), none⟩,
  ⟨some 9, .bin .gtr .other (.tmp 8) (.cst (.int .i64 20)), none⟩]
def joineryref01_Parse.k3 : LCode := .text [⟨some 2, .mv (.cst (.int .i64 0)), none⟩,
  ⟨some 3, .mv (.cst (.bool false)), none⟩]
def joineryref01_Parse.k4 : LCode := .seq joineryref01_Parse.k2 (.cond (.tmp 9) (.seq joineryref01_Parse.k3 .ret) .skip)
def joineryref01_Parse.k5 : LCode := .text [⟨some 10, .mv (.tmp 0), none⟩,
  ⟨some 11, .len .str (.tmp 10), none⟩,
  ⟨some 12, .bin .gtr .other (.tmp 11) (.cst (.int .i64 0)), none⟩,
  ⟨some 13, .mv (.tmp 12), none⟩,
  ⟨some 14, .mv (.tmp 0), some (13, true)⟩,
  ⟨some 15, .idxS (.tmp 14) (.cst (.int .i64 0)), some (13, true)⟩,
  ⟨some 16, .bin .eql .other (.tmp 15) (.cst (.int .u8 45)), some (13, true)⟩,
  ⟨some 17, .pick (.tmp 13) (.tmp 16) (.cst (.bool false)), none⟩]
def joineryref01_Parse.k6 : LCode := .cond (.tmp 17) (.text [⟨some 4, .mv (.cst (.int .i64 1)), none⟩]) .skip
def joineryref01_Parse.k7 : LCode := .text [⟨some 18, .mv (.tmp 4), none⟩,
  ⟨some 6, .mv (.tmp 18), none⟩]
def joineryref01_Parse.k8 : LCode := .text [⟨some 19, .mv (.tmp 6), none⟩,
  ⟨some 20, .mv (.tmp 0), none⟩,
  ⟨some 21, .len .str (.tmp 20), none⟩,
  ⟨some 22, .bin .lss .other (.tmp 19) (.tmp 21), none⟩]
def joineryref01_Parse.k9 : LCode := .seq joineryref01_Parse.k8 (.cond (.tmp 22) .skip (.exit 0))
def joineryref01_Parse.k10 : LCode := .text [⟨some 25, .mv (.tmp 0), none⟩,
  ⟨some 26, .mv (.tmp 6), none⟩,
  ⟨some 27, .idxS (.tmp 25) (.tmp 26), none⟩,
  ⟨some 28, .bin .lss .other (.tmp 27) (.cst (.int .u8 48)), none⟩,
  ⟨some 29, .mv (.tmp 28), none⟩,
  ⟨some 30, .mv (.tmp 0), some (29, false)⟩,
  ⟨some 31, .mv (.tmp 6), some (29, false)⟩,
  ⟨some 32, .idxS (.tmp 30) (.tmp 31), some (29, false)⟩,
  ⟨some 33, .bin .gtr .other (.tmp 32) (.cst (.int .u8 57)), some (29, false)⟩,
  ⟨some 34, .pick (.tmp 29) (.cst (.bool true)) (.tmp 33), none⟩]
def joineryref01_Parse.k11 : LCode := .text [⟨some 2, .mv (.cst (.int .i64 0)), none⟩,
  ⟨some 3, .mv (.cst (.bool false)), none⟩]
def joineryref01_Parse.k12 : LCode := .seq joineryref01_Parse.k10 (.cond (.tmp 34) (.seq joineryref01_Parse.k11 .ret) .skip)
def joineryref01_Parse.k13 : LCode := .text [⟨some 35, .mv (.tmp 5), none⟩,
  ⟨some 36, .bin .mul .other (.tmp 35) (.cst (.int .i64 10)), none⟩,
  ⟨some 37, .mv (.tmp 0), none⟩,
  ⟨some 38, .mv (.tmp 6), none⟩,
  ⟨some 39, .idxS (.tmp 37) (.tmp 38), none⟩,
  ⟨some 40, .bin .sub .other (.tmp 39) (.cst (.int .u8 48)), none⟩,
  ⟨some 41, .toInt .i64 (.tmp 40), none⟩,
  ⟨some 42, .bin .sub .other (.tmp 36) (.tmp 41), none⟩,
  ⟨some 5, .mv (.tmp 42), none⟩]
def joineryref01_Parse.k14 : LCode := .block 1 (.seq joineryref01_Parse.k12 joineryref01_Parse.k13)
def joineryref01_Parse.k15 : LCode := .text [⟨some 23, .mv (.tmp 6), none⟩,
  ⟨some 24, .bin .add .other (.tmp 23) (.cst (.int .i64 1)), none⟩,
  ⟨some 6, .mv (.tmp 24), none⟩]
def joineryref01_Parse.k16 : LCode := .seq joineryref01_Parse.k9 (.seq joineryref01_Parse.k14 joineryref01_Parse.k15)
def joineryref01_Parse.k17 : LCode := .seq joineryref01_Parse.k7 (.block 0 (.loop joineryref01_Parse.k16))
def joineryref01_Parse.k18 : LCode := .text [⟨some 43, .mv (.tmp 4), none⟩,
  ⟨some 44, .bin .eql .other (.tmp 43) (.cst (.int .i64 0)), none⟩]
def joineryref01_Parse.k19 : LCode := .text [⟨some 45, .mv (.tmp 5), none⟩,
  ⟨some 46, .bin .sub .other (.cst (.int .i64 0)) (.tmp 45), none⟩,
  ⟨some 5, .mv (.tmp 46), none⟩]
def joineryref01_Parse.k20 : LCode := .seq joineryref01_Parse.k18 (.cond (.tmp 44) joineryref01_Parse.k19 .skip)
def joineryref01_Parse.k21 : LCode := .text [⟨some 47, .mv (.tmp 5), none⟩,
  ⟨some 48, .call (.cst (.fn (.func 39) [] [])) [.tmp 47], none⟩,
  ⟨some 49, .mv (.tmp 0), none⟩,
  ⟨some 50, .bin .neq .other (.tmp 48) (.tmp 49), none⟩]
def joineryref01_Parse.k22 : LCode := .text [⟨some 2, .mv (.cst (.int .i64 0)), none⟩,
  ⟨some 3, .mv (.cst (.bool false)), none⟩]
def joineryref01_Parse.k23 : LCode := .seq joineryref01_Parse.k21 (.cond (.tmp 50) (.seq joineryref01_Parse.k22 .ret) .skip)
def joineryref01_Parse.k24 : LCode := .text [⟨some 51, .mv (.tmp 5), none⟩,
  ⟨some 2, .mv (.tmp 51), none⟩,
  ⟨some 3, .mv (.cst (.bool true)), none⟩]
def joineryref01_Parse.k25 : LCode := .seq joineryref01_Parse.k23 (.seq joineryref01_Parse.k24 .ret)
def joineryref01_Parse.k26 : LCode := .seq joineryref01_Parse.k17 (.seq joineryref01_Parse.k20 joineryref01_Parse.k25)
def joineryref01_Parse.k27 : LCode := .seq (.text [⟨some 5, .mv (.cst (.int .i64 0)), none⟩]) joineryref01_Parse.k26
def joineryref01_Parse.k28 : LCode := .seq (.seq joineryref01_Parse.k5 joineryref01_Parse.k6) joineryref01_Parse.k27
def joineryref01_Parse.k29 : LCode := .seq (.text [⟨some 4, .mv (.cst (.int .i64 0)), none⟩]) joineryref01_Parse.k28
/-- Function 45. -/
abbrev joineryref01_Parse.no : Nat := 45
def joineryref01_Parse.lc : LCode :=
 .seq joineryref01_Parse.k1 (.seq joineryref01_Parse.k4 joineryref01_Parse.k29)
theorem joineryref01_Parse.low : lowFn Tryd.prog 45 = some (52, joineryref01_Parse.lc, [.tmp 2, .tmp 3]) := by kernel_rfl

def joineryref01_digits.k1 : LCode := .text [⟨some 4, .mv (.tmp 0), none⟩,
  ⟨some 5, .bin .rem .other (.tmp 4) (.cst (.int .i64 10)), none⟩,
  ⟨some 6, .bin .sub .other (.cst (.int .i64 48)) (.tmp 5), none⟩,
  ⟨some 7, .toInt .u8 (.tmp 6), none⟩,
  ⟨some 8, .bslice 1 [.int .u8 0] 1 [(0, .tmp 7)], none⟩,
  ⟨some 9, .toStr (.tmp 8), none⟩,
  ⟨some 3, .mv (.tmp 9), none⟩]
def joineryref01_digits.k2 : LCode := .text [⟨some 10, .mv (.tmp 0), none⟩,
  ⟨some 11, .bin .gtr .other (.tmp 10) (.cst (.int .i64 (-10))), none⟩]
def joineryref01_digits.k3 : LCode := .text [⟨some 12, .mv (.tmp 3), none⟩,
  ⟨some 2, .mv (.tmp 12), none⟩]
def joineryref01_digits.k4 : LCode := .seq joineryref01_digits.k2 (.cond (.tmp 11) (.seq joineryref01_digits.k3 .ret) .skip)
def joineryref01_digits.k5 : LCode := .text [⟨some 13, .mv (.tmp 0), none⟩,
  ⟨some 14, .bin .quo .other (.tmp 13) (.cst (.int .i64 10)), none⟩,
  ⟨some 15, .call (.cst (.fn (.func 46) [] [])) [.tmp 14], none⟩,
  ⟨some 16, .mv (.tmp 3), none⟩,
  ⟨some 17, .bin .add .other (.tmp 15) (.tmp 16), none⟩,
  ⟨some 2, .mv (.tmp 17), none⟩]
def joineryref01_digits.k6 : LCode := .seq joineryref01_digits.k4 (.seq joineryref01_digits.k5 .ret)
/-- Function 46. -/
abbrev joineryref01_digits.no : Nat := 46
def joineryref01_digits.lc : LCode :=
 .seq (.text [⟨some 2, .mv (.cst (.str ⟨#[]⟩)), none⟩]) (.seq joineryref01_digits.k1 joineryref01_digits.k6)
theorem joineryref01_digits.low : lowFn Tryd.prog 46 = some (18, joineryref01_digits.lc, [.tmp 2]) := by kernel_rfl

def num_Parse.k1 : LCode := .text [⟨some 2, .mv (.cst (.int .i64 0)), none⟩,
  ⟨some 3, .mv (.cst (.int .i64 0)), none⟩]
def num_Parse.k2 : LCode := .text [⟨some 10, .mv (.tmp 0), none⟩,
  ⟨some 4, .mv (.tmp 10), none⟩,
  ⟨some 5, .mv (.cst (.bool false)), none⟩]
def num_Parse.k3 : LCode := .text [⟨some 11, .mv (.tmp 0), none⟩,
  ⟨some 12, .len .str (.tmp 11), none⟩,
  ⟨some 13, .bin .gtr .other (.tmp 12) (.cst (.int .i64 0)), none⟩,
  ⟨some 14, .mv (.tmp 13), none⟩,
  ⟨some 15, .mv (.tmp 0), some (14, true)⟩,
  ⟨some 16, .idxS (.tmp 15) (.cst (.int .i64 0)), some (14, true)⟩,
  ⟨some 17, .bin .eql .other (.tmp 16) (.cst (.int .u8 45)), some (14, true)⟩,
  ⟨some 18, .pick (.tmp 14) (.tmp 17) (.cst (.bool false)), none⟩]
def num_Parse.k4 : LCode := .text [⟨some 19, .mv (.tmp 0), none⟩,
  ⟨some 20, .sliceS (.tmp 19) (some (.cst (.int .i64 1))) none, none⟩,
  ⟨some 4, .mv (.tmp 20), none⟩,
  ⟨some 5, .mv (.cst (.bool true)), none⟩]
def num_Parse.k5 : LCode := .text [⟨some 21, .mv (.tmp 4), none⟩,
  ⟨some 22, .len .str (.tmp 21), none⟩,
  ⟨some 23, .bin .eql .other (.tmp 22) (.cst (.int .i64 0)), none⟩,
  ⟨some 24, .mv (.tmp 23), none⟩,
  ⟨some 25, .mv (.tmp 4), some (24, false)⟩,
  ⟨some 26, .len .str (.tmp 25), some (24, false)⟩,
  ⟨some 27, .bin .gtr .other (.tmp 26) (.cst (.int .i64 19)), some (24, false)⟩,
  ⟨some 28, .pick (.tmp 24) (.cst (.bool true)) (.tmp 27), none⟩,
  ⟨some 29, .mv (.tmp 28), none⟩,
  ⟨some 30, .mv (.tmp 4), some (29, false)⟩,
  ⟨some 31, .idxS (.tmp 30) (.cst (.int .i64 0)), some (29, false)⟩,
  ⟨some 32, .bin .eql .other (.tmp 31) (.cst (.int .u8 48)), some (29, false)⟩,
  ⟨some 33, .mv (.tmp 32), some (29, false)⟩,
  ⟨some 34, .mv (.tmp 4), some (33, true)⟩,
  ⟨some 35, .len .str (.tmp 34), some (33, true)⟩,
  ⟨some 36, .bin .gtr .other (.tmp 35) (.cst (.int .i64 1)), some (33, true)⟩,
  ⟨some 37, .mv (.tmp 36), some (33, true)⟩,
  ⟨some 38, .mv (.tmp 5), some (37, false)⟩,
  ⟨some 39, .pick (.tmp 37) (.cst (.bool true)) (.tmp 38), some (33, true)⟩,
  ⟨some 40, .pick (.tmp 33) (.tmp 39) (.cst (.bool false)), some (29, false)⟩,
  ⟨some 41, .pick (.tmp 29) (.cst (.bool true)) (.tmp 40), none⟩]
def num_Parse.k6 : LCode := .text [⟨some 2, .mv (.cst (.int .i64 0)), none⟩,
  ⟨some 3, .mv (.cst (.int .i64 2)), none⟩]
def num_Parse.k7 : LCode := .seq num_Parse.k5 (.cond (.tmp 41) (.seq num_Parse.k6 .ret) .skip)
def num_Parse.k8 : LCode := .text [⟨some 42, .mv (.tmp 4), none⟩,
  ⟨some 43, .range (.tmp 42), none⟩]
def num_Parse.k9 : LCode := .text [⟨some 44, .next (.tmp 43), none⟩,
  ⟨some 45, .extract (.tmp 44) 0, none⟩]
def num_Parse.k10 : LCode := .text [⟨some 46, .extract (.tmp 44) 2, none⟩,
  ⟨some 8, .mv (.tmp 46), none⟩]
def num_Parse.k11 : LCode := .text [⟨some 47, .mv (.tmp 8), none⟩,
  ⟨some 48, .bin .lss .other (.tmp 47) (.cst (.int .i32 48)), none⟩,
  ⟨some 49, .mv (.tmp 48), none⟩,
  ⟨some 50, .mv (.tmp 8), some (49, false)⟩,
  ⟨some 51, .bin .gtr .other (.tmp 50) (.cst (.int .i32 57)), some (49, false)⟩,
  ⟨some 52, .pick (.tmp 49) (.cst (.bool true)) (.tmp 51), none⟩]
def num_Parse.k12 : LCode := .text [⟨some 2, .mv (.cst (.int .i64 0)), none⟩,
  ⟨some 3, .mv (.cst (.int .i64 2)), none⟩]
def num_Parse.k13 : LCode := .seq num_Parse.k11 (.cond (.tmp 52) (.seq num_Parse.k12 .ret) .skip)
def num_Parse.k14 : LCode := .text [⟨some 53, .mv (.tmp 6), none⟩,
  ⟨some 54, .bin .mul .other (.tmp 53) (.cst (.int .u64 10)), none⟩,
  ⟨some 55, .mv (.tmp 8), none⟩,
  ⟨some 56, .bin .sub .other (.tmp 55) (.cst (.int .i32 48)), none⟩,
  ⟨some 57, .toInt .u64 (.tmp 56), none⟩,
  ⟨some 58, .bin .add .other (.tmp 54) (.tmp 57), none⟩,
  ⟨some 6, .mv (.tmp 58), none⟩]
def num_Parse.k15 : LCode := .block 1 (.seq num_Parse.k10 (.seq num_Parse.k13 num_Parse.k14))
def num_Parse.k16 : LCode := .seq num_Parse.k9 (.seq (.cond (.tmp 45) .skip (.exit 0)) num_Parse.k15)
def num_Parse.k17 : LCode := .text [⟨some 9, .mv (.cst (.int .u64 9223372036854775807)), none⟩]
def num_Parse.k18 : LCode := .text [⟨some 60, .mv (.tmp 9), none⟩,
  ⟨some 61, .bin .add .other (.tmp 60) (.cst (.int .u64 1)), none⟩,
  ⟨some 9, .mv (.tmp 61), none⟩]
def num_Parse.k19 : LCode := .text [⟨some 62, .mv (.tmp 6), none⟩,
  ⟨some 63, .neg (.tmp 62), none⟩,
  ⟨some 64, .mv (.tmp 9), none⟩,
  ⟨some 65, .neg (.tmp 64), none⟩,
  ⟨some 6, .mv (.tmp 63), none⟩,
  ⟨some 9, .mv (.tmp 65), none⟩]
def num_Parse.k20 : LCode := .text [⟨some 66, .mv (.tmp 6), none⟩,
  ⟨some 67, .mv (.tmp 9), none⟩,
  ⟨some 68, .bin .lss .other (.tmp 66) (.tmp 67), none⟩]
def num_Parse.k21 : LCode := .text [⟨some 2, .mv (.cst (.int .i64 0)), none⟩,
  ⟨some 3, .mv (.cst (.int .i64 2)), none⟩]
def num_Parse.k22 : LCode := .seq num_Parse.k20 (.cond (.tmp 68) (.seq num_Parse.k21 .ret) .skip)
def num_Parse.k23 : LCode := .text [⟨some 69, .mv (.tmp 6), none⟩,
  ⟨some 70, .toInt .i64 (.tmp 69), none⟩,
  ⟨some 2, .mv (.tmp 70), none⟩,
  ⟨some 3, .mv (.cst (.int .i64 0)), none⟩]
def num_Parse.k24 : LCode := .seq num_Parse.k19 (.seq num_Parse.k22 (.seq num_Parse.k23 .ret))
def num_Parse.k25 : LCode := .seq (.text [⟨some 59, .mv (.tmp 5), none⟩]) (.cond (.tmp 59) (.seq num_Parse.k18 num_Parse.k24) .skip)
def num_Parse.k26 : LCode := .text [⟨some 71, .mv (.tmp 6), none⟩,
  ⟨some 72, .mv (.tmp 9), none⟩,
  ⟨some 73, .bin .gtr .other (.tmp 71) (.tmp 72), none⟩]
def num_Parse.k27 : LCode := .text [⟨some 2, .mv (.cst (.int .i64 0)), none⟩,
  ⟨some 3, .mv (.cst (.int .i64 2)), none⟩]
def num_Parse.k28 : LCode := .seq num_Parse.k26 (.cond (.tmp 73) (.seq num_Parse.k27 .ret) .skip)
def num_Parse.k29 : LCode := .text [⟨some 74, .mv (.tmp 6), none⟩,
  ⟨some 75, .toInt .i64 (.tmp 74), none⟩,
  ⟨some 2, .mv (.tmp 75), none⟩,
  ⟨some 3, .mv (.cst (.int .i64 0)), none⟩]
def num_Parse.k30 : LCode := .seq num_Parse.k25 (.seq num_Parse.k28 (.seq num_Parse.k29 .ret))
def num_Parse.k31 : LCode := .seq (.seq num_Parse.k8 (.block 0 (.loop num_Parse.k16))) (.seq num_Parse.k17 num_Parse.k30)
def num_Parse.k32 : LCode := .seq (.text [⟨some 6, .mv (.cst (.int .u64 0)), none⟩]) num_Parse.k31
def num_Parse.k33 : LCode := .seq (.seq num_Parse.k3 (.cond (.tmp 18) num_Parse.k4 .skip)) (.seq num_Parse.k7 num_Parse.k32)
/-- Function 47. -/
abbrev num_Parse.no : Nat := 47
def num_Parse.lc : LCode :=
 .seq num_Parse.k1 (.seq num_Parse.k2 num_Parse.k33)
theorem num_Parse.low : lowFn Tryd.prog 47 = some (76, num_Parse.lc, [.tmp 2, .tmp 3]) := by kernel_rfl

def loc_Parse.k1 : LCode := .text [⟨some 2, .mv (.cst (.int .i64 0)), none⟩,
  ⟨some 3, .mv (.cst (.int .i64 0)), none⟩]
def loc_Parse.k2 : LCode := .text [⟨some 4, .mv (.cst (.int .i64 0)), none⟩,
  ⟨some 5, .mv (.cst (.int .i64 0)), none⟩,
  ⟨some 6, .mv (.cst (.int .i64 0)), none⟩]
def loc_Parse.k3 : LCode := .text [⟨some 9, .mv (.tmp 0), none⟩,
  ⟨some 10, .range (.tmp 9), none⟩]
def loc_Parse.k4 : LCode := .text [⟨some 11, .next (.tmp 10), none⟩,
  ⟨some 12, .extract (.tmp 11) 0, none⟩]
def loc_Parse.k5 : LCode := .text [⟨some 13, .extract (.tmp 11) 1, none⟩,
  ⟨some 14, .extract (.tmp 11) 2, none⟩,
  ⟨some 7, .mv (.tmp 13), none⟩,
  ⟨some 8, .mv (.tmp 14), none⟩]
def loc_Parse.k6 : LCode := .text [⟨some 22, .mv (.tmp 7), none⟩,
  ⟨some 23, .bin .eql .other (.tmp 22) (.cst (.int .i64 0)), none⟩,
  ⟨some 24, .mv (.tmp 23), none⟩,
  ⟨some 25, .mv (.tmp 8), some (24, true)⟩,
  ⟨some 26, .bin .eql .other (.tmp 25) (.cst (.int .i32 114)), some (24, true)⟩,
  ⟨some 27, .pick (.tmp 24) (.tmp 26) (.cst (.bool false)), none⟩,
  ⟨some 21, .mv (.tmp 27), none⟩]
def loc_Parse.k7 : LCode := .text [⟨some 29, .mv (.tmp 7), none⟩,
  ⟨some 30, .bin .eql .other (.tmp 29) (.cst (.int .i64 0)), none⟩,
  ⟨some 31, .mv (.tmp 30), none⟩,
  ⟨some 32, .mv (.tmp 8), some (31, true)⟩,
  ⟨some 33, .bin .eql .other (.tmp 32) (.cst (.int .i32 115)), some (31, true)⟩,
  ⟨some 34, .pick (.tmp 31) (.tmp 33) (.cst (.bool false)), none⟩,
  ⟨some 28, .mv (.tmp 34), none⟩]
def loc_Parse.k8 : LCode := .text [⟨some 4, .mv (.cst (.int .i64 8)), none⟩,
  ⟨some 6, .mv (.cst (.int .i64 16)), none⟩]
def loc_Parse.k9 : LCode := .text [⟨some 36, .mv (.tmp 7), none⟩,
  ⟨some 37, .bin .eql .other (.tmp 36) (.cst (.int .i64 0)), none⟩,
  ⟨some 38, .mv (.tmp 37), none⟩,
  ⟨some 39, .mv (.tmp 7), some (38, false)⟩,
  ⟨some 40, .bin .gtr .other (.tmp 39) (.cst (.int .i64 2)), some (38, false)⟩,
  ⟨some 41, .pick (.tmp 38) (.cst (.bool true)) (.tmp 40), none⟩,
  ⟨some 42, .mv (.tmp 41), none⟩,
  ⟨some 43, .mv (.tmp 8), some (42, false)⟩,
  ⟨some 44, .bin .lss .other (.tmp 43) (.cst (.int .i32 48)), some (42, false)⟩,
  ⟨some 45, .pick (.tmp 42) (.cst (.bool true)) (.tmp 44), none⟩,
  ⟨some 46, .mv (.tmp 45), none⟩,
  ⟨some 47, .mv (.tmp 8), some (46, false)⟩,
  ⟨some 48, .bin .gtr .other (.tmp 47) (.cst (.int .i32 57)), some (46, false)⟩,
  ⟨some 49, .pick (.tmp 46) (.cst (.bool true)) (.tmp 48), none⟩,
  ⟨some 50, .mv (.tmp 49), none⟩,
  ⟨some 51, .mv (.tmp 7), some (50, false)⟩,
  ⟨some 52, .bin .eql .other (.tmp 51) (.cst (.int .i64 2)), some (50, false)⟩,
  ⟨some 53, .mv (.tmp 52), some (50, false)⟩,
  ⟨some 54, .mv (.tmp 5), some (53, true)⟩,
  ⟨some 55, .bin .eql .other (.tmp 54) (.cst (.int .i64 0)), some (53, true)⟩,
  ⟨some 56, .pick (.tmp 53) (.tmp 55) (.cst (.bool false)), some (50, false)⟩,
  ⟨some 57, .pick (.tmp 50) (.cst (.bool true)) (.tmp 56), none⟩,
  ⟨some 35, .mv (.tmp 57), none⟩]
def loc_Parse.k10 : LCode := .text [⟨some 2, .mv (.cst (.int .i64 0)), none⟩,
  ⟨some 3, .mv (.cst (.int .i64 2)), none⟩]
def loc_Parse.k11 : LCode := .text [⟨some 15, .mv (.tmp 5), none⟩,
  ⟨some 16, .bin .mul .other (.tmp 15) (.cst (.int .i64 10)), none⟩,
  ⟨some 17, .mv (.tmp 8), none⟩,
  ⟨some 18, .bin .sub .other (.tmp 17) (.cst (.int .i32 48)), none⟩,
  ⟨some 19, .toInt .i64 (.tmp 18), none⟩,
  ⟨some 20, .bin .add .other (.tmp 16) (.tmp 19), none⟩,
  ⟨some 5, .mv (.tmp 20), none⟩]
def loc_Parse.k12 : LCode := .seq loc_Parse.k9 (.cond (.tmp 35) (.seq loc_Parse.k10 .ret) loc_Parse.k11)
def loc_Parse.k13 : LCode := .seq loc_Parse.k7 (.cond (.tmp 28) loc_Parse.k8 loc_Parse.k12)
def loc_Parse.k14 : LCode := .cond (.tmp 21) (.text [⟨some 6, .mv (.cst (.int .i64 8)), none⟩]) loc_Parse.k13
def loc_Parse.k15 : LCode := .seq loc_Parse.k5 (.block 2 (.seq loc_Parse.k6 loc_Parse.k14))
def loc_Parse.k16 : LCode := .seq (.cond (.tmp 12) .skip (.exit 0)) (.block 1 loc_Parse.k15)
def loc_Parse.k17 : LCode := .seq loc_Parse.k3 (.block 0 (.loop (.seq loc_Parse.k4 loc_Parse.k16)))
def loc_Parse.k18 : LCode := .text [⟨some 58, .mv (.tmp 0), none⟩,
  ⟨some 59, .len .str (.tmp 58), none⟩,
  ⟨some 60, .bin .lss .other (.tmp 59) (.cst (.int .i64 2)), none⟩,
  ⟨some 61, .mv (.tmp 60), none⟩,
  ⟨some 62, .mv (.tmp 5), some (61, false)⟩,
  ⟨some 63, .mv (.tmp 6), some (61, false)⟩,
  ⟨some 64, .bin .geq .other (.tmp 62) (.tmp 63), some (61, false)⟩,
  ⟨some 65, .pick (.tmp 61) (.cst (.bool true)) (.tmp 64), none⟩]
def loc_Parse.k19 : LCode := .text [⟨some 2, .mv (.cst (.int .i64 0)), none⟩,
  ⟨some 3, .mv (.cst (.int .i64 2)), none⟩]
def loc_Parse.k20 : LCode := .seq loc_Parse.k18 (.cond (.tmp 65) (.seq loc_Parse.k19 .ret) .skip)
def loc_Parse.k21 : LCode := .text [⟨some 66, .mv (.tmp 4), none⟩,
  ⟨some 67, .mv (.tmp 5), none⟩,
  ⟨some 68, .bin .add .other (.tmp 66) (.tmp 67), none⟩,
  ⟨some 2, .mv (.tmp 68), none⟩,
  ⟨some 3, .mv (.cst (.int .i64 0)), none⟩]
def loc_Parse.k22 : LCode := .seq loc_Parse.k17 (.seq loc_Parse.k20 (.seq loc_Parse.k21 .ret))
/-- Function 48. -/
abbrev loc_Parse.no : Nat := 48
def loc_Parse.lc : LCode :=
 .seq loc_Parse.k1 (.seq loc_Parse.k2 loc_Parse.k22)
theorem loc_Parse.low : lowFn Tryd.prog 48 = some (69, loc_Parse.lc, [.tmp 2, .tmp 3]) := by kernel_rfl

end Go.Proofs.YtoiceinjademgaaDoor
