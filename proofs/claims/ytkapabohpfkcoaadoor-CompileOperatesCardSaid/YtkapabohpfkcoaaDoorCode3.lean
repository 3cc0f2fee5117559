/- The code of the functions of this seat, as the engine reads it; printed by program out of the translation, checked by the kernel. -/
import Derived.Test.YtkapabohpfkcoaaDoorEd
import Derived.Test.YtkapabohpfkcoaaDoorProg
set_option linter.unusedSimpArgs false
set_option linter.unusedVariables false
namespace Go.Proofs.YtkapabohpfkcoaaDoor
open Go.Proofs E E.Z
variable {P : Program} {nb nt : Nat} {Q : Ex → Fr → St → Prop} {a : Fr} {S : St}
/-- tallystone/tallystoneref33.put -/
@[simp] def c79_0l : List EO := [o 4 .mv [c (.snil)]]
def c79_0 : EC := .rg c79_0l false
@[simp] theorem c79_0e : Rg c79_0 c79_0l false := rgE _ _
@[simp] def c79_1l : List EO := [o 5 .mv [c (.snil)]]
def c79_1 : EC := .rg c79_1l false
@[simp] theorem c79_1e : Rg c79_1 c79_1l false := rgE _ _
@[simp] def c79_2l : List EO := [o 6 .mv [b false]]
def c79_2 : EC := .rg c79_2l false
@[simp] theorem c79_2e : Rg c79_2 c79_2l false := rgE _ _
@[simp] def c79_3l : List EO := [o 7 .mv [i 0]]
def c79_3 : EC := .rg c79_3l false
@[simp] theorem c79_3e : Rg c79_3 c79_3l false := rgE _ _
@[simp] def c79_4l : List EO := [m 8 7,
 m 9 0,
 o 10 .lenL [t 9],
 o 11 (.bin .lss) [t 8, t 10]]
def c79_4 : EC := .rg c79_4l false
@[simp] theorem c79_4e : Rg c79_4 c79_4l false := rgE _ _
def c79_5 : EC := .cd (t 11) .skip (.ex 0)
@[simp] theorem c79_5e : Cd c79_5 (t 11) .skip (.ex 0) := cdE _ _ _
def c79_6 : EC := .sq c79_4 c79_5
@[simp] theorem c79_6e : Sq c79_6 c79_4 c79_5 := sqE _ _
@[simp] def c79_7l : List EO := [m 14 1,
 m 15 0,
 m 16 7,
 o 17 (.iaS 1) [t 15, t 16],
 o 18 (.load 1 false) [t 17],
 o 19 (.bin .lss) [t 14, t 18],
 m 20 19,
 y 21 20 .mv [t 6],
 y 22 20 (.un .not) [t 21],
 o 23 .pick [t 20, t 22, b false]]
def c79_7 : EC := .rg c79_7l false
@[simp] theorem c79_7e : Rg c79_7 c79_7l false := rgE _ _
@[simp] def c79_8l : List EO := [m 24 5,
 m 25 1,
 o 26 (.bsl 1) [t 25],
 o 27 (.app 3 1 8) [t 24, t 26],
 m 5 27]
def c79_8 : EC := .rg c79_8l false
@[simp] theorem c79_8e : Rg c79_8 c79_8l false := rgE _ _
def c79_9 : EC := .cd (t 23) c79_8 .skip
@[simp] theorem c79_9e : Cd c79_9 (t 23) c79_8 .skip := cdE _ _ _
def c79_10 : EC := .sq c79_7 c79_9
@[simp] theorem c79_10e : Sq c79_10 c79_7 c79_9 := sqE _ _
@[simp] def c79_11l : List EO := [m 28 6,
 m 29 28,
 n 30 29 .mv [t 1],
 n 31 29 .mv [t 0],
 n 32 29 .mv [t 7],
 n 33 29 (.iaS 1) [t 31, t 32],
 n 34 29 (.load 1 false) [t 33],
 n 35 29 (.bin .leq) [t 30, t 34],
 o 36 .pick [t 29, b true, t 35],
 m 6 36]
def c79_11 : EC := .rg c79_11l false
@[simp] theorem c79_11e : Rg c79_11 c79_11l false := rgE _ _
@[simp] def c79_12l : List EO := [m 37 5,
 m 38 0,
 m 39 7,
 o 40 (.iaS 1) [t 38, t 39],
 o 41 (.load 1 false) [t 40],
 o 42 (.bsl 1) [t 41],
 o 43 (.app 3 1 8) [t 37, t 42],
 m 5 43]
def c79_12 : EC := .rg c79_12l false
@[simp] theorem c79_12e : Rg c79_12 c79_12l false := rgE _ _
def c79_13 : EC := .sq c79_11 c79_12
@[simp] theorem c79_13e : Sq c79_13 c79_11 c79_12 := sqE _ _
def c79_14 : EC := .sq c79_10 c79_13
@[simp] theorem c79_14e : Sq c79_14 c79_10 c79_13 := sqE _ _
def c79_15 : EC := .bk 1 c79_14
@[simp] theorem c79_15e : Bk c79_15 1 c79_14 := bkE _ _
@[simp] def c79_16l : List EO := [m 12 7,
 o 13 (.bin .add) [t 12, i 1],
 m 7 13]
def c79_16 : EC := .rg c79_16l false
@[simp] theorem c79_16e : Rg c79_16 c79_16l false := rgE _ _
def c79_17 : EC := .sq c79_15 c79_16
@[simp] theorem c79_17e : Sq c79_17 c79_15 c79_16 := sqE _ _
def c79_18 : EC := .sq c79_6 c79_17
@[simp] theorem c79_18e : Sq c79_18 c79_6 c79_17 := sqE _ _
def c79_19 : EC := .bk 0 (.lp c79_18)
@[simp] theorem c79_19e : Bk c79_19 0 (.lp c79_18) := bkE _ _
def c79_20 : EC := .sq c79_3 c79_19
@[simp] theorem c79_20e : Sq c79_20 c79_3 c79_19 := sqE _ _
@[simp] def c79_21l : List EO := [m 44 6,
 o 45 (.un .not) [t 44]]
def c79_21 : EC := .rg c79_21l false
@[simp] theorem c79_21e : Rg c79_21 c79_21l false := rgE _ _
@[simp] def c79_22l : List EO := [m 46 5,
 m 47 1,
 o 48 (.bsl 1) [t 47],
 o 49 (.app 3 1 8) [t 46, t 48],
 m 5 49]
def c79_22 : EC := .rg c79_22l false
@[simp] theorem c79_22e : Rg c79_22 c79_22l false := rgE _ _
def c79_23 : EC := .cd (t 45) c79_22 .skip
@[simp] theorem c79_23e : Cd c79_23 (t 45) c79_22 .skip := cdE _ _ _
def c79_24 : EC := .sq c79_21 c79_23
@[simp] theorem c79_24e : Sq c79_24 c79_21 c79_23 := sqE _ _
@[simp] def c79_25l : List EO := [m 50 5,
 m 4 50]
def c79_25 : EC := .rg c79_25l false
@[simp] theorem c79_25e : Rg c79_25 c79_25l false := rgE _ _
def c79_26 : EC := .sq c79_25 .rt
@[simp] theorem c79_26e : Sq c79_26 c79_25 .rt := sqE _ _
def c79_27 : EC := .sq c79_24 c79_26
@[simp] theorem c79_27e : Sq c79_27 c79_24 c79_26 := sqE _ _
def c79_28 : EC := .sq c79_20 c79_27
@[simp] theorem c79_28e : Sq c79_28 c79_20 c79_27 := sqE _ _
def c79_29 : EC := .sq c79_2 c79_28
@[simp] theorem c79_29e : Sq c79_29 c79_2 c79_28 := sqE _ _
def c79_30 : EC := .sq c79_1 c79_29
@[simp] theorem c79_30e : Sq c79_30 c79_1 c79_29 := sqE _ _
def c79_31 : EC := .sq c79_0 c79_30
@[simp] theorem c79_31e : Sq c79_31 c79_0 c79_30 := sqE _ _
def c_tallystoneref33_put_79 : EC := c79_31
theorem k_79 : ecF Tryd.prog 79 = some (51, c_tallystoneref33_put_79, [.tm 4]) := by kernel_rfl

/-- tallystone/tallystoneref33.put, with slices that grow in boxes -/
@[simp] def b79_0l : List EO := [o 4 .mv [c (.snil)]]
def b79_0 : EC := .rg b79_0l false
@[simp] theorem b79_0e : Rg b79_0 b79_0l false := rgE _ _
@[simp] def b79_1l : List EO := [o 5 .mv [c (.snil)]]
def b79_1 : EC := .rg b79_1l false
@[simp] theorem b79_1e : Rg b79_1 b79_1l false := rgE _ _
@[simp] def b79_2l : List EO := [o 6 .mv [b false]]
def b79_2 : EC := .rg b79_2l false
@[simp] theorem b79_2e : Rg b79_2 b79_2l false := rgE _ _
@[simp] def b79_3l : List EO := [o 7 .mv [i 0]]
def b79_3 : EC := .rg b79_3l false
@[simp] theorem b79_3e : Rg b79_3 b79_3l false := rgE _ _
@[simp] def b79_4l : List EO := [m 8 7,
 m 9 0,
 o 10 .lenL [t 9],
 o 11 (.bin .lss) [t 8, t 10]]
def b79_4 : EC := .rg b79_4l false
@[simp] theorem b79_4e : Rg b79_4 b79_4l false := rgE _ _
def b79_5 : EC := .cd (t 11) .skip (.ex 0)
@[simp] theorem b79_5e : Cd b79_5 (t 11) .skip (.ex 0) := cdE _ _ _
def b79_6 : EC := .sq b79_4 b79_5
@[simp] theorem b79_6e : Sq b79_6 b79_4 b79_5 := sqE _ _
@[simp] def b79_7l : List EO := [m 14 1,
 m 15 0,
 m 16 7,
 o 17 (.iaS 1) [t 15, t 16],
 o 18 (.load 1 false) [t 17],
 o 19 (.bin .lss) [t 14, t 18],
 m 20 19,
 y 21 20 .mv [t 6],
 y 22 20 (.un .not) [t 21],
 o 23 .pick [t 20, t 22, b false]]
def b79_7 : EC := .rg b79_7l false
@[simp] theorem b79_7e : Rg b79_7 b79_7l false := rgE _ _
@[simp] def b79_8l : List EO := [m 24 5,
 m 25 1,
 o 26 (.bsl 1) [t 25],
 o 27 (.appB 3 1 8) [t 24, t 26],
 m 5 27]
def b79_8 : EC := .rg b79_8l false
@[simp] theorem b79_8e : Rg b79_8 b79_8l false := rgE _ _
def b79_9 : EC := .cd (t 23) b79_8 .skip
@[simp] theorem b79_9e : Cd b79_9 (t 23) b79_8 .skip := cdE _ _ _
def b79_10 : EC := .sq b79_7 b79_9
@[simp] theorem b79_10e : Sq b79_10 b79_7 b79_9 := sqE _ _
@[simp] def b79_11l : List EO := [m 28 6,
 m 29 28,
 n 30 29 .mv [t 1],
 n 31 29 .mv [t 0],
 n 32 29 .mv [t 7],
 n 33 29 (.iaS 1) [t 31, t 32],
 n 34 29 (.load 1 false) [t 33],
 n 35 29 (.bin .leq) [t 30, t 34],
 o 36 .pick [t 29, b true, t 35],
 m 6 36]
def b79_11 : EC := .rg b79_11l false
@[simp] theorem b79_11e : Rg b79_11 b79_11l false := rgE _ _
@[simp] def b79_12l : List EO := [m 37 5,
 m 38 0,
 m 39 7,
 o 40 (.iaS 1) [t 38, t 39],
 o 41 (.load 1 false) [t 40],
 o 42 (.bsl 1) [t 41],
 o 43 (.appB 3 1 8) [t 37, t 42],
 m 5 43]
def b79_12 : EC := .rg b79_12l false
@[simp] theorem b79_12e : Rg b79_12 b79_12l false := rgE _ _
def b79_13 : EC := .sq b79_11 b79_12
@[simp] theorem b79_13e : Sq b79_13 b79_11 b79_12 := sqE _ _
def b79_14 : EC := .sq b79_10 b79_13
@[simp] theorem b79_14e : Sq b79_14 b79_10 b79_13 := sqE _ _
def b79_15 : EC := .bk 1 b79_14
@[simp] theorem b79_15e : Bk b79_15 1 b79_14 := bkE _ _
@[simp] def b79_16l : List EO := [m 12 7,
 o 13 (.bin .add) [t 12, i 1],
 m 7 13]
def b79_16 : EC := .rg b79_16l false
@[simp] theorem b79_16e : Rg b79_16 b79_16l false := rgE _ _
def b79_17 : EC := .sq b79_15 b79_16
@[simp] theorem b79_17e : Sq b79_17 b79_15 b79_16 := sqE _ _
def b79_18 : EC := .sq b79_6 b79_17
@[simp] theorem b79_18e : Sq b79_18 b79_6 b79_17 := sqE _ _
def b79_19 : EC := .bk 0 (.lp b79_18)
@[simp] theorem b79_19e : Bk b79_19 0 (.lp b79_18) := bkE _ _
def b79_20 : EC := .sq b79_3 b79_19
@[simp] theorem b79_20e : Sq b79_20 b79_3 b79_19 := sqE _ _
@[simp] def b79_21l : List EO := [m 44 6,
 o 45 (.un .not) [t 44]]
def b79_21 : EC := .rg b79_21l false
@[simp] theorem b79_21e : Rg b79_21 b79_21l false := rgE _ _
@[simp] def b79_22l : List EO := [m 46 5,
 m 47 1,
 o 48 (.bsl 1) [t 47],
 o 49 (.appB 3 1 8) [t 46, t 48],
 m 5 49]
def b79_22 : EC := .rg b79_22l false
@[simp] theorem b79_22e : Rg b79_22 b79_22l false := rgE _ _
def b79_23 : EC := .cd (t 45) b79_22 .skip
@[simp] theorem b79_23e : Cd b79_23 (t 45) b79_22 .skip := cdE _ _ _
def b79_24 : EC := .sq b79_21 b79_23
@[simp] theorem b79_24e : Sq b79_24 b79_21 b79_23 := sqE _ _
@[simp] def b79_25l : List EO := [m 50 5,
 m 4 50]
def b79_25 : EC := .rg b79_25l false
@[simp] theorem b79_25e : Rg b79_25 b79_25l false := rgE _ _
def b79_26 : EC := .sq b79_25 .rt
@[simp] theorem b79_26e : Sq b79_26 b79_25 .rt := sqE _ _
def b79_27 : EC := .sq b79_24 b79_26
@[simp] theorem b79_27e : Sq b79_27 b79_24 b79_26 := sqE _ _
def b79_28 : EC := .sq b79_20 b79_27
@[simp] theorem b79_28e : Sq b79_28 b79_20 b79_27 := sqE _ _
def b79_29 : EC := .sq b79_2 b79_28
@[simp] theorem b79_29e : Sq b79_29 b79_2 b79_28 := sqE _ _
def b79_30 : EC := .sq b79_1 b79_29
@[simp] theorem b79_30e : Sq b79_30 b79_1 b79_29 := sqE _ _
def b79_31 : EC := .sq b79_0 b79_30
@[simp] theorem b79_31e : Sq b79_31 b79_0 b79_30 := sqE _ _
def b_tallystoneref33_put_79 : EC := b79_31
theorem kb_79 : ecB Tryd.prog 79 = some (51, b_tallystoneref33_put_79, [.tm 4]) := by kernel_rfl

/-- slices.ContainsFunc[tallystone/syntax.Program,tallystone/syntax.Rule] -/
@[simp] def c80_0l : List EO := [o 4 .mv [b false]]
def c80_0 : EC := .rg c80_0l false
@[simp] theorem c80_0e : Rg c80_0 c80_0l false := rgE _ _
@[simp] def c80_1l : List EO := [m 5 0,
 m 6 1,
 o 7 (.call 108) [t 5, t 6],
 o 8 (.bin .geq) [t 7, i 0],
 m 4 8]
def c80_1 : EC := .rg c80_1l false
@[simp] theorem c80_1e : Rg c80_1 c80_1l false := rgE _ _
def c80_2 : EC := .sq c80_1 .rt
@[simp] theorem c80_2e : Sq c80_2 c80_1 .rt := sqE _ _
def c80_3 : EC := .sq c80_0 c80_2
@[simp] theorem c80_3e : Sq c80_3 c80_0 c80_2 := sqE _ _
def c_syntax_Rule__80 : EC := c80_3
theorem k_80 : ecF Tryd.prog 80 = some (9, c_syntax_Rule__80, [.tm 4]) := by kernel_rfl

/-- tallystone/check.Reads$1 -/
@[simp] def c81_0l : List EO := [o 2 .box [t 0],
 o 3 .mv [b false]]
def c81_0 : EC := .rg c81_0l false
@[simp] theorem c81_0e : Rg c81_0 c81_0l false := rgE _ _
@[simp] def c81_1l : List EO := [o 4 (.faddr 2) [t 2],
 o 5 (.load 1 false) [t 4],
 o 6 (.mkfn (.func 83)) [t 1],
 o 7 (.call 82) [t 5, t 6],
 m 3 7]
def c81_1 : EC := .rg c81_1l false
@[simp] theorem c81_1e : Rg c81_1 c81_1l false := rgE _ _
def c81_2 : EC := .sq c81_1 .rt
@[simp] theorem c81_2e : Sq c81_2 c81_1 .rt := sqE _ _
def c81_3 : EC := .sq c81_0 c81_2
@[simp] theorem c81_3e : Sq c81_3 c81_0 c81_2 := sqE _ _
def c_check_ReadsS1_81 : EC := c81_3
theorem k_81 : ecF Tryd.prog 81 = some (8, c_check_ReadsS1_81, [.tm 3]) := by kernel_rfl

/-- slices.ContainsFunc[[]tallystone/syntax.Stmt,tallystone/syntax.Stmt] -/
@[simp] def c82_0l : List EO := [o 4 .mv [b false]]
def c82_0 : EC := .rg c82_0l false
@[simp] theorem c82_0e : Rg c82_0 c82_0l false := rgE _ _
@[simp] def c82_1l : List EO := [m 5 0,
 m 6 1,
 o 7 (.call 109) [t 5, t 6],
 o 8 (.bin .geq) [t 7, i 0],
 m 4 8]
def c82_1 : EC := .rg c82_1l false
@[simp] theorem c82_1e : Rg c82_1 c82_1l false := rgE _ _
def c82_2 : EC := .sq c82_1 .rt
@[simp] theorem c82_2e : Sq c82_2 c82_1 .rt := sqE _ _
def c82_3 : EC := .sq c82_0 c82_2
@[simp] theorem c82_3e : Sq c82_3 c82_0 c82_2 := sqE _ _
def c_syntax_Stmt__82 : EC := c82_3
theorem k_82 : ecF Tryd.prog 82 = some (9, c_syntax_Stmt__82, [.tm 4]) := by kernel_rfl

/-- tallystone/check.Reads$1$1 -/
@[simp] def c83_0l : List EO := [o 2 .box [t 0],
 o 3 .mv [b false]]
def c83_0 : EC := .rg c83_0l false
@[simp] theorem c83_0e : Rg c83_0 c83_0l false := rgE _ _
@[simp] def c83_1l : List EO := [o 4 (.faddr 3) [t 2],
 o 5 (.load 6 true) [t 4],
 o 6 (.load 1 false) [t 1],
 o 7 (.call 84) [t 5, t 6],
 m 3 7]
def c83_1 : EC := .rg c83_1l false
@[simp] theorem c83_1e : Rg c83_1 c83_1l false := rgE _ _
def c83_2 : EC := .sq c83_1 .rt
@[simp] theorem c83_2e : Sq c83_2 c83_1 .rt := sqE _ _
def c83_3 : EC := .sq c83_0 c83_2
@[simp] theorem c83_3e : Sq c83_3 c83_0 c83_2 := sqE _ _
def c_check_ReadsS1S1_83 : EC := c83_3
theorem k_83 : ecF Tryd.prog 83 = some (8, c_check_ReadsS1S1_83, [.tm 3]) := by kernel_rfl

/-- tallystone/check.reads -/
@[simp] def c84_0l : List EO := [o 2 .box [t 0],
 o 3 .box [t 1],
 o 4 .mv [b false]]
def c84_0 : EC := .rg c84_0l false
@[simp] theorem c84_0e : Rg c84_0 c84_0l false := rgE _ _
@[simp] def c84_1l : List EO := [o 6 (.faddr 0) [t 2],
 o 7 (.load 1 false) [t 6],
 o 8 (.bin .eql) [t 7, i 21],
 m 9 8,
 n 10 9 (.faddr 0) [t 2],
 n 11 9 (.load 1 false) [t 10],
 n 12 9 (.bin .eql) [t 11, i 22],
 o 13 .pick [t 9, b true, t 12],
 m 14 13,
 y 15 14 (.load 1 false) [t 3],
 y 16 14 (.faddr 2) [t 2],
 y 17 14 (.load 1 false) [t 16],
 y 18 14 (.bin .geq) [t 15, t 17],
 o 19 .pick [t 14, t 18, b false],
 m 20 19,
 y 21 20 (.load 1 false) [t 3],
 y 22 20 (.faddr 3) [t 2],
 y 23 20 (.load 1 false) [t 22],
 y 24 20 (.bin .leq) [t 21, t 23],
 o 25 .pick [t 20, t 24, b false],
 m 5 25]
def c84_1 : EC := .rg c84_1l false
@[simp] theorem c84_1e : Rg c84_1 c84_1l false := rgE _ _
@[simp] def c84_2l : List EO := [m 26 5,
 m 27 26,
 n 28 27 (.faddr 5) [t 2],
 n 29 27 (.load 1 false) [t 28],
 n 30 27 (.mkfn (.func 111)) [t 3],
 n 31 27 (.call 110) [t 29, t 30],
 o 32 .pick [t 27, b true, t 31],
 m 4 32]
def c84_2 : EC := .rg c84_2l false
@[simp] theorem c84_2e : Rg c84_2 c84_2l false := rgE _ _
def c84_3 : EC := .sq c84_2 .rt
@[simp] theorem c84_3e : Sq c84_3 c84_2 .rt := sqE _ _
def c84_4 : EC := .sq c84_1 c84_3
@[simp] theorem c84_4e : Sq c84_4 c84_1 c84_3 := sqE _ _
def c84_5 : EC := .sq c84_0 c84_4
@[simp] theorem c84_5e : Sq c84_5 c84_0 c84_4 := sqE _ _
def c_check_reads_84 : EC := c84_5
theorem k_84 : ecF Tryd.prog 84 = some (33, c_check_reads_84, [.tm 4]) := by kernel_rfl

/-- tallystone/tallystoneref33.reads -/
@[simp] def c85_0l : List EO := [o 2 .box [t 0],
 o 4 .mv [b false]]
def c85_0 : EC := .rg c85_0l false
@[simp] theorem c85_0e : Rg c85_0 c85_0l false := rgE _ _
@[simp] def c85_1l : List EO := [o 6 (.faddr 0) [t 2],
 o 7 (.load 1 false) [t 6],
 o 8 (.bin .eql) [t 7, i 21],
 m 9 8,
 n 10 9 (.faddr 0) [t 2],
 n 11 9 (.load 1 false) [t 10],
 n 12 9 (.bin .eql) [t 11, i 22],
 o 13 .pick [t 9, b true, t 12],
 m 14 13,
 y 15 14 (.faddr 2) [t 2],
 y 16 14 (.load 1 false) [t 15],
 y 17 14 .mv [t 1],
 y 18 14 (.bin .leq) [t 16, t 17],
 o 19 .pick [t 14, t 18, b false],
 m 20 19,
 y 21 20 .mv [t 1],
 y 22 20 (.faddr 3) [t 2],
 y 23 20 (.load 1 false) [t 22],
 y 24 20 (.bin .leq) [t 21, t 23],
 o 25 .pick [t 20, t 24, b false]]
def c85_1 : EC := .rg c85_1l false
@[simp] theorem c85_1e : Rg c85_1 c85_1l false := rgE _ _
@[simp] def c85_2l : List EO := [o 4 .mv [b true]]
def c85_2 : EC := .rg c85_2l false
@[simp] theorem c85_2e : Rg c85_2 c85_2l false := rgE _ _
def c85_3 : EC := .sq c85_2 .rt
@[simp] theorem c85_3e : Sq c85_3 c85_2 .rt := sqE _ _
def c85_4 : EC := .cd (t 25) c85_3 .skip
@[simp] theorem c85_4e : Cd c85_4 (t 25) c85_3 .skip := cdE _ _ _
def c85_5 : EC := .sq c85_1 c85_4
@[simp] theorem c85_5e : Sq c85_5 c85_1 c85_4 := sqE _ _
@[simp] def c85_6l : List EO := [o 5 .mv [i 0]]
def c85_6 : EC := .rg c85_6l false
@[simp] theorem c85_6e : Rg c85_6 c85_6l false := rgE _ _
@[simp] def c85_7l : List EO := [m 26 5,
 o 27 (.faddr 5) [t 2],
 o 28 (.load 1 false) [t 27],
 o 29 .lenL [t 28],
 o 30 (.bin .lss) [t 26, t 29]]
def c85_7 : EC := .rg c85_7l false
@[simp] theorem c85_7e : Rg c85_7 c85_7l false := rgE _ _
def c85_8 : EC := .cd (t 30) .skip (.ex 0)
@[simp] theorem c85_8e : Cd c85_8 (t 30) .skip (.ex 0) := cdE _ _ _
def c85_9 : EC := .sq c85_7 c85_8
@[simp] theorem c85_9e : Sq c85_9 c85_7 c85_8 := sqE _ _
@[simp] def c85_10l : List EO := [o 33 (.faddr 5) [t 2],
 o 34 (.load 1 false) [t 33],
 m 35 5,
 o 36 (.iaS 6) [t 34, t 35],
 o 37 (.load 6 true) [t 36],
 m 38 1,
 o 39 (.call 85) [t 37, t 38]]
def c85_10 : EC := .rg c85_10l false
@[simp] theorem c85_10e : Rg c85_10 c85_10l false := rgE _ _
@[simp] def c85_11l : List EO := [o 4 .mv [b true]]
def c85_11 : EC := .rg c85_11l false
@[simp] theorem c85_11e : Rg c85_11 c85_11l false := rgE _ _
def c85_12 : EC := .sq c85_11 .rt
@[simp] theorem c85_12e : Sq c85_12 c85_11 .rt := sqE _ _
def c85_13 : EC := .cd (t 39) c85_12 .skip
@[simp] theorem c85_13e : Cd c85_13 (t 39) c85_12 .skip := cdE _ _ _
def c85_14 : EC := .sq c85_10 c85_13
@[simp] theorem c85_14e : Sq c85_14 c85_10 c85_13 := sqE _ _
def c85_15 : EC := .bk 1 c85_14
@[simp] theorem c85_15e : Bk c85_15 1 c85_14 := bkE _ _
@[simp] def c85_16l : List EO := [m 31 5,
 o 32 (.bin .add) [t 31, i 1],
 m 5 32]
def c85_16 : EC := .rg c85_16l false
@[simp] theorem c85_16e : Rg c85_16 c85_16l false := rgE _ _
def c85_17 : EC := .sq c85_15 c85_16
@[simp] theorem c85_17e : Sq c85_17 c85_15 c85_16 := sqE _ _
def c85_18 : EC := .sq c85_9 c85_17
@[simp] theorem c85_18e : Sq c85_18 c85_9 c85_17 := sqE _ _
def c85_19 : EC := .bk 0 (.lp c85_18)
@[simp] theorem c85_19e : Bk c85_19 0 (.lp c85_18) := bkE _ _
def c85_20 : EC := .sq c85_6 c85_19
@[simp] theorem c85_20e : Sq c85_20 c85_6 c85_19 := sqE _ _
@[simp] def c85_21l : List EO := [o 4 .mv [b false]]
def c85_21 : EC := .rg c85_21l false
@[simp] theorem c85_21e : Rg c85_21 c85_21l false := rgE _ _
def c85_22 : EC := .sq c85_21 .rt
@[simp] theorem c85_22e : Sq c85_22 c85_21 .rt := sqE _ _
def c85_23 : EC := .sq c85_20 c85_22
@[simp] theorem c85_23e : Sq c85_23 c85_20 c85_22 := sqE _ _
def c85_24 : EC := .sq c85_5 c85_23
@[simp] theorem c85_24e : Sq c85_24 c85_5 c85_23 := sqE _ _
def c85_25 : EC := .sq c85_0 c85_24
@[simp] theorem c85_25e : Sq c85_25 c85_0 c85_24 := sqE _ _
def c_tallystoneref33_reads_85 : EC := c85_25
theorem k_85 : ecF Tryd.prog 85 = some (40, c_tallystoneref33_reads_85, [.tm 4]) := by kernel_rfl

/-- tallystone/syntax.named -/
@[simp] def c86_0l : List EO := [o 2 .mv [b false]]
def c86_0 : EC := .rg c86_0l false
@[simp] theorem c86_0e : Rg c86_0 c86_0l false := rgE _ _
@[simp] def c86_1l : List EO := [m 7 0,
 o 8 (.call 112) [t 7],
 m 6 8,
 o 9 (.ext 0) [t 6],
 o 10 (.ext 1) [t 6],
 o 11 (.ext 2) [t 6],
 m 3 9,
 m 4 10,
 m 5 11]
def c86_1 : EC := .rg c86_1l false
@[simp] theorem c86_1e : Rg c86_1 c86_1l false := rgE _ _
@[simp] def c86_2l : List EO := [m 12 5,
 o 13 (.bin .eql) [t 12, i 0],
 m 14 13,
 y 15 14 .mv [t 3],
 y 16 14 .lenL [t 15],
 y 17 14 (.bin .eql) [t 16, i 1],
 o 18 .pick [t 14, t 17, b false],
 m 19 18,
 y 20 19 .mv [t 3],
 y 21 19 (.iaS 3) [t 20, i 0],
 y 22 19 (.faddr 0) [t 21],
 y 23 19 (.load 1 false) [t 22],
 y 24 19 (.bin .eql) [t 23, i 1],
 o 25 .pick [t 19, t 24, b false],
 m 26 25,
 y 27 26 .mv [t 3],
 y 28 26 (.iaS 3) [t 27, i 0],
 y 29 26 (.faddr 1) [t 28],
 y 30 26 (.load 1 false) [t 29],
 y 31 26 .mv [t 0],
 y 32 26 (.bin .eql) [t 30, t 31],
 o 33 .pick [t 26, t 32, b false],
 m 34 33,
 y 35 34 .mv [t 0],
 y 36 34 (.call 113) [t 35],
 y 37 34 (.un .not) [t 36],
 o 38 .pick [t 34, t 37, b false],
 m 2 38]
def c86_2 : EC := .rg c86_2l false
@[simp] theorem c86_2e : Rg c86_2 c86_2l false := rgE _ _
def c86_3 : EC := .sq c86_2 .rt
@[simp] theorem c86_3e : Sq c86_3 c86_2 .rt := sqE _ _
def c86_4 : EC := .sq c86_1 c86_3
@[simp] theorem c86_4e : Sq c86_4 c86_1 c86_3 := sqE _ _
def c86_5 : EC := .sq c86_0 c86_4
@[simp] theorem c86_5e : Sq c86_5 c86_0 c86_4 := sqE _ _
def c_syntax_named_86 : EC := c86_5
theorem k_86 : ecF Tryd.prog 86 = some (39, c_syntax_named_86, [.tm 2]) := by kernel_rfl

/-- tallystone/syntax.account -/
@[simp] def c87_0l : List EO := [o 2 .mv [b false]]
def c87_0 : EC := .rg c87_0l false
@[simp] theorem c87_0e : Rg c87_0 c87_0l false := rgE _ _
@[simp] def c87_1l : List EO := [m 3 0,
 o 4 (.bin .geq) [t 3, i 1],
 m 5 4,
 y 6 5 .mv [t 0],
 y 7 5 (.bin .leq) [t 6, i 99999],
 o 8 .pick [t 5, t 7, b false],
 m 2 8]
def c87_1 : EC := .rg c87_1l false
@[simp] theorem c87_1e : Rg c87_1 c87_1l false := rgE _ _
def c87_2 : EC := .sq c87_1 .rt
@[simp] theorem c87_2e : Sq c87_2 c87_1 .rt := sqE _ _
def c87_3 : EC := .sq c87_0 c87_2
@[simp] theorem c87_3e : Sq c87_3 c87_0 c87_2 := sqE _ _
def c_syntax_account_87 : EC := c87_3
theorem k_87 : ecF Tryd.prog 87 = some (9, c_syntax_account_87, [.tm 2]) := by kernel_rfl

/-- tallystone/syntax.Valid$1 -/
@[simp] def c88_0l : List EO := [o 1 .box [t 0],
 o 2 .mv [b false]]
def c88_0 : EC := .rg c88_0l false
@[simp] theorem c88_0e : Rg c88_0 c88_0l false := rgE _ _
@[simp] def c88_1l : List EO := [o 3 (.load 9 true) [t 1],
 o 4 (.call 89) [t 3],
 o 5 (.un .not) [t 4],
 m 2 5]
def c88_1 : EC := .rg c88_1l false
@[simp] theorem c88_1e : Rg c88_1 c88_1l false := rgE _ _
def c88_2 : EC := .sq c88_1 .rt
@[simp] theorem c88_2e : Sq c88_2 c88_1 .rt := sqE _ _
def c88_3 : EC := .sq c88_0 c88_2
@[simp] theorem c88_3e : Sq c88_3 c88_0 c88_2 := sqE _ _
def c_syntax_ValidS1_88 : EC := c88_3
theorem k_88 : ecF Tryd.prog 88 = some (6, c_syntax_ValidS1_88, [.tm 2]) := by kernel_rfl

/-- tallystone/syntax.stmt -/
@[simp] def c89_0l : List EO := [o 1 .box [t 0],
 o 2 .mv [b false]]
def c89_0 : EC := .rg c89_0l false
@[simp] theorem c89_0e : Rg c89_0 c89_0l false := rgE _ _
@[simp] def c89_1l : List EO := [o 3 .mv [b false]]
def c89_1 : EC := .rg c89_1l false
@[simp] theorem c89_1e : Rg c89_1 c89_1l false := rgE _ _
@[simp] def c89_2l : List EO := [o 4 (.faddr 0) [t 1],
 o 5 (.load 1 false) [t 4]]
def c89_2 : EC := .rg c89_2l false
@[simp] theorem c89_2e : Rg c89_2 c89_2l false := rgE _ _
@[simp] def c89_3l : List EO := [o 7 (.bin .eql) [t 5, i 1],
 m 6 7]
def c89_3 : EC := .rg c89_3l false
@[simp] theorem c89_3e : Rg c89_3 c89_3l false := rgE _ _
@[simp] def c89_4l : List EO := [o 8 (.faddr 2) [t 1],
 o 9 (.load 1 false) [t 8],
 o 10 (.call 86) [t 9],
 m 11 10,
 y 12 11 (.faddr 1) [t 1],
 y 13 11 (.load 1 false) [t 12],
 y 14 11 (.bin .eql) [t 13, i 0],
 o 15 .pick [t 11, t 14, b false],
 m 3 15]
def c89_4 : EC := .rg c89_4l false
@[simp] theorem c89_4e : Rg c89_4 c89_4l false := rgE _ _
@[simp] def c89_5l : List EO := [o 17 (.bin .eql) [t 5, i 2],
 m 16 17]
def c89_5 : EC := .rg c89_5l false
@[simp] theorem c89_5e : Rg c89_5 c89_5l false := rgE _ _
@[simp] def c89_6l : List EO := [o 18 (.faddr 2) [t 1],
 o 19 (.load 1 false) [t 18],
 o 20 (.bin .eql) [t 19, c (.t (.str []))],
 m 21 20,
 y 22 21 (.faddr 1) [t 1],
 y 23 21 (.load 1 false) [t 22],
 y 24 21 (.bin .eql) [t 23, i 0],
 o 25 .pick [t 21, t 24, b false],
 m 3 25]
def c89_6 : EC := .rg c89_6l false
@[simp] theorem c89_6e : Rg c89_6 c89_6l false := rgE _ _
@[simp] def c89_7l : List EO := [o 27 (.bin .eql) [t 5, i 3],
 m 26 27]
def c89_7 : EC := .rg c89_7l false
@[simp] theorem c89_7e : Rg c89_7 c89_7l false := rgE _ _
@[simp] def c89_8l : List EO := [o 28 (.faddr 2) [t 1],
 o 29 (.load 1 false) [t 28],
 o 30 (.bin .eql) [t 29, c (.t (.str []))],
 m 31 30,
 y 32 31 (.faddr 1) [t 1],
 y 33 31 (.load 1 false) [t 32],
 y 34 31 (.call 87) [t 33],
 o 35 .pick [t 31, t 34, b false],
 m 3 35]
def c89_8 : EC := .rg c89_8l false
@[simp] theorem c89_8e : Rg c89_8 c89_8l false := rgE _ _
def c89_9 : EC := .cd (t 26) c89_8 .skip
@[simp] theorem c89_9e : Cd c89_9 (t 26) c89_8 .skip := cdE _ _ _
def c89_10 : EC := .sq c89_7 c89_9
@[simp] theorem c89_10e : Sq c89_10 c89_7 c89_9 := sqE _ _
def c89_11 : EC := .cd (t 16) c89_6 c89_10
@[simp] theorem c89_11e : Cd c89_11 (t 16) c89_6 c89_10 := cdE _ _ _
def c89_12 : EC := .sq c89_5 c89_11
@[simp] theorem c89_12e : Sq c89_12 c89_5 c89_11 := sqE _ _
def c89_13 : EC := .cd (t 6) c89_4 c89_12
@[simp] theorem c89_13e : Cd c89_13 (t 6) c89_4 c89_12 := cdE _ _ _
def c89_14 : EC := .sq c89_3 c89_13
@[simp] theorem c89_14e : Sq c89_14 c89_3 c89_13 := sqE _ _
def c89_15 : EC := .bk 0 c89_14
@[simp] theorem c89_15e : Bk c89_15 0 c89_14 := bkE _ _
def c89_16 : EC := .sq c89_2 c89_15
@[simp] theorem c89_16e : Sq c89_16 c89_2 c89_15 := sqE _ _
@[simp] def c89_17l : List EO := [m 36 3,
 m 37 36,
 y 38 37 (.faddr 3) [t 1],
 y 39 37 (.load 6 true) [t 38],
 y 40 37 (.call 114) [t 39],
 y 41 37 (.bin .leq) [t 40, i 30],
 o 42 .pick [t 37, t 41, b false],
 m 43 42,
 y 44 43 (.faddr 3) [t 1],
 y 45 43 (.load 6 true) [t 44],
 y 46 43 (.call 115) [t 45],
 o 47 .pick [t 43, t 46, b false],
 m 2 47]
def c89_17 : EC := .rg c89_17l false
@[simp] theorem c89_17e : Rg c89_17 c89_17l false := rgE _ _
def c89_18 : EC := .sq c89_17 .rt
@[simp] theorem c89_18e : Sq c89_18 c89_17 .rt := sqE _ _
def c89_19 : EC := .sq c89_16 c89_18
@[simp] theorem c89_19e : Sq c89_19 c89_16 c89_18 := sqE _ _
def c89_20 : EC := .sq c89_1 c89_19
@[simp] theorem c89_20e : Sq c89_20 c89_1 c89_19 := sqE _ _
def c89_21 : EC := .sq c89_0 c89_20
@[simp] theorem c89_21e : Sq c89_21 c89_0 c89_20 := sqE _ _
def c_syntax_stmt_89 : EC := c89_21
theorem k_89 : ecF Tryd.prog 89 = some (48, c_syntax_stmt_89, [.tm 2]) := by kernel_rfl

/-- tallystone/tallystoneref33.kind -/
@[simp] def c91_0l : List EO := [o 2 .mv [i 0],
 o 3 .mv [i 0]]
def c91_0 : EC := .rg c91_0l false
@[simp] theorem c91_0e : Rg c91_0 c91_0l false := rgE _ _
@[simp] def c91_1l : List EO := [m 5 0,
 o 6 (.bin .eql) [t 5, i 6],
 m 7 6,
 n 8 7 .mv [t 0],
 n 9 7 (.bin .eql) [t 8, i 12],
 o 10 .pick [t 7, b true, t 9],
 m 11 10,
 n 12 11 .mv [t 0],
 n 13 11 (.bin .eql) [t 12, i 13],
 o 14 .pick [t 11, b true, t 13],
 m 4 14]
def c91_1 : EC := .rg c91_1l false
@[simp] theorem c91_1e : Rg c91_1 c91_1l false := rgE _ _
@[simp] def c91_2l : List EO := [o 2 .mv [i 2],
 o 3 .mv [i 2]]
def c91_2 : EC := .rg c91_2l false
@[simp] theorem c91_2e : Rg c91_2 c91_2l false := rgE _ _
def c91_3 : EC := .sq c91_2 .rt
@[simp] theorem c91_3e : Sq c91_3 c91_2 .rt := sqE _ _
@[simp] def c91_4l : List EO := [m 16 0,
 o 17 (.bin .geq) [t 16, i 14],
 m 18 17,
 y 19 18 .mv [t 0],
 y 20 18 (.bin .leq) [t 19, i 19],
 o 21 .pick [t 18, t 20, b false],
 m 15 21]
def c91_4 : EC := .rg c91_4l false
@[simp] theorem c91_4e : Rg c91_4 c91_4l false := rgE _ _
@[simp] def c91_5l : List EO := [o 2 .mv [i 2],
 o 3 .mv [i 1]]
def c91_5 : EC := .rg c91_5l false
@[simp] theorem c91_5e : Rg c91_5 c91_5l false := rgE _ _
def c91_6 : EC := .sq c91_5 .rt
@[simp] theorem c91_6e : Sq c91_6 c91_5 .rt := sqE _ _
def c91_7 : EC := .cd (t 15) c91_6 .skip
@[simp] theorem c91_7e : Cd c91_7 (t 15) c91_6 .skip := cdE _ _ _
def c91_8 : EC := .sq c91_4 c91_7
@[simp] theorem c91_8e : Sq c91_8 c91_4 c91_7 := sqE _ _
def c91_9 : EC := .cd (t 4) c91_3 c91_8
@[simp] theorem c91_9e : Cd c91_9 (t 4) c91_3 c91_8 := cdE _ _ _
def c91_10 : EC := .sq c91_1 c91_9
@[simp] theorem c91_10e : Sq c91_10 c91_1 c91_9 := sqE _ _
def c91_11 : EC := .bk 0 c91_10
@[simp] theorem c91_11e : Bk c91_11 0 c91_10 := bkE _ _
@[simp] def c91_12l : List EO := [o 2 .mv [i 1],
 o 3 .mv [i 1]]
def c91_12 : EC := .rg c91_12l false
@[simp] theorem c91_12e : Rg c91_12 c91_12l false := rgE _ _
def c91_13 : EC := .sq c91_12 .rt
@[simp] theorem c91_13e : Sq c91_13 c91_12 .rt := sqE _ _
def c91_14 : EC := .sq c91_11 c91_13
@[simp] theorem c91_14e : Sq c91_14 c91_11 c91_13 := sqE _ _
def c91_15 : EC := .sq c91_0 c91_14
@[simp] theorem c91_15e : Sq c91_15 c91_0 c91_14 := sqE _ _
def c_tallystoneref33_kind_91 : EC := c91_15
theorem k_91 : ecF Tryd.prog 91 = some (22, c_tallystoneref33_kind_91, [.tm 2, .tm 3]) := by kernel_rfl

/-- tallystone/compile.numbers -/
@[simp] def c92_0l : List EO := [o 3 .box [t 0],
 o 4 .box [t 1],
 o 6 .mv [b false]]
def c92_0 : EC := .rg c92_0l false
@[simp] theorem c92_0e : Rg c92_0 c92_0l false := rgE _ _
@[simp] def c92_1l : List EO := [o 7 (.faddr 0) [t 3],
 o 8 (.load 1 false) [t 7]]
def c92_1 : EC := .rg c92_1l false
@[simp] theorem c92_1e : Rg c92_1 c92_1l false := rgE _ _
@[simp] def c92_2l : List EO := [o 10 (.bin .eql) [t 8, i 1],
 m 9 10]
def c92_2 : EC := .rg c92_2l false
@[simp] theorem c92_2e : Rg c92_2 c92_2l false := rgE _ _
@[simp] def c92_3l : List EO := [o 11 (.faddr 1) [t 3],
 o 12 (.load 1 false) [t 11],
 o 13 (.call 45) [t 12],
 m 14 13,
 y 15 14 (.faddr 2) [t 3],
 y 16 14 (.load 1 false) [t 15],
 y 17 14 (.bin .eql) [t 16, i 0],
 o 18 .pick [t 14, t 17, b false],
 m 6 18]
def c92_3 : EC := .rg c92_3l false
@[simp] theorem c92_3e : Rg c92_3 c92_3l false := rgE _ _
def c92_4 : EC := .sq c92_3 .rt
@[simp] theorem c92_4e : Sq c92_4 c92_3 .rt := sqE _ _
@[simp] def c92_5l : List EO := [o 20 (.bin .eql) [t 8, i 2],
 m 19 20]
def c92_5 : EC := .rg c92_5l false
@[simp] theorem c92_5e : Rg c92_5 c92_5l false := rgE _ _
@[simp] def c92_6l : List EO := [o 21 (.faddr 1) [t 3],
 o 22 (.load 1 false) [t 21],
 o 23 (.bin .geq) [t 22, i 0],
 m 24 23,
 y 25 24 (.faddr 1) [t 3],
 y 26 24 (.load 1 false) [t 25],
 y 27 24 .mv [t 2],
 y 28 24 (.bin .lss) [t 26, t 27],
 o 29 .pick [t 24, t 28, b false],
 m 30 29,
 y 31 30 (.faddr 2) [t 3],
 y 32 30 (.load 1 false) [t 31],
 y 33 30 (.bin .eql) [t 32, i 0],
 o 34 .pick [t 30, t 33, b false],
 m 6 34]
def c92_6 : EC := .rg c92_6l false
@[simp] theorem c92_6e : Rg c92_6 c92_6l false := rgE _ _
def c92_7 : EC := .sq c92_6 .rt
@[simp] theorem c92_7e : Sq c92_7 c92_6 .rt := sqE _ _
@[simp] def c92_8l : List EO := [o 36 (.bin .eql) [t 8, i 3],
 m 35 36]
def c92_8 : EC := .rg c92_8l false
@[simp] theorem c92_8e : Rg c92_8 c92_8l false := rgE _ _
@[simp] def c92_9l : List EO := [o 37 (.bin .eql) [t 8, i 4],
 m 35 37]
def c92_9 : EC := .rg c92_9l false
@[simp] theorem c92_9e : Rg c92_9 c92_9l false := rgE _ _
def c92_10 : EC := .cd (t 35) .skip c92_9
@[simp] theorem c92_10e : Cd c92_10 (t 35) .skip c92_9 := cdE _ _ _
def c92_11 : EC := .sq c92_8 c92_10
@[simp] theorem c92_11e : Sq c92_11 c92_8 c92_10 := sqE _ _
@[simp] def c92_12l : List EO := [o 38 (.faddr 1) [t 3],
 o 39 (.load 1 false) [t 38],
 o 40 (.call 116) [t 39],
 m 41 40,
 y 42 41 (.faddr 2) [t 3],
 y 43 41 (.load 1 false) [t 42],
 y 44 41 (.call 116) [t 43],
 o 45 .pick [t 41, t 44, b false],
 m 46 45,
 y 47 46 (.faddr 1) [t 3],
 y 48 46 (.load 1 false) [t 47],
 y 49 46 (.faddr 2) [t 3],
 y 50 46 (.load 1 false) [t 49],
 y 51 46 (.bin .leq) [t 48, t 50],
 o 52 .pick [t 46, t 51, b false],
 m 53 52,
 y 54 53 (.faddr 0) [t 3],
 y 55 53 (.load 1 false) [t 54],
 y 56 53 (.bin .eql) [t 55, i 3],
 y 57 53 .mv [t 56],
 n 58 57 (.faddr 1) [t 4],
 n 59 57 (.load 1 false) [t 58],
 y 60 53 .pick [t 57, b true, t 59],
 o 61 .pick [t 53, t 60, b false],
 m 6 61]
def c92_12 : EC := .rg c92_12l false
@[simp] theorem c92_12e : Rg c92_12 c92_12l false := rgE _ _
def c92_13 : EC := .sq c92_12 .rt
@[simp] theorem c92_13e : Sq c92_13 c92_12 .rt := sqE _ _
@[simp] def c92_14l : List EO := [o 63 (.bin .eql) [t 8, i 9],
 m 62 63]
def c92_14 : EC := .rg c92_14l false
@[simp] theorem c92_14e : Rg c92_14 c92_14l false := rgE _ _
@[simp] def c92_15l : List EO := [o 64 (.faddr 1) [t 3],
 o 65 (.load 1 false) [t 64],
 o 66 (.bin .geq) [t 65, i 1],
 m 67 66,
 y 68 67 (.faddr 1) [t 3],
 y 69 67 (.load 1 false) [t 68],
 y 70 67 (.call 45) [t 69],
 o 71 .pick [t 67, t 70, b false],
 m 72 71,
 y 73 72 (.faddr 2) [t 3],
 y 74 72 (.load 1 false) [t 73],
 y 75 72 (.bin .eql) [t 74, i 0],
 o 76 .pick [t 72, t 75, b false],
 m 6 76]
def c92_15 : EC := .rg c92_15l false
@[simp] theorem c92_15e : Rg c92_15 c92_15l false := rgE _ _
def c92_16 : EC := .sq c92_15 .rt
@[simp] theorem c92_16e : Sq c92_16 c92_15 .rt := sqE _ _
@[simp] def c92_17l : List EO := [o 78 (.bin .eql) [t 8, i 23],
 m 77 78]
def c92_17 : EC := .rg c92_17l false
@[simp] theorem c92_17e : Rg c92_17 c92_17l false := rgE _ _
@[simp] def c92_18l : List EO := [o 79 (.faddr 1) [t 3],
 o 80 (.load 1 false) [t 79],
 m 81 2,
 o 82 (.bin .eql) [t 80, t 81],
 m 83 82,
 y 84 83 (.faddr 2) [t 3],
 y 85 83 (.load 1 false) [t 84],
 y 86 83 (.bin .eql) [t 85, i 0],
 o 87 .pick [t 83, t 86, b false],
 m 6 87]
def c92_18 : EC := .rg c92_18l false
@[simp] theorem c92_18e : Rg c92_18 c92_18l false := rgE _ _
def c92_19 : EC := .sq c92_18 .rt
@[simp] theorem c92_19e : Sq c92_19 c92_18 .rt := sqE _ _
@[simp] def c92_20l : List EO := [o 89 (.bin .eql) [t 8, i 25],
 m 88 89]
def c92_20 : EC := .rg c92_20l false
@[simp] theorem c92_20e : Rg c92_20 c92_20l false := rgE _ _
@[simp] def c92_21l : List EO := [o 90 (.bin .eql) [t 8, i 26],
 m 88 90]
def c92_21 : EC := .rg c92_21l false
@[simp] theorem c92_21e : Rg c92_21 c92_21l false := rgE _ _
def c92_22 : EC := .cd (t 88) .skip c92_21
@[simp] theorem c92_22e : Cd c92_22 (t 88) .skip c92_21 := cdE _ _ _
def c92_23 : EC := .sq c92_20 c92_22
@[simp] theorem c92_23e : Sq c92_23 c92_20 c92_22 := sqE _ _
@[simp] def c92_24l : List EO := [o 91 (.faddr 1) [t 3],
 o 92 (.load 1 false) [t 91],
 o 93 (.call 116) [t 92],
 m 94 93,
 y 95 94 (.faddr 2) [t 3],
 y 96 94 (.load 1 false) [t 95],
 y 97 94 (.bin .eql) [t 96, i 0],
 o 98 .pick [t 94, t 97, b false],
 m 6 98]
def c92_24 : EC := .rg c92_24l false
@[simp] theorem c92_24e : Rg c92_24 c92_24l false := rgE _ _
def c92_25 : EC := .sq c92_24 .rt
@[simp] theorem c92_25e : Sq c92_25 c92_24 .rt := sqE _ _
def c92_26 : EC := .cd (t 88) c92_25 .skip
@[simp] theorem c92_26e : Cd c92_26 (t 88) c92_25 .skip := cdE _ _ _
def c92_27 : EC := .sq c92_23 c92_26
@[simp] theorem c92_27e : Sq c92_27 c92_23 c92_26 := sqE _ _
def c92_28 : EC := .cd (t 77) c92_19 c92_27
@[simp] theorem c92_28e : Cd c92_28 (t 77) c92_19 c92_27 := cdE _ _ _
def c92_29 : EC := .sq c92_17 c92_28
@[simp] theorem c92_29e : Sq c92_29 c92_17 c92_28 := sqE _ _
def c92_30 : EC := .cd (t 62) c92_16 c92_29
@[simp] theorem c92_30e : Cd c92_30 (t 62) c92_16 c92_29 := cdE _ _ _
def c92_31 : EC := .sq c92_14 c92_30
@[simp] theorem c92_31e : Sq c92_31 c92_14 c92_30 := sqE _ _
def c92_32 : EC := .cd (t 35) c92_13 c92_31
@[simp] theorem c92_32e : Cd c92_32 (t 35) c92_13 c92_31 := cdE _ _ _
def c92_33 : EC := .sq c92_11 c92_32
@[simp] theorem c92_33e : Sq c92_33 c92_11 c92_32 := sqE _ _
def c92_34 : EC := .cd (t 19) c92_7 c92_33
@[simp] theorem c92_34e : Cd c92_34 (t 19) c92_7 c92_33 := cdE _ _ _
def c92_35 : EC := .sq c92_5 c92_34
@[simp] theorem c92_35e : Sq c92_35 c92_5 c92_34 := sqE _ _
def c92_36 : EC := .cd (t 9) c92_4 c92_35
@[simp] theorem c92_36e : Cd c92_36 (t 9) c92_4 c92_35 := cdE _ _ _
def c92_37 : EC := .sq c92_2 c92_36
@[simp] theorem c92_37e : Sq c92_37 c92_2 c92_36 := sqE _ _
def c92_38 : EC := .bk 0 c92_37
@[simp] theorem c92_38e : Bk c92_38 0 c92_37 := bkE _ _
def c92_39 : EC := .sq c92_1 c92_38
@[simp] theorem c92_39e : Sq c92_39 c92_1 c92_38 := sqE _ _
@[simp] def c92_40l : List EO := [o 99 (.faddr 1) [t 3],
 o 100 (.load 1 false) [t 99],
 o 101 (.bin .eql) [t 100, i 0],
 m 102 101,
 y 103 102 (.faddr 2) [t 3],
 y 104 102 (.load 1 false) [t 103],
 y 105 102 (.bin .eql) [t 104, i 0],
 o 106 .pick [t 102, t 105, b false],
 m 6 106]
def c92_40 : EC := .rg c92_40l false
@[simp] theorem c92_40e : Rg c92_40 c92_40l false := rgE _ _
def c92_41 : EC := .sq c92_40 .rt
@[simp] theorem c92_41e : Sq c92_41 c92_40 .rt := sqE _ _
def c92_42 : EC := .sq c92_39 c92_41
@[simp] theorem c92_42e : Sq c92_42 c92_39 c92_41 := sqE _ _
def c92_43 : EC := .sq c92_0 c92_42
@[simp] theorem c92_43e : Sq c92_43 c92_0 c92_42 := sqE _ _
def c_compile_numbers_92 : EC := c92_43
theorem k_92 : ecF Tryd.prog 92 = some (107, c_compile_numbers_92, [.tm 6]) := by kernel_rfl

/-- tallystone/tallystoneref34.fine -/
@[simp] def c93_0l : List EO := [o 3 .box [t 0],
 o 6 .mv [b false]]
def c93_0 : EC := .rg c93_0l false
@[simp] theorem c93_0e : Rg c93_0 c93_0l false := rgE _ _
@[simp] def c93_1l : List EO := [o 7 (.faddr 0) [t 3],
 o 8 (.load 1 false) [t 7]]
def c93_1 : EC := .rg c93_1l false
@[simp] theorem c93_1e : Rg c93_1 c93_1l false := rgE _ _
@[simp] def c93_2l : List EO := [o 10 (.bin .eql) [t 8, i 1],
 m 9 10]
def c93_2 : EC := .rg c93_2l false
@[simp] theorem c93_2e : Rg c93_2 c93_2l false := rgE _ _
@[simp] def c93_3l : List EO := [o 11 (.faddr 1) [t 3],
 o 12 (.load 1 false) [t 11],
 o 13 (.call 15) [t 12],
 m 6 13]
def c93_3 : EC := .rg c93_3l false
@[simp] theorem c93_3e : Rg c93_3 c93_3l false := rgE _ _
def c93_4 : EC := .sq c93_3 .rt
@[simp] theorem c93_4e : Sq c93_4 c93_3 .rt := sqE _ _
@[simp] def c93_5l : List EO := [o 15 (.bin .eql) [t 8, i 2],
 m 14 15]
def c93_5 : EC := .rg c93_5l false
@[simp] theorem c93_5e : Rg c93_5 c93_5l false := rgE _ _
@[simp] def c93_6l : List EO := [o 16 (.faddr 1) [t 3],
 o 17 (.load 1 false) [t 16],
 o 18 (.bin .geq) [t 17, i 0],
 m 19 18,
 y 20 19 (.faddr 1) [t 3],
 y 21 19 (.load 1 false) [t 20],
 y 22 19 .mv [t 1],
 y 23 19 (.bin .lss) [t 21, t 22],
 o 24 .pick [t 19, t 23, b false],
 m 6 24]
def c93_6 : EC := .rg c93_6l false
@[simp] theorem c93_6e : Rg c93_6 c93_6l false := rgE _ _
def c93_7 : EC := .sq c93_6 .rt
@[simp] theorem c93_7e : Sq c93_7 c93_6 .rt := sqE _ _
@[simp] def c93_8l : List EO := [o 26 (.bin .eql) [t 8, i 3],
 m 25 26]
def c93_8 : EC := .rg c93_8l false
@[simp] theorem c93_8e : Rg c93_8 c93_8l false := rgE _ _
@[simp] def c93_9l : List EO := [o 27 (.bin .eql) [t 8, i 4],
 m 25 27]
def c93_9 : EC := .rg c93_9l false
@[simp] theorem c93_9e : Rg c93_9 c93_9l false := rgE _ _
def c93_10 : EC := .cd (t 25) .skip c93_9
@[simp] theorem c93_10e : Cd c93_10 (t 25) .skip c93_9 := cdE _ _ _
def c93_11 : EC := .sq c93_8 c93_10
@[simp] theorem c93_11e : Sq c93_11 c93_8 c93_10 := sqE _ _
@[simp] def c93_12l : List EO := [o 28 (.faddr 1) [t 3],
 o 29 (.load 1 false) [t 28],
 o 30 (.call 117) [t 29],
 m 31 30,
 y 32 31 (.faddr 2) [t 3],
 y 33 31 (.load 1 false) [t 32],
 y 34 31 (.call 117) [t 33],
 o 35 .pick [t 31, t 34, b false],
 m 36 35,
 y 37 36 (.faddr 1) [t 3],
 y 38 36 (.load 1 false) [t 37],
 y 39 36 (.faddr 2) [t 3],
 y 40 36 (.load 1 false) [t 39],
 y 41 36 (.bin .leq) [t 38, t 40],
 o 42 .pick [t 36, t 41, b false],
 m 43 42,
 y 44 43 .mv [t 2],
 y 45 43 .mv [t 44],
 n 46 45 (.faddr 0) [t 3],
 n 47 45 (.load 1 false) [t 46],
 n 48 45 (.bin .eql) [t 47, i 3],
 y 49 43 .pick [t 45, b true, t 48],
 o 50 .pick [t 43, t 49, b false],
 m 6 50]
def c93_12 : EC := .rg c93_12l false
@[simp] theorem c93_12e : Rg c93_12 c93_12l false := rgE _ _
def c93_13 : EC := .sq c93_12 .rt
@[simp] theorem c93_13e : Sq c93_13 c93_12 .rt := sqE _ _
@[simp] def c93_14l : List EO := [o 52 (.bin .eql) [t 8, i 9],
 m 51 52]
def c93_14 : EC := .rg c93_14l false
@[simp] theorem c93_14e : Rg c93_14 c93_14l false := rgE _ _
@[simp] def c93_15l : List EO := [o 53 (.faddr 1) [t 3],
 o 54 (.load 1 false) [t 53],
 o 55 (.bin .geq) [t 54, i 1],
 m 56 55,
 y 57 56 (.faddr 1) [t 3],
 y 58 56 (.load 1 false) [t 57],
 y 59 56 (.bin .leq) [t 58, i 1000000000000],
 o 60 .pick [t 56, t 59, b false],
 m 6 60]
def c93_15 : EC := .rg c93_15l false
@[simp] theorem c93_15e : Rg c93_15 c93_15l false := rgE _ _
def c93_16 : EC := .sq c93_15 .rt
@[simp] theorem c93_16e : Sq c93_16 c93_15 .rt := sqE _ _
@[simp] def c93_17l : List EO := [o 62 (.bin .eql) [t 8, i 23],
 m 61 62]
def c93_17 : EC := .rg c93_17l false
@[simp] theorem c93_17e : Rg c93_17 c93_17l false := rgE _ _
@[simp] def c93_18l : List EO := [o 63 (.faddr 1) [t 3],
 o 64 (.load 1 false) [t 63],
 m 65 1,
 o 66 (.bin .eql) [t 64, t 65],
 m 6 66]
def c93_18 : EC := .rg c93_18l false
@[simp] theorem c93_18e : Rg c93_18 c93_18l false := rgE _ _
def c93_19 : EC := .sq c93_18 .rt
@[simp] theorem c93_19e : Sq c93_19 c93_18 .rt := sqE _ _
@[simp] def c93_20l : List EO := [o 68 (.bin .eql) [t 8, i 25],
 m 67 68]
def c93_20 : EC := .rg c93_20l false
@[simp] theorem c93_20e : Rg c93_20 c93_20l false := rgE _ _
@[simp] def c93_21l : List EO := [o 69 (.bin .eql) [t 8, i 26],
 m 67 69]
def c93_21 : EC := .rg c93_21l false
@[simp] theorem c93_21e : Rg c93_21 c93_21l false := rgE _ _
def c93_22 : EC := .cd (t 67) .skip c93_21
@[simp] theorem c93_22e : Cd c93_22 (t 67) .skip c93_21 := cdE _ _ _
def c93_23 : EC := .sq c93_20 c93_22
@[simp] theorem c93_23e : Sq c93_23 c93_20 c93_22 := sqE _ _
@[simp] def c93_24l : List EO := [o 70 (.faddr 1) [t 3],
 o 71 (.load 1 false) [t 70],
 o 72 (.call 117) [t 71],
 m 6 72]
def c93_24 : EC := .rg c93_24l false
@[simp] theorem c93_24e : Rg c93_24 c93_24l false := rgE _ _
def c93_25 : EC := .sq c93_24 .rt
@[simp] theorem c93_25e : Sq c93_25 c93_24 .rt := sqE _ _
def c93_26 : EC := .cd (t 67) c93_25 .skip
@[simp] theorem c93_26e : Cd c93_26 (t 67) c93_25 .skip := cdE _ _ _
def c93_27 : EC := .sq c93_23 c93_26
@[simp] theorem c93_27e : Sq c93_27 c93_23 c93_26 := sqE _ _
def c93_28 : EC := .cd (t 61) c93_19 c93_27
@[simp] theorem c93_28e : Cd c93_28 (t 61) c93_19 c93_27 := cdE _ _ _
def c93_29 : EC := .sq c93_17 c93_28
@[simp] theorem c93_29e : Sq c93_29 c93_17 c93_28 := sqE _ _
def c93_30 : EC := .cd (t 51) c93_16 c93_29
@[simp] theorem c93_30e : Cd c93_30 (t 51) c93_16 c93_29 := cdE _ _ _
def c93_31 : EC := .sq c93_14 c93_30
@[simp] theorem c93_31e : Sq c93_31 c93_14 c93_30 := sqE _ _
def c93_32 : EC := .cd (t 25) c93_13 c93_31
@[simp] theorem c93_32e : Cd c93_32 (t 25) c93_13 c93_31 := cdE _ _ _
def c93_33 : EC := .sq c93_11 c93_32
@[simp] theorem c93_33e : Sq c93_33 c93_11 c93_32 := sqE _ _
def c93_34 : EC := .cd (t 14) c93_7 c93_33
@[simp] theorem c93_34e : Cd c93_34 (t 14) c93_7 c93_33 := cdE _ _ _
def c93_35 : EC := .sq c93_5 c93_34
@[simp] theorem c93_35e : Sq c93_35 c93_5 c93_34 := sqE _ _
def c93_36 : EC := .cd (t 9) c93_4 c93_35
@[simp] theorem c93_36e : Cd c93_36 (t 9) c93_4 c93_35 := cdE _ _ _
def c93_37 : EC := .sq c93_2 c93_36
@[simp] theorem c93_37e : Sq c93_37 c93_2 c93_36 := sqE _ _
def c93_38 : EC := .bk 0 c93_37
@[simp] theorem c93_38e : Bk c93_38 0 c93_37 := bkE _ _
def c93_39 : EC := .sq c93_1 c93_38
@[simp] theorem c93_39e : Sq c93_39 c93_1 c93_38 := sqE _ _
@[simp] def c93_40l : List EO := [o 73 (.faddr 1) [t 3],
 o 74 (.load 1 false) [t 73],
 o 75 (.bin .eql) [t 74, i 0],
 m 6 75]
def c93_40 : EC := .rg c93_40l false
@[simp] theorem c93_40e : Rg c93_40 c93_40l false := rgE _ _
def c93_41 : EC := .sq c93_40 .rt
@[simp] theorem c93_41e : Sq c93_41 c93_40 .rt := sqE _ _
def c93_42 : EC := .sq c93_39 c93_41
@[simp] theorem c93_42e : Sq c93_42 c93_39 c93_41 := sqE _ _
def c93_43 : EC := .sq c93_0 c93_42
@[simp] theorem c93_43e : Sq c93_43 c93_0 c93_42 := sqE _ _
def c_tallystoneref34_fine_93 : EC := c93_43
theorem k_93 : ecF Tryd.prog 93 = some (76, c_tallystoneref34_fine_93, [.tm 6]) := by kernel_rfl

/-- slices.IndexFunc[[]tallystone/compile.Ins,tallystone/compile.Ins] -/
@[simp] def c94_0l : List EO := [o 4 .mv [i 0]]
def c94_0 : EC := .rg c94_0l false
@[simp] theorem c94_0e : Rg c94_0 c94_0l false := rgE _ _
@[simp] def c94_1l : List EO := [m 6 0,
 o 7 .lenL [t 6],
 o 8 .mv [i 0]]
def c94_1 : EC := .rg c94_1l false
@[simp] theorem c94_1e : Rg c94_1 c94_1l false := rgE _ _
@[simp] def c94_2l : List EO := [o 9 (.bin .lss) [t 8, t 7]]
def c94_2 : EC := .rg c94_2l false
@[simp] theorem c94_2e : Rg c94_2 c94_2l false := rgE _ _
def c94_3 : EC := .cd (t 9) .skip (.ex 0)
@[simp] theorem c94_3e : Cd c94_3 (t 9) .skip (.ex 0) := cdE _ _ _
@[simp] def c94_4l : List EO := [m 10 8,
 m 5 10]
def c94_4 : EC := .rg c94_4l false
@[simp] theorem c94_4e : Rg c94_4 c94_4l false := rgE _ _
@[simp] def c94_5l : List EO := [m 11 1,
 m 12 0,
 m 13 5,
 o 14 (.iaS 3) [t 12, t 13],
 o 15 (.load 3 true) [t 14],
 o 16 .callv [t 11, t 15]]
def c94_5 : EC := .rg c94_5l false
@[simp] theorem c94_5e : Rg c94_5 c94_5l false := rgE _ _
@[simp] def c94_6l : List EO := [m 17 5,
 m 4 17]
def c94_6 : EC := .rg c94_6l false
@[simp] theorem c94_6e : Rg c94_6 c94_6l false := rgE _ _
def c94_7 : EC := .sq c94_6 .rt
@[simp] theorem c94_7e : Sq c94_7 c94_6 .rt := sqE _ _
def c94_8 : EC := .cd (t 16) c94_7 .skip
@[simp] theorem c94_8e : Cd c94_8 (t 16) c94_7 .skip := cdE _ _ _
def c94_9 : EC := .sq c94_5 c94_8
@[simp] theorem c94_9e : Sq c94_9 c94_5 c94_8 := sqE _ _
def c94_10 : EC := .sq c94_4 c94_9
@[simp] theorem c94_10e : Sq c94_10 c94_4 c94_9 := sqE _ _
def c94_11 : EC := .bk 1 c94_10
@[simp] theorem c94_11e : Bk c94_11 1 c94_10 := bkE _ _
@[simp] def c94_12l : List EO := [o 18 (.bin .add) [t 8, i 1],
 m 8 18]
def c94_12 : EC := .rg c94_12l false
@[simp] theorem c94_12e : Rg c94_12 c94_12l false := rgE _ _
def c94_13 : EC := .sq c94_11 c94_12
@[simp] theorem c94_13e : Sq c94_13 c94_11 c94_12 := sqE _ _
def c94_14 : EC := .sq c94_3 c94_13
@[simp] theorem c94_14e : Sq c94_14 c94_3 c94_13 := sqE _ _
def c94_15 : EC := .sq c94_2 c94_14
@[simp] theorem c94_15e : Sq c94_15 c94_2 c94_14 := sqE _ _
def c94_16 : EC := .bk 0 (.lp c94_15)
@[simp] theorem c94_16e : Bk c94_16 0 (.lp c94_15) := bkE _ _
def c94_17 : EC := .sq c94_1 c94_16
@[simp] theorem c94_17e : Sq c94_17 c94_1 c94_16 := sqE _ _
@[simp] def c94_18l : List EO := [o 4 .mv [i (-1)]]
def c94_18 : EC := .rg c94_18l false
@[simp] theorem c94_18e : Rg c94_18 c94_18l false := rgE _ _
def c94_19 : EC := .sq c94_18 .rt
@[simp] theorem c94_19e : Sq c94_19 c94_18 .rt := sqE _ _
def c94_20 : EC := .sq c94_17 c94_19
@[simp] theorem c94_20e : Sq c94_20 c94_17 c94_19 := sqE _ _
def c94_21 : EC := .sq c94_0 c94_20
@[simp] theorem c94_21e : Sq c94_21 c94_0 c94_20 := sqE _ _
def c_compile_Ins__94 : EC := c94_21
theorem k_94 : ecF Tryd.prog 94 = some (19, c_compile_Ins__94, [.tm 4]) := by kernel_rfl

/-- internal/strconv.Itoa -/
@[simp] def c96_0l : List EO := [o 2 .mv [c (.t (.str []))]]
def c96_0 : EC := .rg c96_0l false
@[simp] theorem c96_0e : Rg c96_0 c96_0l false := rgE _ _
@[simp] def c96_1l : List EO := [m 3 0,
 o 4 (.call 119) [t 3, i 10],
 m 2 4]
def c96_1 : EC := .rg c96_1l false
@[simp] theorem c96_1e : Rg c96_1 c96_1l false := rgE _ _
def c96_2 : EC := .sq c96_1 .rt
@[simp] theorem c96_2e : Sq c96_2 c96_1 .rt := sqE _ _
def c96_3 : EC := .sq c96_0 c96_2
@[simp] theorem c96_3e : Sq c96_3 c96_0 c96_2 := sqE _ _
def c_strconv_Itoa_96 : EC := c96_3
theorem k_96 : ecF Tryd.prog 96 = some (5, c_strconv_Itoa_96, [.tm 2]) := by kernel_rfl

/-- tallystone/chart.proper -/
@[simp] def c97_0l : List EO := [o 4 .box [t 1],
 o 6 .mv [b false]]
def c97_0 : EC := .rg c97_0l false
@[simp] theorem c97_0e : Rg c97_0 c97_0l false := rgE _ _
@[simp] def c97_1l : List EO := [o 12 (.faddr 0) [t 4],
 o 13 (.load 1 false) [t 12],
 o 14 (.bin .lss) [t 13, i 1],
 m 15 14,
 n 16 15 (.faddr 0) [t 4],
 n 17 15 (.load 1 false) [t 16],
 n 18 15 (.bin .gtr) [t 17, i 99999],
 o 19 .pick [t 15, b true, t 18],
 m 20 19,
 n 21 20 (.faddr 1) [t 4],
 n 22 20 (.load 1 false) [t 21],
 n 23 20 (.bin .lss) [t 22, i 1],
 o 24 .pick [t 20, b true, t 23],
 m 25 24,
 n 26 25 (.faddr 1) [t 4],
 n 27 25 (.load 1 false) [t 26],
 n 28 25 (.bin .gtr) [t 27, i 5],
 o 29 .pick [t 25, b true, t 28]]
def c97_1 : EC := .rg c97_1l false
@[simp] theorem c97_1e : Rg c97_1 c97_1l false := rgE _ _
@[simp] def c97_2l : List EO := [o 6 .mv [b false]]
def c97_2 : EC := .rg c97_2l false
@[simp] theorem c97_2e : Rg c97_2 c97_2l false := rgE _ _
def c97_3 : EC := .sq c97_2 .rt
@[simp] theorem c97_3e : Sq c97_3 c97_2 .rt := sqE _ _
def c97_4 : EC := .cd (t 29) c97_3 .skip
@[simp] theorem c97_4e : Cd c97_4 (t 29) c97_3 .skip := cdE _ _ _
def c97_5 : EC := .sq c97_1 c97_4
@[simp] theorem c97_5e : Sq c97_5 c97_1 c97_4 := sqE _ _
@[simp] def c97_6l : List EO := [m 30 2,
 m 31 30,
 y 32 31 (.faddr 2) [t 4],
 y 33 31 (.load 1 false) [t 32],
 y 34 31 (.bin .lss) [t 33, i 1],
 y 35 31 .mv [t 34],
 n 36 35 (.faddr 2) [t 4],
 n 37 35 (.load 1 false) [t 36],
 n 38 35 (.bin .gtr) [t 37, i 3],
 y 39 31 .pick [t 35, b true, t 38],
 o 40 .pick [t 31, t 39, b false],
 m 41 40,
 n 42 41 .mv [t 2],
 n 43 41 (.un .not) [t 42],
 n 44 41 .mv [t 43],
 y 45 44 (.faddr 2) [t 4],
 y 46 44 (.load 1 false) [t 45],
 y 47 44 (.bin .neq) [t 46, i 0],
 n 48 41 .pick [t 44, t 47, b false],
 o 49 .pick [t 41, b true, t 48]]
def c97_6 : EC := .rg c97_6l false
@[simp] theorem c97_6e : Rg c97_6 c97_6l false := rgE _ _
@[simp] def c97_7l : List EO := [o 6 .mv [b false]]
def c97_7 : EC := .rg c97_7l false
@[simp] theorem c97_7e : Rg c97_7 c97_7l false := rgE _ _
def c97_8 : EC := .sq c97_7 .rt
@[simp] theorem c97_8e : Sq c97_8 c97_7 .rt := sqE _ _
def c97_9 : EC := .cd (t 49) c97_8 .skip
@[simp] theorem c97_9e : Cd c97_9 (t 49) c97_8 .skip := cdE _ _ _
def c97_10 : EC := .sq c97_6 c97_9
@[simp] theorem c97_10e : Sq c97_10 c97_6 c97_9 := sqE _ _
@[simp] def c97_11l : List EO := [o 50 (.faddr 3) [t 4],
 o 51 (.load 1 false) [t 50],
 o 52 (.bin .eql) [t 51, i 0]]
def c97_11 : EC := .rg c97_11l false
@[simp] theorem c97_11e : Rg c97_11 c97_11l false := rgE _ _
@[simp] def c97_12l : List EO := [o 6 .mv [b true]]
def c97_12 : EC := .rg c97_12l false
@[simp] theorem c97_12e : Rg c97_12 c97_12l false := rgE _ _
def c97_13 : EC := .sq c97_12 .rt
@[simp] theorem c97_13e : Sq c97_13 c97_12 .rt := sqE _ _
def c97_14 : EC := .cd (t 52) c97_13 .skip
@[simp] theorem c97_14e : Cd c97_14 (t 52) c97_13 .skip := cdE _ _ _
def c97_15 : EC := .sq c97_11 c97_14
@[simp] theorem c97_15e : Sq c97_15 c97_11 c97_14 := sqE _ _
@[simp] def c97_16l : List EO := [m 54 0,
 o 55 (.faddr 3) [t 4],
 o 56 (.load 1 false) [t 55],
 o 57 (.call 120) [t 54, t 56],
 m 53 57,
 o 58 (.ext 0) [t 53],
 o 59 (.ext 1) [t 53],
 o 7 (.alloc [.t (.int .i64 0), .t (.int .i64 0), .t (.int .i64 0), .t (.int .i64 0)]) [],
 u (.store 4) [t 7, t 58],
 m 8 59]
def c97_16 : EC := .rg c97_16l false
@[simp] theorem c97_16e : Rg c97_16 c97_16l false := rgE _ _
@[simp] def c97_17l : List EO := [m 60 8,
 o 61 (.un .not) [t 60],
 m 62 61,
 n 63 62 (.faddr 0) [t 7],
 n 64 62 (.load 1 false) [t 63],
 n 65 62 (.faddr 0) [t 4],
 n 66 62 (.load 1 false) [t 65],
 n 67 62 (.bin .eql) [t 64, t 66],
 o 68 .pick [t 62, b true, t 67],
 m 69 68,
 n 70 69 (.faddr 1) [t 7],
 n 71 69 (.load 1 false) [t 70],
 n 72 69 (.faddr 1) [t 4],
 n 73 69 (.load 1 false) [t 72],
 n 74 69 (.bin .neq) [t 71, t 73],
 o 75 .pick [t 69, b true, t 74]]
def c97_17 : EC := .rg c97_17l false
@[simp] theorem c97_17e : Rg c97_17 c97_17l false := rgE _ _
@[simp] def c97_18l : List EO := [o 6 .mv [b false]]
def c97_18 : EC := .rg c97_18l false
@[simp] theorem c97_18e : Rg c97_18 c97_18l false := rgE _ _
def c97_19 : EC := .sq c97_18 .rt
@[simp] theorem c97_19e : Sq c97_19 c97_18 .rt := sqE _ _
def c97_20 : EC := .cd (t 75) c97_19 .skip
@[simp] theorem c97_20e : Cd c97_20 (t 75) c97_19 .skip := cdE _ _ _
def c97_21 : EC := .sq c97_17 c97_20
@[simp] theorem c97_21e : Sq c97_21 c97_17 c97_20 := sqE _ _
@[simp] def c97_22l : List EO := [m 76 0,
 o 77 (.faddr 0) [t 4],
 o 78 (.load 1 false) [t 77],
 o 79 (.call 121) [t 76, t 78],
 m 9 79]
def c97_22 : EC := .rg c97_22l false
@[simp] theorem c97_22e : Rg c97_22 c97_22l false := rgE _ _
@[simp] def c97_23l : List EO := [m 81 0,
 m 82 9,
 m 83 9,
 o 84 .lenL [t 83],
 o 85 (.bin .sub) [t 84, i 1],
 o 86 (.iaS 1) [t 82, t 85],
 o 87 (.load 1 false) [t 86],
 o 88 (.call 120) [t 81, t 87],
 m 80 88,
 o 89 (.ext 0) [t 80],
 o 90 (.ext 1) [t 80],
 o 10 (.alloc [.t (.int .i64 0), .t (.int .i64 0), .t (.int .i64 0), .t (.int .i64 0)]) [],
 u (.store 4) [t 10, t 89],
 m 11 90]
def c97_23 : EC := .rg c97_23l false
@[simp] theorem c97_23e : Rg c97_23 c97_23l false := rgE _ _
@[simp] def c97_24l : List EO := [o 91 (.faddr 3) [t 10],
 o 92 (.load 1 false) [t 91],
 o 93 (.bin .eql) [t 92, i 0],
 m 6 93]
def c97_24 : EC := .rg c97_24l false
@[simp] theorem c97_24e : Rg c97_24 c97_24l false := rgE _ _
def c97_25 : EC := .sq c97_24 .rt
@[simp] theorem c97_25e : Sq c97_25 c97_24 .rt := sqE _ _
def c97_26 : EC := .sq c97_23 c97_25
@[simp] theorem c97_26e : Sq c97_26 c97_23 c97_25 := sqE _ _
def c97_27 : EC := .sq c97_22 c97_26
@[simp] theorem c97_27e : Sq c97_27 c97_22 c97_26 := sqE _ _
def c97_28 : EC := .sq c97_21 c97_27
@[simp] theorem c97_28e : Sq c97_28 c97_21 c97_27 := sqE _ _
def c97_29 : EC := .sq c97_16 c97_28
@[simp] theorem c97_29e : Sq c97_29 c97_16 c97_28 := sqE _ _
def c97_30 : EC := .sq c97_15 c97_29
@[simp] theorem c97_30e : Sq c97_30 c97_15 c97_29 := sqE _ _
def c97_31 : EC := .sq c97_10 c97_30
@[simp] theorem c97_31e : Sq c97_31 c97_10 c97_30 := sqE _ _
def c97_32 : EC := .sq c97_5 c97_31
@[simp] theorem c97_32e : Sq c97_32 c97_5 c97_31 := sqE _ _
def c97_33 : EC := .sq c97_0 c97_32
@[simp] theorem c97_33e : Sq c97_33 c97_0 c97_32 := sqE _ _
def c_chart_proper_97 : EC := c97_33
theorem k_97 : ecF Tryd.prog 97 = some (94, c_chart_proper_97, [.tm 6]) := by kernel_rfl

/-- tallystone/tallystoneref08.proper -/
@[simp] def c101_0l : List EO := [o 4 .box [t 1],
 o 6 .mv [b false]]
def c101_0 : EC := .rg c101_0l false
@[simp] theorem c101_0e : Rg c101_0 c101_0l false := rgE _ _
@[simp] def c101_1l : List EO := [o 9 (.faddr 0) [t 4],
 o 10 (.load 1 false) [t 9],
 o 11 (.bin .lss) [t 10, i 1],
 m 12 11,
 n 13 12 (.faddr 0) [t 4],
 n 14 12 (.load 1 false) [t 13],
 n 15 12 (.bin .gtr) [t 14, i 99999],
 o 16 .pick [t 12, b true, t 15],
 m 17 16,
 n 18 17 (.faddr 1) [t 4],
 n 19 17 (.load 1 false) [t 18],
 n 20 17 (.bin .lss) [t 19, i 1],
 o 21 .pick [t 17, b true, t 20],
 m 22 21,
 n 23 22 (.faddr 1) [t 4],
 n 24 22 (.load 1 false) [t 23],
 n 25 22 (.bin .gtr) [t 24, i 5],
 o 26 .pick [t 22, b true, t 25]]
def c101_1 : EC := .rg c101_1l false
@[simp] theorem c101_1e : Rg c101_1 c101_1l false := rgE _ _
@[simp] def c101_2l : List EO := [o 6 .mv [b false]]
def c101_2 : EC := .rg c101_2l false
@[simp] theorem c101_2e : Rg c101_2 c101_2l false := rgE _ _
def c101_3 : EC := .sq c101_2 .rt
@[simp] theorem c101_3e : Sq c101_3 c101_2 .rt := sqE _ _
def c101_4 : EC := .cd (t 26) c101_3 .skip
@[simp] theorem c101_4e : Cd c101_4 (t 26) c101_3 .skip := cdE _ _ _
def c101_5 : EC := .sq c101_1 c101_4
@[simp] theorem c101_5e : Sq c101_5 c101_1 c101_4 := sqE _ _
@[simp] def c101_6l : List EO := [m 27 2,
 m 28 27,
 y 29 28 (.faddr 2) [t 4],
 y 30 28 (.load 1 false) [t 29],
 y 31 28 (.bin .lss) [t 30, i 1],
 y 32 28 .mv [t 31],
 n 33 32 (.faddr 2) [t 4],
 n 34 32 (.load 1 false) [t 33],
 n 35 32 (.bin .gtr) [t 34, i 3],
 y 36 28 .pick [t 32, b true, t 35],
 o 37 .pick [t 28, t 36, b false],
 m 38 37,
 n 39 38 .mv [t 2],
 n 40 38 (.un .not) [t 39],
 n 41 38 .mv [t 40],
 y 42 41 (.faddr 2) [t 4],
 y 43 41 (.load 1 false) [t 42],
 y 44 41 (.bin .neq) [t 43, i 0],
 n 45 38 .pick [t 41, t 44, b false],
 o 46 .pick [t 38, b true, t 45]]
def c101_6 : EC := .rg c101_6l false
@[simp] theorem c101_6e : Rg c101_6 c101_6l false := rgE _ _
@[simp] def c101_7l : List EO := [o 6 .mv [b false]]
def c101_7 : EC := .rg c101_7l false
@[simp] theorem c101_7e : Rg c101_7 c101_7l false := rgE _ _
def c101_8 : EC := .sq c101_7 .rt
@[simp] theorem c101_8e : Sq c101_8 c101_7 .rt := sqE _ _
def c101_9 : EC := .cd (t 46) c101_8 .skip
@[simp] theorem c101_9e : Cd c101_9 (t 46) c101_8 .skip := cdE _ _ _
def c101_10 : EC := .sq c101_6 c101_9
@[simp] theorem c101_10e : Sq c101_10 c101_6 c101_9 := sqE _ _
@[simp] def c101_11l : List EO := [o 47 (.faddr 3) [t 4],
 o 48 (.load 1 false) [t 47],
 o 49 (.bin .eql) [t 48, i 0]]
def c101_11 : EC := .rg c101_11l false
@[simp] theorem c101_11e : Rg c101_11 c101_11l false := rgE _ _
@[simp] def c101_12l : List EO := [o 6 .mv [b true]]
def c101_12 : EC := .rg c101_12l false
@[simp] theorem c101_12e : Rg c101_12 c101_12l false := rgE _ _
def c101_13 : EC := .sq c101_12 .rt
@[simp] theorem c101_13e : Sq c101_13 c101_12 .rt := sqE _ _
def c101_14 : EC := .cd (t 49) c101_13 .skip
@[simp] theorem c101_14e : Cd c101_14 (t 49) c101_13 .skip := cdE _ _ _
def c101_15 : EC := .sq c101_11 c101_14
@[simp] theorem c101_15e : Sq c101_15 c101_11 c101_14 := sqE _ _
@[simp] def c101_16l : List EO := [m 51 0,
 o 52 (.faddr 3) [t 4],
 o 53 (.load 1 false) [t 52],
 o 54 (.call 122) [t 51, t 53],
 m 50 54,
 o 55 (.ext 0) [t 50],
 o 56 (.ext 1) [t 50],
 o 7 (.alloc [.t (.int .i64 0), .t (.int .i64 0), .t (.int .i64 0), .t (.int .i64 0)]) [],
 u (.store 4) [t 7, t 55],
 m 8 56]
def c101_16 : EC := .rg c101_16l false
@[simp] theorem c101_16e : Rg c101_16 c101_16l false := rgE _ _
@[simp] def c101_17l : List EO := [m 57 8,
 m 58 57,
 y 59 58 (.faddr 0) [t 7],
 y 60 58 (.load 1 false) [t 59],
 y 61 58 (.faddr 0) [t 4],
 y 62 58 (.load 1 false) [t 61],
 y 63 58 (.bin .neq) [t 60, t 62],
 o 64 .pick [t 58, t 63, b false],
 m 65 64,
 y 66 65 (.faddr 1) [t 7],
 y 67 65 (.load 1 false) [t 66],
 y 68 65 (.faddr 1) [t 4],
 y 69 65 (.load 1 false) [t 68],
 y 70 65 (.bin .eql) [t 67, t 69],
 o 71 .pick [t 65, t 70, b false],
 m 6 71]
def c101_17 : EC := .rg c101_17l false
@[simp] theorem c101_17e : Rg c101_17 c101_17l false := rgE _ _
def c101_18 : EC := .sq c101_17 .rt
@[simp] theorem c101_18e : Sq c101_18 c101_17 .rt := sqE _ _
def c101_19 : EC := .sq c101_16 c101_18
@[simp] theorem c101_19e : Sq c101_19 c101_16 c101_18 := sqE _ _
def c101_20 : EC := .sq c101_15 c101_19
@[simp] theorem c101_20e : Sq c101_20 c101_15 c101_19 := sqE _ _
def c101_21 : EC := .sq c101_10 c101_20
@[simp] theorem c101_21e : Sq c101_21 c101_10 c101_20 := sqE _ _
def c101_22 : EC := .sq c101_5 c101_21
@[simp] theorem c101_22e : Sq c101_22 c101_5 c101_21 := sqE _ _
def c101_23 : EC := .sq c101_0 c101_22
@[simp] theorem c101_23e : Sq c101_23 c101_0 c101_22 := sqE _ _
def c_tallystoneref08_proper_101 : EC := c101_23
theorem k_101 : ecF Tryd.prog 101 = some (72, c_tallystoneref08_proper_101, [.tm 6]) := by kernel_rfl

/-- tallystone/tallystoneref08.climb -/
@[simp] def c102_0l : List EO := [o 4 .mv [c (.snil)]]
def c102_0 : EC := .rg c102_0l false
@[simp] theorem c102_0e : Rg c102_0 c102_0l false := rgE _ _
@[simp] def c102_1l : List EO := [o 5 .mv [c (.snil)]]
def c102_1 : EC := .rg c102_1l false
@[simp] theorem c102_1e : Rg c102_1 c102_1l false := rgE _ _
@[simp] def c102_2l : List EO := [o 6 .mv [i 0]]
def c102_2 : EC := .rg c102_2l false
@[simp] theorem c102_2e : Rg c102_2 c102_2l false := rgE _ _
@[simp] def c102_3l : List EO := [m 9 6,
 m 10 0,
 o 11 .lenL [t 10],
 o 12 (.bin .leq) [t 9, t 11]]
def c102_3 : EC := .rg c102_3l false
@[simp] theorem c102_3e : Rg c102_3 c102_3l false := rgE _ _
def c102_4 : EC := .cd (t 12) .skip (.ex 0)
@[simp] theorem c102_4e : Cd c102_4 (t 12) .skip (.ex 0) := cdE _ _ _
def c102_5 : EC := .sq c102_3 c102_4
@[simp] theorem c102_5e : Sq c102_5 c102_3 c102_4 := sqE _ _
@[simp] def c102_6l : List EO := [m 16 0,
 m 17 1,
 o 18 (.call 122) [t 16, t 17],
 m 15 18,
 o 19 (.ext 0) [t 15],
 o 20 (.ext 1) [t 15],
 o 7 (.alloc [.t (.int .i64 0), .t (.int .i64 0), .t (.int .i64 0), .t (.int .i64 0)]) [],
 u (.store 4) [t 7, t 19],
 m 8 20]
def c102_6 : EC := .rg c102_6l false
@[simp] theorem c102_6e : Rg c102_6 c102_6l false := rgE _ _
@[simp] def c102_7l : List EO := [m 21 8,
 o 22 (.un .not) [t 21]]
def c102_7 : EC := .rg c102_7l false
@[simp] theorem c102_7e : Rg c102_7 c102_7l false := rgE _ _
def c102_8 : EC := .cd (t 22) (.ex 0) .skip
@[simp] theorem c102_8e : Cd c102_8 (t 22) (.ex 0) .skip := cdE _ _ _
def c102_9 : EC := .sq c102_7 c102_8
@[simp] theorem c102_9e : Sq c102_9 c102_7 c102_8 := sqE _ _
@[simp] def c102_10l : List EO := [m 23 5,
 m 24 1,
 o 25 (.bsl 1) [t 24],
 o 26 (.app 3 1 8) [t 23, t 25],
 m 5 26]
def c102_10 : EC := .rg c102_10l false
@[simp] theorem c102_10e : Rg c102_10 c102_10l false := rgE _ _
@[simp] def c102_11l : List EO := [o 27 (.faddr 3) [t 7],
 o 28 (.load 1 false) [t 27],
 m 1 28]
def c102_11 : EC := .rg c102_11l false
@[simp] theorem c102_11e : Rg c102_11 c102_11l false := rgE _ _
def c102_12 : EC := .sq c102_10 c102_11
@[simp] theorem c102_12e : Sq c102_12 c102_10 c102_11 := sqE _ _
def c102_13 : EC := .sq c102_9 c102_12
@[simp] theorem c102_13e : Sq c102_13 c102_9 c102_12 := sqE _ _
def c102_14 : EC := .sq c102_6 c102_13
@[simp] theorem c102_14e : Sq c102_14 c102_6 c102_13 := sqE _ _
def c102_15 : EC := .bk 1 c102_14
@[simp] theorem c102_15e : Bk c102_15 1 c102_14 := bkE _ _
@[simp] def c102_16l : List EO := [m 13 6,
 o 14 (.bin .add) [t 13, i 1],
 m 6 14]
def c102_16 : EC := .rg c102_16l false
@[simp] theorem c102_16e : Rg c102_16 c102_16l false := rgE _ _
def c102_17 : EC := .sq c102_15 c102_16
@[simp] theorem c102_17e : Sq c102_17 c102_15 c102_16 := sqE _ _
def c102_18 : EC := .sq c102_5 c102_17
@[simp] theorem c102_18e : Sq c102_18 c102_5 c102_17 := sqE _ _
def c102_19 : EC := .bk 0 (.lp c102_18)
@[simp] theorem c102_19e : Bk c102_19 0 (.lp c102_18) := bkE _ _
def c102_20 : EC := .sq c102_2 c102_19
@[simp] theorem c102_20e : Sq c102_20 c102_2 c102_19 := sqE _ _
@[simp] def c102_21l : List EO := [m 29 5,
 m 4 29]
def c102_21 : EC := .rg c102_21l false
@[simp] theorem c102_21e : Rg c102_21 c102_21l false := rgE _ _
def c102_22 : EC := .sq c102_21 .rt
@[simp] theorem c102_22e : Sq c102_22 c102_21 .rt := sqE _ _
def c102_23 : EC := .sq c102_20 c102_22
@[simp] theorem c102_23e : Sq c102_23 c102_20 c102_22 := sqE _ _
def c102_24 : EC := .sq c102_1 c102_23
@[simp] theorem c102_24e : Sq c102_24 c102_1 c102_23 := sqE _ _
def c102_25 : EC := .sq c102_0 c102_24
@[simp] theorem c102_25e : Sq c102_25 c102_0 c102_24 := sqE _ _
def c_tallystoneref08_climb_102 : EC := c102_25
theorem k_102 : ecF Tryd.prog 102 = some (30, c_tallystoneref08_climb_102, [.tm 4]) := by kernel_rfl

/-- tallystone/tallystoneref08.climb, with slices that grow in boxes -/
@[simp] def b102_0l : List EO := [o 4 .mv [c (.snil)]]
def b102_0 : EC := .rg b102_0l false
@[simp] theorem b102_0e : Rg b102_0 b102_0l false := rgE _ _
@[simp] def b102_1l : List EO := [o 5 .mv [c (.snil)]]
def b102_1 : EC := .rg b102_1l false
@[simp] theorem b102_1e : Rg b102_1 b102_1l false := rgE _ _
@[simp] def b102_2l : List EO := [o 6 .mv [i 0]]
def b102_2 : EC := .rg b102_2l false
@[simp] theorem b102_2e : Rg b102_2 b102_2l false := rgE _ _
@[simp] def b102_3l : List EO := [m 9 6,
 m 10 0,
 o 11 .lenL [t 10],
 o 12 (.bin .leq) [t 9, t 11]]
def b102_3 : EC := .rg b102_3l false
@[simp] theorem b102_3e : Rg b102_3 b102_3l false := rgE _ _
def b102_4 : EC := .cd (t 12) .skip (.ex 0)
@[simp] theorem b102_4e : Cd b102_4 (t 12) .skip (.ex 0) := cdE _ _ _
def b102_5 : EC := .sq b102_3 b102_4
@[simp] theorem b102_5e : Sq b102_5 b102_3 b102_4 := sqE _ _
@[simp] def b102_6l : List EO := [m 16 0,
 m 17 1,
 o 18 (.call 122) [t 16, t 17],
 m 15 18,
 o 19 (.ext 0) [t 15],
 o 20 (.ext 1) [t 15],
 o 7 (.alloc [.t (.int .i64 0), .t (.int .i64 0), .t (.int .i64 0), .t (.int .i64 0)]) [],
 u (.store 4) [t 7, t 19],
 m 8 20]
def b102_6 : EC := .rg b102_6l false
@[simp] theorem b102_6e : Rg b102_6 b102_6l false := rgE _ _
@[simp] def b102_7l : List EO := [m 21 8,
 o 22 (.un .not) [t 21]]
def b102_7 : EC := .rg b102_7l false
@[simp] theorem b102_7e : Rg b102_7 b102_7l false := rgE _ _
def b102_8 : EC := .cd (t 22) (.ex 0) .skip
@[simp] theorem b102_8e : Cd b102_8 (t 22) (.ex 0) .skip := cdE _ _ _
def b102_9 : EC := .sq b102_7 b102_8
@[simp] theorem b102_9e : Sq b102_9 b102_7 b102_8 := sqE _ _
@[simp] def b102_10l : List EO := [m 23 5,
 m 24 1,
 o 25 (.bsl 1) [t 24],
 o 26 (.appB 3 1 8) [t 23, t 25],
 m 5 26]
def b102_10 : EC := .rg b102_10l false
@[simp] theorem b102_10e : Rg b102_10 b102_10l false := rgE _ _
@[simp] def b102_11l : List EO := [o 27 (.faddr 3) [t 7],
 o 28 (.load 1 false) [t 27],
 m 1 28]
def b102_11 : EC := .rg b102_11l false
@[simp] theorem b102_11e : Rg b102_11 b102_11l false := rgE _ _
def b102_12 : EC := .sq b102_10 b102_11
@[simp] theorem b102_12e : Sq b102_12 b102_10 b102_11 := sqE _ _
def b102_13 : EC := .sq b102_9 b102_12
@[simp] theorem b102_13e : Sq b102_13 b102_9 b102_12 := sqE _ _
def b102_14 : EC := .sq b102_6 b102_13
@[simp] theorem b102_14e : Sq b102_14 b102_6 b102_13 := sqE _ _
def b102_15 : EC := .bk 1 b102_14
@[simp] theorem b102_15e : Bk b102_15 1 b102_14 := bkE _ _
@[simp] def b102_16l : List EO := [m 13 6,
 o 14 (.bin .add) [t 13, i 1],
 m 6 14]
def b102_16 : EC := .rg b102_16l false
@[simp] theorem b102_16e : Rg b102_16 b102_16l false := rgE _ _
def b102_17 : EC := .sq b102_15 b102_16
@[simp] theorem b102_17e : Sq b102_17 b102_15 b102_16 := sqE _ _
def b102_18 : EC := .sq b102_5 b102_17
@[simp] theorem b102_18e : Sq b102_18 b102_5 b102_17 := sqE _ _
def b102_19 : EC := .bk 0 (.lp b102_18)
@[simp] theorem b102_19e : Bk b102_19 0 (.lp b102_18) := bkE _ _
def b102_20 : EC := .sq b102_2 b102_19
@[simp] theorem b102_20e : Sq b102_20 b102_2 b102_19 := sqE _ _
@[simp] def b102_21l : List EO := [m 29 5,
 m 4 29]
def b102_21 : EC := .rg b102_21l false
@[simp] theorem b102_21e : Rg b102_21 b102_21l false := rgE _ _
def b102_22 : EC := .sq b102_21 .rt
@[simp] theorem b102_22e : Sq b102_22 b102_21 .rt := sqE _ _
def b102_23 : EC := .sq b102_20 b102_22
@[simp] theorem b102_23e : Sq b102_23 b102_20 b102_22 := sqE _ _
def b102_24 : EC := .sq b102_1 b102_23
@[simp] theorem b102_24e : Sq b102_24 b102_1 b102_23 := sqE _ _
def b102_25 : EC := .sq b102_0 b102_24
@[simp] theorem b102_25e : Sq b102_25 b102_0 b102_24 := sqE _ _
def b_tallystoneref08_climb_102 : EC := b102_25
theorem kb_102 : ecB Tryd.prog 102 = some (30, b_tallystoneref08_climb_102, [.tm 4]) := by kernel_rfl

/-- tallystone/tallystoneref33.known -/
@[simp] def c103_0l : List EO := [o 4 .mv [b false]]
def c103_0 : EC := .rg c103_0l false
@[simp] theorem c103_0e : Rg c103_0 c103_0l false := rgE _ _
@[simp] def c103_1l : List EO := [m 8 0,
 m 9 1,
 o 10 (.call 122) [t 8, t 9],
 m 7 10,
 o 11 (.ext 0) [t 7],
 o 12 (.ext 1) [t 7],
 o 5 (.alloc [.t (.int .i64 0), .t (.int .i64 0), .t (.int .i64 0), .t (.int .i64 0)]) [],
 u (.store 4) [t 5, t 11],
 m 6 12]
def c103_1 : EC := .rg c103_1l false
@[simp] theorem c103_1e : Rg c103_1 c103_1l false := rgE _ _
@[simp] def c103_2l : List EO := [m 13 6,
 m 4 13]
def c103_2 : EC := .rg c103_2l false
@[simp] theorem c103_2e : Rg c103_2 c103_2l false := rgE _ _
def c103_3 : EC := .sq c103_2 .rt
@[simp] theorem c103_3e : Sq c103_3 c103_2 .rt := sqE _ _
def c103_4 : EC := .sq c103_1 c103_3
@[simp] theorem c103_4e : Sq c103_4 c103_1 c103_3 := sqE _ _
def c103_5 : EC := .sq c103_0 c103_4
@[simp] theorem c103_5e : Sq c103_5 c103_0 c103_4 := sqE _ _
def c_tallystoneref33_known_103 : EC := c103_5
theorem k_103 : ecF Tryd.prog 103 = some (14, c_tallystoneref33_known_103, [.tm 4]) := by kernel_rfl

/-- tallystone/tallystoneref31.Keyword -/
@[simp] def c104_0l : List EO := [o 2 .mv [b false]]
def c104_0 : EC := .rg c104_0l false
@[simp] theorem c104_0e : Rg c104_0 c104_0l false := rgE _ _
@[simp] def c104_1l : List EO := [o 3 (.bsl 1) [c (.t (.str [114, 117, 108, 101])), c (.t (.str [101, 97, 99, 104])), c (.t (.str [101, 110, 116, 105, 116, 121])), c (.t (.str [112, 97, 105, 114])), c (.t (.str [108, 101, 116])), c (.t (.str [114, 101, 113, 117, 105, 114, 101])), c (.t (.str [112, 111, 115, 116])), c (.t (.str [116, 111])), c (.t (.str [112, 101, 114])), c (.t (.str [97, 110, 100])), c (.t (.str [111, 114])), c (.t (.str [110, 111, 116])), c (.t (.str [109, 105, 110])), c (.t (.str [109, 97, 120])), c (.t (.str [97, 98, 115])), c (.t (.str [98, 97, 108, 97, 110, 99, 101])), c (.t (.str [112, 97, 114, 116, 110, 101, 114])), c (.t (.str [115, 104, 97, 114, 101]))],
 m 4 0,
 o 5 (.call 37) [t 3, t 4],
 m 2 5]
def c104_1 : EC := .rg c104_1l false
@[simp] theorem c104_1e : Rg c104_1 c104_1l false := rgE _ _
def c104_2 : EC := .sq c104_1 .rt
@[simp] theorem c104_2e : Sq c104_2 c104_1 .rt := sqE _ _
def c104_3 : EC := .sq c104_0 c104_2
@[simp] theorem c104_3e : Sq c104_3 c104_0 c104_2 := sqE _ _
def c_tallystoneref31_Keyword_104 : EC := c104_3
theorem k_104 : ecF Tryd.prog 104 = some (6, c_tallystoneref31_Keyword_104, [.tm 2]) := by kernel_rfl

/-- tallystone/tallystoneref32.args -/
@[simp] def c105_0l : List EO := [o 2 .mv [i 0]]
def c105_0 : EC := .rg c105_0l false
@[simp] theorem c105_0e : Rg c105_0 c105_0l false := rgE _ _
@[simp] def c105_1l : List EO := [m 4 0,
 o 5 (.bin .eql) [t 4, i 1],
 m 6 5,
 n 7 6 .mv [t 0],
 n 8 6 (.bin .eql) [t 7, i 2],
 o 9 .pick [t 6, b true, t 8],
 m 10 9,
 n 11 10 .mv [t 0],
 n 12 10 (.bin .eql) [t 11, i 21],
 o 13 .pick [t 10, b true, t 12],
 m 14 13,
 n 15 14 .mv [t 0],
 n 16 14 (.bin .eql) [t 15, i 22],
 o 17 .pick [t 14, b true, t 16],
 m 3 17]
def c105_1 : EC := .rg c105_1l false
@[simp] theorem c105_1e : Rg c105_1 c105_1l false := rgE _ _
@[simp] def c105_2l : List EO := [o 2 .mv [i 0]]
def c105_2 : EC := .rg c105_2l false
@[simp] theorem c105_2e : Rg c105_2 c105_2l false := rgE _ _
def c105_3 : EC := .sq c105_2 .rt
@[simp] theorem c105_3e : Sq c105_3 c105_2 .rt := sqE _ _
@[simp] def c105_4l : List EO := [m 19 0,
 o 20 (.bin .geq) [t 19, i 3],
 m 21 20,
 y 22 21 .mv [t 0],
 y 23 21 (.bin .leq) [t 22, i 6],
 o 24 .pick [t 21, t 23, b false],
 m 25 24,
 n 26 25 .mv [t 0],
 n 27 25 (.bin .eql) [t 26, i 20],
 o 28 .pick [t 25, b true, t 27],
 m 18 28]
def c105_4 : EC := .rg c105_4l false
@[simp] theorem c105_4e : Rg c105_4 c105_4l false := rgE _ _
@[simp] def c105_5l : List EO := [o 2 .mv [i 1]]
def c105_5 : EC := .rg c105_5l false
@[simp] theorem c105_5e : Rg c105_5 c105_5l false := rgE _ _
def c105_6 : EC := .sq c105_5 .rt
@[simp] theorem c105_6e : Sq c105_6 c105_5 .rt := sqE _ _
@[simp] def c105_7l : List EO := [m 30 0,
 o 31 (.bin .geq) [t 30, i 7],
 m 32 31,
 y 33 32 .mv [t 0],
 y 34 32 (.bin .leq) [t 33, i 19],
 o 35 .pick [t 32, t 34, b false],
 m 29 35]
def c105_7 : EC := .rg c105_7l false
@[simp] theorem c105_7e : Rg c105_7 c105_7l false := rgE _ _
@[simp] def c105_8l : List EO := [o 2 .mv [i 2]]
def c105_8 : EC := .rg c105_8l false
@[simp] theorem c105_8e : Rg c105_8 c105_8l false := rgE _ _
def c105_9 : EC := .sq c105_8 .rt
@[simp] theorem c105_9e : Sq c105_9 c105_8 .rt := sqE _ _
def c105_10 : EC := .cd (t 29) c105_9 .skip
@[simp] theorem c105_10e : Cd c105_10 (t 29) c105_9 .skip := cdE _ _ _
def c105_11 : EC := .sq c105_7 c105_10
@[simp] theorem c105_11e : Sq c105_11 c105_7 c105_10 := sqE _ _
def c105_12 : EC := .cd (t 18) c105_6 c105_11
@[simp] theorem c105_12e : Cd c105_12 (t 18) c105_6 c105_11 := cdE _ _ _
def c105_13 : EC := .sq c105_4 c105_12
@[simp] theorem c105_13e : Sq c105_13 c105_4 c105_12 := sqE _ _
def c105_14 : EC := .cd (t 3) c105_3 c105_13
@[simp] theorem c105_14e : Cd c105_14 (t 3) c105_3 c105_13 := cdE _ _ _
def c105_15 : EC := .sq c105_1 c105_14
@[simp] theorem c105_15e : Sq c105_15 c105_1 c105_14 := sqE _ _
def c105_16 : EC := .bk 0 c105_15
@[simp] theorem c105_16e : Bk c105_16 0 c105_15 := bkE _ _
@[simp] def c105_17l : List EO := [o 2 .mv [i (-1)]]
def c105_17 : EC := .rg c105_17l false
@[simp] theorem c105_17e : Rg c105_17 c105_17l false := rgE _ _
def c105_18 : EC := .sq c105_17 .rt
@[simp] theorem c105_18e : Sq c105_18 c105_17 .rt := sqE _ _
def c105_19 : EC := .sq c105_16 c105_18
@[simp] theorem c105_19e : Sq c105_19 c105_16 c105_18 := sqE _ _
def c105_20 : EC := .sq c105_0 c105_19
@[simp] theorem c105_20e : Sq c105_20 c105_0 c105_19 := sqE _ _
def c_tallystoneref32_args_105 : EC := c105_20
theorem k_105 : ecF Tryd.prog 105 = some (36, c_tallystoneref32_args_105, [.tm 2]) := by kernel_rfl

/-- slices.pdqsortOrdered[int] -/
@[simp] def c106_0l : List EO := [o 8 .mv [b true]]
def c106_0 : EC := .rg c106_0l false
@[simp] theorem c106_0e : Rg c106_0 c106_0l false := rgE _ _
@[simp] def c106_1l : List EO := [o 9 .mv [b true]]
def c106_1 : EC := .rg c106_1l false
@[simp] theorem c106_1e : Rg c106_1 c106_1l false := rgE _ _
@[simp] def c106_2l : List EO := [m 19 2,
 m 20 1,
 o 21 (.bin .sub) [t 19, t 20],
 m 10 21]
def c106_2 : EC := .rg c106_2l false
@[simp] theorem c106_2e : Rg c106_2 c106_2l false := rgE _ _
@[simp] def c106_3l : List EO := [m 22 10,
 o 23 (.bin .leq) [t 22, i 12]]
def c106_3 : EC := .rg c106_3l false
@[simp] theorem c106_3e : Rg c106_3 c106_3l false := rgE _ _
@[simp] def c106_4l : List EO := [m 24 0,
 m 25 1,
 m 26 2,
 o 27 (.call 123) [t 24, t 25, t 26]]
def c106_4 : EC := .rg c106_4l false
@[simp] theorem c106_4e : Rg c106_4 c106_4l false := rgE _ _
def c106_5 : EC := .sq c106_4 .rt
@[simp] theorem c106_5e : Sq c106_5 c106_4 .rt := sqE _ _
def c106_6 : EC := .cd (t 23) c106_5 .skip
@[simp] theorem c106_6e : Cd c106_6 (t 23) c106_5 .skip := cdE _ _ _
def c106_7 : EC := .sq c106_3 c106_6
@[simp] theorem c106_7e : Sq c106_7 c106_3 c106_6 := sqE _ _
@[simp] def c106_8l : List EO := [m 28 3,
 o 29 (.bin .eql) [t 28, i 0]]
def c106_8 : EC := .rg c106_8l false
@[simp] theorem c106_8e : Rg c106_8 c106_8l false := rgE _ _
@[simp] def c106_9l : List EO := [m 30 0,
 m 31 1,
 m 32 2,
 o 33 (.call 124) [t 30, t 31, t 32]]
def c106_9 : EC := .rg c106_9l false
@[simp] theorem c106_9e : Rg c106_9 c106_9l false := rgE _ _
def c106_10 : EC := .sq c106_9 .rt
@[simp] theorem c106_10e : Sq c106_10 c106_9 .rt := sqE _ _
def c106_11 : EC := .cd (t 29) c106_10 .skip
@[simp] theorem c106_11e : Cd c106_11 (t 29) c106_10 .skip := cdE _ _ _
def c106_12 : EC := .sq c106_8 c106_11
@[simp] theorem c106_12e : Sq c106_12 c106_8 c106_11 := sqE _ _
@[simp] def c106_13l : List EO := [m 34 8,
 o 35 (.un .not) [t 34]]
def c106_13 : EC := .rg c106_13l false
@[simp] theorem c106_13e : Rg c106_13 c106_13l false := rgE _ _
@[simp] def c106_14l : List EO := [m 36 0,
 m 37 1,
 m 38 2,
 o 39 (.call 125) [t 36, t 37, t 38]]
def c106_14 : EC := .rg c106_14l false
@[simp] theorem c106_14e : Rg c106_14 c106_14l false := rgE _ _
@[simp] def c106_15l : List EO := [m 40 3,
 o 41 (.bin .sub) [t 40, i 1],
 m 3 41]
def c106_15 : EC := .rg c106_15l false
@[simp] theorem c106_15e : Rg c106_15 c106_15l false := rgE _ _
def c106_16 : EC := .sq c106_14 c106_15
@[simp] theorem c106_16e : Sq c106_16 c106_14 c106_15 := sqE _ _
def c106_17 : EC := .cd (t 35) c106_16 .skip
@[simp] theorem c106_17e : Cd c106_17 (t 35) c106_16 .skip := cdE _ _ _
def c106_18 : EC := .sq c106_13 c106_17
@[simp] theorem c106_18e : Sq c106_18 c106_13 c106_17 := sqE _ _
@[simp] def c106_19l : List EO := [m 43 0,
 m 44 1,
 m 45 2,
 o 46 (.call 126) [t 43, t 44, t 45],
 m 42 46,
 o 47 (.ext 0) [t 42],
 o 48 (.ext 1) [t 42],
 m 11 47,
 m 12 48]
def c106_19 : EC := .rg c106_19l false
@[simp] theorem c106_19e : Rg c106_19 c106_19l false := rgE _ _
@[simp] def c106_20l : List EO := [m 49 12,
 o 50 (.bin .eql) [t 49, i 2]]
def c106_20 : EC := .rg c106_20l false
@[simp] theorem c106_20e : Rg c106_20 c106_20l false := rgE _ _
@[simp] def c106_21l : List EO := [m 51 0,
 m 52 1,
 m 53 2,
 o 54 (.call 127) [t 51, t 52, t 53]]
def c106_21 : EC := .rg c106_21l false
@[simp] theorem c106_21e : Rg c106_21 c106_21l false := rgE _ _
@[simp] def c106_22l : List EO := [m 55 2,
 o 56 (.bin .sub) [t 55, i 1],
 m 57 11,
 m 58 1,
 o 59 (.bin .sub) [t 57, t 58],
 o 60 (.bin .sub) [t 56, t 59],
 m 11 60]
def c106_22 : EC := .rg c106_22l false
@[simp] theorem c106_22e : Rg c106_22 c106_22l false := rgE _ _
@[simp] def c106_23l : List EO := [o 12 .mv [i 1]]
def c106_23 : EC := .rg c106_23l false
@[simp] theorem c106_23e : Rg c106_23 c106_23l false := rgE _ _
def c106_24 : EC := .sq c106_22 c106_23
@[simp] theorem c106_24e : Sq c106_24 c106_22 c106_23 := sqE _ _
def c106_25 : EC := .sq c106_21 c106_24
@[simp] theorem c106_25e : Sq c106_25 c106_21 c106_24 := sqE _ _
def c106_26 : EC := .cd (t 50) c106_25 .skip
@[simp] theorem c106_26e : Cd c106_26 (t 50) c106_25 .skip := cdE _ _ _
def c106_27 : EC := .sq c106_20 c106_26
@[simp] theorem c106_27e : Sq c106_27 c106_20 c106_26 := sqE _ _
@[simp] def c106_28l : List EO := [m 61 8,
 m 62 61,
 y 63 62 .mv [t 9],
 o 64 .pick [t 62, t 63, b false],
 m 65 64,
 y 66 65 .mv [t 12],
 y 67 65 (.bin .eql) [t 66, i 1],
 o 68 .pick [t 65, t 67, b false]]
def c106_28 : EC := .rg c106_28l false
@[simp] theorem c106_28e : Rg c106_28 c106_28l false := rgE _ _
@[simp] def c106_29l : List EO := [m 69 0,
 m 70 1,
 m 71 2,
 o 72 (.call 128) [t 69, t 70, t 71]]
def c106_29 : EC := .rg c106_29l false
@[simp] theorem c106_29e : Rg c106_29 c106_29l false := rgE _ _
def c106_30 : EC := .cd (t 72) .rt .skip
@[simp] theorem c106_30e : Cd c106_30 (t 72) .rt .skip := cdE _ _ _
def c106_31 : EC := .sq c106_29 c106_30
@[simp] theorem c106_31e : Sq c106_31 c106_29 c106_30 := sqE _ _
def c106_32 : EC := .cd (t 68) c106_31 .skip
@[simp] theorem c106_32e : Cd c106_32 (t 68) c106_31 .skip := cdE _ _ _
def c106_33 : EC := .sq c106_28 c106_32
@[simp] theorem c106_33e : Sq c106_33 c106_28 c106_32 := sqE _ _
@[simp] def c106_34l : List EO := [m 73 1,
 o 74 (.bin .gtr) [t 73, i 0],
 m 75 74,
 y 76 75 .mv [t 0],
 y 77 75 .mv [t 1],
 y 78 75 (.bin .sub) [t 77, i 1],
 y 79 75 (.iaS 1) [t 76, t 78],
 y 80 75 (.load 1 false) [t 79],
 y 81 75 .mv [t 0],
 y 82 75 .mv [t 11],
 y 83 75 (.iaS 1) [t 81, t 82],
 y 84 75 (.load 1 false) [t 83],
 y 85 75 (.call 129) [t 80, t 84],
 y 86 75 (.un .not) [t 85],
 o 87 .pick [t 75, t 86, b false]]
def c106_34 : EC := .rg c106_34l true
@[simp] theorem c106_34e : Rg c106_34 c106_34l true := rgE _ _
@[simp] def c106_35l : List EO := [m 88 0,
 m 89 1,
 m 90 2,
 m 91 11,
 o 92 (.call 130) [t 88, t 89, t 90, t 91],
 m 13 92]
def c106_35 : EC := .rg c106_35l false
@[simp] theorem c106_35e : Rg c106_35 c106_35l false := rgE _ _
@[simp] def c106_36l : List EO := [m 93 13,
 m 1 93]
def c106_36 : EC := .rg c106_36l false
@[simp] theorem c106_36e : Rg c106_36 c106_36l false := rgE _ _
def c106_37 : EC := .sq c106_36 (.ex 1)
@[simp] theorem c106_37e : Sq c106_37 c106_36 (.ex 1) := sqE _ _
def c106_38 : EC := .sq c106_35 c106_37
@[simp] theorem c106_38e : Sq c106_38 c106_35 c106_37 := sqE _ _
def c106_39 : EC := .cd (t 87) c106_38 .skip
@[simp] theorem c106_39e : Cd c106_39 (t 87) c106_38 .skip := cdE _ _ _
def c106_40 : EC := .sq c106_34 c106_39
@[simp] theorem c106_40e : Sq c106_40 c106_34 c106_39 := sqE _ _
@[simp] def c106_41l : List EO := [m 95 0,
 m 96 1,
 m 97 2,
 m 98 11,
 o 99 (.call 131) [t 95, t 96, t 97, t 98],
 m 94 99,
 o 100 (.ext 0) [t 94],
 o 101 (.ext 1) [t 94],
 m 14 100,
 m 15 101]
def c106_41 : EC := .rg c106_41l false
@[simp] theorem c106_41e : Rg c106_41 c106_41l false := rgE _ _
@[simp] def c106_42l : List EO := [m 102 15,
 m 9 102]
def c106_42 : EC := .rg c106_42l false
@[simp] theorem c106_42e : Rg c106_42 c106_42l false := rgE _ _
@[simp] def c106_43l : List EO := [m 103 14,
 m 104 1,
 o 105 (.bin .sub) [t 103, t 104],
 m 106 2,
 m 107 14,
 o 108 (.bin .sub) [t 106, t 107],
 m 16 105,
 m 17 108]
def c106_43 : EC := .rg c106_43l false
@[simp] theorem c106_43e : Rg c106_43 c106_43l false := rgE _ _
@[simp] def c106_44l : List EO := [m 109 10,
 o 110 (.bin .quo) [t 109, i 8],
 m 18 110]
def c106_44 : EC := .rg c106_44l false
@[simp] theorem c106_44e : Rg c106_44 c106_44l false := rgE _ _
@[simp] def c106_45l : List EO := [m 111 16,
 m 112 17,
 o 113 (.bin .lss) [t 111, t 112]]
def c106_45 : EC := .rg c106_45l false
@[simp] theorem c106_45e : Rg c106_45 c106_45l false := rgE _ _
@[simp] def c106_46l : List EO := [m 114 16,
 m 115 18,
 o 116 (.bin .geq) [t 114, t 115],
 m 8 116]
def c106_46 : EC := .rg c106_46l false
@[simp] theorem c106_46e : Rg c106_46 c106_46l false := rgE _ _
@[simp] def c106_47l : List EO := [m 117 0,
 m 118 1,
 m 119 14,
 m 120 3,
 o 121 (.call 106) [t 117, t 118, t 119, t 120]]
def c106_47 : EC := .rg c106_47l false
@[simp] theorem c106_47e : Rg c106_47 c106_47l false := rgE _ _
@[simp] def c106_48l : List EO := [m 122 14,
 o 123 (.bin .add) [t 122, i 1],
 m 1 123]
def c106_48 : EC := .rg c106_48l false
@[simp] theorem c106_48e : Rg c106_48 c106_48l false := rgE _ _
def c106_49 : EC := .sq c106_47 c106_48
@[simp] theorem c106_49e : Sq c106_49 c106_47 c106_48 := sqE _ _
def c106_50 : EC := .sq c106_46 c106_49
@[simp] theorem c106_50e : Sq c106_50 c106_46 c106_49 := sqE _ _
@[simp] def c106_51l : List EO := [m 124 17,
 m 125 18,
 o 126 (.bin .geq) [t 124, t 125],
 m 8 126]
def c106_51 : EC := .rg c106_51l false
@[simp] theorem c106_51e : Rg c106_51 c106_51l false := rgE _ _
@[simp] def c106_52l : List EO := [m 127 0,
 m 128 14,
 o 129 (.bin .add) [t 128, i 1],
 m 130 2,
 m 131 3,
 o 132 (.call 106) [t 127, t 129, t 130, t 131]]
def c106_52 : EC := .rg c106_52l false
@[simp] theorem c106_52e : Rg c106_52 c106_52l false := rgE _ _
@[simp] def c106_53l : List EO := [m 133 14,
 m 2 133]
def c106_53 : EC := .rg c106_53l false
@[simp] theorem c106_53e : Rg c106_53 c106_53l false := rgE _ _
def c106_54 : EC := .sq c106_52 c106_53
@[simp] theorem c106_54e : Sq c106_54 c106_52 c106_53 := sqE _ _
def c106_55 : EC := .sq c106_51 c106_54
@[simp] theorem c106_55e : Sq c106_55 c106_51 c106_54 := sqE _ _
def c106_56 : EC := .cd (t 113) c106_50 c106_55
@[simp] theorem c106_56e : Cd c106_56 (t 113) c106_50 c106_55 := cdE _ _ _
def c106_57 : EC := .sq c106_45 c106_56
@[simp] theorem c106_57e : Sq c106_57 c106_45 c106_56 := sqE _ _
def c106_58 : EC := .sq c106_44 c106_57
@[simp] theorem c106_58e : Sq c106_58 c106_44 c106_57 := sqE _ _
def c106_59 : EC := .sq c106_43 c106_58
@[simp] theorem c106_59e : Sq c106_59 c106_43 c106_58 := sqE _ _
def c106_60 : EC := .sq c106_42 c106_59
@[simp] theorem c106_60e : Sq c106_60 c106_42 c106_59 := sqE _ _
def c106_61 : EC := .sq c106_41 c106_60
@[simp] theorem c106_61e : Sq c106_61 c106_41 c106_60 := sqE _ _
def c106_62 : EC := .sq c106_40 c106_61
@[simp] theorem c106_62e : Sq c106_62 c106_40 c106_61 := sqE _ _
def c106_63 : EC := .sq c106_33 c106_62
@[simp] theorem c106_63e : Sq c106_63 c106_33 c106_62 := sqE _ _
def c106_64 : EC := .sq c106_27 c106_63
@[simp] theorem c106_64e : Sq c106_64 c106_27 c106_63 := sqE _ _
def c106_65 : EC := .sq c106_19 c106_64
@[simp] theorem c106_65e : Sq c106_65 c106_19 c106_64 := sqE _ _
def c106_66 : EC := .sq c106_18 c106_65
@[simp] theorem c106_66e : Sq c106_66 c106_18 c106_65 := sqE _ _
def c106_67 : EC := .sq c106_12 c106_66
@[simp] theorem c106_67e : Sq c106_67 c106_12 c106_66 := sqE _ _
def c106_68 : EC := .sq c106_7 c106_67
@[simp] theorem c106_68e : Sq c106_68 c106_7 c106_67 := sqE _ _
def c106_69 : EC := .sq c106_2 c106_68
@[simp] theorem c106_69e : Sq c106_69 c106_2 c106_68 := sqE _ _
def c106_70 : EC := .bk 1 c106_69
@[simp] theorem c106_70e : Bk c106_70 1 c106_69 := bkE _ _
def c106_71 : EC := .bk 0 (.lp c106_70)
@[simp] theorem c106_71e : Bk c106_71 0 (.lp c106_70) := bkE _ _
def c106_72 : EC := .sq c106_1 c106_71
@[simp] theorem c106_72e : Sq c106_72 c106_1 c106_71 := sqE _ _
def c106_73 : EC := .sq c106_0 c106_72
@[simp] theorem c106_73e : Sq c106_73 c106_0 c106_72 := sqE _ _
def c_slices_pdqsortOrdered_int__106 : EC := c106_73
theorem k_106 : ecF Tryd.prog 106 = some (134, c_slices_pdqsortOrdered_int__106, []) := by kernel_rfl

/-- math/bits.Len -/
@[simp] def c107_0l : List EO := [o 2 .mv [i 0]]
def c107_0 : EC := .rg c107_0l false
@[simp] theorem c107_0e : Rg c107_0 c107_0l false := rgE _ _
@[simp] def c107_1l : List EO := [m 3 0,
 o 4 (.cvI .u32) [t 3],
 o 5 (.call 132) [t 4],
 m 2 5]
def c107_1 : EC := .rg c107_1l false
@[simp] theorem c107_1e : Rg c107_1 c107_1l false := rgE _ _
def c107_2 : EC := .sq c107_1 .rt
@[simp] theorem c107_2e : Sq c107_2 c107_1 .rt := sqE _ _
def c107_3 : EC := .cd (b false) c107_2 .skip
@[simp] theorem c107_3e : Cd c107_3 (b false) c107_2 .skip := cdE _ _ _
@[simp] def c107_4l : List EO := [m 6 0,
 o 7 (.call 133) [t 6],
 m 2 7]
def c107_4 : EC := .rg c107_4l false
@[simp] theorem c107_4e : Rg c107_4 c107_4l false := rgE _ _
def c107_5 : EC := .sq c107_4 .rt
@[simp] theorem c107_5e : Sq c107_5 c107_4 .rt := sqE _ _
def c107_6 : EC := .sq c107_3 c107_5
@[simp] theorem c107_6e : Sq c107_6 c107_3 c107_5 := sqE _ _
def c107_7 : EC := .sq c107_0 c107_6
@[simp] theorem c107_7e : Sq c107_7 c107_0 c107_6 := sqE _ _
def c_bits_Len_107 : EC := c107_7
theorem k_107 : ecF Tryd.prog 107 = some (8, c_bits_Len_107, [.tm 2]) := by kernel_rfl

/-- slices.IndexFunc[tallystone/syntax.Program,tallystone/syntax.Rule] -/
@[simp] def c108_0l : List EO := [o 4 .mv [i 0]]
def c108_0 : EC := .rg c108_0l false
@[simp] theorem c108_0e : Rg c108_0 c108_0l false := rgE _ _
@[simp] def c108_1l : List EO := [m 6 0,
 o 7 .lenL [t 6],
 o 8 .mv [i 0]]
def c108_1 : EC := .rg c108_1l false
@[simp] theorem c108_1e : Rg c108_1 c108_1l false := rgE _ _
@[simp] def c108_2l : List EO := [o 9 (.bin .lss) [t 8, t 7]]
def c108_2 : EC := .rg c108_2l false
@[simp] theorem c108_2e : Rg c108_2 c108_2l false := rgE _ _
def c108_3 : EC := .cd (t 9) .skip (.ex 0)
@[simp] theorem c108_3e : Cd c108_3 (t 9) .skip (.ex 0) := cdE _ _ _
@[simp] def c108_4l : List EO := [m 10 8,
 m 5 10]
def c108_4 : EC := .rg c108_4l false
@[simp] theorem c108_4e : Rg c108_4 c108_4l false := rgE _ _
@[simp] def c108_5l : List EO := [m 11 1,
 m 12 0,
 m 13 5,
 o 14 (.iaS 4) [t 12, t 13],
 o 15 (.load 4 true) [t 14],
 o 16 .callv [t 11, t 15]]
def c108_5 : EC := .rg c108_5l false
@[simp] theorem c108_5e : Rg c108_5 c108_5l false := rgE _ _
@[simp] def c108_6l : List EO := [m 17 5,
 m 4 17]
def c108_6 : EC := .rg c108_6l false
@[simp] theorem c108_6e : Rg c108_6 c108_6l false := rgE _ _
def c108_7 : EC := .sq c108_6 .rt
@[simp] theorem c108_7e : Sq c108_7 c108_6 .rt := sqE _ _
def c108_8 : EC := .cd (t 16) c108_7 .skip
@[simp] theorem c108_8e : Cd c108_8 (t 16) c108_7 .skip := cdE _ _ _
def c108_9 : EC := .sq c108_5 c108_8
@[simp] theorem c108_9e : Sq c108_9 c108_5 c108_8 := sqE _ _
def c108_10 : EC := .sq c108_4 c108_9
@[simp] theorem c108_10e : Sq c108_10 c108_4 c108_9 := sqE _ _
def c108_11 : EC := .bk 1 c108_10
@[simp] theorem c108_11e : Bk c108_11 1 c108_10 := bkE _ _
@[simp] def c108_12l : List EO := [o 18 (.bin .add) [t 8, i 1],
 m 8 18]
def c108_12 : EC := .rg c108_12l false
@[simp] theorem c108_12e : Rg c108_12 c108_12l false := rgE _ _
def c108_13 : EC := .sq c108_11 c108_12
@[simp] theorem c108_13e : Sq c108_13 c108_11 c108_12 := sqE _ _
def c108_14 : EC := .sq c108_3 c108_13
@[simp] theorem c108_14e : Sq c108_14 c108_3 c108_13 := sqE _ _
def c108_15 : EC := .sq c108_2 c108_14
@[simp] theorem c108_15e : Sq c108_15 c108_2 c108_14 := sqE _ _
def c108_16 : EC := .bk 0 (.lp c108_15)
@[simp] theorem c108_16e : Bk c108_16 0 (.lp c108_15) := bkE _ _
def c108_17 : EC := .sq c108_1 c108_16
@[simp] theorem c108_17e : Sq c108_17 c108_1 c108_16 := sqE _ _
@[simp] def c108_18l : List EO := [o 4 .mv [i (-1)]]
def c108_18 : EC := .rg c108_18l false
@[simp] theorem c108_18e : Rg c108_18 c108_18l false := rgE _ _
def c108_19 : EC := .sq c108_18 .rt
@[simp] theorem c108_19e : Sq c108_19 c108_18 .rt := sqE _ _
def c108_20 : EC := .sq c108_17 c108_19
@[simp] theorem c108_20e : Sq c108_20 c108_17 c108_19 := sqE _ _
def c108_21 : EC := .sq c108_0 c108_20
@[simp] theorem c108_21e : Sq c108_21 c108_0 c108_20 := sqE _ _
def c_syntax_Rule__108 : EC := c108_21
theorem k_108 : ecF Tryd.prog 108 = some (19, c_syntax_Rule__108, [.tm 4]) := by kernel_rfl

/-- slices.IndexFunc[[]tallystone/syntax.Stmt,tallystone/syntax.Stmt] -/
@[simp] def c109_0l : List EO := [o 4 .mv [i 0]]
def c109_0 : EC := .rg c109_0l false
@[simp] theorem c109_0e : Rg c109_0 c109_0l false := rgE _ _
@[simp] def c109_1l : List EO := [m 6 0,
 o 7 .lenL [t 6],
 o 8 .mv [i 0]]
def c109_1 : EC := .rg c109_1l false
@[simp] theorem c109_1e : Rg c109_1 c109_1l false := rgE _ _
@[simp] def c109_2l : List EO := [o 9 (.bin .lss) [t 8, t 7]]
def c109_2 : EC := .rg c109_2l false
@[simp] theorem c109_2e : Rg c109_2 c109_2l false := rgE _ _
def c109_3 : EC := .cd (t 9) .skip (.ex 0)
@[simp] theorem c109_3e : Cd c109_3 (t 9) .skip (.ex 0) := cdE _ _ _
@[simp] def c109_4l : List EO := [m 10 8,
 m 5 10]
def c109_4 : EC := .rg c109_4l false
@[simp] theorem c109_4e : Rg c109_4 c109_4l false := rgE _ _
@[simp] def c109_5l : List EO := [m 11 1,
 m 12 0,
 m 13 5,
 o 14 (.iaS 9) [t 12, t 13],
 o 15 (.load 9 true) [t 14],
 o 16 .callv [t 11, t 15]]
def c109_5 : EC := .rg c109_5l false
@[simp] theorem c109_5e : Rg c109_5 c109_5l false := rgE _ _
@[simp] def c109_6l : List EO := [m 17 5,
 m 4 17]
def c109_6 : EC := .rg c109_6l false
@[simp] theorem c109_6e : Rg c109_6 c109_6l false := rgE _ _
def c109_7 : EC := .sq c109_6 .rt
@[simp] theorem c109_7e : Sq c109_7 c109_6 .rt := sqE _ _
def c109_8 : EC := .cd (t 16) c109_7 .skip
@[simp] theorem c109_8e : Cd c109_8 (t 16) c109_7 .skip := cdE _ _ _
def c109_9 : EC := .sq c109_5 c109_8
@[simp] theorem c109_9e : Sq c109_9 c109_5 c109_8 := sqE _ _
def c109_10 : EC := .sq c109_4 c109_9
@[simp] theorem c109_10e : Sq c109_10 c109_4 c109_9 := sqE _ _
def c109_11 : EC := .bk 1 c109_10
@[simp] theorem c109_11e : Bk c109_11 1 c109_10 := bkE _ _
@[simp] def c109_12l : List EO := [o 18 (.bin .add) [t 8, i 1],
 m 8 18]
def c109_12 : EC := .rg c109_12l false
@[simp] theorem c109_12e : Rg c109_12 c109_12l false := rgE _ _
def c109_13 : EC := .sq c109_11 c109_12
@[simp] theorem c109_13e : Sq c109_13 c109_11 c109_12 := sqE _ _
def c109_14 : EC := .sq c109_3 c109_13
@[simp] theorem c109_14e : Sq c109_14 c109_3 c109_13 := sqE _ _
def c109_15 : EC := .sq c109_2 c109_14
@[simp] theorem c109_15e : Sq c109_15 c109_2 c109_14 := sqE _ _
def c109_16 : EC := .bk 0 (.lp c109_15)
@[simp] theorem c109_16e : Bk c109_16 0 (.lp c109_15) := bkE _ _
def c109_17 : EC := .sq c109_1 c109_16
@[simp] theorem c109_17e : Sq c109_17 c109_1 c109_16 := sqE _ _
@[simp] def c109_18l : List EO := [o 4 .mv [i (-1)]]
def c109_18 : EC := .rg c109_18l false
@[simp] theorem c109_18e : Rg c109_18 c109_18l false := rgE _ _
def c109_19 : EC := .sq c109_18 .rt
@[simp] theorem c109_19e : Sq c109_19 c109_18 .rt := sqE _ _
def c109_20 : EC := .sq c109_17 c109_19
@[simp] theorem c109_20e : Sq c109_20 c109_17 c109_19 := sqE _ _
def c109_21 : EC := .sq c109_0 c109_20
@[simp] theorem c109_21e : Sq c109_21 c109_0 c109_20 := sqE _ _
def c_syntax_Stmt__109 : EC := c109_21
theorem k_109 : ecF Tryd.prog 109 = some (19, c_syntax_Stmt__109, [.tm 4]) := by kernel_rfl

/-- slices.ContainsFunc[[]tallystone/syntax.Expr,tallystone/syntax.Expr] -/
@[simp] def c110_0l : List EO := [o 4 .mv [b false]]
def c110_0 : EC := .rg c110_0l false
@[simp] theorem c110_0e : Rg c110_0 c110_0l false := rgE _ _
@[simp] def c110_1l : List EO := [m 5 0,
 m 6 1,
 o 7 (.call 134) [t 5, t 6],
 o 8 (.bin .geq) [t 7, i 0],
 m 4 8]
def c110_1 : EC := .rg c110_1l false
@[simp] theorem c110_1e : Rg c110_1 c110_1l false := rgE _ _
def c110_2 : EC := .sq c110_1 .rt
@[simp] theorem c110_2e : Sq c110_2 c110_1 .rt := sqE _ _
def c110_3 : EC := .sq c110_0 c110_2
@[simp] theorem c110_3e : Sq c110_3 c110_0 c110_2 := sqE _ _
def c_syntax_Expr__110 : EC := c110_3
theorem k_110 : ecF Tryd.prog 110 = some (9, c_syntax_Expr__110, [.tm 4]) := by kernel_rfl

/-- tallystone/check.reads$1 -/
@[simp] def c111_0l : List EO := [o 2 .box [t 0],
 o 3 .mv [b false]]
def c111_0 : EC := .rg c111_0l false
@[simp] theorem c111_0e : Rg c111_0 c111_0l false := rgE _ _
@[simp] def c111_1l : List EO := [o 4 (.load 6 true) [t 2],
 o 5 (.load 1 false) [t 1],
 o 6 (.call 84) [t 4, t 5],
 m 3 6]
def c111_1 : EC := .rg c111_1l false
@[simp] theorem c111_1e : Rg c111_1 c111_1l false := rgE _ _
def c111_2 : EC := .sq c111_1 .rt
@[simp] theorem c111_2e : Sq c111_2 c111_1 .rt := sqE _ _
def c111_3 : EC := .sq c111_0 c111_2
@[simp] theorem c111_3e : Sq c111_3 c111_0 c111_2 := sqE _ _
def c_check_readsS1_111 : EC := c111_3
theorem k_111 : ecF Tryd.prog 111 = some (7, c_check_readsS1_111, [.tm 3]) := by kernel_rfl

/-- tallystone/token.Tokens -/
@[simp] def c112_0l : List EO := [o 2 .mv [c (.snil)],
 o 3 .mv [i 0],
 o 4 .mv [i 0]]
def c112_0 : EC := .rg c112_0l false
@[simp] theorem c112_0e : Rg c112_0 c112_0l false := rgE _ _
@[simp] def c112_1l : List EO := [m 10 0,
 o 11 .lenS [t 10],
 o 12 (.bin .gtr) [t 11, i 8000]]
def c112_1 : EC := .rg c112_1l false
@[simp] theorem c112_1e : Rg c112_1 c112_1l false := rgE _ _
@[simp] def c112_2l : List EO := [o 2 .mv [c (.snil)],
 o 3 .mv [i 8000],
 o 4 .mv [i 6]]
def c112_2 : EC := .rg c112_2l false
@[simp] theorem c112_2e : Rg c112_2 c112_2l false := rgE _ _
def c112_3 : EC := .sq c112_2 .rt
@[simp] theorem c112_3e : Sq c112_3 c112_2 .rt := sqE _ _
def c112_4 : EC := .cd (t 12) c112_3 .skip
@[simp] theorem c112_4e : Cd c112_4 (t 12) c112_3 .skip := cdE _ _ _
def c112_5 : EC := .sq c112_1 c112_4
@[simp] theorem c112_5e : Sq c112_5 c112_1 c112_4 := sqE _ _
@[simp] def c112_6l : List EO := [m 13 3,
 m 14 0,
 m 15 3,
 o 16 (.slS true false) [t 14, t 15],
 o 17 (.call 135) [t 16],
 o 18 (.bin .add) [t 13, t 17],
 m 3 18]
def c112_6 : EC := .rg c112_6l false
@[simp] theorem c112_6e : Rg c112_6 c112_6l false := rgE _ _
@[simp] def c112_7l : List EO := [m 19 3,
 m 20 0,
 o 21 .lenS [t 20],
 o 22 (.bin .eql) [t 19, t 21]]
def c112_7 : EC := .rg c112_7l false
@[simp] theorem c112_7e : Rg c112_7 c112_7l false := rgE _ _
@[simp] def c112_8l : List EO := [m 23 2,
 m 2 23,
 o 3 .mv [i 0],
 o 4 .mv [i 0]]
def c112_8 : EC := .rg c112_8l false
@[simp] theorem c112_8e : Rg c112_8 c112_8l false := rgE _ _
def c112_9 : EC := .sq c112_8 .rt
@[simp] theorem c112_9e : Sq c112_9 c112_8 .rt := sqE _ _
def c112_10 : EC := .cd (t 22) c112_9 .skip
@[simp] theorem c112_10e : Cd c112_10 (t 22) c112_9 .skip := cdE _ _ _
def c112_11 : EC := .sq c112_7 c112_10
@[simp] theorem c112_11e : Sq c112_11 c112_7 c112_10 := sqE _ _
@[simp] def c112_12l : List EO := [m 25 0,
 m 26 3,
 o 27 (.slS true false) [t 25, t 26],
 o 28 (.call 136) [t 27],
 m 24 28,
 o 29 (.ext 0) [t 24],
 o 30 (.ext 1) [t 24],
 m 5 29,
 m 6 30]
def c112_12 : EC := .rg c112_12l false
@[simp] theorem c112_12e : Rg c112_12 c112_12l false := rgE _ _
@[simp] def c112_13l : List EO := [m 31 5,
 o 32 (.bin .eql) [t 31, i 0]]
def c112_13 : EC := .rg c112_13l false
@[simp] theorem c112_13e : Rg c112_13 c112_13l false := rgE _ _
@[simp] def c112_14l : List EO := [m 33 3,
 o 2 .mv [c (.snil)],
 m 3 33,
 o 4 .mv [i 3]]
def c112_14 : EC := .rg c112_14l false
@[simp] theorem c112_14e : Rg c112_14 c112_14l false := rgE _ _
def c112_15 : EC := .sq c112_14 .rt
@[simp] theorem c112_15e : Sq c112_15 c112_14 .rt := sqE _ _
def c112_16 : EC := .cd (t 32) c112_15 .skip
@[simp] theorem c112_16e : Cd c112_16 (t 32) c112_15 .skip := cdE _ _ _
def c112_17 : EC := .sq c112_13 c112_16
@[simp] theorem c112_17e : Sq c112_17 c112_13 c112_16 := sqE _ _
@[simp] def c112_18l : List EO := [m 34 5,
 m 35 0,
 m 36 3,
 m 37 3,
 m 38 6,
 o 39 (.bin .add) [t 37, t 38],
 o 40 (.slS true true) [t 35, t 36, t 39],
 m 41 3,
 o 42 (.build [.t (.int .i64 0), .t (.str []), .t (.int .i64 0)] [(0, 1), (1, 1), (2, 1)]) [t 34, t 40, t 41],
 o 7 (.alloc [.t (.int .i64 0), .t (.str []), .t (.int .i64 0)]) [],
 u (.store 3) [t 7, t 42]]
def c112_18 : EC := .rg c112_18l false
@[simp] theorem c112_18e : Rg c112_18 c112_18l false := rgE _ _
@[simp] def c112_19l : List EO := [o 44 (.load 3 true) [t 7],
 o 45 (.call 137) [t 44],
 m 43 45,
 o 46 (.ext 0) [t 43],
 o 47 (.ext 1) [t 43],
 m 8 46,
 m 9 47]
def c112_19 : EC := .rg c112_19l false
@[simp] theorem c112_19e : Rg c112_19 c112_19l false := rgE _ _
@[simp] def c112_20l : List EO := [m 48 5,
 o 49 (.bin .eql) [t 48, i 1],
 m 50 49,
 y 51 50 .mv [t 6],
 y 52 50 (.bin .gtr) [t 51, i 16],
 o 53 .pick [t 50, t 52, b false],
 m 54 53,
 n 55 54 .mv [t 5],
 n 56 54 (.bin .eql) [t 55, i 2],
 n 57 54 .mv [t 56],
 y 58 57 .mv [t 9],
 y 59 57 (.un .not) [t 58],
 n 60 54 .pick [t 57, t 59, b false],
 o 61 .pick [t 54, b true, t 60]]
def c112_20 : EC := .rg c112_20l false
@[simp] theorem c112_20e : Rg c112_20 c112_20l false := rgE _ _
@[simp] def c112_21l : List EO := [m 62 3,
 o 2 .mv [c (.snil)],
 m 3 62,
 o 4 .mv [i 6]]
def c112_21 : EC := .rg c112_21l false
@[simp] theorem c112_21e : Rg c112_21 c112_21l false := rgE _ _
def c112_22 : EC := .sq c112_21 .rt
@[simp] theorem c112_22e : Sq c112_22 c112_21 .rt := sqE _ _
def c112_23 : EC := .cd (t 61) c112_22 .skip
@[simp] theorem c112_23e : Cd c112_23 (t 61) c112_22 .skip := cdE _ _ _
def c112_24 : EC := .sq c112_20 c112_23
@[simp] theorem c112_24e : Sq c112_24 c112_20 c112_23 := sqE _ _
def c112_25 : EC := .sq c112_19 c112_24
@[simp] theorem c112_25e : Sq c112_25 c112_19 c112_24 := sqE _ _
@[simp] def c112_26l : List EO := [m 63 2,
 o 64 (.load 3 true) [t 7],
 o 65 (.bsl 3) [t 64],
 o 66 (.app 168 3 32) [t 63, t 65],
 m 2 66]
def c112_26 : EC := .rg c112_26l false
@[simp] theorem c112_26e : Rg c112_26 c112_26l false := rgE _ _
@[simp] def c112_27l : List EO := [m 67 3,
 m 68 6,
 o 69 (.bin .add) [t 67, t 68],
 m 3 69]
def c112_27 : EC := .rg c112_27l false
@[simp] theorem c112_27e : Rg c112_27 c112_27l false := rgE _ _
def c112_28 : EC := .sq c112_26 c112_27
@[simp] theorem c112_28e : Sq c112_28 c112_26 c112_27 := sqE _ _
def c112_29 : EC := .sq c112_25 c112_28
@[simp] theorem c112_29e : Sq c112_29 c112_25 c112_28 := sqE _ _
def c112_30 : EC := .sq c112_18 c112_29
@[simp] theorem c112_30e : Sq c112_30 c112_18 c112_29 := sqE _ _
def c112_31 : EC := .sq c112_17 c112_30
@[simp] theorem c112_31e : Sq c112_31 c112_17 c112_30 := sqE _ _
def c112_32 : EC := .sq c112_12 c112_31
@[simp] theorem c112_32e : Sq c112_32 c112_12 c112_31 := sqE _ _
def c112_33 : EC := .sq c112_11 c112_32
@[simp] theorem c112_33e : Sq c112_33 c112_11 c112_32 := sqE _ _
def c112_34 : EC := .sq c112_6 c112_33
@[simp] theorem c112_34e : Sq c112_34 c112_6 c112_33 := sqE _ _
def c112_35 : EC := .bk 1 c112_34
@[simp] theorem c112_35e : Bk c112_35 1 c112_34 := bkE _ _
def c112_36 : EC := .bk 0 (.lp c112_35)
@[simp] theorem c112_36e : Bk c112_36 0 (.lp c112_35) := bkE _ _
def c112_37 : EC := .sq c112_5 c112_36
@[simp] theorem c112_37e : Sq c112_37 c112_5 c112_36 := sqE _ _
def c112_38 : EC := .sq c112_0 c112_37
@[simp] theorem c112_38e : Sq c112_38 c112_0 c112_37 := sqE _ _
def c_token_Tokens_112 : EC := c112_38
theorem k_112 : ecF Tryd.prog 112 = some (70, c_token_Tokens_112, [.tm 2, .tm 3, .tm 4]) := by kernel_rfl

/-- tallystone/token.Tokens, with slices that grow in boxes -/
@[simp] def b112_0l : List EO := [o 2 .mv [c (.snil)],
 o 3 .mv [i 0],
 o 4 .mv [i 0]]
def b112_0 : EC := .rg b112_0l false
@[simp] theorem b112_0e : Rg b112_0 b112_0l false := rgE _ _
@[simp] def b112_1l : List EO := [m 10 0,
 o 11 .lenS [t 10],
 o 12 (.bin .gtr) [t 11, i 8000]]
def b112_1 : EC := .rg b112_1l false
@[simp] theorem b112_1e : Rg b112_1 b112_1l false := rgE _ _
@[simp] def b112_2l : List EO := [o 2 .mv [c (.snil)],
 o 3 .mv [i 8000],
 o 4 .mv [i 6]]
def b112_2 : EC := .rg b112_2l false
@[simp] theorem b112_2e : Rg b112_2 b112_2l false := rgE _ _
def b112_3 : EC := .sq b112_2 .rt
@[simp] theorem b112_3e : Sq b112_3 b112_2 .rt := sqE _ _
def b112_4 : EC := .cd (t 12) b112_3 .skip
@[simp] theorem b112_4e : Cd b112_4 (t 12) b112_3 .skip := cdE _ _ _
def b112_5 : EC := .sq b112_1 b112_4
@[simp] theorem b112_5e : Sq b112_5 b112_1 b112_4 := sqE _ _
@[simp] def b112_6l : List EO := [m 13 3,
 m 14 0,
 m 15 3,
 o 16 (.slS true false) [t 14, t 15],
 o 17 (.call 135) [t 16],
 o 18 (.bin .add) [t 13, t 17],
 m 3 18]
def b112_6 : EC := .rg b112_6l false
@[simp] theorem b112_6e : Rg b112_6 b112_6l false := rgE _ _
@[simp] def b112_7l : List EO := [m 19 3,
 m 20 0,
 o 21 .lenS [t 20],
 o 22 (.bin .eql) [t 19, t 21]]
def b112_7 : EC := .rg b112_7l false
@[simp] theorem b112_7e : Rg b112_7 b112_7l false := rgE _ _
@[simp] def b112_8l : List EO := [m 23 2,
 m 2 23,
 o 3 .mv [i 0],
 o 4 .mv [i 0]]
def b112_8 : EC := .rg b112_8l false
@[simp] theorem b112_8e : Rg b112_8 b112_8l false := rgE _ _
def b112_9 : EC := .sq b112_8 .rt
@[simp] theorem b112_9e : Sq b112_9 b112_8 .rt := sqE _ _
def b112_10 : EC := .cd (t 22) b112_9 .skip
@[simp] theorem b112_10e : Cd b112_10 (t 22) b112_9 .skip := cdE _ _ _
def b112_11 : EC := .sq b112_7 b112_10
@[simp] theorem b112_11e : Sq b112_11 b112_7 b112_10 := sqE _ _
@[simp] def b112_12l : List EO := [m 25 0,
 m 26 3,
 o 27 (.slS true false) [t 25, t 26],
 o 28 (.call 136) [t 27],
 m 24 28,
 o 29 (.ext 0) [t 24],
 o 30 (.ext 1) [t 24],
 m 5 29,
 m 6 30]
def b112_12 : EC := .rg b112_12l false
@[simp] theorem b112_12e : Rg b112_12 b112_12l false := rgE _ _
@[simp] def b112_13l : List EO := [m 31 5,
 o 32 (.bin .eql) [t 31, i 0]]
def b112_13 : EC := .rg b112_13l false
@[simp] theorem b112_13e : Rg b112_13 b112_13l false := rgE _ _
@[simp] def b112_14l : List EO := [m 33 3,
 o 2 .mv [c (.snil)],
 m 3 33,
 o 4 .mv [i 3]]
def b112_14 : EC := .rg b112_14l false
@[simp] theorem b112_14e : Rg b112_14 b112_14l false := rgE _ _
def b112_15 : EC := .sq b112_14 .rt
@[simp] theorem b112_15e : Sq b112_15 b112_14 .rt := sqE _ _
def b112_16 : EC := .cd (t 32) b112_15 .skip
@[simp] theorem b112_16e : Cd b112_16 (t 32) b112_15 .skip := cdE _ _ _
def b112_17 : EC := .sq b112_13 b112_16
@[simp] theorem b112_17e : Sq b112_17 b112_13 b112_16 := sqE _ _
@[simp] def b112_18l : List EO := [m 34 5,
 m 35 0,
 m 36 3,
 m 37 3,
 m 38 6,
 o 39 (.bin .add) [t 37, t 38],
 o 40 (.slS true true) [t 35, t 36, t 39],
 m 41 3,
 o 42 (.build [.t (.int .i64 0), .t (.str []), .t (.int .i64 0)] [(0, 1), (1, 1), (2, 1)]) [t 34, t 40, t 41],
 o 7 (.alloc [.t (.int .i64 0), .t (.str []), .t (.int .i64 0)]) [],
 u (.store 3) [t 7, t 42]]
def b112_18 : EC := .rg b112_18l false
@[simp] theorem b112_18e : Rg b112_18 b112_18l false := rgE _ _
@[simp] def b112_19l : List EO := [o 44 (.load 3 true) [t 7],
 o 45 (.call 137) [t 44],
 m 43 45,
 o 46 (.ext 0) [t 43],
 o 47 (.ext 1) [t 43],
 m 8 46,
 m 9 47]
def b112_19 : EC := .rg b112_19l false
@[simp] theorem b112_19e : Rg b112_19 b112_19l false := rgE _ _
@[simp] def b112_20l : List EO := [m 48 5,
 o 49 (.bin .eql) [t 48, i 1],
 m 50 49,
 y 51 50 .mv [t 6],
 y 52 50 (.bin .gtr) [t 51, i 16],
 o 53 .pick [t 50, t 52, b false],
 m 54 53,
 n 55 54 .mv [t 5],
 n 56 54 (.bin .eql) [t 55, i 2],
 n 57 54 .mv [t 56],
 y 58 57 .mv [t 9],
 y 59 57 (.un .not) [t 58],
 n 60 54 .pick [t 57, t 59, b false],
 o 61 .pick [t 54, b true, t 60]]
def b112_20 : EC := .rg b112_20l false
@[simp] theorem b112_20e : Rg b112_20 b112_20l false := rgE _ _
@[simp] def b112_21l : List EO := [m 62 3,
 o 2 .mv [c (.snil)],
 m 3 62,
 o 4 .mv [i 6]]
def b112_21 : EC := .rg b112_21l false
@[simp] theorem b112_21e : Rg b112_21 b112_21l false := rgE _ _
def b112_22 : EC := .sq b112_21 .rt
@[simp] theorem b112_22e : Sq b112_22 b112_21 .rt := sqE _ _
def b112_23 : EC := .cd (t 61) b112_22 .skip
@[simp] theorem b112_23e : Cd b112_23 (t 61) b112_22 .skip := cdE _ _ _
def b112_24 : EC := .sq b112_20 b112_23
@[simp] theorem b112_24e : Sq b112_24 b112_20 b112_23 := sqE _ _
def b112_25 : EC := .sq b112_19 b112_24
@[simp] theorem b112_25e : Sq b112_25 b112_19 b112_24 := sqE _ _
@[simp] def b112_26l : List EO := [m 63 2,
 o 64 (.load 3 true) [t 7],
 o 65 (.bsl 3) [t 64],
 o 66 (.appB 168 3 32) [t 63, t 65],
 m 2 66]
def b112_26 : EC := .rg b112_26l false
@[simp] theorem b112_26e : Rg b112_26 b112_26l false := rgE _ _
@[simp] def b112_27l : List EO := [m 67 3,
 m 68 6,
 o 69 (.bin .add) [t 67, t 68],
 m 3 69]
def b112_27 : EC := .rg b112_27l false
@[simp] theorem b112_27e : Rg b112_27 b112_27l false := rgE _ _
def b112_28 : EC := .sq b112_26 b112_27
@[simp] theorem b112_28e : Sq b112_28 b112_26 b112_27 := sqE _ _
def b112_29 : EC := .sq b112_25 b112_28
@[simp] theorem b112_29e : Sq b112_29 b112_25 b112_28 := sqE _ _
def b112_30 : EC := .sq b112_18 b112_29
@[simp] theorem b112_30e : Sq b112_30 b112_18 b112_29 := sqE _ _
def b112_31 : EC := .sq b112_17 b112_30
@[simp] theorem b112_31e : Sq b112_31 b112_17 b112_30 := sqE _ _
def b112_32 : EC := .sq b112_12 b112_31
@[simp] theorem b112_32e : Sq b112_32 b112_12 b112_31 := sqE _ _
def b112_33 : EC := .sq b112_11 b112_32
@[simp] theorem b112_33e : Sq b112_33 b112_11 b112_32 := sqE _ _
def b112_34 : EC := .sq b112_6 b112_33
@[simp] theorem b112_34e : Sq b112_34 b112_6 b112_33 := sqE _ _
def b112_35 : EC := .bk 1 b112_34
@[simp] theorem b112_35e : Bk b112_35 1 b112_34 := bkE _ _
def b112_36 : EC := .bk 0 (.lp b112_35)
@[simp] theorem b112_36e : Bk b112_36 0 (.lp b112_35) := bkE _ _
def b112_37 : EC := .sq b112_5 b112_36
@[simp] theorem b112_37e : Sq b112_37 b112_5 b112_36 := sqE _ _
def b112_38 : EC := .sq b112_0 b112_37
@[simp] theorem b112_38e : Sq b112_38 b112_0 b112_37 := sqE _ _
def b_token_Tokens_112 : EC := b112_38
theorem kb_112 : ecB Tryd.prog 112 = some (70, b_token_Tokens_112, [.tm 2, .tm 3, .tm 4]) := by kernel_rfl

/-- tallystone/token.Keyword -/
@[simp] def c113_0l : List EO := [o 2 .mv [b false]]
def c113_0 : EC := .rg c113_0l false
@[simp] theorem c113_0e : Rg c113_0 c113_0l false := rgE _ _
@[simp] def c113_1l : List EO := [m 3 0]
def c113_1 : EC := .rg c113_1l false
@[simp] theorem c113_1e : Rg c113_1 c113_1l false := rgE _ _
@[simp] def c113_2l : List EO := [o 5 (.bin .eql) [t 3, c (.t (.str [114, 117, 108, 101]))],
 m 4 5]
def c113_2 : EC := .rg c113_2l false
@[simp] theorem c113_2e : Rg c113_2 c113_2l false := rgE _ _
@[simp] def c113_3l : List EO := [o 6 (.bin .eql) [t 3, c (.t (.str [101, 97, 99, 104]))],
 m 4 6]
def c113_3 : EC := .rg c113_3l false
@[simp] theorem c113_3e : Rg c113_3 c113_3l false := rgE _ _
@[simp] def c113_4l : List EO := [o 7 (.bin .eql) [t 3, c (.t (.str [101, 110, 116, 105, 116, 121]))],
 m 4 7]
def c113_4 : EC := .rg c113_4l false
@[simp] theorem c113_4e : Rg c113_4 c113_4l false := rgE _ _
@[simp] def c113_5l : List EO := [o 8 (.bin .eql) [t 3, c (.t (.str [112, 97, 105, 114]))],
 m 4 8]
def c113_5 : EC := .rg c113_5l false
@[simp] theorem c113_5e : Rg c113_5 c113_5l false := rgE _ _
@[simp] def c113_6l : List EO := [o 9 (.bin .eql) [t 3, c (.t (.str [108, 101, 116]))],
 m 4 9]
def c113_6 : EC := .rg c113_6l false
@[simp] theorem c113_6e : Rg c113_6 c113_6l false := rgE _ _
@[simp] def c113_7l : List EO := [o 10 (.bin .eql) [t 3, c (.t (.str [114, 101, 113, 117, 105, 114, 101]))],
 m 4 10]
def c113_7 : EC := .rg c113_7l false
@[simp] theorem c113_7e : Rg c113_7 c113_7l false := rgE _ _
@[simp] def c113_8l : List EO := [o 11 (.bin .eql) [t 3, c (.t (.str [112, 111, 115, 116]))],
 m 4 11]
def c113_8 : EC := .rg c113_8l false
@[simp] theorem c113_8e : Rg c113_8 c113_8l false := rgE _ _
@[simp] def c113_9l : List EO := [o 12 (.bin .eql) [t 3, c (.t (.str [116, 111]))],
 m 4 12]
def c113_9 : EC := .rg c113_9l false
@[simp] theorem c113_9e : Rg c113_9 c113_9l false := rgE _ _
@[simp] def c113_10l : List EO := [o 13 (.bin .eql) [t 3, c (.t (.str [112, 101, 114]))],
 m 4 13]
def c113_10 : EC := .rg c113_10l false
@[simp] theorem c113_10e : Rg c113_10 c113_10l false := rgE _ _
@[simp] def c113_11l : List EO := [o 14 (.bin .eql) [t 3, c (.t (.str [97, 110, 100]))],
 m 4 14]
def c113_11 : EC := .rg c113_11l false
@[simp] theorem c113_11e : Rg c113_11 c113_11l false := rgE _ _
@[simp] def c113_12l : List EO := [o 15 (.bin .eql) [t 3, c (.t (.str [111, 114]))],
 m 4 15]
def c113_12 : EC := .rg c113_12l false
@[simp] theorem c113_12e : Rg c113_12 c113_12l false := rgE _ _
@[simp] def c113_13l : List EO := [o 16 (.bin .eql) [t 3, c (.t (.str [110, 111, 116]))],
 m 4 16]
def c113_13 : EC := .rg c113_13l false
@[simp] theorem c113_13e : Rg c113_13 c113_13l false := rgE _ _
@[simp] def c113_14l : List EO := [o 17 (.bin .eql) [t 3, c (.t (.str [109, 105, 110]))],
 m 4 17]
def c113_14 : EC := .rg c113_14l false
@[simp] theorem c113_14e : Rg c113_14 c113_14l false := rgE _ _
@[simp] def c113_15l : List EO := [o 18 (.bin .eql) [t 3, c (.t (.str [109, 97, 120]))],
 m 4 18]
def c113_15 : EC := .rg c113_15l false
@[simp] theorem c113_15e : Rg c113_15 c113_15l false := rgE _ _
@[simp] def c113_16l : List EO := [o 19 (.bin .eql) [t 3, c (.t (.str [97, 98, 115]))],
 m 4 19]
def c113_16 : EC := .rg c113_16l false
@[simp] theorem c113_16e : Rg c113_16 c113_16l false := rgE _ _
@[simp] def c113_17l : List EO := [o 20 (.bin .eql) [t 3, c (.t (.str [98, 97, 108, 97, 110, 99, 101]))],
 m 4 20]
def c113_17 : EC := .rg c113_17l false
@[simp] theorem c113_17e : Rg c113_17 c113_17l false := rgE _ _
@[simp] def c113_18l : List EO := [o 21 (.bin .eql) [t 3, c (.t (.str [112, 97, 114, 116, 110, 101, 114]))],
 m 4 21]
def c113_18 : EC := .rg c113_18l false
@[simp] theorem c113_18e : Rg c113_18 c113_18l false := rgE _ _
@[simp] def c113_19l : List EO := [o 22 (.bin .eql) [t 3, c (.t (.str [115, 104, 97, 114, 101]))],
 m 4 22]
def c113_19 : EC := .rg c113_19l false
@[simp] theorem c113_19e : Rg c113_19 c113_19l false := rgE _ _
def c113_20 : EC := .cd (t 4) .skip c113_19
@[simp] theorem c113_20e : Cd c113_20 (t 4) .skip c113_19 := cdE _ _ _
def c113_21 : EC := .sq c113_18 c113_20
@[simp] theorem c113_21e : Sq c113_21 c113_18 c113_20 := sqE _ _
def c113_22 : EC := .cd (t 4) .skip c113_21
@[simp] theorem c113_22e : Cd c113_22 (t 4) .skip c113_21 := cdE _ _ _
def c113_23 : EC := .sq c113_17 c113_22
@[simp] theorem c113_23e : Sq c113_23 c113_17 c113_22 := sqE _ _
def c113_24 : EC := .cd (t 4) .skip c113_23
@[simp] theorem c113_24e : Cd c113_24 (t 4) .skip c113_23 := cdE _ _ _
def c113_25 : EC := .sq c113_16 c113_24
@[simp] theorem c113_25e : Sq c113_25 c113_16 c113_24 := sqE _ _
def c113_26 : EC := .cd (t 4) .skip c113_25
@[simp] theorem c113_26e : Cd c113_26 (t 4) .skip c113_25 := cdE _ _ _
def c113_27 : EC := .sq c113_15 c113_26
@[simp] theorem c113_27e : Sq c113_27 c113_15 c113_26 := sqE _ _
def c113_28 : EC := .cd (t 4) .skip c113_27
@[simp] theorem c113_28e : Cd c113_28 (t 4) .skip c113_27 := cdE _ _ _
def c113_29 : EC := .sq c113_14 c113_28
@[simp] theorem c113_29e : Sq c113_29 c113_14 c113_28 := sqE _ _
def c113_30 : EC := .cd (t 4) .skip c113_29
@[simp] theorem c113_30e : Cd c113_30 (t 4) .skip c113_29 := cdE _ _ _
def c113_31 : EC := .sq c113_13 c113_30
@[simp] theorem c113_31e : Sq c113_31 c113_13 c113_30 := sqE _ _
def c113_32 : EC := .cd (t 4) .skip c113_31
@[simp] theorem c113_32e : Cd c113_32 (t 4) .skip c113_31 := cdE _ _ _
def c113_33 : EC := .sq c113_12 c113_32
@[simp] theorem c113_33e : Sq c113_33 c113_12 c113_32 := sqE _ _
def c113_34 : EC := .cd (t 4) .skip c113_33
@[simp] theorem c113_34e : Cd c113_34 (t 4) .skip c113_33 := cdE _ _ _
def c113_35 : EC := .sq c113_11 c113_34
@[simp] theorem c113_35e : Sq c113_35 c113_11 c113_34 := sqE _ _
def c113_36 : EC := .cd (t 4) .skip c113_35
@[simp] theorem c113_36e : Cd c113_36 (t 4) .skip c113_35 := cdE _ _ _
def c113_37 : EC := .sq c113_10 c113_36
@[simp] theorem c113_37e : Sq c113_37 c113_10 c113_36 := sqE _ _
def c113_38 : EC := .cd (t 4) .skip c113_37
@[simp] theorem c113_38e : Cd c113_38 (t 4) .skip c113_37 := cdE _ _ _
def c113_39 : EC := .sq c113_9 c113_38
@[simp] theorem c113_39e : Sq c113_39 c113_9 c113_38 := sqE _ _
def c113_40 : EC := .cd (t 4) .skip c113_39
@[simp] theorem c113_40e : Cd c113_40 (t 4) .skip c113_39 := cdE _ _ _
def c113_41 : EC := .sq c113_8 c113_40
@[simp] theorem c113_41e : Sq c113_41 c113_8 c113_40 := sqE _ _
def c113_42 : EC := .cd (t 4) .skip c113_41
@[simp] theorem c113_42e : Cd c113_42 (t 4) .skip c113_41 := cdE _ _ _
def c113_43 : EC := .sq c113_7 c113_42
@[simp] theorem c113_43e : Sq c113_43 c113_7 c113_42 := sqE _ _
def c113_44 : EC := .cd (t 4) .skip c113_43
@[simp] theorem c113_44e : Cd c113_44 (t 4) .skip c113_43 := cdE _ _ _
def c113_45 : EC := .sq c113_6 c113_44
@[simp] theorem c113_45e : Sq c113_45 c113_6 c113_44 := sqE _ _
def c113_46 : EC := .cd (t 4) .skip c113_45
@[simp] theorem c113_46e : Cd c113_46 (t 4) .skip c113_45 := cdE _ _ _
def c113_47 : EC := .sq c113_5 c113_46
@[simp] theorem c113_47e : Sq c113_47 c113_5 c113_46 := sqE _ _
def c113_48 : EC := .cd (t 4) .skip c113_47
@[simp] theorem c113_48e : Cd c113_48 (t 4) .skip c113_47 := cdE _ _ _
def c113_49 : EC := .sq c113_4 c113_48
@[simp] theorem c113_49e : Sq c113_49 c113_4 c113_48 := sqE _ _
def c113_50 : EC := .cd (t 4) .skip c113_49
@[simp] theorem c113_50e : Cd c113_50 (t 4) .skip c113_49 := cdE _ _ _
def c113_51 : EC := .sq c113_3 c113_50
@[simp] theorem c113_51e : Sq c113_51 c113_3 c113_50 := sqE _ _
def c113_52 : EC := .cd (t 4) .skip c113_51
@[simp] theorem c113_52e : Cd c113_52 (t 4) .skip c113_51 := cdE _ _ _
def c113_53 : EC := .sq c113_2 c113_52
@[simp] theorem c113_53e : Sq c113_53 c113_2 c113_52 := sqE _ _
@[simp] def c113_54l : List EO := [o 2 .mv [b true]]
def c113_54 : EC := .rg c113_54l false
@[simp] theorem c113_54e : Rg c113_54 c113_54l false := rgE _ _
def c113_55 : EC := .sq c113_54 .rt
@[simp] theorem c113_55e : Sq c113_55 c113_54 .rt := sqE _ _
def c113_56 : EC := .cd (t 4) c113_55 .skip
@[simp] theorem c113_56e : Cd c113_56 (t 4) c113_55 .skip := cdE _ _ _
def c113_57 : EC := .sq c113_53 c113_56
@[simp] theorem c113_57e : Sq c113_57 c113_53 c113_56 := sqE _ _
def c113_58 : EC := .bk 0 c113_57
@[simp] theorem c113_58e : Bk c113_58 0 c113_57 := bkE _ _
def c113_59 : EC := .sq c113_1 c113_58
@[simp] theorem c113_59e : Sq c113_59 c113_1 c113_58 := sqE _ _
@[simp] def c113_60l : List EO := [o 2 .mv [b false]]
def c113_60 : EC := .rg c113_60l false
@[simp] theorem c113_60e : Rg c113_60 c113_60l false := rgE _ _
def c113_61 : EC := .sq c113_60 .rt
@[simp] theorem c113_61e : Sq c113_61 c113_60 .rt := sqE _ _
def c113_62 : EC := .sq c113_59 c113_61
@[simp] theorem c113_62e : Sq c113_62 c113_59 c113_61 := sqE _ _
def c113_63 : EC := .sq c113_0 c113_62
@[simp] theorem c113_63e : Sq c113_63 c113_0 c113_62 := sqE _ _
def c_token_Keyword_113 : EC := c113_63
theorem k_113 : ecF Tryd.prog 113 = some (23, c_token_Keyword_113, [.tm 2]) := by kernel_rfl

/-- tallystone/syntax.Depth -/
@[simp] def c114_0l : List EO := [o 1 .box [t 0],
 o 2 .mv [i 0]]
def c114_0 : EC := .rg c114_0l false
@[simp] theorem c114_0e : Rg c114_0 c114_0l false := rgE _ _
@[simp] def c114_1l : List EO := [o 3 .mv [i 0]]
def c114_1 : EC := .rg c114_1l false
@[simp] theorem c114_1e : Rg c114_1 c114_1l false := rgE _ _
@[simp] def c114_2l : List EO := [o 6 (.faddr 5) [t 1],
 o 7 (.load 1 false) [t 6],
 o 8 .lenL [t 7],
 o 9 .mv [i 0]]
def c114_2 : EC := .rg c114_2l false
@[simp] theorem c114_2e : Rg c114_2 c114_2l false := rgE _ _
@[simp] def c114_3l : List EO := [o 10 (.bin .lss) [t 9, t 8]]
def c114_3 : EC := .rg c114_3l false
@[simp] theorem c114_3e : Rg c114_3 c114_3l false := rgE _ _
def c114_4 : EC := .cd (t 10) .skip (.ex 0)
@[simp] theorem c114_4e : Cd c114_4 (t 10) .skip (.ex 0) := cdE _ _ _
@[simp] def c114_5l : List EO := [o 11 (.iaS 6) [t 7, t 9],
 o 12 (.load 6 true) [t 11],
 o 5 (.alloc [.t (.int .i64 0), .t (.int .i64 0), .t (.int .i64 0), .t (.int .i64 0), .t (.str []), .snil]) [],
 u (.store 6) [t 5, t 12]]
def c114_5 : EC := .rg c114_5l false
@[simp] theorem c114_5e : Rg c114_5 c114_5l false := rgE _ _
@[simp] def c114_6l : List EO := [m 13 3,
 o 14 (.load 6 true) [t 5],
 o 15 (.call 114) [t 14],
 o 16 (.mm true) [t 13, t 15],
 m 3 16]
def c114_6 : EC := .rg c114_6l false
@[simp] theorem c114_6e : Rg c114_6 c114_6l false := rgE _ _
def c114_7 : EC := .sq c114_5 c114_6
@[simp] theorem c114_7e : Sq c114_7 c114_5 c114_6 := sqE _ _
def c114_8 : EC := .bk 1 c114_7
@[simp] theorem c114_8e : Bk c114_8 1 c114_7 := bkE _ _
@[simp] def c114_9l : List EO := [o 17 (.bin .add) [t 9, i 1],
 m 9 17]
def c114_9 : EC := .rg c114_9l false
@[simp] theorem c114_9e : Rg c114_9 c114_9l false := rgE _ _
def c114_10 : EC := .sq c114_8 c114_9
@[simp] theorem c114_10e : Sq c114_10 c114_8 c114_9 := sqE _ _
def c114_11 : EC := .sq c114_4 c114_10
@[simp] theorem c114_11e : Sq c114_11 c114_4 c114_10 := sqE _ _
def c114_12 : EC := .sq c114_3 c114_11
@[simp] theorem c114_12e : Sq c114_12 c114_3 c114_11 := sqE _ _
def c114_13 : EC := .bk 0 (.lp c114_12)
@[simp] theorem c114_13e : Bk c114_13 0 (.lp c114_12) := bkE _ _
def c114_14 : EC := .sq c114_2 c114_13
@[simp] theorem c114_14e : Sq c114_14 c114_2 c114_13 := sqE _ _
@[simp] def c114_15l : List EO := [m 18 3,
 o 19 (.bin .add) [t 18, i 1],
 m 2 19]
def c114_15 : EC := .rg c114_15l false
@[simp] theorem c114_15e : Rg c114_15 c114_15l false := rgE _ _
def c114_16 : EC := .sq c114_15 .rt
@[simp] theorem c114_16e : Sq c114_16 c114_15 .rt := sqE _ _
def c114_17 : EC := .sq c114_14 c114_16
@[simp] theorem c114_17e : Sq c114_17 c114_14 c114_16 := sqE _ _
def c114_18 : EC := .sq c114_1 c114_17
@[simp] theorem c114_18e : Sq c114_18 c114_1 c114_17 := sqE _ _
def c114_19 : EC := .sq c114_0 c114_18
@[simp] theorem c114_19e : Sq c114_19 c114_0 c114_18 := sqE _ _
def c_syntax_Depth_114 : EC := c114_19
theorem k_114 : ecF Tryd.prog 114 = some (20, c_syntax_Depth_114, [.tm 2]) := by kernel_rfl

/-- tallystone/syntax.proper -/
@[simp] def c115_0l : List EO := [o 1 .box [t 0],
 o 2 .mv [b false]]
def c115_0 : EC := .rg c115_0l false
@[simp] theorem c115_0e : Rg c115_0 c115_0l false := rgE _ _
@[simp] def c115_1l : List EO := [o 5 (.faddr 0) [t 1],
 o 6 (.load 1 false) [t 5],
 o 7 (.build [.t (.int .i64 0), .t (.int .i64 0), .t (.int .i64 0), .t (.int .i64 0), .t (.str []), .snil] [(0, 1)]) [t 6],
 o 3 (.alloc [.t (.int .i64 0), .t (.int .i64 0), .t (.int .i64 0), .t (.int .i64 0), .t (.str []), .snil]) [],
 u (.store 6) [t 3, t 7]]
def c115_1 : EC := .rg c115_1l false
@[simp] theorem c115_1e : Rg c115_1 c115_1l false := rgE _ _
@[simp] def c115_2l : List EO := [o 8 (.faddr 0) [t 1],
 o 9 (.load 1 false) [t 8],
 o 10 (.bin .geq) [t 9, i 1],
 m 11 10,
 y 12 11 (.faddr 0) [t 1],
 y 13 11 (.load 1 false) [t 12],
 y 14 11 (.bin .leq) [t 13, i 22],
 o 15 .pick [t 11, t 14, b false],
 m 16 15,
 y 17 16 (.faddr 5) [t 1],
 y 18 16 (.load 1 false) [t 17],
 y 19 16 .lenL [t 18],
 y 20 16 (.faddr 0) [t 1],
 y 21 16 (.load 1 false) [t 20],
 y 22 16 (.call 138) [t 21],
 y 23 16 (.bin .eql) [t 19, t 22],
 o 24 .pick [t 16, t 23, b false],
 m 4 24]
def c115_2 : EC := .rg c115_2l true
@[simp] theorem c115_2e : Rg c115_2 c115_2l true := rgE _ _
@[simp] def c115_3l : List EO := [o 25 (.faddr 0) [t 1],
 o 26 (.load 1 false) [t 25]]
def c115_3 : EC := .rg c115_3l false
@[simp] theorem c115_3e : Rg c115_3 c115_3l false := rgE _ _
@[simp] def c115_4l : List EO := [o 28 (.bin .eql) [t 26, i 1],
 m 27 28]
def c115_4 : EC := .rg c115_4l false
@[simp] theorem c115_4e : Rg c115_4 c115_4l false := rgE _ _
@[simp] def c115_5l : List EO := [o 29 (.faddr 1) [t 1],
 o 30 (.load 1 false) [t 29],
 o 31 (.faddr 1) [t 3],
 u (.store 1) [t 31, t 30]]
def c115_5 : EC := .rg c115_5l false
@[simp] theorem c115_5e : Rg c115_5 c115_5l false := rgE _ _
@[simp] def c115_6l : List EO := [m 32 4,
 m 33 32,
 y 34 33 (.faddr 1) [t 1],
 y 35 33 (.load 1 false) [t 34],
 y 36 33 (.bin .geq) [t 35, i 0],
 o 37 .pick [t 33, t 36, b false],
 m 38 37,
 y 39 38 (.faddr 1) [t 1],
 y 40 38 (.load 1 false) [t 39],
 y 41 38 (.bin .leq) [t 40, i 1000000000000],
 o 42 .pick [t 38, t 41, b false],
 m 4 42]
def c115_6 : EC := .rg c115_6l false
@[simp] theorem c115_6e : Rg c115_6 c115_6l false := rgE _ _
def c115_7 : EC := .sq c115_5 c115_6
@[simp] theorem c115_7e : Sq c115_7 c115_5 c115_6 := sqE _ _
@[simp] def c115_8l : List EO := [o 44 (.bin .eql) [t 26, i 2],
 m 43 44]
def c115_8 : EC := .rg c115_8l false
@[simp] theorem c115_8e : Rg c115_8 c115_8l false := rgE _ _
@[simp] def c115_9l : List EO := [o 45 (.faddr 4) [t 1],
 o 46 (.load 1 false) [t 45],
 o 47 (.faddr 4) [t 3],
 u (.store 1) [t 47, t 46]]
def c115_9 : EC := .rg c115_9l false
@[simp] theorem c115_9e : Rg c115_9 c115_9l false := rgE _ _
@[simp] def c115_10l : List EO := [m 48 4,
 m 49 48,
 y 50 49 (.faddr 4) [t 1],
 y 51 49 (.load 1 false) [t 50],
 y 52 49 (.call 86) [t 51],
 o 53 .pick [t 49, t 52, b false],
 m 4 53]
def c115_10 : EC := .rg c115_10l false
@[simp] theorem c115_10e : Rg c115_10 c115_10l false := rgE _ _
def c115_11 : EC := .sq c115_9 c115_10
@[simp] theorem c115_11e : Sq c115_11 c115_9 c115_10 := sqE _ _
@[simp] def c115_12l : List EO := [o 55 (.bin .eql) [t 26, i 20],
 m 54 55]
def c115_12 : EC := .rg c115_12l false
@[simp] theorem c115_12e : Rg c115_12 c115_12l false := rgE _ _
@[simp] def c115_13l : List EO := [o 56 (.faddr 1) [t 1],
 o 57 (.load 1 false) [t 56],
 o 58 (.faddr 1) [t 3],
 u (.store 1) [t 58, t 57]]
def c115_13 : EC := .rg c115_13l false
@[simp] theorem c115_13e : Rg c115_13 c115_13l false := rgE _ _
@[simp] def c115_14l : List EO := [m 59 4,
 m 60 59,
 y 61 60 (.faddr 1) [t 1],
 y 62 60 (.load 1 false) [t 61],
 y 63 60 (.bin .geq) [t 62, i 1],
 o 64 .pick [t 60, t 63, b false],
 m 65 64,
 y 66 65 (.faddr 1) [t 1],
 y 67 65 (.load 1 false) [t 66],
 y 68 65 (.bin .leq) [t 67, i 1000000000000],
 o 69 .pick [t 65, t 68, b false],
 m 4 69]
def c115_14 : EC := .rg c115_14l false
@[simp] theorem c115_14e : Rg c115_14 c115_14l false := rgE _ _
def c115_15 : EC := .sq c115_13 c115_14
@[simp] theorem c115_15e : Sq c115_15 c115_13 c115_14 := sqE _ _
@[simp] def c115_16l : List EO := [o 71 (.bin .eql) [t 26, i 21],
 m 70 71]
def c115_16 : EC := .rg c115_16l false
@[simp] theorem c115_16e : Rg c115_16 c115_16l false := rgE _ _
@[simp] def c115_17l : List EO := [o 72 (.bin .eql) [t 26, i 22],
 m 70 72]
def c115_17 : EC := .rg c115_17l false
@[simp] theorem c115_17e : Rg c115_17 c115_17l false := rgE _ _
def c115_18 : EC := .cd (t 70) .skip c115_17
@[simp] theorem c115_18e : Cd c115_18 (t 70) .skip c115_17 := cdE _ _ _
def c115_19 : EC := .sq c115_16 c115_18
@[simp] theorem c115_19e : Sq c115_19 c115_16 c115_18 := sqE _ _
@[simp] def c115_20l : List EO := [o 73 (.faddr 2) [t 1]]
def c115_20 : EC := .rg c115_20l true
@[simp] theorem c115_20e : Rg c115_20 c115_20l true := rgE _ _
@[simp] def c115_21l : List EO := [o 74 (.load 1 false) [t 73]]
def c115_21 : EC := .rg c115_21l true
@[simp] theorem c115_21e : Rg c115_21 c115_21l true := rgE _ _
@[simp] def c115_22l : List EO := [o 75 (.faddr 3) [t 1]]
def c115_22 : EC := .rg c115_22l true
@[simp] theorem c115_22e : Rg c115_22 c115_22l true := rgE _ _
@[simp] def c115_23l : List EO := [o 77 (.faddr 2) [t 3]]
def c115_23 : EC := .rg c115_23l true
@[simp] theorem c115_23e : Rg c115_23 c115_23l true := rgE _ _
@[simp] def c115_24l : List EO := [o 76 (.load 1 false) [t 75]]
def c115_24 : EC := .rg c115_24l true
@[simp] theorem c115_24e : Rg c115_24 c115_24l true := rgE _ _
@[simp] def c115_25l : List EO := [u (.store 1) [t 77, t 74]]
def c115_25 : EC := .rg c115_25l true
@[simp] theorem c115_25e : Rg c115_25 c115_25l true := rgE _ _
@[simp] def c115_26l : List EO := [o 78 (.faddr 3) [t 3]]
def c115_26 : EC := .rg c115_26l true
@[simp] theorem c115_26e : Rg c115_26 c115_26l true := rgE _ _
@[simp] def c115_27l : List EO := [u (.store 1) [t 78, t 76]]
def c115_27 : EC := .rg c115_27l true
@[simp] theorem c115_27e : Rg c115_27 c115_27l true := rgE _ _
def c115_28 : EC := .sq c115_27 .skip
@[simp] theorem c115_28e : Sq c115_28 c115_27 .skip := sqE _ _
def c115_29 : EC := .sq c115_26 c115_28
@[simp] theorem c115_29e : Sq c115_29 c115_26 c115_28 := sqE _ _
def c115_30 : EC := .sq c115_25 c115_29
@[simp] theorem c115_30e : Sq c115_30 c115_25 c115_29 := sqE _ _
def c115_31 : EC := .sq c115_24 c115_30
@[simp] theorem c115_31e : Sq c115_31 c115_24 c115_30 := sqE _ _
@[simp] def c115_32l : List EO := [u (.store 1) [t 77, t 74]]
def c115_32 : EC := .rg c115_32l true
@[simp] theorem c115_32e : Rg c115_32 c115_32l true := rgE _ _
@[simp] def c115_33l : List EO := [o 76 (.load 1 false) [t 75]]
def c115_33 : EC := .rg c115_33l true
@[simp] theorem c115_33e : Rg c115_33 c115_33l true := rgE _ _
@[simp] def c115_34l : List EO := [o 78 (.faddr 3) [t 3]]
def c115_34 : EC := .rg c115_34l true
@[simp] theorem c115_34e : Rg c115_34 c115_34l true := rgE _ _
@[simp] def c115_35l : List EO := [u (.store 1) [t 78, t 76]]
def c115_35 : EC := .rg c115_35l true
@[simp] theorem c115_35e : Rg c115_35 c115_35l true := rgE _ _
def c115_36 : EC := .sq c115_35 .skip
@[simp] theorem c115_36e : Sq c115_36 c115_35 .skip := sqE _ _
def c115_37 : EC := .sq c115_34 c115_36
@[simp] theorem c115_37e : Sq c115_37 c115_34 c115_36 := sqE _ _
def c115_38 : EC := .sq c115_33 c115_37
@[simp] theorem c115_38e : Sq c115_38 c115_33 c115_37 := sqE _ _
def c115_39 : EC := .sq c115_32 c115_38
@[simp] theorem c115_39e : Sq c115_39 c115_32 c115_38 := sqE _ _
def c115_40 : EC := .al c115_31 c115_39
@[simp] theorem c115_40e : Al c115_40 c115_31 c115_39 := alE _ _
def c115_41 : EC := .sq c115_23 c115_40
@[simp] theorem c115_41e : Sq c115_41 c115_23 c115_40 := sqE _ _
def c115_42 : EC := .sq c115_22 c115_41
@[simp] theorem c115_42e : Sq c115_42 c115_22 c115_41 := sqE _ _
def c115_43 : EC := .sq c115_21 c115_42
@[simp] theorem c115_43e : Sq c115_43 c115_21 c115_42 := sqE _ _
def c115_44 : EC := .sq c115_20 c115_43
@[simp] theorem c115_44e : Sq c115_44 c115_20 c115_43 := sqE _ _
@[simp] def c115_45l : List EO := [m 79 4,
 m 80 79,
 y 81 80 (.faddr 2) [t 1],
 y 82 80 (.load 1 false) [t 81],
 y 83 80 (.call 87) [t 82],
 o 84 .pick [t 80, t 83, b false],
 m 85 84,
 y 86 85 (.faddr 3) [t 1],
 y 87 85 (.load 1 false) [t 86],
 y 88 85 (.call 87) [t 87],
 o 89 .pick [t 85, t 88, b false],
 m 4 89]
def c115_45 : EC := .rg c115_45l false
@[simp] theorem c115_45e : Rg c115_45 c115_45l false := rgE _ _
def c115_46 : EC := .sq c115_44 c115_45
@[simp] theorem c115_46e : Sq c115_46 c115_44 c115_45 := sqE _ _
def c115_47 : EC := .cd (t 70) c115_46 .skip
@[simp] theorem c115_47e : Cd c115_47 (t 70) c115_46 .skip := cdE _ _ _
def c115_48 : EC := .sq c115_19 c115_47
@[simp] theorem c115_48e : Sq c115_48 c115_19 c115_47 := sqE _ _
def c115_49 : EC := .cd (t 54) c115_15 c115_48
@[simp] theorem c115_49e : Cd c115_49 (t 54) c115_15 c115_48 := cdE _ _ _
def c115_50 : EC := .sq c115_12 c115_49
@[simp] theorem c115_50e : Sq c115_50 c115_12 c115_49 := sqE _ _
def c115_51 : EC := .cd (t 43) c115_11 c115_50
@[simp] theorem c115_51e : Cd c115_51 (t 43) c115_11 c115_50 := cdE _ _ _
def c115_52 : EC := .sq c115_8 c115_51
@[simp] theorem c115_52e : Sq c115_52 c115_8 c115_51 := sqE _ _
def c115_53 : EC := .cd (t 27) c115_7 c115_52
@[simp] theorem c115_53e : Cd c115_53 (t 27) c115_7 c115_52 := cdE _ _ _
def c115_54 : EC := .sq c115_4 c115_53
@[simp] theorem c115_54e : Sq c115_54 c115_4 c115_53 := sqE _ _
def c115_55 : EC := .bk 0 c115_54
@[simp] theorem c115_55e : Bk c115_55 0 c115_54 := bkE _ _
def c115_56 : EC := .sq c115_3 c115_55
@[simp] theorem c115_56e : Sq c115_56 c115_3 c115_55 := sqE _ _
@[simp] def c115_57l : List EO := [m 90 4,
 m 91 90,
 y 92 91 (.faddr 1) [t 1],
 y 93 91 (.load 1 false) [t 92],
 y 94 91 (.faddr 1) [t 3],
 y 95 91 (.load 1 false) [t 94],
 y 96 91 (.bin .eql) [t 93, t 95],
 o 97 .pick [t 91, t 96, b false],
 m 98 97,
 y 99 98 (.faddr 2) [t 1],
 y 100 98 (.load 1 false) [t 99],
 y 101 98 (.faddr 2) [t 3],
 y 102 98 (.load 1 false) [t 101],
 y 103 98 (.bin .eql) [t 100, t 102],
 o 104 .pick [t 98, t 103, b false],
 m 105 104,
 y 106 105 (.faddr 3) [t 1],
 y 107 105 (.load 1 false) [t 106],
 y 108 105 (.faddr 3) [t 3],
 y 109 105 (.load 1 false) [t 108],
 y 110 105 (.bin .eql) [t 107, t 109],
 o 111 .pick [t 105, t 110, b false],
 m 112 111,
 y 113 112 (.faddr 4) [t 1],
 y 114 112 (.load 1 false) [t 113],
 y 115 112 (.faddr 4) [t 3],
 y 116 112 (.load 1 false) [t 115],
 y 117 112 (.bin .eql) [t 114, t 116],
 o 118 .pick [t 112, t 117, b false],
 m 119 118,
 y 120 119 (.faddr 5) [t 1],
 y 121 119 (.load 1 false) [t 120],
 y 122 119 (.call 110) [t 121, c (.fn (.func 139) [])],
 y 123 119 (.un .not) [t 122],
 o 124 .pick [t 119, t 123, b false],
 m 2 124]
def c115_57 : EC := .rg c115_57l false
@[simp] theorem c115_57e : Rg c115_57 c115_57l false := rgE _ _
def c115_58 : EC := .sq c115_57 .rt
@[simp] theorem c115_58e : Sq c115_58 c115_57 .rt := sqE _ _
def c115_59 : EC := .sq c115_56 c115_58
@[simp] theorem c115_59e : Sq c115_59 c115_56 c115_58 := sqE _ _
def c115_60 : EC := .sq c115_2 c115_59
@[simp] theorem c115_60e : Sq c115_60 c115_2 c115_59 := sqE _ _
def c115_61 : EC := .sq c115_1 c115_60
@[simp] theorem c115_61e : Sq c115_61 c115_1 c115_60 := sqE _ _
def c115_62 : EC := .sq c115_0 c115_61
@[simp] theorem c115_62e : Sq c115_62 c115_0 c115_61 := sqE _ _
def c_syntax_proper_115 : EC := c115_62
theorem k_115 : ecF Tryd.prog 115 = some (125, c_syntax_proper_115, [.tm 2]) := by kernel_rfl

/-- tallystone/compile.account -/
@[simp] def c116_0l : List EO := [o 2 .mv [b false]]
def c116_0 : EC := .rg c116_0l false
@[simp] theorem c116_0e : Rg c116_0 c116_0l false := rgE _ _
@[simp] def c116_1l : List EO := [m 3 0,
 o 4 (.bin .geq) [t 3, i 1],
 m 5 4,
 y 6 5 .mv [t 0],
 y 7 5 (.bin .leq) [t 6, i 99999],
 o 8 .pick [t 5, t 7, b false],
 m 2 8]
def c116_1 : EC := .rg c116_1l false
@[simp] theorem c116_1e : Rg c116_1 c116_1l false := rgE _ _
def c116_2 : EC := .sq c116_1 .rt
@[simp] theorem c116_2e : Sq c116_2 c116_1 .rt := sqE _ _
def c116_3 : EC := .sq c116_0 c116_2
@[simp] theorem c116_3e : Sq c116_3 c116_0 c116_2 := sqE _ _
def c_compile_account_116 : EC := c116_3
theorem k_116 : ecF Tryd.prog 116 = some (9, c_compile_account_116, [.tm 2]) := by kernel_rfl

/-- tallystone/tallystoneref34.account -/
@[simp] def c117_0l : List EO := [o 2 .mv [b false]]
def c117_0 : EC := .rg c117_0l false
@[simp] theorem c117_0e : Rg c117_0 c117_0l false := rgE _ _
@[simp] def c117_1l : List EO := [m 3 0,
 o 4 (.bin .geq) [t 3, i 1],
 m 5 4,
 y 6 5 .mv [t 0],
 y 7 5 (.bin .leq) [t 6, i 99999],
 o 8 .pick [t 5, t 7, b false],
 m 2 8]
def c117_1 : EC := .rg c117_1l false
@[simp] theorem c117_1e : Rg c117_1 c117_1l false := rgE _ _
def c117_2 : EC := .sq c117_1 .rt
@[simp] theorem c117_2e : Sq c117_2 c117_1 .rt := sqE _ _
def c117_3 : EC := .sq c117_0 c117_2
@[simp] theorem c117_3e : Sq c117_3 c117_0 c117_2 := sqE _ _
def c_tallystoneref34_account_117 : EC := c117_3
theorem k_117 : ecF Tryd.prog 117 = some (9, c_tallystoneref34_account_117, [.tm 2]) := by kernel_rfl

/-- tallystone/chart.Find -/
@[simp] def c120_0l : List EO := [o 4 (.alloc [.t (.int .i64 0), .t (.int .i64 0), .t (.int .i64 0), .t (.int .i64 0)]) [],
 o 5 .mv [b false]]
def c120_0 : EC := .rg c120_0l false
@[simp] theorem c120_0e : Rg c120_0 c120_0l false := rgE _ _
@[simp] def c120_1l : List EO := [m 8 0,
 o 9 .lenL [t 8],
 o 10 .mv [i 0]]
def c120_1 : EC := .rg c120_1l false
@[simp] theorem c120_1e : Rg c120_1 c120_1l false := rgE _ _
@[simp] def c120_2l : List EO := [o 11 (.bin .lss) [t 10, t 9]]
def c120_2 : EC := .rg c120_2l false
@[simp] theorem c120_2e : Rg c120_2 c120_2l false := rgE _ _
def c120_3 : EC := .cd (t 11) .skip (.ex 0)
@[simp] theorem c120_3e : Cd c120_3 (t 11) .skip (.ex 0) := cdE _ _ _
@[simp] def c120_4l : List EO := [o 12 (.iaS 4) [t 8, t 10],
 o 13 (.load 4 true) [t 12],
 o 7 (.alloc [.t (.int .i64 0), .t (.int .i64 0), .t (.int .i64 0), .t (.int .i64 0)]) [],
 u (.store 4) [t 7, t 13]]
def c120_4 : EC := .rg c120_4l false
@[simp] theorem c120_4e : Rg c120_4 c120_4l false := rgE _ _
@[simp] def c120_5l : List EO := [o 14 (.faddr 0) [t 7],
 o 15 (.load 1 false) [t 14],
 m 16 1,
 o 17 (.bin .eql) [t 15, t 16]]
def c120_5 : EC := .rg c120_5l false
@[simp] theorem c120_5e : Rg c120_5 c120_5l false := rgE _ _
@[simp] def c120_6l : List EO := [o 18 (.load 4 true) [t 7],
 u (.store 4) [t 4, t 18],
 o 5 .mv [b true]]
def c120_6 : EC := .rg c120_6l false
@[simp] theorem c120_6e : Rg c120_6 c120_6l false := rgE _ _
def c120_7 : EC := .sq c120_6 .rt
@[simp] theorem c120_7e : Sq c120_7 c120_6 .rt := sqE _ _
def c120_8 : EC := .cd (t 17) c120_7 .skip
@[simp] theorem c120_8e : Cd c120_8 (t 17) c120_7 .skip := cdE _ _ _
def c120_9 : EC := .sq c120_5 c120_8
@[simp] theorem c120_9e : Sq c120_9 c120_5 c120_8 := sqE _ _
def c120_10 : EC := .sq c120_4 c120_9
@[simp] theorem c120_10e : Sq c120_10 c120_4 c120_9 := sqE _ _
def c120_11 : EC := .bk 1 c120_10
@[simp] theorem c120_11e : Bk c120_11 1 c120_10 := bkE _ _
@[simp] def c120_12l : List EO := [o 19 (.bin .add) [t 10, i 1],
 m 10 19]
def c120_12 : EC := .rg c120_12l false
@[simp] theorem c120_12e : Rg c120_12 c120_12l false := rgE _ _
def c120_13 : EC := .sq c120_11 c120_12
@[simp] theorem c120_13e : Sq c120_13 c120_11 c120_12 := sqE _ _
def c120_14 : EC := .sq c120_3 c120_13
@[simp] theorem c120_14e : Sq c120_14 c120_3 c120_13 := sqE _ _
def c120_15 : EC := .sq c120_2 c120_14
@[simp] theorem c120_15e : Sq c120_15 c120_2 c120_14 := sqE _ _
def c120_16 : EC := .bk 0 (.lp c120_15)
@[simp] theorem c120_16e : Bk c120_16 0 (.lp c120_15) := bkE _ _
def c120_17 : EC := .sq c120_1 c120_16
@[simp] theorem c120_17e : Sq c120_17 c120_1 c120_16 := sqE _ _
@[simp] def c120_18l : List EO := [o 20 (.build [.t (.int .i64 0), .t (.int .i64 0), .t (.int .i64 0), .t (.int .i64 0)] []) [],
 u (.store 4) [t 4, t 20],
 o 5 .mv [b false]]
def c120_18 : EC := .rg c120_18l false
@[simp] theorem c120_18e : Rg c120_18 c120_18l false := rgE _ _
def c120_19 : EC := .sq c120_18 .rt
@[simp] theorem c120_19e : Sq c120_19 c120_18 .rt := sqE _ _
def c120_20 : EC := .sq c120_17 c120_19
@[simp] theorem c120_20e : Sq c120_20 c120_17 c120_19 := sqE _ _
def c120_21 : EC := .sq c120_0 c120_20
@[simp] theorem c120_21e : Sq c120_21 c120_0 c120_20 := sqE _ _
def c_chart_Find_120 : EC := c120_21
theorem k_120 : ecF Tryd.prog 120 = some (21, c_chart_Find_120, [.ce 4 4 true, .tm 5]) := by kernel_rfl

/-- tallystone/chart.climb -/
@[simp] def c121_0l : List EO := [o 4 .mv [c (.snil)]]
def c121_0 : EC := .rg c121_0l false
@[simp] theorem c121_0e : Rg c121_0 c121_0l false := rgE _ _
@[simp] def c121_1l : List EO := [o 5 .mv [c (.snil)]]
def c121_1 : EC := .rg c121_1l false
@[simp] theorem c121_1e : Rg c121_1 c121_1l false := rgE _ _
@[simp] def c121_2l : List EO := [o 9 .mkmap [],
 m 6 9]
def c121_2 : EC := .rg c121_2l false
@[simp] theorem c121_2e : Rg c121_2 c121_2l false := rgE _ _
@[simp] def c121_3l : List EO := [m 11 0,
 m 12 1,
 o 13 (.call 120) [t 11, t 12],
 m 10 13,
 o 14 (.ext 0) [t 10],
 o 15 (.ext 1) [t 10],
 o 7 (.alloc [.t (.int .i64 0), .t (.int .i64 0), .t (.int .i64 0), .t (.int .i64 0)]) [],
 u (.store 4) [t 7, t 14],
 m 8 15]
def c121_3 : EC := .rg c121_3l false
@[simp] theorem c121_3e : Rg c121_3 c121_3l false := rgE _ _
@[simp] def c121_4l : List EO := [m 16 8,
 o 17 (.un .not) [t 16],
 m 18 17,
 n 19 18 .mv [t 6],
 n 20 18 .mv [t 1],
 n 21 18 (.lkp false [1] false false [.t (.bool false)]) [t 19, t 20],
 o 22 .pick [t 18, b true, t 21]]
def c121_4 : EC := .rg c121_4l false
@[simp] theorem c121_4e : Rg c121_4 c121_4l false := rgE _ _
def c121_5 : EC := .cd (t 22) (.ex 0) .skip
@[simp] theorem c121_5e : Cd c121_5 (t 22) (.ex 0) .skip := cdE _ _ _
def c121_6 : EC := .sq c121_4 c121_5
@[simp] theorem c121_6e : Sq c121_6 c121_4 c121_5 := sqE _ _
@[simp] def c121_7l : List EO := [m 23 6,
 m 24 1,
 u (.mup false [1]) [t 23, t 24, b true]]
def c121_7 : EC := .rg c121_7l false
@[simp] theorem c121_7e : Rg c121_7 c121_7l false := rgE _ _
@[simp] def c121_8l : List EO := [m 25 5,
 m 26 1,
 o 27 (.bsl 1) [t 26],
 o 28 (.app 3 1 8) [t 25, t 27],
 m 5 28]
def c121_8 : EC := .rg c121_8l false
@[simp] theorem c121_8e : Rg c121_8 c121_8l false := rgE _ _
@[simp] def c121_9l : List EO := [o 29 (.faddr 3) [t 7],
 o 30 (.load 1 false) [t 29],
 m 1 30]
def c121_9 : EC := .rg c121_9l false
@[simp] theorem c121_9e : Rg c121_9 c121_9l false := rgE _ _
def c121_10 : EC := .sq c121_8 c121_9
@[simp] theorem c121_10e : Sq c121_10 c121_8 c121_9 := sqE _ _
def c121_11 : EC := .sq c121_7 c121_10
@[simp] theorem c121_11e : Sq c121_11 c121_7 c121_10 := sqE _ _
def c121_12 : EC := .sq c121_6 c121_11
@[simp] theorem c121_12e : Sq c121_12 c121_6 c121_11 := sqE _ _
def c121_13 : EC := .sq c121_3 c121_12
@[simp] theorem c121_13e : Sq c121_13 c121_3 c121_12 := sqE _ _
def c121_14 : EC := .bk 1 c121_13
@[simp] theorem c121_14e : Bk c121_14 1 c121_13 := bkE _ _
def c121_15 : EC := .bk 0 (.lp c121_14)
@[simp] theorem c121_15e : Bk c121_15 0 (.lp c121_14) := bkE _ _
@[simp] def c121_16l : List EO := [m 31 5,
 m 4 31]
def c121_16 : EC := .rg c121_16l false
@[simp] theorem c121_16e : Rg c121_16 c121_16l false := rgE _ _
def c121_17 : EC := .sq c121_16 .rt
@[simp] theorem c121_17e : Sq c121_17 c121_16 .rt := sqE _ _
def c121_18 : EC := .sq c121_15 c121_17
@[simp] theorem c121_18e : Sq c121_18 c121_15 c121_17 := sqE _ _
def c121_19 : EC := .sq .skip c121_18
@[simp] theorem c121_19e : Sq c121_19 .skip c121_18 := sqE _ _
def c121_20 : EC := .sq c121_2 c121_19
@[simp] theorem c121_20e : Sq c121_20 c121_2 c121_19 := sqE _ _
def c121_21 : EC := .sq c121_1 c121_20
@[simp] theorem c121_21e : Sq c121_21 c121_1 c121_20 := sqE _ _
def c121_22 : EC := .sq c121_0 c121_21
@[simp] theorem c121_22e : Sq c121_22 c121_0 c121_21 := sqE _ _
def c_chart_climb_121 : EC := c121_22
theorem k_121 : ecF Tryd.prog 121 = some (32, c_chart_climb_121, [.tm 4]) := by kernel_rfl

/-- tallystone/chart.climb, with slices that grow in boxes -/
@[simp] def b121_0l : List EO := [o 4 .mv [c (.snil)]]
def b121_0 : EC := .rg b121_0l false
@[simp] theorem b121_0e : Rg b121_0 b121_0l false := rgE _ _
@[simp] def b121_1l : List EO := [o 5 .mv [c (.snil)]]
def b121_1 : EC := .rg b121_1l false
@[simp] theorem b121_1e : Rg b121_1 b121_1l false := rgE _ _
@[simp] def b121_2l : List EO := [o 9 .mkmap [],
 m 6 9]
def b121_2 : EC := .rg b121_2l false
@[simp] theorem b121_2e : Rg b121_2 b121_2l false := rgE _ _
@[simp] def b121_3l : List EO := [m 11 0,
 m 12 1,
 o 13 (.call 120) [t 11, t 12],
 m 10 13,
 o 14 (.ext 0) [t 10],
 o 15 (.ext 1) [t 10],
 o 7 (.alloc [.t (.int .i64 0), .t (.int .i64 0), .t (.int .i64 0), .t (.int .i64 0)]) [],
 u (.store 4) [t 7, t 14],
 m 8 15]
def b121_3 : EC := .rg b121_3l false
@[simp] theorem b121_3e : Rg b121_3 b121_3l false := rgE _ _
@[simp] def b121_4l : List EO := [m 16 8,
 o 17 (.un .not) [t 16],
 m 18 17,
 n 19 18 .mv [t 6],
 n 20 18 .mv [t 1],
 n 21 18 (.lkp false [1] false false [.t (.bool false)]) [t 19, t 20],
 o 22 .pick [t 18, b true, t 21]]
def b121_4 : EC := .rg b121_4l false
@[simp] theorem b121_4e : Rg b121_4 b121_4l false := rgE _ _
def b121_5 : EC := .cd (t 22) (.ex 0) .skip
@[simp] theorem b121_5e : Cd b121_5 (t 22) (.ex 0) .skip := cdE _ _ _
def b121_6 : EC := .sq b121_4 b121_5
@[simp] theorem b121_6e : Sq b121_6 b121_4 b121_5 := sqE _ _
@[simp] def b121_7l : List EO := [m 23 6,
 m 24 1,
 u (.mup false [1]) [t 23, t 24, b true]]
def b121_7 : EC := .rg b121_7l false
@[simp] theorem b121_7e : Rg b121_7 b121_7l false := rgE _ _
@[simp] def b121_8l : List EO := [m 25 5,
 m 26 1,
 o 27 (.bsl 1) [t 26],
 o 28 (.appB 3 1 8) [t 25, t 27],
 m 5 28]
def b121_8 : EC := .rg b121_8l false
@[simp] theorem b121_8e : Rg b121_8 b121_8l false := rgE _ _
@[simp] def b121_9l : List EO := [o 29 (.faddr 3) [t 7],
 o 30 (.load 1 false) [t 29],
 m 1 30]
def b121_9 : EC := .rg b121_9l false
@[simp] theorem b121_9e : Rg b121_9 b121_9l false := rgE _ _
def b121_10 : EC := .sq b121_8 b121_9
@[simp] theorem b121_10e : Sq b121_10 b121_8 b121_9 := sqE _ _
def b121_11 : EC := .sq b121_7 b121_10
@[simp] theorem b121_11e : Sq b121_11 b121_7 b121_10 := sqE _ _
def b121_12 : EC := .sq b121_6 b121_11
@[simp] theorem b121_12e : Sq b121_12 b121_6 b121_11 := sqE _ _
def b121_13 : EC := .sq b121_3 b121_12
@[simp] theorem b121_13e : Sq b121_13 b121_3 b121_12 := sqE _ _
def b121_14 : EC := .bk 1 b121_13
@[simp] theorem b121_14e : Bk b121_14 1 b121_13 := bkE _ _
def b121_15 : EC := .bk 0 (.lp b121_14)
@[simp] theorem b121_15e : Bk b121_15 0 (.lp b121_14) := bkE _ _
@[simp] def b121_16l : List EO := [m 31 5,
 m 4 31]
def b121_16 : EC := .rg b121_16l false
@[simp] theorem b121_16e : Rg b121_16 b121_16l false := rgE _ _
def b121_17 : EC := .sq b121_16 .rt
@[simp] theorem b121_17e : Sq b121_17 b121_16 .rt := sqE _ _
def b121_18 : EC := .sq b121_15 b121_17
@[simp] theorem b121_18e : Sq b121_18 b121_15 b121_17 := sqE _ _
def b121_19 : EC := .sq .skip b121_18
@[simp] theorem b121_19e : Sq b121_19 .skip b121_18 := sqE _ _
def b121_20 : EC := .sq b121_2 b121_19
@[simp] theorem b121_20e : Sq b121_20 b121_2 b121_19 := sqE _ _
def b121_21 : EC := .sq b121_1 b121_20
@[simp] theorem b121_21e : Sq b121_21 b121_1 b121_20 := sqE _ _
def b121_22 : EC := .sq b121_0 b121_21
@[simp] theorem b121_22e : Sq b121_22 b121_0 b121_21 := sqE _ _
def b_chart_climb_121 : EC := b121_22
theorem kb_121 : ecB Tryd.prog 121 = some (32, b_chart_climb_121, [.tm 4]) := by kernel_rfl

/-- tallystone/tallystoneref08.Find -/
@[simp] def c122_0l : List EO := [o 4 (.alloc [.t (.int .i64 0), .t (.int .i64 0), .t (.int .i64 0), .t (.int .i64 0)]) [],
 o 5 .mv [b false]]
def c122_0 : EC := .rg c122_0l false
@[simp] theorem c122_0e : Rg c122_0 c122_0l false := rgE _ _
@[simp] def c122_1l : List EO := [o 6 .mv [i 0]]
def c122_1 : EC := .rg c122_1l false
@[simp] theorem c122_1e : Rg c122_1 c122_1l false := rgE _ _
@[simp] def c122_2l : List EO := [m 7 6,
 m 8 0,
 o 9 .lenL [t 8],
 o 10 (.bin .lss) [t 7, t 9]]
def c122_2 : EC := .rg c122_2l false
@[simp] theorem c122_2e : Rg c122_2 c122_2l false := rgE _ _
def c122_3 : EC := .cd (t 10) .skip (.ex 0)
@[simp] theorem c122_3e : Cd c122_3 (t 10) .skip (.ex 0) := cdE _ _ _
def c122_4 : EC := .sq c122_2 c122_3
@[simp] theorem c122_4e : Sq c122_4 c122_2 c122_3 := sqE _ _
@[simp] def c122_5l : List EO := [m 13 0,
 m 14 6,
 o 15 (.iaS 4) [t 13, t 14],
 o 16 (.faddr 0) [t 15],
 o 17 (.load 1 false) [t 16],
 m 18 1,
 o 19 (.bin .eql) [t 17, t 18]]
def c122_5 : EC := .rg c122_5l false
@[simp] theorem c122_5e : Rg c122_5 c122_5l false := rgE _ _
@[simp] def c122_6l : List EO := [m 20 0,
 m 21 6,
 o 22 (.iaS 4) [t 20, t 21],
 o 23 (.load 4 true) [t 22],
 u (.store 4) [t 4, t 23],
 o 5 .mv [b true]]
def c122_6 : EC := .rg c122_6l false
@[simp] theorem c122_6e : Rg c122_6 c122_6l false := rgE _ _
def c122_7 : EC := .sq c122_6 .rt
@[simp] theorem c122_7e : Sq c122_7 c122_6 .rt := sqE _ _
def c122_8 : EC := .cd (t 19) c122_7 .skip
@[simp] theorem c122_8e : Cd c122_8 (t 19) c122_7 .skip := cdE _ _ _
def c122_9 : EC := .sq c122_5 c122_8
@[simp] theorem c122_9e : Sq c122_9 c122_5 c122_8 := sqE _ _
def c122_10 : EC := .bk 1 c122_9
@[simp] theorem c122_10e : Bk c122_10 1 c122_9 := bkE _ _
@[simp] def c122_11l : List EO := [m 11 6,
 o 12 (.bin .add) [t 11, i 1],
 m 6 12]
def c122_11 : EC := .rg c122_11l false
@[simp] theorem c122_11e : Rg c122_11 c122_11l false := rgE _ _
def c122_12 : EC := .sq c122_10 c122_11
@[simp] theorem c122_12e : Sq c122_12 c122_10 c122_11 := sqE _ _
def c122_13 : EC := .sq c122_4 c122_12
@[simp] theorem c122_13e : Sq c122_13 c122_4 c122_12 := sqE _ _
def c122_14 : EC := .bk 0 (.lp c122_13)
@[simp] theorem c122_14e : Bk c122_14 0 (.lp c122_13) := bkE _ _
def c122_15 : EC := .sq c122_1 c122_14
@[simp] theorem c122_15e : Sq c122_15 c122_1 c122_14 := sqE _ _
@[simp] def c122_16l : List EO := [o 24 (.build [.t (.int .i64 0), .t (.int .i64 0), .t (.int .i64 0), .t (.int .i64 0)] []) [],
 u (.store 4) [t 4, t 24],
 o 5 .mv [b false]]
def c122_16 : EC := .rg c122_16l false
@[simp] theorem c122_16e : Rg c122_16 c122_16l false := rgE _ _
def c122_17 : EC := .sq c122_16 .rt
@[simp] theorem c122_17e : Sq c122_17 c122_16 .rt := sqE _ _
def c122_18 : EC := .sq c122_15 c122_17
@[simp] theorem c122_18e : Sq c122_18 c122_15 c122_17 := sqE _ _
def c122_19 : EC := .sq c122_0 c122_18
@[simp] theorem c122_19e : Sq c122_19 c122_0 c122_18 := sqE _ _
def c_tallystoneref08_Find_122 : EC := c122_19
theorem k_122 : ecF Tryd.prog 122 = some (25, c_tallystoneref08_Find_122, [.ce 4 4 true, .tm 5]) := by kernel_rfl

/-- slices.insertionSortOrdered[int] -/
@[simp] def c123_0l : List EO := [m 8 1,
 o 9 (.bin .add) [t 8, i 1],
 m 6 9]
def c123_0 : EC := .rg c123_0l false
@[simp] theorem c123_0e : Rg c123_0 c123_0l false := rgE _ _
@[simp] def c123_1l : List EO := [m 10 6,
 m 11 2,
 o 12 (.bin .lss) [t 10, t 11]]
def c123_1 : EC := .rg c123_1l false
@[simp] theorem c123_1e : Rg c123_1 c123_1l false := rgE _ _
def c123_2 : EC := .cd (t 12) .skip (.ex 0)
@[simp] theorem c123_2e : Cd c123_2 (t 12) .skip (.ex 0) := cdE _ _ _
def c123_3 : EC := .sq c123_1 c123_2
@[simp] theorem c123_3e : Sq c123_3 c123_1 c123_2 := sqE _ _
@[simp] def c123_4l : List EO := [m 15 6,
 m 7 15]
def c123_4 : EC := .rg c123_4l false
@[simp] theorem c123_4e : Rg c123_4 c123_4l false := rgE _ _
@[simp] def c123_5l : List EO := [m 16 7,
 m 17 1,
 o 18 (.bin .gtr) [t 16, t 17],
 m 19 18,
 y 20 19 .mv [t 0],
 y 21 19 .mv [t 7],
 y 22 19 (.iaS 1) [t 20, t 21],
 y 23 19 (.load 1 false) [t 22],
 y 24 19 .mv [t 0],
 y 25 19 .mv [t 7],
 y 26 19 (.bin .sub) [t 25, i 1],
 y 27 19 (.iaS 1) [t 24, t 26],
 y 28 19 (.load 1 false) [t 27],
 y 29 19 (.call 129) [t 23, t 28],
 o 30 .pick [t 19, t 29, b false]]
def c123_5 : EC := .rg c123_5l true
@[simp] theorem c123_5e : Rg c123_5 c123_5l true := rgE _ _
def c123_6 : EC := .cd (t 30) .skip (.ex 2)
@[simp] theorem c123_6e : Cd c123_6 (t 30) .skip (.ex 2) := cdE _ _ _
def c123_7 : EC := .sq c123_5 c123_6
@[simp] theorem c123_7e : Sq c123_7 c123_5 c123_6 := sqE _ _
@[simp] def c123_8l : List EO := [m 33 0,
 m 34 7,
 m 35 0,
 m 36 7,
 o 37 (.bin .sub) [t 36, i 1],
 m 38 0,
 m 39 7,
 o 40 (.bin .sub) [t 39, i 1],
 o 41 (.iaS 1) [t 38, t 40],
 o 42 (.load 1 false) [t 41],
 m 43 0,
 m 44 7,
 o 45 (.iaS 1) [t 43, t 44],
 o 46 (.load 1 false) [t 45],
 o 47 (.iaS 1) [t 33, t 34],
 u (.store 1) [t 47, t 42],
 o 48 (.iaS 1) [t 35, t 37],
 u (.store 1) [t 48, t 46]]
def c123_8 : EC := .rg c123_8l true
@[simp] theorem c123_8e : Rg c123_8 c123_8l true := rgE _ _
def c123_9 : EC := .bk 3 c123_8
@[simp] theorem c123_9e : Bk c123_9 3 c123_8 := bkE _ _
@[simp] def c123_10l : List EO := [m 31 7,
 o 32 (.bin .sub) [t 31, i 1],
 m 7 32]
def c123_10 : EC := .rg c123_10l false
@[simp] theorem c123_10e : Rg c123_10 c123_10l false := rgE _ _
def c123_11 : EC := .sq c123_9 c123_10
@[simp] theorem c123_11e : Sq c123_11 c123_9 c123_10 := sqE _ _
def c123_12 : EC := .sq c123_7 c123_11
@[simp] theorem c123_12e : Sq c123_12 c123_7 c123_11 := sqE _ _
def c123_13 : EC := .bk 2 (.lp c123_12)
@[simp] theorem c123_13e : Bk c123_13 2 (.lp c123_12) := bkE _ _
def c123_14 : EC := .sq c123_4 c123_13
@[simp] theorem c123_14e : Sq c123_14 c123_4 c123_13 := sqE _ _
def c123_15 : EC := .bk 1 c123_14
@[simp] theorem c123_15e : Bk c123_15 1 c123_14 := bkE _ _
@[simp] def c123_16l : List EO := [m 13 6,
 o 14 (.bin .add) [t 13, i 1],
 m 6 14]
def c123_16 : EC := .rg c123_16l false
@[simp] theorem c123_16e : Rg c123_16 c123_16l false := rgE _ _
def c123_17 : EC := .sq c123_15 c123_16
@[simp] theorem c123_17e : Sq c123_17 c123_15 c123_16 := sqE _ _
def c123_18 : EC := .sq c123_3 c123_17
@[simp] theorem c123_18e : Sq c123_18 c123_3 c123_17 := sqE _ _
def c123_19 : EC := .bk 0 (.lp c123_18)
@[simp] theorem c123_19e : Bk c123_19 0 (.lp c123_18) := bkE _ _
def c123_20 : EC := .sq c123_0 c123_19
@[simp] theorem c123_20e : Sq c123_20 c123_0 c123_19 := sqE _ _
def c_slices_insertionSortOrdered_int__123 : EC := c123_20
theorem k_123 : ecF Tryd.prog 123 = some (49, c_slices_insertionSortOrdered_int__123, []) := by kernel_rfl

/-- slices.heapSortOrdered[int] -/
@[simp] def c124_0l : List EO := [m 11 1,
 m 6 11]
def c124_0 : EC := .rg c124_0l false
@[simp] theorem c124_0e : Rg c124_0 c124_0l false := rgE _ _
@[simp] def c124_1l : List EO := [o 7 .mv [i 0]]
def c124_1 : EC := .rg c124_1l false
@[simp] theorem c124_1e : Rg c124_1 c124_1l false := rgE _ _
@[simp] def c124_2l : List EO := [m 12 2,
 m 13 1,
 o 14 (.bin .sub) [t 12, t 13],
 m 8 14]
def c124_2 : EC := .rg c124_2l false
@[simp] theorem c124_2e : Rg c124_2 c124_2l false := rgE _ _
@[simp] def c124_3l : List EO := [m 15 8,
 o 16 (.bin .sub) [t 15, i 1],
 o 17 (.bin .quo) [t 16, i 2],
 m 9 17]
def c124_3 : EC := .rg c124_3l false
@[simp] theorem c124_3e : Rg c124_3 c124_3l false := rgE _ _
@[simp] def c124_4l : List EO := [m 18 9,
 o 19 (.bin .geq) [t 18, i 0]]
def c124_4 : EC := .rg c124_4l false
@[simp] theorem c124_4e : Rg c124_4 c124_4l false := rgE _ _
def c124_5 : EC := .cd (t 19) .skip (.ex 0)
@[simp] theorem c124_5e : Cd c124_5 (t 19) .skip (.ex 0) := cdE _ _ _
def c124_6 : EC := .sq c124_4 c124_5
@[simp] theorem c124_6e : Sq c124_6 c124_4 c124_5 := sqE _ _
@[simp] def c124_7l : List EO := [m 22 0,
 m 23 9,
 m 24 8,
 m 25 6,
 o 26 (.call 144) [t 22, t 23, t 24, t 25]]
def c124_7 : EC := .rg c124_7l false
@[simp] theorem c124_7e : Rg c124_7 c124_7l false := rgE _ _
def c124_8 : EC := .bk 1 c124_7
@[simp] theorem c124_8e : Bk c124_8 1 c124_7 := bkE _ _
@[simp] def c124_9l : List EO := [m 20 9,
 o 21 (.bin .sub) [t 20, i 1],
 m 9 21]
def c124_9 : EC := .rg c124_9l false
@[simp] theorem c124_9e : Rg c124_9 c124_9l false := rgE _ _
def c124_10 : EC := .sq c124_8 c124_9
@[simp] theorem c124_10e : Sq c124_10 c124_8 c124_9 := sqE _ _
def c124_11 : EC := .sq c124_6 c124_10
@[simp] theorem c124_11e : Sq c124_11 c124_6 c124_10 := sqE _ _
def c124_12 : EC := .bk 0 (.lp c124_11)
@[simp] theorem c124_12e : Bk c124_12 0 (.lp c124_11) := bkE _ _
def c124_13 : EC := .sq c124_3 c124_12
@[simp] theorem c124_13e : Sq c124_13 c124_3 c124_12 := sqE _ _
@[simp] def c124_14l : List EO := [m 27 8,
 o 28 (.bin .sub) [t 27, i 1],
 m 10 28]
def c124_14 : EC := .rg c124_14l false
@[simp] theorem c124_14e : Rg c124_14 c124_14l false := rgE _ _
@[simp] def c124_15l : List EO := [m 29 10,
 o 30 (.bin .geq) [t 29, i 0]]
def c124_15 : EC := .rg c124_15l false
@[simp] theorem c124_15e : Rg c124_15 c124_15l false := rgE _ _
def c124_16 : EC := .cd (t 30) .skip (.ex 2)
@[simp] theorem c124_16e : Cd c124_16 (t 30) .skip (.ex 2) := cdE _ _ _
def c124_17 : EC := .sq c124_15 c124_16
@[simp] theorem c124_17e : Sq c124_17 c124_15 c124_16 := sqE _ _
@[simp] def c124_18l : List EO := [m 33 0,
 m 34 6,
 m 35 0,
 m 36 6,
 m 37 10,
 o 38 (.bin .add) [t 36, t 37],
 m 39 0,
 m 40 6,
 m 41 10,
 o 42 (.bin .add) [t 40, t 41],
 o 43 (.iaS 1) [t 39, t 42],
 o 44 (.load 1 false) [t 43],
 m 45 0,
 m 46 6,
 o 47 (.iaS 1) [t 45, t 46],
 o 48 (.load 1 false) [t 47],
 o 49 (.iaS 1) [t 33, t 34],
 u (.store 1) [t 49, t 44],
 o 50 (.iaS 1) [t 35, t 38],
 u (.store 1) [t 50, t 48]]
def c124_18 : EC := .rg c124_18l true
@[simp] theorem c124_18e : Rg c124_18 c124_18l true := rgE _ _
@[simp] def c124_19l : List EO := [m 51 0,
 m 52 7,
 m 53 10,
 m 54 6,
 o 55 (.call 144) [t 51, t 52, t 53, t 54]]
def c124_19 : EC := .rg c124_19l false
@[simp] theorem c124_19e : Rg c124_19 c124_19l false := rgE _ _
def c124_20 : EC := .sq c124_18 c124_19
@[simp] theorem c124_20e : Sq c124_20 c124_18 c124_19 := sqE _ _
def c124_21 : EC := .bk 3 c124_20
@[simp] theorem c124_21e : Bk c124_21 3 c124_20 := bkE _ _
@[simp] def c124_22l : List EO := [m 31 10,
 o 32 (.bin .sub) [t 31, i 1],
 m 10 32]
def c124_22 : EC := .rg c124_22l false
@[simp] theorem c124_22e : Rg c124_22 c124_22l false := rgE _ _
def c124_23 : EC := .sq c124_21 c124_22
@[simp] theorem c124_23e : Sq c124_23 c124_21 c124_22 := sqE _ _
def c124_24 : EC := .sq c124_17 c124_23
@[simp] theorem c124_24e : Sq c124_24 c124_17 c124_23 := sqE _ _
def c124_25 : EC := .bk 2 (.lp c124_24)
@[simp] theorem c124_25e : Bk c124_25 2 (.lp c124_24) := bkE _ _
def c124_26 : EC := .sq c124_14 c124_25
@[simp] theorem c124_26e : Sq c124_26 c124_14 c124_25 := sqE _ _
def c124_27 : EC := .sq c124_13 c124_26
@[simp] theorem c124_27e : Sq c124_27 c124_13 c124_26 := sqE _ _
def c124_28 : EC := .sq c124_2 c124_27
@[simp] theorem c124_28e : Sq c124_28 c124_2 c124_27 := sqE _ _
def c124_29 : EC := .sq c124_1 c124_28
@[simp] theorem c124_29e : Sq c124_29 c124_1 c124_28 := sqE _ _
def c124_30 : EC := .sq c124_0 c124_29
@[simp] theorem c124_30e : Sq c124_30 c124_0 c124_29 := sqE _ _
def c_slices_heapSortOrdered_int__124 : EC := c124_30
theorem k_124 : ecF Tryd.prog 124 = some (56, c_slices_heapSortOrdered_int__124, []) := by kernel_rfl
end Go.Proofs.YtkapabohpfkcoaaDoor
