/- The code of the functions of this seat, as the engine reads it; printed by program out of the translation, checked by the kernel. -/
import Derived.Test.YthfnaaeddlnckaaEd
import Derived.Test.YthfnaaeddlnckaaProg
set_option linter.unusedSimpArgs false
set_option linter.unusedVariables false
namespace Go.Proofs.Ythfnaaeddlnckaa
open Go.Proofs E E.Z
variable {P : Program} {nb nt : Nat} {Q : Ex → Fr → St → Prop} {a : Fr} {S : St}
/-- slices.IndexFunc[[]tallystone/api.Link,tallystone/api.Link] -/
@[simp] def c100_0l : List EO := [o 4 .mv [i 0]]
def c100_0 : EC := .rg c100_0l false
@[simp] theorem c100_0e : Rg c100_0 c100_0l false := rgE _ _
@[simp] def c100_1l : List EO := [m 6 0,
 o 7 .lenL [t 6],
 o 8 .mv [i 0]]
def c100_1 : EC := .rg c100_1l false
@[simp] theorem c100_1e : Rg c100_1 c100_1l false := rgE _ _
@[simp] def c100_2l : List EO := [o 9 (.bin .lss) [t 8, t 7]]
def c100_2 : EC := .rg c100_2l false
@[simp] theorem c100_2e : Rg c100_2 c100_2l false := rgE _ _
def c100_3 : EC := .cd (t 9) .skip (.ex 0)
@[simp] theorem c100_3e : Cd c100_3 (t 9) .skip (.ex 0) := cdE _ _ _
@[simp] def c100_4l : List EO := [m 10 8,
 m 5 10]
def c100_4 : EC := .rg c100_4l false
@[simp] theorem c100_4e : Rg c100_4 c100_4l false := rgE _ _
@[simp] def c100_5l : List EO := [m 11 1,
 m 12 0,
 m 13 5,
 o 14 (.iaS 3) [t 12, t 13],
 o 15 (.load 3 true) [t 14],
 o 16 .callv [t 11, t 15]]
def c100_5 : EC := .rg c100_5l false
@[simp] theorem c100_5e : Rg c100_5 c100_5l false := rgE _ _
@[simp] def c100_6l : List EO := [m 17 5,
 m 4 17]
def c100_6 : EC := .rg c100_6l false
@[simp] theorem c100_6e : Rg c100_6 c100_6l false := rgE _ _
def c100_7 : EC := .sq c100_6 .rt
@[simp] theorem c100_7e : Sq c100_7 c100_6 .rt := sqE _ _
def c100_8 : EC := .cd (t 16) c100_7 .skip
@[simp] theorem c100_8e : Cd c100_8 (t 16) c100_7 .skip := cdE _ _ _
def c100_9 : EC := .sq c100_5 c100_8
@[simp] theorem c100_9e : Sq c100_9 c100_5 c100_8 := sqE _ _
def c100_10 : EC := .sq c100_4 c100_9
@[simp] theorem c100_10e : Sq c100_10 c100_4 c100_9 := sqE _ _
def c100_11 : EC := .bk 1 c100_10
@[simp] theorem c100_11e : Bk c100_11 1 c100_10 := bkE _ _
@[simp] def c100_12l : List EO := [o 18 (.bin .add) [t 8, i 1],
 m 8 18]
def c100_12 : EC := .rg c100_12l false
@[simp] theorem c100_12e : Rg c100_12 c100_12l false := rgE _ _
def c100_13 : EC := .sq c100_11 c100_12
@[simp] theorem c100_13e : Sq c100_13 c100_11 c100_12 := sqE _ _
def c100_14 : EC := .sq c100_3 c100_13
@[simp] theorem c100_14e : Sq c100_14 c100_3 c100_13 := sqE _ _
def c100_15 : EC := .sq c100_2 c100_14
@[simp] theorem c100_15e : Sq c100_15 c100_2 c100_14 := sqE _ _
def c100_16 : EC := .bk 0 (.lp c100_15)
@[simp] theorem c100_16e : Bk c100_16 0 (.lp c100_15) := bkE _ _
def c100_17 : EC := .sq c100_1 c100_16
@[simp] theorem c100_17e : Sq c100_17 c100_1 c100_16 := sqE _ _
@[simp] def c100_18l : List EO := [o 4 .mv [i (-1)]]
def c100_18 : EC := .rg c100_18l false
@[simp] theorem c100_18e : Rg c100_18 c100_18l false := rgE _ _
def c100_19 : EC := .sq c100_18 .rt
@[simp] theorem c100_19e : Sq c100_19 c100_18 .rt := sqE _ _
def c100_20 : EC := .sq c100_17 c100_19
@[simp] theorem c100_20e : Sq c100_20 c100_17 c100_19 := sqE _ _
def c100_21 : EC := .sq c100_0 c100_20
@[simp] theorem c100_21e : Sq c100_21 c100_0 c100_20 := sqE _ _
def c_api_Link__100 : EC := c100_21
theorem k_100 : ecF Try.prog 100 = some (19, c_api_Link__100, [.tm 4]) := by kernel_rfl

/-- tallystone/chart.climb -/
@[simp] def c101_0l : List EO := [o 4 .mv [c (.snil)]]
def c101_0 : EC := .rg c101_0l false
@[simp] theorem c101_0e : Rg c101_0 c101_0l false := rgE _ _
@[simp] def c101_1l : List EO := [o 5 .mv [c (.snil)]]
def c101_1 : EC := .rg c101_1l false
@[simp] theorem c101_1e : Rg c101_1 c101_1l false := rgE _ _
@[simp] def c101_2l : List EO := [o 9 .mkmap [],
 m 6 9]
def c101_2 : EC := .rg c101_2l false
@[simp] theorem c101_2e : Rg c101_2 c101_2l false := rgE _ _
@[simp] def c101_3l : List EO := [m 11 0,
 m 12 1,
 o 13 (.call 88) [t 11, t 12],
 m 10 13,
 o 14 (.ext 0) [t 10],
 o 15 (.ext 1) [t 10],
 o 7 (.alloc [.t (.int .i64 0), .t (.int .i64 0), .t (.int .i64 0), .t (.int .i64 0)]) [],
 u (.store 4) [t 7, t 14],
 m 8 15]
def c101_3 : EC := .rg c101_3l false
@[simp] theorem c101_3e : Rg c101_3 c101_3l false := rgE _ _
@[simp] def c101_4l : List EO := [m 16 8,
 o 17 (.un .not) [t 16],
 m 18 17,
 n 19 18 .mv [t 6],
 n 20 18 .mv [t 1],
 n 21 18 (.lkp false [1] false false [.t (.bool false)]) [t 19, t 20],
 o 22 .pick [t 18, b true, t 21]]
def c101_4 : EC := .rg c101_4l false
@[simp] theorem c101_4e : Rg c101_4 c101_4l false := rgE _ _
def c101_5 : EC := .cd (t 22) (.ex 0) .skip
@[simp] theorem c101_5e : Cd c101_5 (t 22) (.ex 0) .skip := cdE _ _ _
def c101_6 : EC := .sq c101_4 c101_5
@[simp] theorem c101_6e : Sq c101_6 c101_4 c101_5 := sqE _ _
@[simp] def c101_7l : List EO := [m 23 6,
 m 24 1,
 u (.mup false [1]) [t 23, t 24, b true]]
def c101_7 : EC := .rg c101_7l false
@[simp] theorem c101_7e : Rg c101_7 c101_7l false := rgE _ _
@[simp] def c101_8l : List EO := [m 25 5,
 m 26 1,
 o 27 (.bsl 1) [t 26],
 o 28 (.app 3 1 8) [t 25, t 27],
 m 5 28]
def c101_8 : EC := .rg c101_8l false
@[simp] theorem c101_8e : Rg c101_8 c101_8l false := rgE _ _
@[simp] def c101_9l : List EO := [o 29 (.faddr 3) [t 7],
 o 30 (.load 1 false) [t 29],
 m 1 30]
def c101_9 : EC := .rg c101_9l false
@[simp] theorem c101_9e : Rg c101_9 c101_9l false := rgE _ _
def c101_10 : EC := .sq c101_8 c101_9
@[simp] theorem c101_10e : Sq c101_10 c101_8 c101_9 := sqE _ _
def c101_11 : EC := .sq c101_7 c101_10
@[simp] theorem c101_11e : Sq c101_11 c101_7 c101_10 := sqE _ _
def c101_12 : EC := .sq c101_6 c101_11
@[simp] theorem c101_12e : Sq c101_12 c101_6 c101_11 := sqE _ _
def c101_13 : EC := .sq c101_3 c101_12
@[simp] theorem c101_13e : Sq c101_13 c101_3 c101_12 := sqE _ _
def c101_14 : EC := .bk 1 c101_13
@[simp] theorem c101_14e : Bk c101_14 1 c101_13 := bkE _ _
def c101_15 : EC := .bk 0 (.lp c101_14)
@[simp] theorem c101_15e : Bk c101_15 0 (.lp c101_14) := bkE _ _
@[simp] def c101_16l : List EO := [m 31 5,
 m 4 31]
def c101_16 : EC := .rg c101_16l false
@[simp] theorem c101_16e : Rg c101_16 c101_16l false := rgE _ _
def c101_17 : EC := .sq c101_16 .rt
@[simp] theorem c101_17e : Sq c101_17 c101_16 .rt := sqE _ _
def c101_18 : EC := .sq c101_15 c101_17
@[simp] theorem c101_18e : Sq c101_18 c101_15 c101_17 := sqE _ _
def c101_19 : EC := .sq .skip c101_18
@[simp] theorem c101_19e : Sq c101_19 .skip c101_18 := sqE _ _
def c101_20 : EC := .sq c101_2 c101_19
@[simp] theorem c101_20e : Sq c101_20 c101_2 c101_19 := sqE _ _
def c101_21 : EC := .sq c101_1 c101_20
@[simp] theorem c101_21e : Sq c101_21 c101_1 c101_20 := sqE _ _
def c101_22 : EC := .sq c101_0 c101_21
@[simp] theorem c101_22e : Sq c101_22 c101_0 c101_21 := sqE _ _
def c_chart_climb_101 : EC := c101_22
theorem k_101 : ecF Try.prog 101 = some (32, c_chart_climb_101, [.tm 4]) := by kernel_rfl

/-- tallystone/chart.climb, with slices that grow in boxes -/
@[simp] def b101_0l : List EO := [o 4 .mv [c (.snil)]]
def b101_0 : EC := .rg b101_0l false
@[simp] theorem b101_0e : Rg b101_0 b101_0l false := rgE _ _
@[simp] def b101_1l : List EO := [o 5 .mv [c (.snil)]]
def b101_1 : EC := .rg b101_1l false
@[simp] theorem b101_1e : Rg b101_1 b101_1l false := rgE _ _
@[simp] def b101_2l : List EO := [o 9 .mkmap [],
 m 6 9]
def b101_2 : EC := .rg b101_2l false
@[simp] theorem b101_2e : Rg b101_2 b101_2l false := rgE _ _
@[simp] def b101_3l : List EO := [m 11 0,
 m 12 1,
 o 13 (.call 88) [t 11, t 12],
 m 10 13,
 o 14 (.ext 0) [t 10],
 o 15 (.ext 1) [t 10],
 o 7 (.alloc [.t (.int .i64 0), .t (.int .i64 0), .t (.int .i64 0), .t (.int .i64 0)]) [],
 u (.store 4) [t 7, t 14],
 m 8 15]
def b101_3 : EC := .rg b101_3l false
@[simp] theorem b101_3e : Rg b101_3 b101_3l false := rgE _ _
@[simp] def b101_4l : List EO := [m 16 8,
 o 17 (.un .not) [t 16],
 m 18 17,
 n 19 18 .mv [t 6],
 n 20 18 .mv [t 1],
 n 21 18 (.lkp false [1] false false [.t (.bool false)]) [t 19, t 20],
 o 22 .pick [t 18, b true, t 21]]
def b101_4 : EC := .rg b101_4l false
@[simp] theorem b101_4e : Rg b101_4 b101_4l false := rgE _ _
def b101_5 : EC := .cd (t 22) (.ex 0) .skip
@[simp] theorem b101_5e : Cd b101_5 (t 22) (.ex 0) .skip := cdE _ _ _
def b101_6 : EC := .sq b101_4 b101_5
@[simp] theorem b101_6e : Sq b101_6 b101_4 b101_5 := sqE _ _
@[simp] def b101_7l : List EO := [m 23 6,
 m 24 1,
 u (.mup false [1]) [t 23, t 24, b true]]
def b101_7 : EC := .rg b101_7l false
@[simp] theorem b101_7e : Rg b101_7 b101_7l false := rgE _ _
@[simp] def b101_8l : List EO := [m 25 5,
 m 26 1,
 o 27 (.bsl 1) [t 26],
 o 28 (.appB 3 1 8) [t 25, t 27],
 m 5 28]
def b101_8 : EC := .rg b101_8l false
@[simp] theorem b101_8e : Rg b101_8 b101_8l false := rgE _ _
@[simp] def b101_9l : List EO := [o 29 (.faddr 3) [t 7],
 o 30 (.load 1 false) [t 29],
 m 1 30]
def b101_9 : EC := .rg b101_9l false
@[simp] theorem b101_9e : Rg b101_9 b101_9l false := rgE _ _
def b101_10 : EC := .sq b101_8 b101_9
@[simp] theorem b101_10e : Sq b101_10 b101_8 b101_9 := sqE _ _
def b101_11 : EC := .sq b101_7 b101_10
@[simp] theorem b101_11e : Sq b101_11 b101_7 b101_10 := sqE _ _
def b101_12 : EC := .sq b101_6 b101_11
@[simp] theorem b101_12e : Sq b101_12 b101_6 b101_11 := sqE _ _
def b101_13 : EC := .sq b101_3 b101_12
@[simp] theorem b101_13e : Sq b101_13 b101_3 b101_12 := sqE _ _
def b101_14 : EC := .bk 1 b101_13
@[simp] theorem b101_14e : Bk b101_14 1 b101_13 := bkE _ _
def b101_15 : EC := .bk 0 (.lp b101_14)
@[simp] theorem b101_15e : Bk b101_15 0 (.lp b101_14) := bkE _ _
@[simp] def b101_16l : List EO := [m 31 5,
 m 4 31]
def b101_16 : EC := .rg b101_16l false
@[simp] theorem b101_16e : Rg b101_16 b101_16l false := rgE _ _
def b101_17 : EC := .sq b101_16 .rt
@[simp] theorem b101_17e : Sq b101_17 b101_16 .rt := sqE _ _
def b101_18 : EC := .sq b101_15 b101_17
@[simp] theorem b101_18e : Sq b101_18 b101_15 b101_17 := sqE _ _
def b101_19 : EC := .sq .skip b101_18
@[simp] theorem b101_19e : Sq b101_19 .skip b101_18 := sqE _ _
def b101_20 : EC := .sq b101_2 b101_19
@[simp] theorem b101_20e : Sq b101_20 b101_2 b101_19 := sqE _ _
def b101_21 : EC := .sq b101_1 b101_20
@[simp] theorem b101_21e : Sq b101_21 b101_1 b101_20 := sqE _ _
def b101_22 : EC := .sq b101_0 b101_21
@[simp] theorem b101_22e : Sq b101_22 b101_0 b101_21 := sqE _ _
def b_chart_climb_101 : EC := b101_22
theorem kb_101 : ecB Try.prog 101 = some (32, b_chart_climb_101, [.tm 4]) := by kernel_rfl
end Go.Proofs.Ythfnaaeddlnckaa
